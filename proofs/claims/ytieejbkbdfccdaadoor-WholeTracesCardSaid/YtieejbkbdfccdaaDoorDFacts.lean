/- Facts on the program that the rows ask for; acts that came in, opened; the kinds' table, as the row lists it. -/
import Derived.Test.YtieejbkbdfccdaaDoorRow
import Derived.Test.YtieejbkbdfccdaaDoorTypes
import Derived.Test.YtieejbkbdfccdaaDoorChecked
import Derived.Test.YtieejbkbdfccdaaDoorFloPrims
import Derived.Test.YtieejbkbdfccdaaDoorOpen
import Derived.Test.YtieejbkbdfccdaaDoorRows
import Derived.Test.YtieejbkbdfccdaaDoorR13
import Derived.LaidMore
import Derived.OpenShut
import Derived.FnData
set_option linter.unusedVariables false
set_option linter.unusedSimpArgs false
namespace Go.Proofs.YtieejbkbdfccdaaDoor
open Go Go.ChangeShapes Go.WideShapes Go.ChangeAt Go.RowKit

theorem own : ownKnob Tryd.prog.godebug = none := by kernel_rfl
theorem laidOut : laidOutB P = true := by kernel_rfl
theorem d2 : P.underlying 2 = some (.int .i64) := by kernel_rfl
theorem d3 : P.underlying 3 = some (.int .i64) := by kernel_rfl
theorem d4 : P.underlying 4 = some .bool := by kernel_rfl
theorem d9 : P.underlying 9 = some .string := by kernel_rfl
theorem d22 : P.underlying 22 = some (.float .f64) := by kernel_rfl
theorem d23 : P.underlying 23 = some (.slice 80) := by kernel_rfl
theorem readable27 : P.readableRec 27 = true ∧ 27 < P.types.size := ⟨by kernel_rfl, of_decide_eq_true (by kernel_rfl)⟩
theorem fields80 : fieldsB P 80 [(22, 0), (9, 1)] = true := by kernel_rfl
theorem fields25 : fieldsB P 25 [(3, 0), (2, 1), (2, 2), (2, 3), (22, 4), (3, 5), (9, 6), (23, 7)] = true := by kernel_rfl
theorem fields27 : fieldsB P 27 [(3, 0), (9, 1), (2, 2), (22, 3), (9, 4), (25, 5), (4, 13)] = true := by kernel_rfl
theorem fields97 : fieldsB P 97 [(9, 0), (3, 1), (9, 2)] = true := by kernel_rfl
theorem wf_f64 {a : Nat} (hw : (Lit.float .f64 a).wf = true) : a < 2 * H63 := by
  simpa [Lit.wf, FloatKind.format, Ieee.Format.width, Ieee.double, H63] using hw
theorem len2 {cs : List Value} (h : cs.length = 2) : ∃ a b, cs = [a, b] := by
  match cs, h with | [a, b], _ => exact ⟨a, b, rfl⟩
theorem len3 {cs : List Value} (h : cs.length = 3) : ∃ a b c, cs = [a, b, c] := by
  match cs, h with | [a, b, c], _ => exact ⟨a, b, c, rfl⟩
theorem len8 {cs : List Value} (h : cs.length = 8) : ∃ a b c d e f g i, cs = [a, b, c, d, e, f, g, i] := by
  match cs, h with | [a, b, c, d, e, f, g, i], _ => exact ⟨a, b, c, d, e, f, g, i, rfl⟩
theorem len14 {cs : List Value} (h : cs.length = 14) : ∃ a b c d e a1 a2 a3 a4 a5 a6 a7 a8 f, cs = [a, b, c, d, e, a1, a2, a3, a4, a5, a6, a7, a8, f] := by
  match cs, h with | [a, b, c, d, e, a1, a2, a3, a4, a5, a6, a7, a8, f], _ => exact ⟨a, b, c, d, e, a1, a2, a3, a4, a5, a6, a7, a8, f, rfl⟩

section
variable {H : Type} {enc : TypeId × Value → H} {W : World}
theorem open_item80 {fuel : Nat} {cs : List Value} {x : DataW H × List MemPlace} (h : DataW.trod enc P W 0 (fun _ => true) true fuel 80 cs = some x) : ∃ q : ItemP, cs = itemV q ∧ okI q := by
  obtain ⟨hl, hf⟩ := open_fields fields80 h
  rw [cellsOf80] at hl
  obtain ⟨c0, c1, rfl⟩ := len2 hl
  obtain ⟨n0, y0, h0⟩ := hf (22, 0) (by simp)
  obtain ⟨n1, y1, h1⟩ := hf (9, 1) (by simp)
  simp only [cellsOf22, cellsOf9, List.drop_zero, List.drop_succ_cons, List.take_succ_cons, List.take_zero] at h0 h1
  obtain ⟨a, rfl, ha⟩ := open_float1 d22 h0
  obtain ⟨s, rfl, _⟩ := open_str1 d9 h1
  exact ⟨⟨a, s⟩, rfl, wf_f64 ha⟩
theorem open_rec25 {fuel : Nat} {cs : List Value} {x : DataW H × List MemPlace} (h : DataW.trod enc P W 0 (fun _ => true) true fuel 25 cs = some x) :
    ∃ (r : RecP) (a : Option Addr) (c : Nat), cs = rcV r (.slice a r.list.length c) ∧ IsRec W (.slice a r.list.length c) r := by
  obtain ⟨hl, hf⟩ := open_fields fields25 h
  rw [cellsOf25] at hl
  obtain ⟨c0, c1, c2, c3, c4, c5, c6, c7, rfl⟩ := len8 hl
  obtain ⟨n0, y0, h0⟩ := hf (3, 0) (by simp)
  obtain ⟨n1, y1, h1⟩ := hf (2, 1) (by simp)
  obtain ⟨n2, y2, h2⟩ := hf (2, 2) (by simp)
  obtain ⟨n3, y3, h3⟩ := hf (2, 3) (by simp)
  obtain ⟨n4, y4, h4⟩ := hf (22, 4) (by simp)
  obtain ⟨n5, y5, h5⟩ := hf (3, 5) (by simp)
  obtain ⟨n6, y6, h6⟩ := hf (9, 6) (by simp)
  obtain ⟨n7, y7, h7⟩ := hf (23, 7) (by simp)
  simp only [cellsOf2, cellsOf3, cellsOf22, cellsOf9, cellsOf23, List.drop_zero, List.drop_succ_cons, List.take_succ_cons, List.take_zero] at h0 h1 h2 h3 h4 h5 h6 h7
  obtain ⟨k, rfl, hk⟩ := open_int1 d3 h0
  obtain ⟨z1, rfl, hz1⟩ := open_int1 d2 h1
  obtain ⟨z2, rfl, hz2⟩ := open_int1 d2 h2
  obtain ⟨z3, rfl, hz3⟩ := open_int1 d2 h3
  obtain ⟨a, rfl, ha⟩ := open_float1 d22 h4
  obtain ⟨z5, rfl, hz5⟩ := open_int1 d3 h5
  obtain ⟨s, rfl, _⟩ := open_str1 d9 h6
  have hct : ∃ a len cap, c7 = .slice a len cap := by
    rcases Deep.open_slice d23 h7 with ⟨h0, _⟩ | ⟨ad, len', cap', m, n', D, Pl, hcs, _⟩
    · simp only [List.cons.injEq, and_true] at h0; exact ⟨_, _, _, h0⟩
    · simp only [List.cons.injEq, and_true] at hcs; exact ⟨_, _, _, hcs⟩
  have h7' : DataW.trod enc P W 0 (fun _ => true) true n7 23 c7.cells.toList = some y7 := by obtain ⟨a, l, c, rfl⟩ := hct; exact h7
  obtain ⟨L, hL, hok⟩ := open_rows (fc := itemV) (Ok := okI) (W := W) ⟨0, []⟩ d23 cellsOf80 (by omega) (fun _ => rfl) hct (fun h => open_item80 h) h7'
  obtain ⟨la, c, rfl⟩ := sl_of hL
  exact ⟨⟨k, z1, z2, z3, a, z5, s, L⟩, la, c, rfl, hL, wf_i64 hk, wf_i64 hz1, wf_i64 hz2, wf_i64 hz3, wf_f64 ha, wf_i64 hz5, hok⟩
theorem open_act1 {fuel : Nat} {cs : List Value} {x : DataW H × List MemPlace} (h : DataW.trod enc P W 0 (fun _ => true) true fuel 27 cs = some x) :
    ∃ (a : ActP) (la : Option Addr) (c : Nat), cs = acV a (.slice la a.make.list.length c) ∧ IsAct W (.slice la a.make.list.length c) a := by
  obtain ⟨hl, hf⟩ := open_fields fields27 h
  rw [cellsOf27] at hl
  obtain ⟨c0, c1, c2, c3, c4, e0, e1, e2, e3, e4, e5, e6, e7, c5, rfl⟩ := len14 hl
  obtain ⟨n0, y0, h0⟩ := hf (3, 0) (by simp)
  obtain ⟨n1, y1, h1⟩ := hf (9, 1) (by simp)
  obtain ⟨n2, y2, h2⟩ := hf (2, 2) (by simp)
  obtain ⟨n3, y3, h3⟩ := hf (22, 3) (by simp)
  obtain ⟨n4, y4, h4⟩ := hf (9, 4) (by simp)
  obtain ⟨n5, y5, h5⟩ := hf (25, 5) (by simp)
  obtain ⟨n6, y6, h6⟩ := hf (4, 13) (by simp)
  simp only [cellsOf2, cellsOf3, cellsOf22, cellsOf9, cellsOf25, cellsOf4, List.drop_zero, List.drop_succ_cons, List.take_succ_cons, List.take_zero] at h0 h1 h2 h3 h4 h5 h6
  obtain ⟨k, rfl, hk⟩ := open_int1 d3 h0
  obtain ⟨y, rfl, _⟩ := open_str1 d9 h1
  obtain ⟨z, rfl, hz⟩ := open_int1 d2 h2
  obtain ⟨a, rfl, ha⟩ := open_float1 d22 h3
  obtain ⟨s, rfl, _⟩ := open_str1 d9 h4
  obtain ⟨r, la, c, hr, hrec⟩ := open_rec25 h5
  obtain ⟨b, rfl⟩ := open_bool1 d4 h6
  refine ⟨⟨k, y, z, a, s, r, b⟩, la, c, ?_, hrec, wf_i64 hk, wf_i64 hz, wf_f64 ha⟩
  show _ = [i64 k, strB y, i64 z, fl a, strB s] ++ rcV r (.slice la r.list.length c) ++ [.bool b]
  rw [← hr]; rfl
set_option maxRecDepth 100000 in
theorem open_act27 {r : Reach} {b0 : Nat} {v : Value} {d : DataW H} {p : List MemPlace} (hval : Value.okWide P W r b0 27 v) (h : DataW.Trod enc P W 0 (fun _ => true) true 27 v d p) :
    ∃ (a : ActP) (la : Option Addr) (c : Nat), v = .agg (acV a (.slice la a.make.list.length c)).toArray ∧ IsAct W (.slice la a.make.list.length c) a := by
  obtain ⟨fs, hu, _⟩ := fieldsB_und fields27
  obtain ⟨cs, rfl, _⟩ := okWide_struct hu hval
  obtain ⟨fuel, hf⟩ := h
  obtain ⟨a, la, c, hq, hr⟩ := open_act1 (show DataW.trod enc P W 0 (fun _ => true) true fuel 27 cs.toList = _ from hf)
  refine ⟨a, la, c, ?_, hr⟩
  rw [← hq]
end

/-! ### The kinds' table -/
theorem str_lit {W : World} {m : Nat} {c : Value} {y : DataW Unit × List MemPlace} {s : List UInt8} (h : DataW.trod (fun _ => ()) P W 0 (fun _ => true) false m 9 [c] = some y) (hy : y.1 = .lit (.string s)) : c = strB s := by
  cases m with
  | zero => simp [DataW.trod] at h
  | succ m =>
    unfold DataW.trod at h
    rw [d9] at h
    cases c <;> simp only [reduceCtorEq] at h
    rename_i b
    by_cases hs : b.size ≤ maxLen
    · rw [if_pos hs] at h
      cases h
      simp only [DataW.lit.injEq, Lit.string.injEq] at hy
      subst hy; rfl
    · rw [if_neg hs] at h; cases h
theorem int_lit {W : World} {m : Nat} {c : Value} {y : DataW Unit × List MemPlace} {n : Int} (h : DataW.trod (fun _ => ()) P W 0 (fun _ => true) false m 3 [c] = some y) (hy : y.1 = .lit (.int .i64 n)) : c = i64 n := by
  obtain ⟨z, e1, e2, _⟩ := DataW.trod_int d3 h
  rw [e2] at hy
  simp only [List.cons.injEq, and_true] at e1
  rw [e1]
  simp only [DataW.lit.injEq, Lit.int.injEq, true_and] at hy
  rw [hy]
def kdat (t : KindT) : DataW Unit := .agg [.lit (.string t.1), .lit (.int .i64 t.2.1), .lit (.string t.2.2)]
theorem laid_is : (Rows.laid_moiety_act_kinds : DataW Unit) = .agg (kindT.map kdat) := by kernel_rfl
theorem open_kind {W : World} {m : Nat} {cs : List Value} {y : DataW Unit × List MemPlace} {t : KindT} (h : DataW.trod (fun _ => ()) P W 0 (fun _ => true) false m 97 cs = some y) (hy : y.1 = kdat t) : cs = kindV t := by
  obtain ⟨fs, hu, hfs⟩ := fieldsB_und fields97
  obtain ⟨xs, n, _, rfl, hl, hlen, hf⟩ := DataW.trod_struct hu h
  obtain ⟨f0, f1, f2, hfl⟩ : ∃ f0 f1 f2, fs.toList = [f0, f1, f2] := by
    have h3 : fs.toList.length = 3 := by have := congrArg List.length hfs; simpa using this
    match fs.toList, h3 with | [a, b, c], _ => exact ⟨a, b, c, rfl⟩
  rw [hfl] at hfs
  simp only [List.map_cons, List.map_nil, List.cons.injEq, Prod.mk.injEq, and_true] at hfs
  obtain ⟨⟨t0, o0⟩, ⟨t1, o1⟩, ⟨t2, o2⟩⟩ := hfs
  have hx3 : xs.length = 3 := by rw [hlen]; have := congrArg List.length hfl; simpa using this
  match xs, hx3 with
  | [y0, y1, y2], _ =>
    have g0 := hf 0 f0 (by rw [← Array.getElem?_toList, hfl]; rfl)
    have g1 := hf 1 f1 (by rw [← Array.getElem?_toList, hfl]; rfl)
    have g2 := hf 2 f2 (by rw [← Array.getElem?_toList, hfl]; rfl)
    rw [cellsOf97] at hl
    obtain ⟨c0, c1, c2, rfl⟩ := len3 hl
    rw [t0, o0, cellsOf9] at g0
    rw [t1, o1, cellsOf3] at g1
    rw [t2, o2, cellsOf9] at g2
    simp only [List.drop_zero, List.drop_succ_cons, List.take_succ_cons, List.take_zero] at g0 g1 g2
    simp only [kdat, List.map_cons, List.map_nil, DataW.agg.injEq, List.cons.injEq, and_true] at hy
    rw [str_lit g0 hy.1, int_lit g1 hy.2.1, str_lit g2 hy.2.2]
    rfl
set_option maxRecDepth 100000 in
theorem kw_of_laid {W : World} (h : laidMetH Tryd.prog [("moiety/act.kinds", Rows.laid_moiety_act_kinds)] W) : KW W := by
  rw [MakeChecks.laidMetH_plain _ _ _ (by kernel_rfl)] at h
  obtain ⟨ps, ⟨g, t, cs, fuel, p, q, hg, ht, hv, hd, _, _⟩, _, _⟩ := h
  obtain rfl := Option.some.inj ((show Tryd.prog.globalNamed "moiety/act.kinds" = some 1 by kernel_rfl).symm.trans hg)
  obtain rfl := Option.some.inj ((show (Tryd.prog.globals[1]?).map (·.type) = some 129 by kernel_rfl).symm.trans ht)
  have d129 : P.underlying 129 = some (.array 22 97) := by kernel_rfl
  obtain ⟨xs, m, _, ex, hl, hlen, hel⟩ := DataW.trod_array d129 hd
  rw [laid_is] at ex
  have hx : xs.map (·.1) = kindT.map kdat := (DataW.agg.inj (Prod.mk.inj ex).1).symm
  have hk : kindT.length = 22 := rfl
  rw [cellsOf129] at hl
  have hm : ∀ i, (mm W 1)[i]? = cs.toList[i]? := fun i => by
    rw [← cell_mm, World.var?_cell hg hv i, Array.getElem?_toList]
  have hmm : mm W 1 = cs.toList := List.ext_getElem? hm
  have hcs : cs.toList = flat kindV kindT := by
    have hr := rows_flat (f := kindV) (n := 3) (m := cs.toList) (o := 0) (L := kindT) (fun x _ => rfl) (fun i x hx' r hr => by
      have hi : i < 22 := by have := (List.getElem?_eq_some_iff.1 hx').1; omega
      have he := hel i hi
      rw [List.getElem?_eq_getElem (by omega), cellsOf97] at he
      have hxi : (xs.map (·.1))[i]? = (kindT.map kdat)[i]? := by rw [hx]
      rw [List.getElem?_map, List.getElem?_map, hx', List.getElem?_eq_getElem (by omega : i < xs.length)] at hxi
      have hkk := open_kind he (by simpa using hxi)
      have : (((cs.toList.drop (i * 3)).take 3))[r]? = (kindV x)[r]? := by rw [hkk]
      rw [List.getElem?_take, if_pos hr, List.getElem?_drop] at this
      rw [← this]; congr 1; omega)
    have hl2 : (flat kindV kindT).length = 66 := by kernel_rfl
    simp only [List.drop_zero] at hr
    rw [← hr]
    exact (List.take_of_length_le (by rw [hl]; first | omega | (rw [flat_length (n := 3) (fun x _ => rfl), hk]; omega))).symm
  refine ⟨by rw [hmm, hcs], ?_⟩
  have : 0 < (mm W 1).length := by rw [hmm, hl]; omega
  exact lt_of_mm this
end Go.Proofs.YtieejbkbdfccdaaDoor
