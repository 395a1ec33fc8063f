/- Clones of lists and records; a kind of acts' kind of records. -/
import Derived.Test.YtieejbkbdfccdaaDoorSim
import Derived.Test.YtieejbkbdfccdaaDoorSA
import Derived.Test.YtieejbkbdfccdaaDoorTypes2
import Derived.Test.YtieejbkbdfccdaaDoorWRule
import Derived.Laws.Cover3
import Derived.Test.YtieejbkbdfccdaaDoorPrims3
import Derived.Test.YtieejbkbdfccdaaDoorBase
import Derived.Test.YtieejbkbdfccdaaDoorWShare
import Derived.Test.YtieejbkbdfccdaaDoorR15
set_option linter.unusedVariables false
set_option linter.unusedSimpArgs false
namespace Go.Proofs.YtieejbkbdfccdaaDoor
open Go

theorem eq_slice23 {w : World} {a : Option Addr} {n c : Nat} : pBin P .eql 23 true (.slice a n c) (.slice none 0 0) w = some (.bool a.isNone, w) := by
  have hu := sliceE_und sliceE23
  have hg : ∀ x, eqGuard .eql 23 x (.tmp 0) (.slice a n c) (.slice none 0 0) = pure () := fun x => rfl
  have h := run_equal_slice_nil (P := P) w 23 80 a n c hu
  simp only [pBin, runV, hg, Sem.run_bind, Sem.run_pure, Result.andThen_ok]
  simp [binOp, h]
theorem clone_spec {w : World} {a : Option Addr} {c : Nat} {L : List ItemP} (hr : RdV w (.slice a L.length c) L.length (flat itemV L)) (hL : L.length ≤ 1000000) :
    Ret P 71 #[.slice a L.length c] w fun v w' => ∃ a' c', v = .slice a' L.length c' ∧ RdV w' (.slice a' L.length c') L.length (flat itemV L) ∧ (∀ k, (Value.slice a' L.length c').ownBlock = some k → sz w ≤ k) ∧ Fr [] w w' := by
  refine F71ok ?_
  unfold F71
  cases a with
  | none =>
    have h0 : L = [] := by
      rcases hr with ⟨_, _, _, h0, _⟩ | ⟨_, _, _, hv, _⟩
      · exact List.eq_nil_of_length_eq_zero h0
      · simp at hv
    subst h0
    try simp (maxDischargeDepth := 8) [↓sC, sB, sM, eq_slice23]
    exact ⟨none, 0, ⟨rfl, rfl⟩, .inl ⟨none, 0, rfl, rfl, rfl⟩, by simp [Value.ownBlock]⟩
  | some ad =>
    have f0 : Fr [] w (nw w [] 80) := (Fr.refl [] w).nw _ _
    obtain ⟨v', w1, hrun, hown, hg, _⟩ := append_own2 (P := P) (t := 23) (ty := 23) (sz w) sliceE23 hasZero80 cellsOf80 (by rw [zeroL80]; rfl) (by omega) (own_made (Nat.le_refl _)) (by rw [sz_nw]; omega) (hr.fr0 f0) (by rw [flat_len (itemV_len L)])
      (by intro u hu; obtain ⟨l, hl, hu⟩ := List.mem_flatten.1 hu; obtain ⟨x, _, rfl⟩ := List.mem_map.1 hl; exact itemV_one x u hu) (by unfold maxLen; omega) (by rw [bytesOf80]; omega)
    simp only [Nat.zero_add, List.nil_append] at hown
    have hf : Fr [] w w1 := f0.trans (Fr.of_grown hg) (fun b hb => .inr (by simp [Value.ownBlock] at hb; omega))
    obtain ⟨a', c', rfl⟩ := own_val hown
    try simp (maxDischargeDepth := 8) [↓sC, sB, sM, eq_slice23, hrun]
    exact ⟨a', c', ⟨rfl, rfl⟩, own_rd hown, fun k hk => (hown.lt k hk).1, hf⟩
theorem recClone_spec {w : World} {r : RecP} {a : Option Addr} {c : Nat} (hr : IsRec w (.slice a r.list.length c) r) (hL : r.list.length ≤ 1000000) :
    Ret P 36 #[.agg (rcV r (.slice a r.list.length c)).toArray] w fun v w' => ∃ a' c', v = .agg (rcV r (.slice a' r.list.length c')).toArray ∧ IsRec w' (.slice a' r.list.length c') r ∧ Fr [] w w' := by
  refine F36ok ?_
  unfold F36
  obtain ⟨W, hW⟩ : ∃ W, W = nw (nw w (rcV r (.slice a r.list.length c)) 25) (rcV rz (.slice none 0 0)) 25 := ⟨_, rfl⟩
  have fW : Fr [] w W := by rw [hW]; exact ((Fr.refl [] w).nw _ _).nw _ _
  have hs : sz W = sz w + 2 := by rw [hW]; simp [sz_nw]
  have m1 : mm W (sz w) = rcV r (.slice a r.list.length c) := by rw [hW]; simp [mm_nw, sz_nw]
  have m2 : mm W (sz w + 1) = rcV rz (.slice none 0 0) := by rw [hW]; simp [mm_nw, sz_nw]
  have z1 : fz W (sz w) = false := by rw [hW]; simp [fz_nw, sz_nw]
  have z2 : fz W (sz w + 1) = false := by rw [hW]; simp [fz_nw, sz_nw]
  have hz : [Value.int IntKind.i64 0, Value.int IntKind.i64 0, Value.int IntKind.i64 0, Value.int IntKind.i64 0, Value.float FloatKind.f64 0, Value.int IntKind.i64 0, Value.string ByteArray.empty, Value.slice none 0 0] = rcV rz (.slice none 0 0) := rfl
  try simp (maxDischargeDepth := 8) [↓sC, sB, sM, rcC, hz, ← hW, m1]
  refine (clone_spec (hr.fr0 fW).1 hL).call ?_
  rintro _ w1 ⟨a', c', rfl, hr1, hk1, f1⟩
  have n1 : mm w1 (sz w) = rcV r (.slice a r.list.length c) := by rw [f1.mm (by omega) (by simp), m1]
  have n2 : mm w1 (sz w + 1) = rcV rz (.slice none 0 0) := by rw [f1.mm (by omega) (by simp), m2]
  have y1 : fz w1 (sz w) = false := by rw [f1.fz (by omega) (by simp), z1]
  have y2 : fz w1 (sz w + 1) = false := by rw [f1.fz (by omega) (by simp), z2]
  have hset : ∀ v, (rcV r (.slice a r.list.length c)).set 7 v = rcV r v := fun _ => rfl
  have t8 : ∀ r lv, (rcV r lv).take 8 = rcV r lv := fun _ _ => rfl
  have hs8 : ∀ l : List Value, l.length = 8 → splice l 0 (rcV r (.slice a' r.list.length c')) = rcV r (.slice a' r.list.length c') := fun l hl => splice_full (by rw [hl]; rfl)
  have e1 : ¬ sz w = sz w + 1 := by omega
  have e2 : ¬ sz w + 1 = sz w := by omega
  obtain ⟨W2, hW2⟩ : ∃ W2, W2 = wr w1 (sz w) (rcV r (.slice a' r.list.length c')) := ⟨_, rfl⟩
  have q1 : mm W2 (sz w) = rcV r (.slice a' r.list.length c') := by rw [hW2]; exact mm_wr_same y1 _
  have q2 : mm W2 (sz w + 1) = rcV rz (.slice none 0 0) := by rw [hW2, mm_wr_ne e2, n2]
  have q3 : fz W2 (sz w + 1) = false := by rw [hW2, fz_wr, y2]
  obtain ⟨W3, hW3⟩ : ∃ W3, W3 = wr W2 (sz w + 1) (rcV r (.slice a' r.list.length c')) := ⟨_, rfl⟩
  have p2 : mm W3 (sz w + 1) = rcV r (.slice a' r.list.length c') := by rw [hW3]; exact mm_wr_same q3 _
  have hf : Fr [] w W3 := by
    rw [hW3, hW2]
    exact ((fW.trans0 f1).wr (.inr (Nat.le_refl _)) _).wr (.inr (by omega)) _
  have hsp : splice (rcV rz (.slice none 0 0)) 0 (rcV r (.slice a' r.list.length c')) = rcV r (.slice a' r.list.length c') := splice_full rfl
  have hr3 : RdV W3 (.slice a' r.list.length c') r.list.length (flat itemV r.list) := by
    have hS : Fr [sz w, sz w + 1] w1 W3 := by
      rw [hW3, hW2]
      exact ((Fr.refl _ w1).wr (.inl (by simp)) _).wr (.inl (by simp)) _
    exact hr1.fr hS (fun k hk hm => by have := hk1 k hk; simp at hm; omega)
  try simp (maxDischargeDepth := 8) [↓sC, sB, sM, n1, y1, hset, ← hW2, q1, q2, q3, t8, hsp, rcV_oneT, ← hW3, p2]
  exact ⟨a', c', rfl, ⟨hr3, hr.2⟩, hf⟩
theorem actOn_spec {w : World} {k : Int} (hw : KW w) : Ret P 38 #[i64 k] w fun v w' => v = i64 (kindF k).2.1 ∧ Fr [] w w' := by
  refine F38ok ?_
  unfold F38
  refine (of_spec hw).call ?_
  rintro _ w1 ⟨rfl, f1⟩
  try simp (maxDischargeDepth := 8) [↓sC, sB, sM]
  exact f1
end Go.Proofs.YtieejbkbdfccdaaDoor

set_option linter.unusedVariables false
namespace Go.Proofs.YtieejbkbdfccdaaDoor
open Go

section
variable {w : World} {b i o n c : Nat} {k : IntKind} {x j : Int} {v : Value} {a : Array Value} {lo hi : Option Value}

@[simp] theorem tyOk123 : tyOk P 123 = true := by kernel_rfl
@[simp] theorem isAggB123 : isAggB P 123 = true := by kernel_rfl
@[simp] theorem cellsOf123 : P.cellsOf 123 = 22 := by kernel_rfl
@[simp] theorem bytesOf123 : P.bytesOf 123 = 176 := by kernel_rfl
@[simp] theorem hasZero123 : hasZero P 123 = true := by kernel_rfl
@[simp] theorem zeroL123 : zeroL P 123 = List.replicate 22 Value.nilFunc := by kernel_rfl
@[simp] theorem arrE123 : arrE P 123 = some (22, 122) := by kernel_rfl
@[simp] theorem und123 : P.underlying 123 = some (.array 22 122) := by kernel_rfl
@[simp] theorem eqg123 : P.eqGuardType P.depth 123 = false := by kernel_rfl
@[simp] theorem al123 : pAlloc P 123 w = some (pt (sz w) 0, nw w (List.replicate 22 Value.nilFunc) 123) := by rw [pAlloc_eq hasZero123, zeroL123]
@[simp] theorem ld123 (h : i + 22 ≤ (mm w b).length) : pLoad P 123 (pt b i) w = some (.agg (((mm w b).drop i).take 22).toArray, w) := by
  have := pLoad_agg (w := w) (b := b) (i := i) tyOk123 isAggB123 (by rw [cellsOf123]; exact h); rwa [cellsOf123] at this
@[simp] theorem st123 (hs : a.size = 22) (hv : ∀ v ∈ a.toList, v.oneCell' = true) (hf : fz w b = false) (hi : i + 22 ≤ (mm w b).length) : pStore P 123 (pt b i) (.agg a) w = some (wr w b (splice (mm w b) i a.toList)) :=
  pStore_agg tyOk123 (by rw [cellsOf123, hs]) hv hf (by rw [hs]; exact hi)
end
end Go.Proofs.YtieejbkbdfccdaaDoor

set_option linter.unusedVariables false
set_option linter.unusedSimpArgs false
namespace Go.Proofs.YtieejbkbdfccdaaDoor
open Go

theorem pFunc_eq {fn : Fn} {first cap : List Value} {w : World} : pFunc P fn first cap w = some (.func fn first.toArray cap.toArray, w) := by
  simp [pFunc, runV, Instr.makeFunc]
theorem real_spec {w : World} {v : Value} (hv : v.cells.toList = [v]) : Ret P 88 #[v] w fun x w' => x = .func (.func 98) #[] #[pt (sz w) 0] ∧ mm w' (sz w) = [v] ∧ Fr [] w w' := by
  refine F88ok ?_
  unfold F88
  try simp (maxDischargeDepth := 8) [↓sC, sB, sM, hv, pFunc_eq]
theorem hz122 : (zeroL P 123).length = 22 := by rw [zeroL123]; rfl
theorem tyOk122 : tyOk P 122 = true := by kernel_rfl
theorem cellsOf122 : P.cellsOf 122 = 1 := by kernel_rfl
theorem isAggB122 : isAggB P 122 = false := by kernel_rfl
theorem changes_spec {w : World} : Ret P 73 #[] w fun v w' => ∃ cs : List Value, v = .agg cs.toArray ∧ cs.length = 22 ∧ gt cs 7 = .func (.func 83) #[] #[] ∧ Fr [] w w' := by
  refine F73ok ?_
  unfold F73
  obtain ⟨W, hW⟩ : ∃ W, W = nw w [Value.nilFunc, Value.nilFunc, Value.nilFunc, Value.nilFunc, Value.nilFunc, Value.nilFunc, Value.nilFunc, Value.nilFunc, Value.nilFunc, Value.nilFunc, Value.nilFunc, Value.nilFunc, Value.nilFunc, Value.nilFunc, Value.nilFunc, Value.nilFunc, Value.nilFunc, Value.nilFunc, Value.nilFunc, Value.nilFunc, Value.nilFunc, Value.nilFunc] 123 := ⟨_, rfl⟩
  have fW : Fr [] w W := by rw [hW]; exact (Fr.refl [] w).nw _ _
  have hsW : sz W = sz w + 1 := by rw [hW, sz_nw]
  have hm : (mm W (sz w)).length = 22 := by rw [hW]; simp [mm_nw]
  have hz : fz W (sz w) = false := by rw [hW]; simp [fz_nw]
  try simp (maxDischargeDepth := 8) [↓sC, sB, sM, ← hW]
  refine (real_spec rfl).call ?_
  rintro _ w1 ⟨rfl, _, f1⟩
  refine (real_spec rfl).call ?_
  rintro _ w2 ⟨rfl, _, f2⟩
  refine (real_spec rfl).call ?_
  rintro _ w3 ⟨rfl, _, f3⟩
  refine (real_spec rfl).call ?_
  rintro _ w4 ⟨rfl, _, f4⟩
  refine (real_spec rfl).call ?_
  rintro _ w5 ⟨rfl, _, f5⟩
  have f15 := (((f1.trans0 f2).trans0 f3).trans0 f4).trans0 f5
  have hm5 : (mm w5 (sz w)).length = 22 := by rw [f15.mm (by omega) (by simp), hm]
  have hz5 : fz w5 (sz w) = false := by rw [f15.fz (by omega) (by simp), hz]
  generalize sz W = s1
  generalize sz w1 = s2
  generalize sz w2 = s3
  generalize sz w3 = s4
  generalize sz w4 = s5
  rw [pBuild_arr hasZero123 arrE123 tyOk122 cellsOf122 hz122 (by intro p hp; simp only [List.mem_cons, List.not_mem_nil, or_false] at hp; rcases hp with rfl | rfl | rfl | rfl | rfl | rfl | rfl | rfl | rfl | rfl | rfl | rfl | rfl | rfl | rfl | rfl | rfl <;> exact ⟨by simp, by rfl⟩)]
  rw [zeroL123]
  obtain ⟨cs, hcs⟩ : ∃ cs : List Value, cs = List.foldl (fun l p => l.set p.1 p.2) (List.replicate 22 Value.nilFunc) [(5, Value.func (.func 81) #[] #[]), (6, Value.func (.func 82) #[] #[]), (7, Value.func (.func 83) #[] #[]), (8, Value.func (.func 84) #[] #[]), (9, Value.func (.func 85) #[] #[]), (12, Value.func (.func 85) #[] #[]), (10, Value.func (.func 86) #[] #[]), (11, Value.func (.func 87) #[] #[]), (13, Value.func (.func 98) #[] #[pt s1 0]), (14, Value.func (.func 98) #[] #[pt s2 0]), (15, Value.func (.func 98) #[] #[pt s3 0]), (16, Value.func (.func 98) #[] #[pt s4 0]), (17, Value.func (.func 98) #[] #[pt s5 0]), (18, Value.func (.func 92) #[] #[]), (19, Value.func (.func 93) #[] #[]), (20, Value.func (.func 96) #[] #[]), (21, Value.func (.func 97) #[] #[])] := ⟨_, rfl⟩
  have hl : cs.length = 22 := by rw [hcs]; rfl
  have h7 : gt cs 7 = .func (.func 83) #[] #[] := by rw [hcs]; rfl
  have h1 : (∀ v, v ∈ cs → v.oneCell' = true) = True := by
    simp only [eq_iff_iff, iff_true]
    intro v hv
    rw [hcs] at hv
    simp only [List.foldl_cons, List.foldl_nil, List.replicate, List.set_cons_succ, List.set_cons_zero, List.mem_cons, List.not_mem_nil, or_false] at hv
    rcases hv with rfl | rfl | rfl | rfl | rfl | rfl | rfl | rfl | rfl | rfl | rfl | rfl | rfl | rfl | rfl | rfl | rfl | rfl | rfl | rfl | rfl | rfl <;> rfl
  rw [← hcs]
  have hsp : splice (mm w5 (sz w)) 0 cs = cs := splice_full (by rw [hm5, hl])
  have t22 : cs.take 22 = cs := List.take_of_length_le (by omega)
  try simp (maxDischargeDepth := 8) [↓sC, sB, sM, hl, h1, hm5, hz5, hsp, t22]
  exact ⟨h7, (fW.trans0 f15).wr (.inr (Nat.le_refl _)) _⟩
def addN (r : RecP) (n : Int) : RecP := { r with num := IntKind.i64.wrap (r.num + n) }
theorem add_spec {w : World} {p : Nat} {o : Value} {r : RecP} {lv : Value} {a : ActP} {la : Value} (hm : mm w p = rcV r lv) (hz : fz w p = false) :
    Ret P 83 #[pt p 0, .agg (acV a la).toArray, o] w fun v w' => v = i64 0 ∧ mm w' p = rcV (addN r a.n) lv ∧ fz w' p = false ∧ Fr [p] w w' := by
  refine F83ok ?_
  unfold F83
  have hp := lt_of_fz hz
  obtain ⟨W, hW⟩ : ∃ W, W = nw w (acV a la) 27 := ⟨_, rfl⟩
  have fW : Fr [] w W := by rw [hW]; exact (Fr.refl [] w).nw _ _
  have hma : mm W (sz w) = acV a la := by rw [hW]; simp [mm_nw]
  have hmp : mm W p = rcV r lv := by rw [fW.mm hp (by simp), hm]
  have hzp : fz W p = false := by rw [fW.fz hp (by simp), hz]
  have hset : ∀ n, (rcV r lv).set 1 (i64 (IntKind.i64.wrap (r.num + n))) = rcV (addN r n) lv := fun _ => rfl
  try simp (maxDischargeDepth := 8) [↓sC, sB, sM, acC, ← hW, hma, hmp, hzp, hset]
  exact ((fW.mono (by simp)).drew).wr (.inl (by simp)) _
end Go.Proofs.YtieejbkbdfccdaaDoor

set_option linter.unusedVariables false
set_option linter.unusedSimpArgs false
namespace Go.Proofs.YtieejbkbdfccdaaDoor
open Go

def anZ : List Value := [i64 0, i64 0] ++ rcV rz (.slice none 0 0)
theorem anZ_len : anZ.length = 10 := rfl
theorem anZ_one : (∀ v, v ∈ anZ → v.oneCell' = true) = True := by
  simp only [eq_iff_iff, iff_true, anZ]
  intro v hv
  rcases List.mem_append.1 hv with hv | hv
  · simp only [List.mem_cons, List.not_mem_nil, or_false] at hv
    rcases hv with rfl | rfl <;> rfl
  · exact rcV_one (a := none) (n := 0) (c := 0) v hv
structure ApS (w0 : World) (s0 : Nat) (r : RecP) (lv : Value) (a : ActP) (la : Value) (w : World) : Prop where
  p : mm w s0 = rcV r lv
  pz : fz w s0 = false
  q : mm w (s0 + 1) = [.bool true]
  s : mm w (s0 + 1 + 1) = acV a la
  rr : mm w (s0 + 1 + 1 + 1) = rcV rz (.slice none 0 0)
  rz' : fz w (s0 + 1 + 1 + 1) = false
  ra : mm w (s0 + 1 + 1 + 1 + 1) = anZ
  raz : fz w (s0 + 1 + 1 + 1 + 1) = false
  sz5 : s0 + 5 ≤ sz w
  fr : Fr [] w0 w
theorem isRec_nil {w : World} {r : RecP} {l : Option Addr} {c : Nat} (h : r.list = []) (ho : okR r) : IsRec w (.slice l r.list.length c) r := ⟨.inl ⟨l, c, by rw [h]; rfl, by rw [h]; rfl, by rw [h]; rfl⟩, ho⟩
theorem ApS.fr0 {w0 : World} {s0 : Nat} {r : RecP} {lv : Value} {a : ActP} {la : Value} {w w' : World} (h : ApS w0 s0 r lv a la w) (hf : Fr [] w w') : ApS w0 s0 r lv a la w' := by
  have h5 := h.sz5
  exact ⟨by rw [hf.mm (by omega) (by simp), h.p], by rw [hf.fz (by omega) (by simp), h.pz], by rw [hf.mm (by omega) (by simp), h.q], by rw [hf.mm (by omega) (by simp), h.s], by rw [hf.mm (by omega) (by simp), h.rr],
    by rw [hf.fz (by omega) (by simp), h.rz'], by rw [hf.mm (by omega) (by simp), h.ra], by rw [hf.fz (by omega) (by simp), h.raz], by have := hf.size; omega, h.fr.trans0 hf⟩
theorem ApS.put {w0 : World} {s0 : Nat} {r r' : RecP} {lv lv' : Value} {a : ActP} {la : Value} {w w' : World} (h : ApS w0 s0 r lv a la w) (hf : Fr [s0] w w') (hm : mm w' s0 = rcV r' lv') (hz : fz w' s0 = false) (hs : sz w0 ≤ s0) : ApS w0 s0 r' lv' a la w' := by
  have h5 := h.sz5
  have no : ∀ x, x ≠ s0 → x ∉ [s0] := fun x hx => by simpa using hx
  exact ⟨hm, hz, by rw [hf.mm (by omega) (no _ (by omega)), h.q], by rw [hf.mm (by omega) (no _ (by omega)), h.s], by rw [hf.mm (by omega) (no _ (by omega)), h.rr],
    by rw [hf.fz (by omega) (no _ (by omega)), h.rz'], by rw [hf.mm (by omega) (no _ (by omega)), h.ra], by rw [hf.fz (by omega) (no _ (by omega)), h.raz], by have := hf.size; omega, h.fr.trans hf (fun b hb => .inr (by simp at hb; omega))⟩
set_option maxHeartbeats 4000000 in
set_option maxRecDepth 20000 in
theorem applyAdd_spec {w : World} {r : RecP} {la lb : Option Addr} {c d : Nat} {a : ActP} (hw : KW w) (hr : IsRec w (.slice la r.list.length c) r) (hrok : RecOk r) (hk2 : r.kind = 2) (ha : IsAct w (.slice lb a.make.list.length d) a) (hok : ActOk a) (hk7 : a.kind = 7) :
    Ret P 37 #[.agg (rcV r (.slice la r.list.length c)).toArray, .bool true, .agg (acV a (.slice lb a.make.list.length d)).toArray] w fun v w' =>
      ∃ l' c', v = .tuple #[.agg (rcV (addN r a.n) (.slice l' r.list.length c')).toArray, .bool true, .agg anZ.toArray] ∧ IsRec w' (.slice l' r.list.length c') r ∧ Fr [] w w' := by
  refine F37ok ?_
  unfold F37
  have hz8 : [Value.int IntKind.i64 0, Value.int IntKind.i64 0, Value.int IntKind.i64 0, Value.int IntKind.i64 0, Value.float FloatKind.f64 0, Value.int IntKind.i64 0, Value.string ByteArray.empty, Value.slice none 0 0] = rcV rz (.slice none 0 0) := rfl
  have hz10 : Value.int IntKind.i64 0 :: Value.int IntKind.i64 0 :: rcV rz (.slice none 0 0) = anZ := rfl
  obtain ⟨W, hW⟩ : ∃ W, W = nw (nw (nw (nw (nw w (rcV r (.slice la r.list.length c)) 25) [.bool true] 4) (acV a (.slice lb a.make.list.length d)) 27) (rcV rz (.slice none 0 0)) 25) anZ 49 := ⟨_, rfl⟩
  have h0 : ApS w (sz w) r (.slice la r.list.length c) a (.slice lb a.make.list.length d) W := by
    rw [hW]
    refine ⟨?_, ?_, ?_, ?_, ?_, ?_, ?_, ?_, ?_, ((((((Fr.refl [] w).nw _ _).nw _ _).nw _ _).nw _ _).nw _ _)⟩ <;> simp [mm_nw, fz_nw, sz_nw, Nat.add_assoc]
  have t8 : ∀ r lv, (rcV r lv).take 8 = rcV r lv := fun _ _ => rfl
  have hnil : r.list = [] := (hrok.only.2.2.2.2 (by rw [hk2]; decide)).2
  have hlen32 : r.list.length ≤ 1000000 := by rw [hnil]; simp
  try simp (maxDischargeDepth := 8) [↓sC, sB, sM, rcC, acC, Value.cells, hz8, hz10, ← hW, h0.q, h0.p, t8]
  refine (recClone_spec (hr.fr0 h0.fr) hlen32).call ?_
  rintro _ w1 ⟨l1, c1, rfl, hr1, f1⟩
  have h1 := h0.fr0 f1
  obtain ⟨W1, hW1⟩ : ∃ W1, W1 = wr w1 (sz w) (rcV r (.slice l1 r.list.length c1)) := ⟨_, rfl⟩
  have hsp : ∀ v, splice (rcV r v) 0 (rcV r (.slice l1 r.list.length c1)) = rcV r (.slice l1 r.list.length c1) := fun v => splice_full rfl
  try simp (maxDischargeDepth := 8) [↓sC, sB, sM, h1.p, h1.pz, rcV_oneT, hsp, ← hW1]
  have hS : ApS w (sz w) r (.slice l1 r.list.length c1) a (.slice lb a.make.list.length d) W1 :=
    h1.put (by rw [hW1]; exact (Fr.refl _ w1).wr (.inl (by simp)) _) (by rw [hW1]; exact mm_wr_same h1.pz _) (by rw [hW1, fz_wr, h1.pz]) (Nat.le_refl _)
  try simp (maxDischargeDepth := 8) [↓sC, sB, sM, pFunc_eq, hS.s, a14]
  refine (checkA_spec (hw.fr0 hS.fr) (ha.fr0 hS.fr) hok).call ?_
  rintro _ w2 ⟨rfl, f2⟩
  have h2 := hS.fr0 f2
  try simp (maxDischargeDepth := 8) [↓sC, sB, sM, h2.q, h2.p, t8]
  refine (recCheck_spec (isRec_nil (w := w2) (l := l1) (c := c1) hnil hr.2) hrok).call ?_
  rintro _ w3 ⟨rfl, f3⟩
  have h3 := h2.fr0 f3
  try simp (maxDischargeDepth := 8) [↓sC, sB, sM, h3.q, h3.p, h3.s, hk7]
  refine (actOn_spec (hw.fr0 h3.fr.drew)).call ?_
  rintro _ w4 ⟨rfl, f4⟩
  have h4 := (h3.fr0 ((Fr.refl [] w3).drew)).fr0 f4
  have hon : (kindF 7).2.1 = 2 := by decide
  try simp (maxDischargeDepth := 8) [↓sC, sB, sM, h4.p, hon, hk2, t8]
  refine (recClone_spec (isRec_nil (w := w4) (l := l1) (c := c1) hnil hr.2) hlen32).call ?_
  rintro _ w5 ⟨l2, c2, rfl, _, f5⟩
  have h5 := h4.fr0 f5
  obtain ⟨W5, hW5⟩ : ∃ W5, W5 = nw (wr (nw w5 (rcV rz (.slice none 0 0)) 25) (sz w5) (rcV r (.slice l2 r.list.length c2))) anZ 49 := ⟨_, rfl⟩
  have fW5 : Fr [] w5 W5 := by rw [hW5]; exact (((Fr.refl [] w5).nw _ _).wr (.inr (Nat.le_refl _)) _).nw _ _
  have h6 := h5.fr0 fW5
  have hsz5 : sz W5 = sz w5 + 2 := by rw [hW5]; simp [sz_nw, sz_wr]
  have ho : mm W5 (sz w5 + 1) = anZ := by rw [hW5]; simp [mm_nw, sz_nw, sz_wr]
  have hsp2 : splice (rcV rz (.slice none 0 0)) 0 (rcV r (.slice l2 r.list.length c2)) = rcV r (.slice l2 r.list.length c2) := splice_full rfl
  try simp (maxDischargeDepth := 8) [↓sC, sB, sM, hz8, hz10, rcV_oneT, hsp2, ← hW5, h6.s, hk7, a14]
  refine changes_spec.call ?_
  rintro _ w6 ⟨cs, rfl, hcl, hc7, f6⟩
  have h7 := (h6.fr0 ((Fr.refl [] W5).drew)).fr0 f6
  have hix : pIndex P 123 (.agg cs.toArray) (i64 7) w6 = some (.func (.func 83) #[] #[], w6) := by
    rw [pIndex_arr_scal arrE123 tyOk122 isAggB122 (by omega) (by omega) (by rw [cellsOf122]; simp [hcl])]
    rw [cellsOf122]
    exact congrArg (fun x => some (x, w6)) hc7
  have ho6 : mm w6 (sz w5 + 1) = anZ := by rw [f6.mm (by rw [sz_drew]; omega) (by simp), mm_drew, ho]
  have hss := f6.size
  rw [sz_drew] at hss
  have h5s := h5.sz5
  try simp (maxDischargeDepth := 8) [↓sC, sB, sM, h7.s, hk7, a14, hix]
  refine callV (by kernel_rfl) ?_
  refine (add_spec h7.p h7.pz).call ?_
  rintro _ w7 ⟨rfl, hm7, hz7, f7⟩
  have h8 := h7.put f7 hm7 hz7 (Nat.le_refl _)
  have ho7 : mm w7 (sz w5 + 1) = anZ := by rw [f7.mm (by omega) (by simp; omega), ho6]
  obtain ⟨W8, hW8⟩ : ∃ W8, W8 = wr (drew w7) (sz w + 1 + 1 + 1) (rcV (addN r a.n) (.slice l1 r.list.length c1)) := ⟨_, rfl⟩
  have hd8 := h8.fr0 ((Fr.refl [] w7).drew)
  have n1 : ¬ sz w + 1 = sz w + 1 + 1 + 1 := by omega
  have n2 : ¬ sz w + 1 + 1 + 1 + 1 = sz w + 1 + 1 + 1 := by omega
  have n3 : ¬ sz w + 1 + 1 + 1 = sz w + 1 + 1 + 1 + 1 := by omega
  have n4 : ¬ sz w5 + 1 = sz w + 1 + 1 + 1 := by omega
  have e1 : mm W8 (sz w + 1) = [.bool true] := by rw [hW8, mm_wr_ne n1]; exact hd8.q
  have e2 : mm W8 (sz w + 1 + 1 + 1) = rcV (addN r a.n) (.slice l1 r.list.length c1) := by rw [hW8]; exact mm_wr_same hd8.rz' _
  have e3 : mm W8 (sz w + 1 + 1 + 1 + 1) = anZ := by rw [hW8, mm_wr_ne n2]; exact hd8.ra
  have e4 : fz W8 (sz w + 1 + 1 + 1 + 1) = false := by rw [hW8, fz_wr]; exact hd8.raz
  have e5 : mm W8 (sz w5 + 1) = anZ := by rw [hW8, mm_wr_ne n4, mm_drew, ho7]
  obtain ⟨W9, hW9⟩ : ∃ W9, W9 = wr W8 (sz w + 1 + 1 + 1 + 1) anZ := ⟨_, rfl⟩
  have g1 : mm W9 (sz w + 1 + 1 + 1) = rcV (addN r a.n) (.slice l1 r.list.length c1) := by rw [hW9, mm_wr_ne n3, e2]
  have g2 : mm W9 (sz w + 1 + 1 + 1 + 1) = anZ := by rw [hW9]; exact mm_wr_same e4 _
  have hf : Fr [] w W9 := by
    rw [hW9, hW8]
    exact ((h8.fr.drew).wr (.inr (by omega)) _).wr (.inr (by omega)) _
  have r1 : ∀ X, (rcV (addN r a.n) X).length = 8 := fun _ => rfl
  have hsp8 : splice (rcV rz (.slice none 0 0)) 0 (rcV (addN r a.n) (.slice l1 r.list.length c1)) = rcV (addN r a.n) (.slice l1 r.list.length c1) := splice_full rfl
  have hsp9 : splice anZ 0 anZ = anZ := splice_full rfl
  have t10 : anZ.take 10 = anZ := rfl
  have hadd1 : (∀ v, v ∈ rcV (addN r a.n) (.slice l1 r.list.length c1) → v.oneCell' = true) = True := rcV_oneT (r := addN r a.n)
  try simp (maxDischargeDepth := 8) [↓sC, sB, sM, h8.p, h8.q, h8.rr, h8.rz', ho7, hsp8, hadd1, t8, t10, anZ_len, anZ_one, ← hW8, e1, e3, e4, e5, hsp9, ← hW9, g1, g2]
  exact ⟨l1, c1, rfl, isRec_nil hnil hr.2, hf⟩
end Go.Proofs.YtieejbkbdfccdaaDoor

set_option linter.unusedVariables false
set_option linter.unusedSimpArgs false
namespace Go.Proofs.YtieejbkbdfccdaaDoor
open Go

def asAdd (a : ActP) (n : Int) : ActP := { a with kind := 7, n := n }
theorem asAdd_ok {a : ActP} {n : Int} (h : ActOk a) (hk : a.kind = 10 ∨ a.kind = 11) : ActOk (asAdd a n) := by
  have h120 : (hasF a.kind).contains 120 = false := by rcases hk with hk | hk <;> rw [hk] <;> decide
  have h115 : (hasF a.kind).contains 115 = false := by rcases hk with hk | hk <;> rw [hk] <;> decide
  have hs : a.s = [] := h.s0 h115
  refine ⟨by simp [asAdd], by simp [asAdd], h.key1, h.key24, fun h => absurd h (by simp only [asAdd]; decide), fun _ => h.x0 h120, fun _ => hs, fun _ => h.make0 (by omega), fun _ => ?_, fun _ => ?_, fun h => absurd h (by simp [asAdd]), h.real, fun h => absurd h (by simp [asAdd])⟩
  · show a.s.length ≤ 64; rw [hs]; simp
  · show a.s.length ≤ 16; rw [hs]; simp
def signed (a : ActP) : Int := if a.kind = 10 then a.n else -a.n
theorem MP_wrap {n : Int} (h0 : 0 ≤ n) (h1 : n ≤ MP) : IntKind.i64.wrap (-n) = -n := by unfold MP at h1; rw [wrap64 (by omega) (by omega)]
set_option maxHeartbeats 2000000 in
set_option maxRecDepth 20000 in
theorem do_spec {w : World} {r : RecP} {la lb : Option Addr} {c d : Nat} {a : ActP} (hw : KW w) (hr : IsRec w (.slice la r.list.length c) r) (hrok : RecOk r) (hk2 : r.kind = 2) (ha : IsAct w (.slice lb a.make.list.length d) a) (hok : ActOk a) (hk : a.kind = 10 ∨ a.kind = 11) :
    Ret P 20 #[.agg (rcV r (.slice la r.list.length c)).toArray, .agg (acV a (.slice lb a.make.list.length d)).toArray] w fun v w' =>
      ∃ l' c', v = .agg (rcV (addN r (signed a)) (.slice l' r.list.length c')).toArray ∧ Fr [] w w' := by
  refine F20ok ?_
  unfold F20
  have hz8 : [Value.int IntKind.i64 0, Value.int IntKind.i64 0, Value.int IntKind.i64 0, Value.int IntKind.i64 0, Value.float FloatKind.f64 0, Value.int IntKind.i64 0, Value.string ByteArray.empty, Value.slice none 0 0] = rcV rz (.slice none 0 0) := rfl
  have hz10 : Value.int IntKind.i64 0 :: Value.int IntKind.i64 0 :: rcV rz (.slice none 0 0) = anZ := rfl
  obtain ⟨hn0, hn1⟩ := hok.amount hk
  have hnw := MP_wrap hn0 hn1
  obtain ⟨W, hW⟩ : ∃ W, W = nw (nw (nw w (rcV r (.slice la r.list.length c)) 25) (acV a (.slice lb a.make.list.length d)) 27) (rcV rz (.slice none 0 0)) 25 := ⟨_, rfl⟩
  have fW : Fr [] w W := by rw [hW]; exact (((Fr.refl [] w).nw _ _).nw _ _).nw _ _
  have hs : sz W = sz w + 3 := by rw [hW]; simp [sz_nw]
  have m1 : mm W (sz w) = rcV r (.slice la r.list.length c) := by rw [hW]; simp [mm_nw, sz_nw, Nat.add_assoc]
  have m2 : mm W (sz w + 1) = acV a (.slice lb a.make.list.length d) := by rw [hW]; simp [mm_nw, sz_nw, Nat.add_assoc]
  have z2 : fz W (sz w + 1) = false := by rw [hW]; simp [fz_nw, sz_nw, Nat.add_assoc]
  have z3 : fz W (sz w + 1 + 1) = false := by rw [hW]; simp [fz_nw, sz_nw, Nat.add_assoc]
  have m3 : mm W (sz w + 1 + 1) = rcV rz (.slice none 0 0) := by rw [hW]; simp [mm_nw, sz_nw, Nat.add_assoc]
  have hset1 : (acV a (.slice lb a.make.list.length d)).set 0 (i64 7) = acV (asAdd a a.n) (.slice lb a.make.list.length d) := rfl
  have hset2 : ∀ n, (acV (asAdd a a.n) (.slice lb a.make.list.length d)).set 2 (i64 n) = acV (asAdd a n) (.slice lb a.make.list.length d) := fun _ => rfl
  have t8 : ∀ r lv, (rcV r lv).take 8 = rcV r lv := fun _ _ => rfl
  have key : ∀ (n : Int) (W1 : World), n = signed a → in64 n → Fr [sz w + 1] W W1 → mm W1 (sz w + 1) = acV (asAdd a n) (.slice lb a.make.list.length d) → 
      Ret P 37 #[.agg (rcV r (.slice la r.list.length c)).toArray, .bool true, .agg (acV (asAdd a n) (.slice lb a.make.list.length d)).toArray] W1 fun v w' => ∃ l' c', v = .tuple #[.agg (rcV (addN r (signed a)) (.slice l' r.list.length c')).toArray, .bool true, .agg anZ.toArray] ∧ Fr [] W1 w' := by
    intro n W1 hn h64 hf hm
    have hwW : Fr [] w W1 := fW.trans hf (fun b hb => .inr (by simp at hb; omega))
    have hac := ha.fr0 hwW
    have := applyAdd_spec (w := W1) (r := r) (a := asAdd a n) (la := la) (lb := lb) (c := c) (d := d) (hw.fr0 hwW) (hr.fr0 hwW) hrok hk2 ⟨hac.1, ⟨by simp [asAdd, in64], h64, hac.2.2.2⟩⟩ (asAdd_ok hok hk) rfl
    refine this.mono ?_
    rintro v w' ⟨l', c', rfl, _, hf'⟩
    exact ⟨l', c', by rw [← hn]; rfl, hf'⟩
  rcases hk with hk | hk
  · try simp (maxDischargeDepth := 8) [↓sC, sB, sM, rcC, acC, hz8, ← hW, m2, hk, z2, hset1]
    obtain ⟨W1, hW1⟩ : ∃ W1, W1 = wr W (sz w + 1) (acV (asAdd a a.n) (.slice lb a.make.list.length d)) := ⟨_, rfl⟩
    have fW1 : Fr [sz w + 1] W W1 := by rw [hW1]; exact (Fr.refl _ W).wr (.inl (by simp)) _
    have q1 : mm W1 (sz w) = rcV r (.slice la r.list.length c) := by rw [hW1, mm_wr_ne (by omega), m1]
    have q2 : mm W1 (sz w + 1) = acV (asAdd a a.n) (.slice lb a.make.list.length d) := by rw [hW1]; exact mm_wr_same z2 _
    have q3 : mm W1 (sz w + 1 + 1) = rcV rz (.slice none 0 0) := by rw [hW1, mm_wr_ne (by omega), m3]
    have q4 : fz W1 (sz w + 1 + 1) = false := by rw [hW1, fz_wr, z3]
    have hs1 := fW1.size
    have hkey := key a.n W1 (by simp [signed, hk]) (by unfold in64; unfold MP at hn1; omega) fW1 q2
    have hal : (acV (asAdd a a.n) (.slice lb a.make.list.length d)).length = 14 := rfl
    have ha14 : (acV (asAdd a a.n) (.slice lb a.make.list.length d)).take 14 = acV (asAdd a a.n) (.slice lb a.make.list.length d) := rfl
    rw [← hW1]
    try simp (maxDischargeDepth := 8) [↓sC, sB, sM, q1, q2, t8, hal, ha14]
    refine hkey.call ?_
    rintro _ w2 ⟨l', c', rfl, f2⟩
    have hs2 := f2.size
    have r3 : mm w2 (sz w + 1 + 1) = rcV rz (.slice none 0 0) := by rw [f2.mm (by omega) (by simp), q3]
    have r4 : fz w2 (sz w + 1 + 1) = false := by rw [f2.fz (by omega) (by simp), q4]
    have one : (∀ v, v ∈ rcV (addN r (signed a)) (.slice l' r.list.length c') → v.oneCell' = true) = True := rcV_oneT (r := addN r (signed a))
    have len8 : (rcV (addN r (signed a)) (.slice l' r.list.length c')).length = 8 := rfl
    have hsp : splice (rcV rz (.slice none 0 0)) 0 (rcV (addN r (signed a)) (.slice l' r.list.length c')) = rcV (addN r (signed a)) (.slice l' r.list.length c') := splice_full rfl
    have hsp9 : splice anZ 0 anZ = anZ := splice_full rfl
    obtain ⟨W4, hW4⟩ : ∃ W4, W4 = wr (wr (nw (nw w2 (rcV rz (.slice none 0 0)) 25) anZ 49) (sz w2) (rcV (addN r (signed a)) (.slice l' r.list.length c'))) (sz w2 + 1) anZ := ⟨_, rfl⟩
    have f4 : Fr [] w2 W4 := by rw [hW4]; exact ((((Fr.refl [] w2).nw _ _).nw _ _).wr (.inr (Nat.le_refl _)) _).wr (.inr (by omega)) _
    have u0 : mm W4 (sz w2) = rcV (addN r (signed a)) (.slice l' r.list.length c') := by rw [hW4, mm_wr_ne (by omega)]; exact mm_wr_same (by simp [fz_nw, sz_nw]) _
    have u3 : mm W4 (sz w + 1 + 1) = rcV rz (.slice none 0 0) := by rw [f4.mm (by omega) (by simp), r3]
    have u4 : fz W4 (sz w + 1 + 1) = false := by rw [f4.fz (by omega) (by simp), r4]
    obtain ⟨W5, hW5⟩ : ∃ W5, W5 = wr W4 (sz w + 1 + 1) (rcV (addN r (signed a)) (.slice l' r.list.length c')) := ⟨_, rfl⟩
    have v3 : mm W5 (sz w + 1 + 1) = rcV (addN r (signed a)) (.slice l' r.list.length c') := by rw [hW5]; exact mm_wr_same u4 _
    have hfin : Fr [] w W5 := by
      rw [hW5]
      exact (((fW.trans fW1 (fun b hb => .inr (by simp at hb; omega))).trans0 f2).trans0 f4).wr (.inr (by omega)) _
    try simp (maxDischargeDepth := 8) [↓sC, sB, sM, hz8, hz10, one, len8, hsp, anZ_len, anZ_one, hsp9, ← hW4, u0, u3, u4, t8, ← hW5, v3]
    exact ⟨⟨l', c', rfl⟩, hfin⟩
  · try simp (maxDischargeDepth := 8) [↓sC, sB, sM, rcC, acC, hz8, ← hW, m2, hk, z2, hset1, hset2, hnw]
    obtain ⟨W1, hW1⟩ : ∃ W1, W1 = wr W (sz w + 1) (acV (asAdd a (-a.n)) (.slice lb a.make.list.length d)) := ⟨_, rfl⟩
    have fW1 : Fr [sz w + 1] W W1 := by rw [hW1]; exact (Fr.refl _ W).wr (.inl (by simp)) _
    have q1 : mm W1 (sz w) = rcV r (.slice la r.list.length c) := by rw [hW1, mm_wr_ne (by omega), m1]
    have q2 : mm W1 (sz w + 1) = acV (asAdd a (-a.n)) (.slice lb a.make.list.length d) := by rw [hW1]; exact mm_wr_same z2 _
    have q3 : mm W1 (sz w + 1 + 1) = rcV rz (.slice none 0 0) := by rw [hW1, mm_wr_ne (by omega), m3]
    have q4 : fz W1 (sz w + 1 + 1) = false := by rw [hW1, fz_wr, z3]
    have hs1 := fW1.size
    have hkey := key (-a.n) W1 (by simp [signed, hk]) (by unfold in64; unfold MP at hn1; omega) fW1 q2
    have hal : (acV (asAdd a (-a.n)) (.slice lb a.make.list.length d)).length = 14 := rfl
    have ha14 : (acV (asAdd a (-a.n)) (.slice lb a.make.list.length d)).take 14 = acV (asAdd a (-a.n)) (.slice lb a.make.list.length d) := rfl
    rw [← hW1]
    try simp (maxDischargeDepth := 8) [↓sC, sB, sM, q1, q2, t8, hal, ha14]
    refine hkey.call ?_
    rintro _ w2 ⟨l', c', rfl, f2⟩
    have hs2 := f2.size
    have r3 : mm w2 (sz w + 1 + 1) = rcV rz (.slice none 0 0) := by rw [f2.mm (by omega) (by simp), q3]
    have r4 : fz w2 (sz w + 1 + 1) = false := by rw [f2.fz (by omega) (by simp), q4]
    have one : (∀ v, v ∈ rcV (addN r (signed a)) (.slice l' r.list.length c') → v.oneCell' = true) = True := rcV_oneT (r := addN r (signed a))
    have len8 : (rcV (addN r (signed a)) (.slice l' r.list.length c')).length = 8 := rfl
    have hsp : splice (rcV rz (.slice none 0 0)) 0 (rcV (addN r (signed a)) (.slice l' r.list.length c')) = rcV (addN r (signed a)) (.slice l' r.list.length c') := splice_full rfl
    have hsp9 : splice anZ 0 anZ = anZ := splice_full rfl
    obtain ⟨W4, hW4⟩ : ∃ W4, W4 = wr (wr (nw (nw w2 (rcV rz (.slice none 0 0)) 25) anZ 49) (sz w2) (rcV (addN r (signed a)) (.slice l' r.list.length c'))) (sz w2 + 1) anZ := ⟨_, rfl⟩
    have f4 : Fr [] w2 W4 := by rw [hW4]; exact ((((Fr.refl [] w2).nw _ _).nw _ _).wr (.inr (Nat.le_refl _)) _).wr (.inr (by omega)) _
    have u0 : mm W4 (sz w2) = rcV (addN r (signed a)) (.slice l' r.list.length c') := by rw [hW4, mm_wr_ne (by omega)]; exact mm_wr_same (by simp [fz_nw, sz_nw]) _
    have u3 : mm W4 (sz w + 1 + 1) = rcV rz (.slice none 0 0) := by rw [f4.mm (by omega) (by simp), r3]
    have u4 : fz W4 (sz w + 1 + 1) = false := by rw [f4.fz (by omega) (by simp), r4]
    obtain ⟨W5, hW5⟩ : ∃ W5, W5 = wr W4 (sz w + 1 + 1) (rcV (addN r (signed a)) (.slice l' r.list.length c')) := ⟨_, rfl⟩
    have v3 : mm W5 (sz w + 1 + 1) = rcV (addN r (signed a)) (.slice l' r.list.length c') := by rw [hW5]; exact mm_wr_same u4 _
    have hfin : Fr [] w W5 := by
      rw [hW5]
      exact (((fW.trans fW1 (fun b hb => .inr (by simp at hb; omega))).trans0 f2).trans0 f4).wr (.inr (by omega)) _
    try simp (maxDischargeDepth := 8) [↓sC, sB, sM, hz8, hz10, one, len8, hsp, anZ_len, anZ_one, hsp9, ← hW4, u0, u3, u4, t8, ← hW5, v3]
    exact ⟨⟨l', c', rfl⟩, hfin⟩
end Go.Proofs.YtieejbkbdfccdaaDoor

set_option linter.unusedVariables false
set_option linter.unusedSimpArgs false
namespace Go.Proofs.YtieejbkbdfccdaaDoor
open Go

def splitsM (kind k : Int) : Bool := decide (k = 7 ∨ k = 8 ∨ k = 10 ∨ k = 11 ∨ k = 13 ∨ k = 14 ∨ k = 18 ∨ k = 21) && decide ((kindF k).2.1 = kind)
set_option maxHeartbeats 2000000 in
theorem splits_spec {w : World} {kind k : Int} (hw : KW w) : Ret P 16 #[i64 kind, i64 k] w fun v w' => v = .bool (splitsM kind k) ∧ Fr [] w w' := by
  refine F16ok ?_
  unfold F16
  by_cases h7 : k = 7
  · try simp (maxDischargeDepth := 8) [↓sC, sB, sM, h7]
    refine (actOn_spec hw).call ?_
    rintro _ w1 ⟨rfl, f1⟩
    try simp (maxDischargeDepth := 8) [↓sC, sB, sM]
    exact ⟨by simp [splitsM], f1⟩
  by_cases h8 : k = 8
  · try simp (maxDischargeDepth := 8) [↓sC, sB, sM, h8, h7]
    refine (actOn_spec hw).call ?_
    rintro _ w1 ⟨rfl, f1⟩
    try simp (maxDischargeDepth := 8) [↓sC, sB, sM]
    exact ⟨by simp [splitsM], f1⟩
  by_cases h10 : k = 10
  · try simp (maxDischargeDepth := 8) [↓sC, sB, sM, h10, h7, h8]
    refine (actOn_spec hw).call ?_
    rintro _ w1 ⟨rfl, f1⟩
    try simp (maxDischargeDepth := 8) [↓sC, sB, sM]
    exact ⟨by simp [splitsM], f1⟩
  by_cases h11 : k = 11
  · try simp (maxDischargeDepth := 8) [↓sC, sB, sM, h11, h7, h8, h10]
    refine (actOn_spec hw).call ?_
    rintro _ w1 ⟨rfl, f1⟩
    try simp (maxDischargeDepth := 8) [↓sC, sB, sM]
    exact ⟨by simp [splitsM], f1⟩
  by_cases h13 : k = 13
  · try simp (maxDischargeDepth := 8) [↓sC, sB, sM, h13, h7, h8, h10, h11]
    refine (actOn_spec hw).call ?_
    rintro _ w1 ⟨rfl, f1⟩
    try simp (maxDischargeDepth := 8) [↓sC, sB, sM]
    exact ⟨by simp [splitsM], f1⟩
  by_cases h14 : k = 14
  · try simp (maxDischargeDepth := 8) [↓sC, sB, sM, h14, h7, h8, h10, h11, h13]
    refine (actOn_spec hw).call ?_
    rintro _ w1 ⟨rfl, f1⟩
    try simp (maxDischargeDepth := 8) [↓sC, sB, sM]
    exact ⟨by simp [splitsM], f1⟩
  by_cases h18 : k = 18
  · try simp (maxDischargeDepth := 8) [↓sC, sB, sM, h18, h7, h8, h10, h11, h13, h14]
    refine (actOn_spec hw).call ?_
    rintro _ w1 ⟨rfl, f1⟩
    try simp (maxDischargeDepth := 8) [↓sC, sB, sM]
    exact ⟨by simp [splitsM], f1⟩
  by_cases h21 : k = 21
  · try simp (maxDischargeDepth := 8) [↓sC, sB, sM, h21, h7, h8, h10, h11, h13, h14, h18]
    refine (actOn_spec hw).call ?_
    rintro _ w1 ⟨rfl, f1⟩
    try simp (maxDischargeDepth := 8) [↓sC, sB, sM]
    exact ⟨by simp [splitsM], f1⟩
  try simp (maxDischargeDepth := 8) [↓sC, sB, sM, h7, h8, h10, h11, h13, h14, h18, h21]
  simp [splitsM, h7, h8, h10, h11, h13, h14, h18, h21]
/-! ### Parts -/
def partN (all i n : Nat) : Nat := all / n + if i < all % n then 1 else 0
theorem part_spec {w : World} {all i n : Nat} (hn : 0 < n) (hn2 : n ≤ 8) (hi : i < n) (ha : all < 2 * H63) : Ret P 40 #[u64 all, i64 i, i64 n] w fun v w' => v = u64 (partN all i n) ∧ w' = w := by
  refine F40ok ?_
  unfold F40
  have c1 : IntKind.u64.wrap (n : Int) = (n : Int) := wrapu (by unfold H63; omega)
  have c2 : IntKind.u64.wrap (i : Int) = (i : Int) := wrapu (by unfold H63; omega)
  have hq : ∀ w, pBin P .quo 58 false (u64 all) (u64 n) w = some (u64 (all / n), w) := fun w => by
    rw [pBin_quo (by omega)]
    have h1 : all / n ≤ all := Nat.div_le_self _ _
    have : ((all : Int).tdiv (n : Int)) = ((all / n : Nat) : Int) := rfl
    rw [this, wrapu (by omega)]
  have hr : ∀ w, pBin P .rem 58 false (u64 all) (u64 n) w = some (u64 (all % n), w) := fun w => by
    rw [pBin_rem (by omega)]
    rfl
  have hlt : ((i : Int) < ((all % n : Nat) : Int)) = (i < all % n) := by simp only [eq_iff_iff]; omega
  have hdiv : all / n < 2 * H63 - 1 ∨ n = 1 := by
    by_cases h : n = 1
    · exact .inr h
    · left
      have : all / n ≤ all / 2 := Nat.div_le_div_left (by omega) (by omega)
      unfold H63 at ha ⊢; omega
  generalize hA : all / n = A at *
  generalize hB : all % n = B at *
  have hB1 : n = 1 → B = 0 := fun h => by rw [← hB, h, Nat.mod_one]
  try simp (maxDischargeDepth := 8) [↓sC, sB, sM, c1, c2, hq, hr, hlt]
  by_cases h : i < B
  · have c3 : IntKind.u64.wrap ((A : Int) + 1) = ((A + 1 : Nat) : Int) := by
      rw [show ((A : Int) + 1) = ((A + 1 : Nat) : Int) by omega]
      exact wrapu (by rcases hdiv with h' | h'; omega; have := hB1 h'; omega)
    try simp (maxDischargeDepth := 8) [↓sC, sB, sM, h, c3, -Int.natCast_add]
    simp [partN, hA, hB, h]
  · try simp (maxDischargeDepth := 8) [↓sC, sB, sM, h]
    simp [partN, hA, hB, h]
end Go.Proofs.YtieejbkbdfccdaaDoor

set_option linter.unusedVariables false
set_option linter.unusedSimpArgs false
namespace Go.Proofs.YtieejbkbdfccdaaDoor
open Go

theorem inf_spec {w : World} : Ret P 41 #[i64 (-1)] w fun v w' => (∃ a, v = fl a) ∧ w' = w := by
  refine F41ok ?_
  unfold F41
  have h : (Value.int IntKind.u64 18442240474082181120) = u64 18442240474082181120 := rfl
  try simp (maxDischargeDepth := 8) [↓sC, sB, sM, h, ffrom]
theorem slice_spec {w : World} {r : RecP} {a : Option Addr} {c : Nat} (hr : IsRec w (.slice a r.list.length c) r) (hok : RecOk r) :
    Ret P 18 #[.agg (rcV r (.slice a r.list.length c)).toArray] w fun v w' => ∃ rr b, v = .tuple #[.agg (rcV rr (.slice none 0 0)).toArray, .bool b] ∧ (r.kind = 4 → rr = rSum ∧ b = true) ∧ Fr [] w w' := by
  refine F18ok ?_
  unfold F18
  have hz8 : [Value.int IntKind.i64 0, Value.int IntKind.i64 0, Value.int IntKind.i64 0, Value.int IntKind.i64 0, Value.float FloatKind.f64 0, Value.int IntKind.i64 0, Value.string ByteArray.empty, Value.slice none 0 0] = rcV rz (.slice none 0 0) := rfl
  obtain ⟨W, hW⟩ : ∃ W, W = nw (nw w (rcV r (.slice a r.list.length c)) 25) (rcV rz (.slice none 0 0)) 25 := ⟨_, rfl⟩
  have fW : Fr [] w W := by rw [hW]; exact ((Fr.refl [] w).nw _ _).nw _ _
  have hs : sz W = sz w + 2 := by rw [hW]; simp [sz_nw]
  have m1 : mm W (sz w) = rcV r (.slice a r.list.length c) := by rw [hW]; simp [mm_nw, sz_nw]
  have m2 : mm W (sz w + 1) = rcV rz (.slice none 0 0) := by rw [hW]; simp [mm_nw, sz_nw]
  have z2 : fz W (sz w + 1) = false := by rw [hW]; simp [fz_nw, sz_nw]
  have t8 : ∀ r lv, (rcV r lv).take 8 = rcV r lv := fun _ _ => rfl
  try simp (maxDischargeDepth := 8) [↓sC, sB, sM, rcC, hz8, ← hW, m1, t8]
  refine (recCheck_spec (hr.fr0 fW) hok).call ?_
  rintro _ w1 ⟨rfl, f1⟩
  have n1 : mm w1 (sz w) = rcV r (.slice a r.list.length c) := by rw [f1.mm (by omega) (by simp), m1]
  have n2 : mm w1 (sz w + 1) = rcV rz (.slice none 0 0) := by rw [f1.mm (by omega) (by simp), m2]
  have y2 : fz w1 (sz w + 1) = false := by rw [f1.fz (by omega) (by simp), z2]
  have g1 := fW.trans0 f1
  have hsp : ∀ rr, splice (rcV rz (.slice none 0 0)) 0 (rcV rr (.slice none 0 0)) = rcV rr (.slice none 0 0) := fun _ => splice_full rfl
  have one : ∀ rr, (∀ v, v ∈ rcV rr (.slice none 0 0) → v.oneCell' = true) = True := fun rr => rcV_oneT (r := rr)
  have k1 := hok.k1
  have k9 := hok.k9
  have fin : ∀ (rr : RecP) (w2 : World), Fr [] w1 w2 → ∃ W3, W3 = wr w2 (sz w + 1) (rcV rr (.slice none 0 0)) ∧ mm W3 (sz w + 1) = rcV rr (.slice none 0 0) ∧ Fr [] w W3 := by
    intro rr w2 f
    refine ⟨_, rfl, mm_wr_same (by rw [f.fz (by have := f1.size; omega) (by simp), y2]) _, (g1.trans0 f).wr (.inr (by omega)) _⟩
  have len8 : ∀ rr : RecP, (rcV rr (.slice none 0 0)).length = 8 := fun _ => rfl
  have hs1 := f1.size
  have hkk : r.kind = 1 ∨ r.kind = 2 ∨ r.kind = 3 ∨ r.kind = 4 ∨ r.kind = 5 ∨ r.kind = 6 ∨ r.kind = 7 ∨ r.kind = 8 ∨ r.kind = 9 := by omega
  rcases hkk with hk | hk | hk | hk | hk | hk | hk | hk | hk
  · have hset : rcV rz (.slice none 0 0) = rcV rz (.slice none 0 0) := rfl
    obtain ⟨W3, hW3, q3, f3⟩ := fin rz w1 (Fr.refl _ _)
    try simp (maxDischargeDepth := 8) [↓sC, sB, sM, n1, n2, y2, hk, hz8, hset, one, len8, hsp, ← hW3, q3, t8]
    exact ⟨⟨_, rfl⟩, f3⟩
  · have hset : (rcV rz (.slice none 0 0)).set 0 (Value.int IntKind.i64 2) = rcV rSum (.slice none 0 0) := rfl
    obtain ⟨W3, hW3, q3, f3⟩ := fin rSum w1 (Fr.refl _ _)
    try simp (maxDischargeDepth := 8) [↓sC, sB, sM, n1, n2, y2, hk, hz8, hset, one, len8, hsp, ← hW3, q3, t8]
    exact ⟨⟨_, rfl⟩, f3⟩
  · have hset : (rcV rz (.slice none 0 0)).set 0 (Value.int IntKind.i64 2) = rcV rSum (.slice none 0 0) := rfl
    obtain ⟨W3, hW3, q3, f3⟩ := fin rSum w1 (Fr.refl _ _)
    try simp (maxDischargeDepth := 8) [↓sC, sB, sM, n1, n2, y2, hk, hz8, hset, one, len8, hsp, ← hW3, q3, t8]
    exact ⟨⟨_, rfl⟩, f3⟩
  · have hset : (rcV rz (.slice none 0 0)).set 0 (Value.int IntKind.i64 2) = rcV rSum (.slice none 0 0) := rfl
    obtain ⟨W3, hW3, q3, f3⟩ := fin rSum w1 (Fr.refl _ _)
    try simp (maxDischargeDepth := 8) [↓sC, sB, sM, n1, n2, y2, hk, hz8, hset, one, len8, hsp, ← hW3, q3, t8]
    exact ⟨rSum, rfl, rfl, f3⟩
  · skip
    try simp (maxDischargeDepth := 8) [↓sC, sB, sM, n1, n2, y2, hk]
    refine inf_spec.call ?_
    rintro _ w2 ⟨⟨x, rfl⟩, hw2⟩
    have f2' : Fr [] w1 w2 := by rw [hw2]; exact Fr.refl _ _
    have p2 : mm w2 (sz w + 1) = rcV rz (.slice none 0 0) := by rw [f2'.mm (by omega) (by simp), n2]
    have x2 : fz w2 (sz w + 1) = false := by rw [f2'.fz (by omega) (by simp), y2]
    have hset : ((rcV rz (.slice none 0 0)).set 0 (Value.int IntKind.i64 5)).set 4 (fl x) = rcV { rz with kind := 5, real := x } (.slice none 0 0) := rfl
    obtain ⟨W3, hW3, q3, f3⟩ := fin { rz with kind := 5, real := x } w2 f2'
    try simp (maxDischargeDepth := 8) [↓sC, sB, sM, hz8, p2, x2, hset, one, len8, hsp, ← hW3, q3, t8]
    exact ⟨⟨_, rfl⟩, f3⟩
  · skip
    try simp (maxDischargeDepth := 8) [↓sC, sB, sM, n1, n2, y2, hk]
    refine nan_spec.call ?_
    rintro _ w2 ⟨rfl, f2⟩
    have f2' : Fr [] w1 w2 := f2
    have p2 : mm w2 (sz w + 1) = rcV rz (.slice none 0 0) := by rw [f2'.mm (by omega) (by simp), n2]
    have x2 : fz w2 (sz w + 1) = false := by rw [f2'.fz (by omega) (by simp), y2]
    have hset : ((rcV rz (.slice none 0 0)).set 0 (Value.int IntKind.i64 6)).set 4 (fl NAN) = rcV { rz with kind := 6, real := NAN } (.slice none 0 0) := rfl
    obtain ⟨W3, hW3, q3, f3⟩ := fin { rz with kind := 6, real := NAN } w2 f2'
    try simp (maxDischargeDepth := 8) [↓sC, sB, sM, hz8, p2, x2, hset, one, len8, hsp, ← hW3, q3, t8]
    exact ⟨⟨_, rfl⟩, f3⟩
  · have hset : rcV rz (.slice none 0 0) = rcV rz (.slice none 0 0) := rfl
    obtain ⟨W3, hW3, q3, f3⟩ := fin rz w1 (Fr.refl _ _)
    try simp (maxDischargeDepth := 8) [↓sC, sB, sM, n1, n2, y2, hk, hz8, hset, one, len8, hsp, ← hW3, q3, t8]
    exact ⟨⟨_, rfl⟩, f3⟩
  · have hset : ((rcV rz (.slice none 0 0)).set 0 (Value.int IntKind.i64 8)).set 5 (Value.int IntKind.i64 32) = rcV { rz with kind := 8, cap := 32 } (.slice none 0 0) := rfl
    obtain ⟨W3, hW3, q3, f3⟩ := fin { rz with kind := 8, cap := 32 } w1 (Fr.refl _ _)
    try simp (maxDischargeDepth := 8) [↓sC, sB, sM, n1, n2, y2, hk, hz8, hset, one, len8, hsp, ← hW3, q3, t8]
    exact ⟨⟨_, rfl⟩, f3⟩
  · have hset : ((rcV rz (.slice none 0 0)).set 0 (Value.int IntKind.i64 9)).set 5 (i64 r.cap) = rcV { rz with kind := 9, cap := r.cap } (.slice none 0 0) := rfl
    obtain ⟨W3, hW3, q3, f3⟩ := fin { rz with kind := 9, cap := r.cap } w1 (Fr.refl _ _)
    try simp (maxDischargeDepth := 8) [↓sC, sB, sM, n1, n2, y2, hk, hz8, hset, one, len8, hsp, ← hW3, q3, t8]
    exact ⟨⟨_, rfl⟩, f3⟩
end Go.Proofs.YtieejbkbdfccdaaDoor

set_option linter.unusedVariables false
set_option linter.unusedSimpArgs false
namespace Go.Proofs.YtieejbkbdfccdaaDoor
open Go

theorem wrapu_nat (x : Int) : ∃ n : Nat, IntKind.u64.wrap x = (n : Int) ∧ n < 2 * H63 := by
  have h : 0 ≤ IntKind.u64.wrap x ∧ IntKind.u64.wrap x < 18446744073709551616 := by
    have : IntKind.u64.wrap x = x % 18446744073709551616 := by simp [IntKind.wrap, IntKind.signed, IntKind.bits]
    rw [this]
    exact ⟨Int.emod_nonneg _ (by decide), Int.emod_lt_of_pos _ (by decide)⟩
  exact ⟨(IntKind.u64.wrap x).toNat, by omega, by unfold H63; omega⟩
def lfV (u d : Nat) : List Value := [u64 u, u64 d]
theorem room_spec {w : World} {r : RecP} {a : Option Addr} {c : Nat} (hr : IsRec w (.slice a r.list.length c) r) :
    Ret P 39 #[.agg (rcV r (.slice a r.list.length c)).toArray] w fun v w' => ∃ u d b, v = .tuple #[.agg (lfV u d).toArray, .bool b] ∧ u < 2 * H63 ∧ d < 2 * H63 ∧ (r.kind = 4 → RecOk r → (u : Int) = r.high - r.num ∧ (d : Int) = r.num - r.low) ∧ Fr [] w w' := by
  refine F39ok ?_
  unfold F39
  have hz2 : [Value.int IntKind.u64 0, Value.int IntKind.u64 0] = lfV 0 0 := rfl
  obtain ⟨W, hW⟩ : ∃ W, W = nw (nw w (rcV r (.slice a r.list.length c)) 25) (lfV 0 0) 88 := ⟨_, rfl⟩
  have fW : Fr [] w W := by rw [hW]; exact ((Fr.refl [] w).nw _ _).nw _ _
  have hs : sz W = sz w + 2 := by rw [hW]; simp [sz_nw]
  have m1 : mm W (sz w) = rcV r (.slice a r.list.length c) := by rw [hW]; simp [mm_nw, sz_nw]
  have m2 : mm W (sz w + 1) = lfV 0 0 := by rw [hW]; simp [mm_nw, sz_nw]
  have z2 : fz W (sz w + 1) = false := by rw [hW]; simp [fz_nw, sz_nw]
  have fin : ∀ u d : Nat, ∃ W3, W3 = wr W (sz w + 1) (lfV u d) ∧ mm W3 (sz w + 1) = lfV u d ∧ Fr [] w W3 := fun u d => ⟨_, rfl, mm_wr_same z2 _, fW.wr (.inr (by omega)) _⟩
  have len2 : ∀ u d, (lfV u d).length = 2 := fun _ _ => rfl
  have one : ∀ u d, (∀ v, v ∈ lfV u d → v.oneCell' = true) = True := fun u d => by
    simp only [eq_iff_iff, iff_true, lfV, List.mem_cons, List.not_mem_nil, or_false]
    rintro v (rfl | rfl) <;> rfl
  have hsp : ∀ u d, splice (lfV 0 0) 0 (lfV u d) = lfV u d := fun _ _ => splice_full rfl
  have t2 : ∀ u d, (lfV u d).take 2 = lfV u d := fun _ _ => rfl
  have hset : ∀ u d : Nat, ((lfV 0 0).set 0 (u64 u)).set 1 (u64 d) = lfV u d := fun _ _ => rfl
  have hset1 : ∀ u : Nat, (lfV 0 0).set 0 (u64 u) = lfV u 0 := fun _ => rfl
  by_cases h3 : r.kind = 3
  · obtain ⟨n1, e1, b1⟩ := wrapu_nat r.num
    obtain ⟨n2, e2, b2⟩ := wrapu_nat (9223372036854775807 - (n1 : Int))
    obtain ⟨n3, e3, b3⟩ := wrapu_nat ((n1 : Int) - 9223372036854775808)
    obtain ⟨W3, hW3, q3, f3⟩ := fin n2 n3
    try simp (maxDischargeDepth := 8) [↓sC, sB, sM, rcC, hz2, ← hW, m1, m2, z2, h3, e1, e2, e3, hset, len2, one, hsp, ← hW3, q3, t2]
    exact ⟨n2, n3, rfl, b2, b3, f3⟩
  by_cases h4 : r.kind = 4
  · obtain ⟨n2, e2, b2⟩ := wrapu_nat (IntKind.i64.wrap (r.high - r.num))
    obtain ⟨n3, e3, b3⟩ := wrapu_nat (IntKind.i64.wrap (r.num - r.low))
    obtain ⟨W3, hW3, q3, f3⟩ := fin n2 n3
    try simp (maxDischargeDepth := 8) [↓sC, sB, sM, rcC, hz2, ← hW, m1, m2, z2, h4, e2, e3, hset, len2, one, hsp, ← hW3, q3, t2]
    refine ⟨n2, n3, rfl, b2, b3, fun hok => ?_, f3⟩
    obtain ⟨q1, q2, q3', q4⟩ := hok.bounds h4
    unfold MP at q1 q2
    rw [wrap64 (by omega) (by omega), wrap_kind (by omega) (by omega)] at e2 e3
    exact ⟨e2.symm, e3.symm⟩
  by_cases h8 : r.kind = 8
  · obtain ⟨n2, e2, b2⟩ := wrapu_nat (IntKind.i64.wrap (r.cap - (r.list.length : Int)))
    obtain ⟨W3, hW3, q3, f3⟩ := fin n2 0
    try simp (maxDischargeDepth := 8) [↓sC, sB, sM, rcC, hz2, ← hW, m1, m2, z2, h8, e2, hset1, len2, one, hsp, ← hW3, q3, t2]
    exact ⟨n2, 0, rfl, b2, by unfold H63; omega, f3⟩
  · obtain ⟨W3, hW3, q3, f3⟩ := fin 0 0
    try simp (maxDischargeDepth := 8) [↓sC, sB, sM, rcC, hz2, ← hW, m1, m2, z2, h3, h4, h8, len2, one, hsp, ← hW3, q3, t2]
    exact ⟨0, 0, rfl, by unfold H63; omega, by unfold H63; omega, f3⟩
end Go.Proofs.YtieejbkbdfccdaaDoor

set_option linter.unusedVariables false
set_option linter.unusedSimpArgs false
namespace Go.Proofs.YtieejbkbdfccdaaDoor
open Go

def esV (r : RecP) (lv sv : Value) : List Value := rcV r lv ++ [sv]
@[simp] theorem eslen {r : RecP} {lv sv : Value} : (esV r lv sv).length = 9 := rfl
@[simp] theorem esg8 {r : RecP} {lv sv : Value} : gt (esV r lv sv) 8 = sv := rfl
theorem fOk86 : fieldsOk P 86 = true := by kernel_rfl
theorem bf86_rec {w : World} {r : RecP} {l : Option Addr} {n c : Nat} : pBuild P 86 [(0, .agg (rcV r (.slice l n c)).toArray)] w = some (.agg (esV r (.slice l n c) (.slice none 0 0)).toArray, w) := by
  rw [pBuild_struct hasZero86 fOk86 (fun p hp => ?_)]
  · have e0 : offF P 86 0 = 0 := by kernel_rfl
    rw [zeroL86]
    simp only [List.foldl_cons, List.foldl_nil, e0]
    rfl
  · simp only [List.mem_cons, List.not_mem_nil, or_false] at hp
    subst hp
    exact ⟨0, 25, by kernel_rfl, by rw [cellsOf25]; rfl, by rw [zeroL86, cellsOf25]; decide⟩
structure Lf where
  up : Nat
  down : Nat
def lfC (x : Lf) : List Value := lfV x.up x.down
theorem lfC_len : ∀ (L : List Lf), ∀ p ∈ L, (lfC p).length = 2 := fun _ _ _ => rfl
theorem lfC_one (x : Lf) : ∀ v ∈ lfC x, v.oneCell' = true := by
  simp only [lfC, lfV, List.mem_cons, List.not_mem_nil, or_false]
  rintro v (rfl | rfl) <;> rfl
def partsL (up down n j : Nat) : List Lf := (List.range j).map fun i => ⟨partN up i n, partN down i n⟩
theorem partsL_succ (up down n j : Nat) : partsL up down n (j + 1) = partsL up down n j ++ [⟨partN up j n, partN down j n⟩] := by
  unfold partsL; rw [List.range_succ, List.map_append]; rfl
def NewI (w0 : World) (s1 b q : Nat) (r : RecP) (lv : Value) (up down n : Nat) (m : Nat) (e : Env) (w' : World) : Prop :=
  ∃ (j : Nat) (sv : Value), m = n - j ∧ j ≤ n ∧ mm w' b = esV r lv sv ∧ fz w' b = false ∧ mm w' q = lfV up down ∧ w'.ownsRow s1 88 2 sv j (flat lfC (partsL up down n j)) ∧ s1 ≤ sz w' ∧ Fr [] w0 w' ∧
    e 9 = pt b 0 ∧ e 10 = pt q 0 ∧ e 41 = i64 j ∧ e 40 = i64 n ∧ e 1 = i64 n
theorem new_step {w0 : World} {s1 b q : Nat} {r : RecP} {l : Option Addr} {nl cl : Nat} {up down n : Nat} (hb0 : sz w0 ≤ b) (hbq : b < q) (hq1 : q < s1) (hn : 0 < n) (hn8 : n ≤ 8) (hup : up < 2 * H63) (hdn : down < 2 * H63) {j : Nat} {e : Env} {w1 : World} (hj : j < n)
    (hI : NewI w0 s1 b q r (.slice l nl cl) up down n (n - j) e w1) {K : KT} (hK : ∀ e' w'', NewI w0 s1 b q r (.slice l nl cl) up down n (n - (j + 1)) e' w'' → K .normal e' w'') : F17B0 e w1 K := by
  obtain ⟨j', sv, hmj, hj', hm, hz, hmq, hown, hs1, hf, e9, e10, e41, e40, e1⟩ := hI
  obtain rfl : j = j' := by omega
  unfold F17B0
  have hji : (j : Int) < n := by omega
  have hwj : IntKind.i64.wrap ((j : Int) + 1) = ((j + 1 : Nat) : Int) := wrap64 (by omega) (by omega)
  have g0 : ∀ u d, gt (lfV u d) 0 = u64 u := fun _ _ => rfl
  have g1 : ∀ u d, gt (lfV u d) 1 = u64 d := fun _ _ => rfl
  have ln2 : ∀ u d, (lfV u d).length = 2 := fun _ _ => rfl
  try simp (maxDischargeDepth := 8) [↓sC, sB, sM, e9, e10, e41, e40, e1, hji, hj, hm, hmq, g0, g1, ln2]
  refine (part_spec hn hn8 hj hup).call ?_
  rintro _ _ ⟨rfl, rfl⟩
  try simp (maxDischargeDepth := 8) [↓sC, sB, sM, e9, e10, e41, e40, e1, hm, hmq, g0, g1, ln2]
  refine (part_spec hn hn8 hj hdn).call ?_
  rintro _ _ ⟨rfl, rfl⟩
  try simp (maxDischargeDepth := 8) [↓sC, sB, sM, e9, e10, e41, e40, e1, hm, hmq, g0, g1, ln2]
  obtain ⟨W2, hW2⟩ : ∃ W2, W2 = nw (drew w1) (lfC ⟨partN up j n, partN down j n⟩) 88 := ⟨_, rfl⟩
  have hl2 : [u64 (partN up j n), u64 (partN down j n)] = lfC ⟨partN up j n, partN down j n⟩ := rfl
  have f2 : Fr [] w1 W2 := by rw [hW2]; exact (Fr.refl [] w1).drew.nw _ _
  have hs2 : sz W2 = sz w1 + 1 := by rw [hW2, sz_nw, sz_drew]
  have m2 : mm W2 b = esV r (.slice l nl cl) sv := by rw [f2.mm (by omega) (by simp), hm]
  have hrd : RdV W2 (sl (sz w1) 0 1 1) 1 (lfC ⟨partN up j n, partN down j n⟩) := by
    rw [hW2]
    have := rd_new (drew w1) (lfC ⟨partN up j n, partN down j n⟩) 88 (n := 1) (by unfold maxLen; omega)
    rw [sz_drew] at this
    exact this
  obtain ⟨v', w3, hrun, hown', hg, hv'⟩ := append_own2 (P := P) (t := 84) (ty := 84) s1 sliceE84 hasZero88 cellsOf88 (by rw [zeroL88]; rfl) (by omega) (own_fr hown f2 (by simp)) (by omega) hrd rfl (lfC_one _) (by unfold maxLen; omega) (by rw [bytesOf88]; omega)
  have f3 := Fr.of_grown hg
  have hbn : b ∉ sv.ownBlock.toList := fun h => by have := (hown.lt b (by simpa using h)).1; omega
  have hqn : q ∉ sv.ownBlock.toList := fun h => by have := (hown.lt q (by simpa using h)).1; omega
  have m3 : mm w3 b = esV r (.slice l nl cl) sv := by rw [f3.mm (by omega) hbn, m2]
  have z3 : fz w3 b = false := by rw [f3.fz (by omega) hbn, f2.fz (by omega) (by simp), hz]
  have q3 : mm w3 q = lfV up down := by rw [f3.mm (by omega) hqn, f2.mm (by omega) (by simp), hmq]
  have hset : (esV r (.slice l nl cl) sv).set 8 v' = esV r (.slice l nl cl) v' := rfl
  have hv1 : v'.oneCell' = true := by obtain ⟨a, c, rfl⟩ := own_val hown'; rfl
  have hs3 := f3.size
  have hf3 : Fr [] w0 w3 := (hf.trans0 f2).trans f3 (fun k hk => .inr (by have := (hown.lt k (by simpa using hk)).1; have := hf.size; omega))
  rw [hl2, ← hW2]
  try simp (maxDischargeDepth := 8) [↓sC, sB, sM, m2, hrun, m3, z3, hv1, hset, hwj, e41, -Int.natCast_add]
  refine hK _ _ ⟨j + 1, v', rfl, by omega, mm_wr_same z3 _, by rw [fz_wr, z3], by rw [mm_wr_ne (by omega), q3], ?_, by rw [sz_wr]; omega, hf3.wr (.inr hb0) _, by simp [put_get, e9], by simp [put_get, e10], by simp [put_get], by simp [put_get, e40], by simp [put_get, e1]⟩
  rw [partsL_succ, flat_append, flat_one]
  refine own_fr hown' ((Fr.refl [b] w3).wr (.inl (by simp)) _) (fun k hk hkb => ?_)
  have := (hown'.lt k hk).1
  simp at hkb; omega
end Go.Proofs.YtieejbkbdfccdaaDoor

set_option linter.unusedVariables false
set_option linter.unusedSimpArgs false
namespace Go.Proofs.YtieejbkbdfccdaaDoor
open Go

def EscOk (w0 w : World) (b : Nat) (r : RecP) (Ls : List Lf) : Prop :=
  ∃ (l : Option Addr) (nl cl : Nat) (sv : Value) (s1 : Nat), mm w b = esV r (.slice l nl cl) sv ∧ fz w b = false ∧ w.ownsRow s1 88 2 sv Ls.length (flat lfC Ls) ∧ b < s1 ∧ sz w0 ≤ b ∧ s1 ≤ sz w
theorem list_small {r : RecP} (hk : RecOk r) : r.list.length ≤ 32 := by
  by_cases h8 : 8 ≤ r.kind
  · obtain ⟨_, _, q3, _⟩ := hk.cap h8
    obtain ⟨_, q2, _⟩ := hk.cap h8
    omega
  · have h1 := hk.k1
    rcases five_kinds hk.k1 hk.k9 hk.only with ⟨_, _, _, _, _, _, _, h⟩ | ⟨_, _, _, _, _, _, _, h⟩ | ⟨_, _, _, _, _, h⟩ | ⟨_, _, _, _, _, _, _, h⟩ | ⟨h, _⟩
    all_goals first | (rw [h]; simp) | omega
set_option maxHeartbeats 4000000 in
set_option maxRecDepth 20000 in
theorem new_spec {w : World} {r : RecP} {a : Option Addr} {c : Nat} {n : Int} (hr : IsRec w (.slice a r.list.length c) r) :
    Ret P 17 #[.agg (rcV r (.slice a r.list.length c)).toArray, i64 n] w fun v w' => Fr [] w w' ∧ ((∃ k : Int, k ≠ 0 ∧ v = .tuple #[.pointer none, i64 k]) ∨
      (RecOk r ∧ 1 ≤ n ∧ n ≤ 8 ∧ ∃ b, v = .tuple #[pt b 0, i64 0] ∧ (r.kind = 4 → EscOk w w' b r (partsL (r.high - r.num).toNat (r.num - r.low).toNat n.toNat n.toNat)))) := by
  refine F17ok ?_
  unfold F17
  obtain ⟨W, hW⟩ : ∃ W, W = nw w (rcV r (.slice a r.list.length c)) 25 := ⟨_, rfl⟩
  have fW : Fr [] w W := by rw [hW]; exact (Fr.refl [] w).nw _ _
  have hm : mm W (sz w) = rcV r (.slice a r.list.length c) := by rw [hW]; simp [mm_nw]
  have hsW : sz w < sz W := by rw [hW, sz_nw]; omega
  have t8 : ∀ r lv, (rcV r lv).take 8 = rcV r lv := fun _ _ => rfl
  try simp (maxDischargeDepth := 8) [↓sC, sB, sM, rcC, ← hW, hm]
  rcases (Decidable.em (1 ≤ n)).symm with n1 | n1
  · have n1i : n < 1 := by omega
    try simp (maxDischargeDepth := 8) [↓sC, sB, sM, n1i]
    exact fW
  have n1i : ¬ n < 1 := by omega
  rcases (Decidable.em (n ≤ 8)).symm with n8 | n8
  · have n8i : 8 < n := by omega
    try simp (maxDischargeDepth := 8) [↓sC, sB, sM, n1i, n8i]
    exact fW
  have n8i : ¬ 8 < n := by omega
  try simp (maxDischargeDepth := 8) [↓sC, sB, sM, n1i, n8i, hm, t8]
  refine (recCheckAny_spec (hr.fr0 fW)).call ?_
  rintro _ w1 ⟨k, rfl, hk, f1⟩
  have g1 := fW.trans0 f1
  rcases (Decidable.em (k = 0)).symm with k0 | k0
  · try simp (maxDischargeDepth := 8) [↓sC, sB, sM, k0]
    exact g1
  have hok := hk k0
  have hs1 := f1.lt hsW
  have m1 : mm w1 (sz w) = rcV r (.slice a r.list.length c) := by rw [f1.mm hsW (by simp), hm]
  try simp (maxDischargeDepth := 8) [↓sC, sB, sM, k0, m1, t8]
  refine (slice_spec (hr.fr0 g1) hok).call ?_
  rintro _ w2 ⟨rr, bb, rfl, h4, f2⟩
  have g2 := g1.trans0 f2
  have hz8 : [Value.int IntKind.i64 0, Value.int IntKind.i64 0, Value.int IntKind.i64 0, Value.int IntKind.i64 0, Value.float FloatKind.f64 0, Value.int IntKind.i64 0, Value.string ByteArray.empty, Value.slice none 0 0] = rcV rz (.slice none 0 0) := rfl
  obtain ⟨W3, hW3⟩ : ∃ W3, W3 = wr (nw w2 (rcV rz (.slice none 0 0)) 25) (sz w2) (rcV rr (.slice none 0 0)) := ⟨_, rfl⟩
  have f3 : Fr [] w2 W3 := by rw [hW3]; exact ((Fr.refl [] w2).nw _ _).wr (.inr (Nat.le_refl _)) _
  have hsp : splice (rcV rz (.slice none 0 0)) 0 (rcV rr (.slice none 0 0)) = rcV rr (.slice none 0 0) := splice_full rfl
  have one : (∀ v, v ∈ rcV rr (.slice none 0 0) → v.oneCell' = true) = True := rcV_oneT (r := rr)
  have g3 := g2.trans0 f3
  have m3 : mm W3 (sz w) = rcV r (.slice a r.list.length c) := by rw [(f2.trans0 f3).mm hs1 (by simp), m1]
  have hs3 := (f2.trans0 f3).lt hs1
  try simp (maxDischargeDepth := 8) [↓sC, sB, sM, hz8, hsp, one, ← hW3]
  cases bb
  · try simp (maxDischargeDepth := 8) [↓sC, sB, sM]
    exact g3
  try simp (maxDischargeDepth := 8) [↓sC, sB, sM, m3, t8]
  have hl32 := list_small hok
  refine (recClone_spec (hr.fr0 g3) (by omega)).call ?_
  rintro _ w4 ⟨l', c', rfl, hr4, f4⟩
  have g4 := g3.trans0 f4
  obtain ⟨W5, hW5⟩ : ∃ W5, W5 = nw w4 (esV r (.slice l' r.list.length c') (.slice none 0 0)) 86 := ⟨_, rfl⟩
  have f5 : Fr [] w4 W5 := by rw [hW5]; exact (Fr.refl [] w4).nw _ _
  have esC : (Value.agg (esV r (.slice l' r.list.length c') (.slice none 0 0)).toArray).cells.toList = esV r (.slice l' r.list.length c') (.slice none 0 0) := rfl
  have m5 : mm W5 (sz w) = rcV r (.slice a r.list.length c) := by rw [(f4.trans0 f5).mm hs3 (by simp), m3]
  have b5 : mm W5 (sz w4) = esV r (.slice l' r.list.length c') (.slice none 0 0) := by rw [hW5]; simp [mm_nw]
  have z5 : fz W5 (sz w4) = false := by rw [hW5]; simp [fz_nw]
  have s5 : sz W5 = sz w4 + 1 := by rw [hW5, sz_nw]
  have g5 := g4.trans0 f5
  try simp (maxDischargeDepth := 8) [↓sC, sB, sM, bf86_rec, esC, ← hW5, m5, t8]
  refine (room_spec (hr.fr0 g5)).call ?_
  rintro _ w6 ⟨u, d, bb, rfl, hu, hd, h4r, f6⟩
  have g6 := g5.trans0 f6
  have hs6 := f6.size
  have hz2 : [Value.int IntKind.u64 0, Value.int IntKind.u64 0] = lfV 0 0 := rfl
  obtain ⟨W7, hW7⟩ : ∃ W7, W7 = wr (nw w6 (lfV 0 0) 88) (sz w6) (lfV u d) := ⟨_, rfl⟩
  have f7 : Fr [] w6 W7 := by rw [hW7]; exact ((Fr.refl [] w6).nw _ _).wr (.inr (Nat.le_refl _)) _
  have l2 : ∀ u d, (lfV u d).length = 2 := fun _ _ => rfl
  have one2 : (∀ v, v ∈ lfV u d → v.oneCell' = true) = True := by simp only [eq_iff_iff, iff_true]; exact lfC_one ⟨u, d⟩
  have hsp2 : splice (lfV 0 0) 0 (lfV u d) = lfV u d := splice_full rfl
  have q7 : mm W7 (sz w6) = lfV u d := by rw [hW7]; exact mm_wr_same (by simp [fz_nw]) _
  have b7 : mm W7 (sz w4) = esV r (.slice l' r.list.length c') (.slice none 0 0) := by rw [(f6.trans0 f7).mm (by omega) (by simp), b5]
  have z7 : fz W7 (sz w4) = false := by rw [(f6.trans0 f7).fz (by omega) (by simp), z5]
  have s7 : sz W7 = sz w6 + 1 := by rw [hW7, sz_wr, sz_nw]
  have g7 := g6.trans0 f7
  have hg4 := g4.size
  obtain ⟨m, rfl⟩ : ∃ m : Nat, n = m := ⟨n.toNat, by omega⟩
  try simp (maxDischargeDepth := 8) [↓sC, sB, sM, hz2, l2, one2, hsp2, ← hW7]
  refine loopE_of (NewI w (sz W7) (sz w4) (sz w6) r (.slice l' r.list.length c') u d m) m ⟨0, .slice none 0 0, by omega, by omega, b7, z7, q7, World.ownsRow_nil _ _ _ _, Nat.le_refl _, g7, by simp [put_get], by simp [put_get], by simp [put_get], by simp [put_get, argE_get], by simp [put_get, argE_get]⟩ ?_
  rintro mx e w8 hI
  obtain ⟨j, sv, rfl, hj, q1, q2, q3, q4, q5, q6, e9, e10, e41, e40, e1⟩ := id hI
  by_cases hjl : j < m
  · exact new_step (by omega) (by omega) (by omega) (by omega) (by omega) hu hd hjl hI fun e' w'' hK => ⟨m - (j + 1), by omega, hK⟩
  have : j = m := by omega
  subst this
  unfold F17B0
  try simp (maxDischargeDepth := 8) [↓sC, sB, sM, e41, e40, e9]
  refine ⟨q6, hok, by omega, by omega, fun h4k => ?_⟩
  obtain ⟨hu1, hd1⟩ := h4r h4k hok
  have eu : (r.high - r.num).toNat = u := by omega
  have ed : (r.num - r.low).toNat = d := by omega
  have hpl : (partsL u d j j).length = j := by simp [partsL]
  rw [eu, ed]
  exact ⟨l', _, c', sv, sz W7, q1, q2, by rw [hpl]; exact q4, by omega, by omega, q5⟩
end Go.Proofs.YtieejbkbdfccdaaDoor

set_option linter.unusedVariables false
set_option linter.unusedSimpArgs false
namespace Go.Proofs.YtieejbkbdfccdaaDoor
open Go

theorem left_spec {w0 w : World} {b : Nat} {r : RecP} {Ls : List Lf} (h : EscOk w0 w b r Ls) {i : Nat} {x : Lf} (hx : Ls[i]? = some x) (hn : Ls.length ≤ 8) : Ret P 21 #[pt b 0, i64 i] w fun v w' => v = .tuple #[u64 x.up, u64 x.down] ∧ Fr [] w w' := by
  refine F21ok ?_
  unfold F21
  obtain ⟨l, nl, cl, sv, s1, hm, hz, hown, hb1, hb0, hs1⟩ := h
  have hi : i < Ls.length := (List.getElem?_eq_some_iff.1 hx).1
  obtain ⟨sa, sc, rfl⟩ := own_val hown
  obtain ⟨lb, o, c', hv, hlb, hin, htk⟩ := flat_at (own_rd hown) (lfC_len Ls) (by omega) hx
  simp only [Value.slice.injEq] at hv
  obtain ⟨rfl, _, rfl⟩ := hv
  have hi0 : ¬ (i : Int) < 0 := by omega
  have hi1 : (i : Int) < Ls.length := by omega
  have hi2 : ¬ (Ls.length : Int) ≤ i := by omega
  have hi3 : ¬ Ls.length ≤ i := by omega
  have g0 : gt (mm w lb) (o + i * 2 + 0) = u64 x.up := by rw [cell_of htk (by omega)]; rfl
  have g1 : gt (mm w lb) (o + i * 2 + 1) = u64 x.down := by rw [cell_of htk (by omega)]; rfl
  have k0 : o + i * 2 + 0 < (mm w lb).length := by omega
  have k1 : o + i * 2 + 1 < (mm w lb).length := by omega
  simp only [Nat.add_zero] at g0 k0
  try simp (maxDischargeDepth := 8) [↓sC, sB, sM, hm, hi0, hi1, hi2, hi3, hi, g0, g1, k0, k1]
def costM (a : ActP) : Lf := if a.kind = 10 then ⟨a.n.toNat, 0⟩ else ⟨0, a.n.toNat⟩
theorem cost_spec {w : World} {b : Nat} {r : RecP} {lv sv : Value} (hm : mm w b = esV r lv sv) {a : ActP} {la : Option Addr} {c : Nat} (hok : ActOk a) (hk : a.kind = 10 ∨ a.kind = 11) :
    Ret P 43 #[pt b 0, .agg (acV a (.slice la a.make.list.length c)).toArray] w fun v w' => v = .agg (lfC (costM a)).toArray ∧ Fr [] w w' := by
  refine F43ok ?_
  unfold F43
  have hz2 : [Value.int IntKind.u64 0, Value.int IntKind.u64 0] = lfV 0 0 := rfl
  obtain ⟨hn0, hn1⟩ := hok.amount hk
  unfold MP at hn1
  have hw := wrap_kind hn0 (by omega)
  have hcast : Value.int .u64 a.n = u64 a.n.toNat := by show Value.int .u64 a.n = Value.int .u64 ((a.n.toNat : Nat) : Int); congr 1; omega
  obtain ⟨W, hW⟩ : ∃ W, W = nw (nw w (acV a (.slice la a.make.list.length c)) 27) (lfV 0 0) 88 := ⟨_, rfl⟩
  have fW : Fr [] w W := by rw [hW]; exact ((Fr.refl [] w).nw _ _).nw _ _
  have hs : sz W = sz w + 2 := by rw [hW]; simp [sz_nw]
  have m1 : mm W (sz w) = acV a (.slice la a.make.list.length c) := by rw [hW]; simp [mm_nw, sz_nw]
  have m2 : mm W (sz w + 1) = lfV 0 0 := by rw [hW]; simp [mm_nw, sz_nw]
  have z2 : fz W (sz w + 1) = false := by rw [hW]; simp [fz_nw, sz_nw]
  have l2 : ∀ u d, (lfV u d).length = 2 := fun _ _ => rfl
  have one : ∀ u d, (∀ v, v ∈ lfV u d → v.oneCell' = true) = True := fun u d => by simp only [eq_iff_iff, iff_true]; exact lfC_one ⟨u, d⟩
  have hsp : ∀ u d, splice (lfV 0 0) 0 (lfV u d) = lfV u d := fun _ _ => splice_full rfl
  have t2 : ∀ u d, (lfV u d).take 2 = lfV u d := fun _ _ => rfl
  have s0 : (lfV 0 0).set 0 (u64 a.n.toNat) = lfV a.n.toNat 0 := rfl
  have s1 : (lfV 0 0).set 1 (u64 a.n.toNat) = lfV 0 a.n.toNat := rfl
  rw [← hcast] at s0 s1
  rcases hk with hk | hk
  · have hc : costM a = ⟨a.n.toNat, 0⟩ := by simp [costM, hk]
    have hc2 : lfC ⟨a.n.toNat, 0⟩ = lfV a.n.toNat 0 := rfl
    obtain ⟨W3, hW3⟩ : ∃ W3, W3 = wr W (sz w + 1) (lfV a.n.toNat 0) := ⟨_, rfl⟩
    have q3 : mm W3 (sz w + 1) = lfV a.n.toNat 0 := by rw [hW3]; exact mm_wr_same z2 _
    have f3 : Fr [] w W3 := by rw [hW3]; exact fW.wr (.inr (by omega)) _
    rw [hc, hc2]
    try simp (maxDischargeDepth := 8) [↓sC, sB, sM, acC, hz2, ← hW, m1, m2, z2, hk, hw, s0, l2, one, hsp, ← hW3, q3, t2]
    exact f3
  · have hc : costM a = ⟨0, a.n.toNat⟩ := by simp [costM, hk]
    have hc2 : lfC ⟨0, a.n.toNat⟩ = lfV 0 a.n.toNat := rfl
    obtain ⟨W3, hW3⟩ : ∃ W3, W3 = wr W (sz w + 1) (lfV 0 a.n.toNat) := ⟨_, rfl⟩
    have q3 : mm W3 (sz w + 1) = lfV 0 a.n.toNat := by rw [hW3]; exact mm_wr_same z2 _
    have f3 : Fr [] w W3 := by rw [hW3]; exact fW.wr (.inr (by omega)) _
    rw [hc, hc2]
    try simp (maxDischargeDepth := 8) [↓sC, sB, sM, acC, hz2, ← hW, m1, m2, z2, hk, hw, s1, l2, one, hsp, ← hW3, q3, t2]
    exact f3
end Go.Proofs.YtieejbkbdfccdaaDoor

set_option linter.unusedVariables false
set_option linter.unusedSimpArgs false
namespace Go.Proofs.YtieejbkbdfccdaaDoor
open Go

structure PR where
  rec' : RecP
  l : Option Addr
  n : Nat
  c : Nat
def prC (p : PR) : List Value := rcV p.rec' (.slice p.l p.n p.c)
theorem prC_len : ∀ (L : List PR), ∀ p ∈ L, (prC p).length = 8 := fun _ _ _ => rfl
@[simp] theorem prlen {p : PR} : (prC p).length = 8 := rfl
@[simp] theorem prg1 {p : PR} : gt (prC p) 1 = i64 p.rec'.num := rfl
theorem prC_oneT {p : PR} : (∀ v, v ∈ prC p → v.oneCell' = true) = True := rcV_oneT (r := p.rec')
def mergeN : Int → List PR → Int
  | n, [] => n
  | n, p :: L => mergeN (IntKind.i64.wrap (n + p.rec'.num)) L
theorem mergeN_snoc : ∀ (n : Int) (L : List PR) (p : PR), mergeN n (L ++ [p]) = IntKind.i64.wrap (mergeN n L + p.rec'.num)
  | n, [], p => rfl
  | n, q :: L, p => mergeN_snoc _ L p
def withN (r : RecP) (n : Int) : RecP := { r with num := n }
def MgI (w0 : World) (b q : Nat) (r : RecP) (lv pv : Value) (L : List PR) (m : Nat) (e : Env) (w' : World) : Prop :=
  ∃ j : Nat, m = L.length - j ∧ j ≤ L.length ∧ mm w' b = rcV (withN r (mergeN r.num (L.take j))) lv ∧ fz w' b = false ∧ e 2 = pt b 0 ∧ e 12 = pv ∧ e 13 = i64 L.length ∧ e 14 = i64 j ∧ RdV w' pv L.length (flat prC L) ∧ Fr [] w0 w' ∧ mm w' q = rcV rz (.slice none 0 0) ∧ fz w' q = false ∧ e 4 = pt q 0
theorem merge_step {w0 : World} {b q : Nat} (hqb : q ≠ b) {r : RecP} {l : Option Addr} {nl cl : Nat} {pa : Option Addr} {pc : Nat} {L : List PR} (hk : r.kind = 4) (hb0 : sz w0 ≤ b) (hpb : ∀ k, (Value.slice pa L.length pc).ownBlock = some k → k ≠ b) (hL : L.length ≤ 8) {j : Nat} {e : Env} {w1 : World} (hj : j < L.length)
    (hI : MgI w0 b q r (.slice l nl cl) (.slice pa L.length pc) L (L.length - j) e w1) {K : KT} (hK : ∀ e' w'', MgI w0 b q r (.slice l nl cl) (.slice pa L.length pc) L (L.length - (j + 1)) e' w'' → K .normal e' w'') : F22B0 e w1 K := by
  obtain ⟨j', hmj, hj', hm, hz, e2, e12, e13, e14, hrd, hf, hq1, hq2, e4⟩ := hI
  obtain rfl : j = j' := by omega
  unfold F22B0
  obtain ⟨x, hx⟩ : ∃ x, L[j]? = some x := ⟨_, List.getElem?_eq_getElem hj⟩
  obtain ⟨pb, o, pc', hv, hpb1, hin, htk⟩ := flat_at hrd (prC_len L) (by omega) hx
  simp only [Value.slice.injEq] at hv
  obtain ⟨rfl, _, rfl⟩ := hv
  have hji : (j : Int) < L.length := by omega
  have hwj : IntKind.i64.wrap ((j : Int) + 1) = ((j + 1 : Nat) : Int) := wrap64 (by omega) (by omega)
  have hz8 : [Value.int IntKind.i64 0, Value.int IntKind.i64 0, Value.int IntKind.i64 0, Value.int IntKind.i64 0, Value.float FloatKind.f64 0, Value.int IntKind.i64 0, Value.string ByteArray.empty, Value.slice none 0 0] = rcV rz (.slice none 0 0) := rfl
  obtain ⟨W2, hW2⟩ : ∃ W2, W2 = wr (nw w1 (rcV rz (.slice none 0 0)) 25) (sz w1) (prC x) := ⟨_, rfl⟩
  have f2 : Fr [] w1 W2 := by rw [hW2]; exact ((Fr.refl [] w1).nw _ _).wr (.inr (Nat.le_refl _)) _
  have hsp : splice (rcV rz (.slice none 0 0)) 0 (prC x) = prC x := splice_full rfl
  have hb := lt_of_fz hz
  have m2 : mm W2 b = rcV (withN r (mergeN r.num (L.take j))) (.slice l nl cl) := by rw [f2.mm hb (by simp), hm]
  have z2 : fz W2 b = false := by rw [f2.fz hb (by simp), hz]
  have x2 : mm W2 (sz w1) = prC x := by rw [hW2]; exact mm_wr_same (by simp [fz_nw]) _
  have hkk : (withN r (mergeN r.num (L.take j))).kind = 4 := hk
  have hnn : (withN r (mergeN r.num (L.take j))).num = mergeN r.num (L.take j) := rfl
  have hset : ∀ n, (rcV (withN r (mergeN r.num (L.take j))) (.slice l nl cl)).set 1 (i64 n) = rcV (withN r n) (.slice l nl cl) := fun _ => rfl
  try simp (maxDischargeDepth := 8) [↓sC, sB, sM, e2, e12, e13, e14, hji, hj, hin, htk, hz8, hsp, prC_oneT, ← hW2, m2, z2, x2, hkk, hnn, hset, hwj, -Int.natCast_add]
  have hsn : mergeN r.num (L.take (j + 1)) = IntKind.i64.wrap (mergeN r.num (L.take j) + x.rec'.num) := by
    rw [List.take_add_one, hx]; exact mergeN_snoc _ _ _
  have fb : Fr [b] w1 (wr W2 b (rcV (withN r (IntKind.i64.wrap (mergeN r.num (L.take j) + x.rec'.num))) (.slice l nl cl))) := (f2.mono (by simp)).wr (.inl (by simp)) _
  exact hK _ _ ⟨j + 1, rfl, by omega, by rw [hsn]; exact mm_wr_same z2 _, by rw [fz_wr, z2], by simp [put_get, e2], by simp [put_get, e12], by simp [put_get, e13], by simp [put_get], hrd.fr fb (fun k hk hkb => by have := hpb k hk; simp at hkb; omega), hf.trans fb (fun k hk => .inr (by simp at hk; omega)), by rw [mm_wr_ne hqb, f2.mm (lt_of_fz hq2) (by simp), hq1], by rw [fz_wr, f2.fz (lt_of_fz hq2) (by simp), hq2], by simp [put_get, e4]⟩
set_option maxHeartbeats 2000000 in
theorem merge_spec {w : World} {r : RecP} {a : Option Addr} {c : Nat} {pa : Option Addr} {pc : Nat} {L : List PR} (hr : IsRec w (.slice a r.list.length c) r) (hk : r.kind = 4) (hl : r.list.length ≤ 1000000) (hL : L.length ≤ 8) (hL0 : 0 < L.length) (hp : RdV w (.slice pa L.length pc) L.length (flat prC L)) :
    Ret P 22 #[.agg (rcV r (.slice a r.list.length c)).toArray, .slice pa L.length pc] w fun v w' => ∃ l' c', v = .agg (rcV (withN r (mergeN r.num L)) (.slice l' r.list.length c')).toArray ∧ Fr [] w w' := by
  refine F22ok ?_
  unfold F22
  have hz8 : [Value.int IntKind.i64 0, Value.int IntKind.i64 0, Value.int IntKind.i64 0, Value.int IntKind.i64 0, Value.float FloatKind.f64 0, Value.int IntKind.i64 0, Value.string ByteArray.empty, Value.slice none 0 0] = rcV rz (.slice none 0 0) := rfl
  obtain ⟨W, hW⟩ : ∃ W, W = nw (nw w (rcV r (.slice a r.list.length c)) 25) (rcV rz (.slice none 0 0)) 25 := ⟨_, rfl⟩
  have fW : Fr [] w W := by rw [hW]; exact ((Fr.refl [] w).nw _ _).nw _ _
  have hs : sz W = sz w + 2 := by rw [hW]; simp [sz_nw]
  have m1 : mm W (sz w) = rcV r (.slice a r.list.length c) := by rw [hW]; simp [mm_nw, sz_nw]
  have z1 : fz W (sz w) = false := by rw [hW]; simp [fz_nw, sz_nw]
  have m2 : mm W (sz w + 1) = rcV rz (.slice none 0 0) := by rw [hW]; simp [mm_nw, sz_nw]
  have z2 : fz W (sz w + 1) = false := by rw [hW]; simp [fz_nw, sz_nw]
  have t8 : ∀ r lv, (rcV r lv).take 8 = rcV r lv := fun _ _ => rfl
  try simp (maxDischargeDepth := 8) [↓sC, sB, sM, rcC, hz8, ← hW, m1, t8]
  refine (recClone_spec (hr.fr0 fW) hl).call ?_
  rintro _ w1 ⟨l', c', rfl, hr1, f1⟩
  have hs1 := f1.size
  have n1 : mm w1 (sz w) = rcV r (.slice a r.list.length c) := by rw [f1.mm (by omega) (by simp), m1]
  have y1 : fz w1 (sz w) = false := by rw [f1.fz (by omega) (by simp), z1]
  have n2 : mm w1 (sz w + 1) = rcV rz (.slice none 0 0) := by rw [f1.mm (by omega) (by simp), m2]
  have y2 : fz w1 (sz w + 1) = false := by rw [f1.fz (by omega) (by simp), z2]
  obtain ⟨W2, hW2⟩ : ∃ W2, W2 = wr w1 (sz w) (rcV r (.slice l' r.list.length c')) := ⟨_, rfl⟩
  have hsp : ∀ v, splice (rcV r v) 0 (rcV r (.slice l' r.list.length c')) = rcV r (.slice l' r.list.length c') := fun _ => splice_full rfl
  have q1 : mm W2 (sz w) = rcV r (.slice l' r.list.length c') := by rw [hW2]; exact mm_wr_same y1 _
  have q2 : fz W2 (sz w) = false := by rw [hW2, fz_wr, y1]
  have q3 : mm W2 (sz w + 1) = rcV rz (.slice none 0 0) := by rw [hW2, mm_wr_ne (by omega), n2]
  have q4 : fz W2 (sz w + 1) = false := by rw [hW2, fz_wr, y2]
  have fb : Fr [sz w] w1 W2 := by rw [hW2]; exact (Fr.refl _ w1).wr (.inl (by simp)) _
  have g2 : Fr [] w W2 := (fW.trans0 f1).trans fb (fun k hk => .inr (by simp at hk; omega))
  have hpk : ∀ k, (Value.slice pa L.length pc).ownBlock = some k → k < sz w := fun k hk => rd_lt hp hL0 hk
  try simp (maxDischargeDepth := 8) [↓sC, sB, sM, n1, y1, hsp, rcV_oneT, ← hW2]
  refine loopE_of (MgI w (sz w) (sz w + 1) r (.slice l' r.list.length c') (.slice pa L.length pc) L) L.length ⟨0, by omega, by omega, q1, q2, by simp [put_get], by simp [put_get], by simp [put_get], by simp [put_get], hp.fr0 g2, g2, q3, q4, by simp [put_get]⟩ ?_
  rintro m e w3 hI
  obtain ⟨j, rfl, hj, i1, i2, e2, e12, e13, e14, i3, i4, i5, i6, e4⟩ := id hI
  by_cases hjl : j < L.length
  · exact merge_step (by omega) hk (Nat.le_refl _) (fun k hk => by have := hpk k hk; omega) hL hjl hI fun e' w'' hK => ⟨L.length - (j + 1), by omega, hK⟩
  have : j = L.length := by omega
  subst this
  unfold F22B0
  rw [List.take_length] at i1
  have hrz : splice (rcV rz (.slice none 0 0)) 0 (rcV (withN r (mergeN r.num L)) (.slice l' r.list.length c')) = rcV (withN r (mergeN r.num L)) (.slice l' r.list.length c') := splice_full rfl
  have one : (∀ v, v ∈ rcV (withN r (mergeN r.num L)) (.slice l' r.list.length c') → v.oneCell' = true) = True := rcV_oneT (r := withN r (mergeN r.num L))
  have len8 : (rcV (withN r (mergeN r.num L)) (.slice l' r.list.length c')).length = 8 := rfl
  obtain ⟨W4, hW4⟩ : ∃ W4, W4 = wr w3 (sz w + 1) (rcV (withN r (mergeN r.num L)) (.slice l' r.list.length c')) := ⟨_, rfl⟩
  have o4 : mm W4 (sz w + 1) = rcV (withN r (mergeN r.num L)) (.slice l' r.list.length c') := by rw [hW4]; exact mm_wr_same i6 _
  have f4 : Fr [] w W4 := by rw [hW4]; exact i4.wr (.inr (by omega)) _
  try simp (maxDischargeDepth := 8) [↓sC, sB, sM, e13, e14, e2, e4, i1, i5, i6, t8, hrz, one, len8, ← hW4, o4]
  exact ⟨⟨l', c', rfl⟩, f4⟩
end Go.Proofs.YtieejbkbdfccdaaDoor

set_option linter.unusedVariables false
namespace Go.Proofs.YtieejbkbdfccdaaDoor
open Go

section
variable {w : World} {b i o n c : Nat} {k : IntKind} {x j : Int} {v : Value} {a : Array Value} {lo hi : Option Value}

@[simp] theorem tyOk33 : tyOk P 33 = true := by kernel_rfl
@[simp] theorem isAggB33 : isAggB P 33 = false := by kernel_rfl
@[simp] theorem cellsOf33 : P.cellsOf 33 = 1 := by kernel_rfl
@[simp] theorem bytesOf33 : P.bytesOf 33 = 24 := by kernel_rfl
@[simp] theorem hasZero33 : hasZero P 33 = true := by kernel_rfl
@[simp] theorem zeroL33 : zeroL P 33 = [(Value.slice none 0 0)] := by kernel_rfl
@[simp] theorem sliceE33 : sliceE P 33 = some 37 := by kernel_rfl
@[simp] theorem tyOk34 : tyOk P 34 = true := by kernel_rfl
@[simp] theorem isAggB34 : isAggB P 34 = false := by kernel_rfl
@[simp] theorem cellsOf34 : P.cellsOf 34 = 1 := by kernel_rfl
@[simp] theorem bytesOf34 : P.bytesOf 34 = 24 := by kernel_rfl
@[simp] theorem hasZero34 : hasZero P 34 = true := by kernel_rfl
@[simp] theorem zeroL34 : zeroL P 34 = [(Value.slice none 0 0)] := by kernel_rfl
@[simp] theorem sliceE34 : sliceE P 34 = some 27 := by kernel_rfl
@[simp] theorem tyOk37 : tyOk P 37 = true := by kernel_rfl
@[simp] theorem isAggB37 : isAggB P 37 = true := by kernel_rfl
@[simp] theorem cellsOf37 : P.cellsOf 37 = 9 := by kernel_rfl
@[simp] theorem bytesOf37 : P.bytesOf 37 = 104 := by kernel_rfl
@[simp] theorem hasZero37 : hasZero P 37 = true := by kernel_rfl
@[simp] theorem zeroL37 : zeroL P 37 = [(Value.string ByteArray.empty), (Value.int IntKind.i64 0), (Value.int IntKind.i64 0), (Value.int IntKind.i64 0), (Value.int IntKind.i64 0), (Value.float FloatKind.f64 0), (Value.int IntKind.i64 0), (Value.string ByteArray.empty), (Value.slice none 0 0)] := by kernel_rfl
@[simp] theorem eqg37 : P.eqGuardType P.depth 37 = false := by kernel_rfl
@[simp] theorem field37n0 : fieldB P 37 0 = some (0, 9) := by kernel_rfl
@[simp] theorem field37n1 : fieldB P 37 1 = some (1, 25) := by kernel_rfl
@[simp] theorem tyOk41 : tyOk P 41 = true := by kernel_rfl
@[simp] theorem isAggB41 : isAggB P 41 = false := by kernel_rfl
@[simp] theorem cellsOf41 : P.cellsOf 41 = 1 := by kernel_rfl
@[simp] theorem bytesOf41 : P.bytesOf 41 = 24 := by kernel_rfl
@[simp] theorem hasZero41 : hasZero P 41 = true := by kernel_rfl
@[simp] theorem zeroL41 : zeroL P 41 = [(Value.slice none 0 0)] := by kernel_rfl
@[simp] theorem sliceE41 : sliceE P 41 = some 49 := by kernel_rfl
@[simp] theorem al33 : pAlloc P 33 w = some (pt (sz w) 0, nw w ([(Value.slice none 0 0)]) 33) := by rw [pAlloc_eq hasZero33, zeroL33]
@[simp] theorem ld33 (h : i < (mm w b).length) : pLoad P 33 (pt b i) w = some (gt (mm w b) i, w) := pLoad_scal tyOk33 isAggB33 h
@[simp] theorem st33 (hv : v.oneCell' = true) (hf : fz w b = false) (hi : i < (mm w b).length) : pStore P 33 (pt b i) v w = some (wr w b ((mm w b).set i v)) := pStore_one tyOk33 cellsOf33 hv hf hi
@[simp] theorem ia33 (h0 : 0 ≤ j) (h1 : j < n) : pIndexAddr P 33 (sl b o n c) (.int k j) w = some (pt b (o + j.toNat * 9), w) := by
  have := pIndexAddr_slice (w := w) (b := b) (o := o) (c := c) (k := k) sliceE33 tyOk37 h0 h1; rwa [cellsOf37] at this
@[simp] theorem len33 {ty : TypeId} {a : Option Addr} : pBuiltin P .len #[33] ty [.slice a n c] w = some (i64 n, w) := len_slice sliceE33
@[simp] theorem slL33 (h0 : 0 ≤ x) (h1 : x ≤ (n : Int)) (hnc : n ≤ c) : pSlice P 33 (sl b o n c) (some (.int k x)) none none w = some (.slice (some ⟨b, if c = x.toNat then o else o + x.toNat * 9, none⟩) (n - x.toNat) (c - x.toNat), w) := by
  have := pSlice_slice (P := P) (t := 33) (w := w) (b := b) (o := o) (lo := (some (.int k x))) (hi := none) sliceE33 tyOk37 rfl rfl h0 h1 (by simp [bHi]; omega) hnc; simpa [bLo, bHi] using this
@[simp] theorem slH33 {k' : IntKind} {y : Int} (h0 : 0 ≤ y) (h1 : y ≤ (c : Int)) (hnc : n ≤ c) : pSlice P 33 (sl b o n c) none (some (.int k' y)) none w = some (.slice (some ⟨b, o, none⟩) (y.toNat) (c), w) := by
  have := pSlice_slice (P := P) (t := 33) (w := w) (b := b) (o := o) (lo := none) (hi := (some (.int k' y))) sliceE33 tyOk37 rfl rfl (Int.le_refl 0) h0 h1 hnc; simpa [bLo, bHi] using this
@[simp] theorem slB33 {k' : IntKind} {y : Int} (h0 : 0 ≤ x) (h1 : x ≤ y) (h2 : y ≤ (c : Int)) (hnc : n ≤ c) : pSlice P 33 (sl b o n c) (some (.int k x)) (some (.int k' y)) none w = some (.slice (some ⟨b, if c = x.toNat then o else o + x.toNat * 9, none⟩) (y.toNat - x.toNat) (c - x.toNat), w) := by
  have := pSlice_slice (P := P) (t := 33) (w := w) (b := b) (o := o) (lo := (some (.int k x))) (hi := (some (.int k' y))) sliceE33 tyOk37 rfl rfl h0 h1 h2 hnc; simpa [bLo, bHi] using this
@[simp] theorem slN33  (hnc : n ≤ c) : pSlice P 33 (sl b o n c) none none none w = some (.slice (some ⟨b, o, none⟩) (n) (c), w) := by
  have := pSlice_slice (P := P) (t := 33) (w := w) (b := b) (o := o) (lo := none) (hi := none) sliceE33 tyOk37 rfl rfl (Int.le_refl 0) (by simp [bLo, bHi]) (by simp [bHi]; omega) hnc; simpa [bLo, bHi] using this
@[simp] theorem bsl33 {ps : List (Nat × Value)} (hbig : n * 9 ≤ 2 ^ 24) (hp : ∀ p ∈ ps, p.2.cells.size = 9 ∧ p.1 < n) : pBuildSlice P 33 n ps w = some (sl (sz w) 0 n n,
    nw w (ps.foldl (fun l p => splice l (p.1 * 9) p.2.cells.toList) (List.replicate n ([(Value.string ByteArray.empty), (Value.int IntKind.i64 0), (Value.int IntKind.i64 0), (Value.int IntKind.i64 0), (Value.int IntKind.i64 0), (Value.float FloatKind.f64 0), (Value.int IntKind.i64 0), (Value.string ByteArray.empty), (Value.slice none 0 0)])).flatten) 37) := by
  have := pBuildSlice_eq (w := w) sliceE33 hasZero37 tyOk37 cellsOf37 (by rw [zeroL37]; rfl) hbig hp; rwa [zeroL37] at this
@[simp] theorem al34 : pAlloc P 34 w = some (pt (sz w) 0, nw w ([(Value.slice none 0 0)]) 34) := by rw [pAlloc_eq hasZero34, zeroL34]
@[simp] theorem ld34 (h : i < (mm w b).length) : pLoad P 34 (pt b i) w = some (gt (mm w b) i, w) := pLoad_scal tyOk34 isAggB34 h
@[simp] theorem st34 (hv : v.oneCell' = true) (hf : fz w b = false) (hi : i < (mm w b).length) : pStore P 34 (pt b i) v w = some (wr w b ((mm w b).set i v)) := pStore_one tyOk34 cellsOf34 hv hf hi
@[simp] theorem ia34 (h0 : 0 ≤ j) (h1 : j < n) : pIndexAddr P 34 (sl b o n c) (.int k j) w = some (pt b (o + j.toNat * 14), w) := by
  have := pIndexAddr_slice (w := w) (b := b) (o := o) (c := c) (k := k) sliceE34 tyOk27 h0 h1; rwa [cellsOf27] at this
@[simp] theorem len34 {ty : TypeId} {a : Option Addr} : pBuiltin P .len #[34] ty [.slice a n c] w = some (i64 n, w) := len_slice sliceE34
@[simp] theorem slL34 (h0 : 0 ≤ x) (h1 : x ≤ (n : Int)) (hnc : n ≤ c) : pSlice P 34 (sl b o n c) (some (.int k x)) none none w = some (.slice (some ⟨b, if c = x.toNat then o else o + x.toNat * 14, none⟩) (n - x.toNat) (c - x.toNat), w) := by
  have := pSlice_slice (P := P) (t := 34) (w := w) (b := b) (o := o) (lo := (some (.int k x))) (hi := none) sliceE34 tyOk27 rfl rfl h0 h1 (by simp [bHi]; omega) hnc; simpa [bLo, bHi] using this
@[simp] theorem slH34 {k' : IntKind} {y : Int} (h0 : 0 ≤ y) (h1 : y ≤ (c : Int)) (hnc : n ≤ c) : pSlice P 34 (sl b o n c) none (some (.int k' y)) none w = some (.slice (some ⟨b, o, none⟩) (y.toNat) (c), w) := by
  have := pSlice_slice (P := P) (t := 34) (w := w) (b := b) (o := o) (lo := none) (hi := (some (.int k' y))) sliceE34 tyOk27 rfl rfl (Int.le_refl 0) h0 h1 hnc; simpa [bLo, bHi] using this
@[simp] theorem slB34 {k' : IntKind} {y : Int} (h0 : 0 ≤ x) (h1 : x ≤ y) (h2 : y ≤ (c : Int)) (hnc : n ≤ c) : pSlice P 34 (sl b o n c) (some (.int k x)) (some (.int k' y)) none w = some (.slice (some ⟨b, if c = x.toNat then o else o + x.toNat * 14, none⟩) (y.toNat - x.toNat) (c - x.toNat), w) := by
  have := pSlice_slice (P := P) (t := 34) (w := w) (b := b) (o := o) (lo := (some (.int k x))) (hi := (some (.int k' y))) sliceE34 tyOk27 rfl rfl h0 h1 h2 hnc; simpa [bLo, bHi] using this
@[simp] theorem slN34  (hnc : n ≤ c) : pSlice P 34 (sl b o n c) none none none w = some (.slice (some ⟨b, o, none⟩) (n) (c), w) := by
  have := pSlice_slice (P := P) (t := 34) (w := w) (b := b) (o := o) (lo := none) (hi := none) sliceE34 tyOk27 rfl rfl (Int.le_refl 0) (by simp [bLo, bHi]) (by simp [bHi]; omega) hnc; simpa [bLo, bHi] using this
@[simp] theorem bsl34 {ps : List (Nat × Value)} (hbig : n * 14 ≤ 2 ^ 24) (hp : ∀ p ∈ ps, p.2.cells.size = 14 ∧ p.1 < n) : pBuildSlice P 34 n ps w = some (sl (sz w) 0 n n,
    nw w (ps.foldl (fun l p => splice l (p.1 * 14) p.2.cells.toList) (List.replicate n ([(Value.int IntKind.i64 0), (Value.string ByteArray.empty), (Value.int IntKind.i64 0), (Value.float FloatKind.f64 0), (Value.string ByteArray.empty), (Value.int IntKind.i64 0), (Value.int IntKind.i64 0), (Value.int IntKind.i64 0), (Value.int IntKind.i64 0), (Value.float FloatKind.f64 0), (Value.int IntKind.i64 0), (Value.string ByteArray.empty), (Value.slice none 0 0)] ++ List.replicate 1 (Value.bool false))).flatten) 27) := by
  have := pBuildSlice_eq (w := w) sliceE34 hasZero27 tyOk27 cellsOf27 (by rw [zeroL27]; rfl) hbig hp; rwa [zeroL27] at this
@[simp] theorem al37 : pAlloc P 37 w = some (pt (sz w) 0, nw w ([(Value.string ByteArray.empty), (Value.int IntKind.i64 0), (Value.int IntKind.i64 0), (Value.int IntKind.i64 0), (Value.int IntKind.i64 0), (Value.float FloatKind.f64 0), (Value.int IntKind.i64 0), (Value.string ByteArray.empty), (Value.slice none 0 0)]) 37) := by rw [pAlloc_eq hasZero37, zeroL37]
@[simp] theorem ld37 (h : i + 9 ≤ (mm w b).length) : pLoad P 37 (pt b i) w = some (.agg (((mm w b).drop i).take 9).toArray, w) := by
  have := pLoad_agg (w := w) (b := b) (i := i) tyOk37 isAggB37 (by rw [cellsOf37]; exact h); rwa [cellsOf37] at this
@[simp] theorem st37 (hs : a.size = 9) (hv : ∀ v ∈ a.toList, v.oneCell' = true) (hf : fz w b = false) (hi : i + 9 ≤ (mm w b).length) : pStore P 37 (pt b i) (.agg a) w = some (wr w b (splice (mm w b) i a.toList)) :=
  pStore_agg tyOk37 (by rw [cellsOf37, hs]) hv hf (by rw [hs]; exact hi)
@[simp] theorem fa37n0 : pFieldAddr P 37 (pt b i) 0 w = some (pt b (i + 0), w) := pFieldAddr_eq field37n0 tyOk9 (by rw [cellsOf9]; rfl)
@[simp] theorem fi37n0 (h : 0 < a.size) : pField P 37 (.agg a) 0 w = some (gt a.toList 0, w) := pField_scal field37n0 tyOk9 isAggB9 h
@[simp] theorem fa37n1 : pFieldAddr P 37 (pt b i) 1 w = some (pt b (i + 1), w) := pFieldAddr_eq field37n1 tyOk25 (by rw [cellsOf25]; rfl)
@[simp] theorem fi37n1 : pField P 37 (.agg a) 1 w = some (.agg ((a.toList.drop 1).take 8).toArray, w) := by
  have := pField_agg (w := w) (x := a) field37n1 tyOk25 isAggB25; rwa [cellsOf25] at this
@[simp] theorem al41 : pAlloc P 41 w = some (pt (sz w) 0, nw w ([(Value.slice none 0 0)]) 41) := by rw [pAlloc_eq hasZero41, zeroL41]
@[simp] theorem ld41 (h : i < (mm w b).length) : pLoad P 41 (pt b i) w = some (gt (mm w b) i, w) := pLoad_scal tyOk41 isAggB41 h
@[simp] theorem st41 (hv : v.oneCell' = true) (hf : fz w b = false) (hi : i < (mm w b).length) : pStore P 41 (pt b i) v w = some (wr w b ((mm w b).set i v)) := pStore_one tyOk41 cellsOf41 hv hf hi
@[simp] theorem ia41 (h0 : 0 ≤ j) (h1 : j < n) : pIndexAddr P 41 (sl b o n c) (.int k j) w = some (pt b (o + j.toNat * 10), w) := by
  have := pIndexAddr_slice (w := w) (b := b) (o := o) (c := c) (k := k) sliceE41 tyOk49 h0 h1; rwa [cellsOf49] at this
@[simp] theorem len41 {ty : TypeId} {a : Option Addr} : pBuiltin P .len #[41] ty [.slice a n c] w = some (i64 n, w) := len_slice sliceE41
@[simp] theorem slL41 (h0 : 0 ≤ x) (h1 : x ≤ (n : Int)) (hnc : n ≤ c) : pSlice P 41 (sl b o n c) (some (.int k x)) none none w = some (.slice (some ⟨b, if c = x.toNat then o else o + x.toNat * 10, none⟩) (n - x.toNat) (c - x.toNat), w) := by
  have := pSlice_slice (P := P) (t := 41) (w := w) (b := b) (o := o) (lo := (some (.int k x))) (hi := none) sliceE41 tyOk49 rfl rfl h0 h1 (by simp [bHi]; omega) hnc; simpa [bLo, bHi] using this
@[simp] theorem slH41 {k' : IntKind} {y : Int} (h0 : 0 ≤ y) (h1 : y ≤ (c : Int)) (hnc : n ≤ c) : pSlice P 41 (sl b o n c) none (some (.int k' y)) none w = some (.slice (some ⟨b, o, none⟩) (y.toNat) (c), w) := by
  have := pSlice_slice (P := P) (t := 41) (w := w) (b := b) (o := o) (lo := none) (hi := (some (.int k' y))) sliceE41 tyOk49 rfl rfl (Int.le_refl 0) h0 h1 hnc; simpa [bLo, bHi] using this
@[simp] theorem slB41 {k' : IntKind} {y : Int} (h0 : 0 ≤ x) (h1 : x ≤ y) (h2 : y ≤ (c : Int)) (hnc : n ≤ c) : pSlice P 41 (sl b o n c) (some (.int k x)) (some (.int k' y)) none w = some (.slice (some ⟨b, if c = x.toNat then o else o + x.toNat * 10, none⟩) (y.toNat - x.toNat) (c - x.toNat), w) := by
  have := pSlice_slice (P := P) (t := 41) (w := w) (b := b) (o := o) (lo := (some (.int k x))) (hi := (some (.int k' y))) sliceE41 tyOk49 rfl rfl h0 h1 h2 hnc; simpa [bLo, bHi] using this
@[simp] theorem slN41  (hnc : n ≤ c) : pSlice P 41 (sl b o n c) none none none w = some (.slice (some ⟨b, o, none⟩) (n) (c), w) := by
  have := pSlice_slice (P := P) (t := 41) (w := w) (b := b) (o := o) (lo := none) (hi := none) sliceE41 tyOk49 rfl rfl (Int.le_refl 0) (by simp [bLo, bHi]) (by simp [bHi]; omega) hnc; simpa [bLo, bHi] using this
@[simp] theorem bsl41 {ps : List (Nat × Value)} (hbig : n * 10 ≤ 2 ^ 24) (hp : ∀ p ∈ ps, p.2.cells.size = 10 ∧ p.1 < n) : pBuildSlice P 41 n ps w = some (sl (sz w) 0 n n,
    nw w (ps.foldl (fun l p => splice l (p.1 * 10) p.2.cells.toList) (List.replicate n ([(Value.int IntKind.i64 0), (Value.int IntKind.i64 0), (Value.int IntKind.i64 0), (Value.int IntKind.i64 0), (Value.int IntKind.i64 0), (Value.int IntKind.i64 0), (Value.float FloatKind.f64 0), (Value.int IntKind.i64 0), (Value.string ByteArray.empty), (Value.slice none 0 0)])).flatten) 49) := by
  have := pBuildSlice_eq (w := w) sliceE41 hasZero49 tyOk49 cellsOf49 (by rw [zeroL49]; rfl) hbig hp; rwa [zeroL49] at this
end
end Go.Proofs.YtieejbkbdfccdaaDoor

set_option linter.unusedVariables false
set_option linter.unusedSimpArgs false
namespace Go.Proofs.YtieejbkbdfccdaaDoor
open Go

theorem rd_setat {α : Type} {w : World} {b c n : Nat} {f : α → List Value} {L : List α} (h : RdV w (sl b 0 L.length c) L.length (flat f L)) (hf : ∀ x, (f x).length = n) (h0 : 0 < L.length) {i : Nat} (y : α) (hi : i < L.length) (hz : fz w b = false) :
    RdV (wr w b (splice (mm w b) (i * n) (f y))) (sl b 0 L.length c) L.length (flat f (L.set i y)) := by
  rcases h with ⟨_, _, _, h0', _⟩ | ⟨b', o, c', hv, h1, h2, h3, h4, h5⟩
  · omega
  have hv' := hv
  simp only [sl, Value.slice.injEq, Option.some.injEq, Addr.mk.injEq, true_and, and_true] at hv'
  obtain ⟨⟨rfl, rfl⟩, rfl⟩ := hv'
  have hl := flat_length (L := L) (fun x _ => hf x)
  have hl2 := flat_length (L := L.set i y) (fun x _ => hf x)
  rw [List.length_set] at hl2
  have hin : i * n + n ≤ L.length * n := by
    have : (i + 1) * n ≤ L.length * n := Nat.mul_le_mul_right _ hi
    rwa [Nat.add_mul, Nat.one_mul] at this
  rw [List.drop_zero] at h5
  have hsp : mm w b = flat f L ++ (mm w b).drop (flat f L).length := by rw [← List.take_append_drop (flat f L).length (mm w b), h5]; simp [h5]
  have hs2 : splice (mm w b) (i * n) (f y) = flat f (L.set i y) ++ (mm w b).drop (flat f L).length := by
    rw [hsp, splice_append (by rw [hf, hl]; omega), flat_set (fun x _ => hf x) hi (hf y) rfl]
    congr 1
    rw [← hsp]
  refine .inr ⟨b, 0, c, rfl, h1, h2, by rw [sz_wr]; exact h3, ?_, ?_⟩
  · rw [mm_wr_same hz, hs2, List.length_append]; omega
  · rw [mm_wr_same hz, hs2, List.drop_zero, List.take_left]

structure EscB (w0 w : World) (b sb c : Nat) (r : RecP) (Ls : List Lf) : Prop where
  head : ∃ (l : Option Addr) (nl cl : Nat), mm w b = esV r (.slice l nl cl) (sl sb 0 Ls.length c)
  zb : fz w b = false
  zs : fz w sb = false
  ne : b ≠ sb
  lb : sz w0 ≤ b
  ls : sz w0 ≤ sb
  rd : RdV w (sl sb 0 Ls.length c) Ls.length (flat lfC Ls)
theorem EscOk.toB {w0 w : World} {b : Nat} {r : RecP} {Ls : List Lf} (h : EscOk w0 w b r Ls) (h0 : 0 < Ls.length) : ∃ sb c, EscB w0 w b sb c r Ls := by
  obtain ⟨l, nl, cl, sv, s1, hm, hz, hown, hb1, hb0, hs1⟩ := h
  have hrd := own_rd hown
  obtain ⟨_, ⟨_, hx⟩ | ⟨g, cap, cur, rfl, hg1, hg, _⟩⟩ := hown
  · omega
  refine ⟨g, cap, ⟨⟨l, nl, cl, hm⟩, hz, ?_, by omega, hb0, by omega, hrd⟩⟩
  simp [fz, hg]
theorem EscB.fr {w0 w w' : World} {b sb c : Nat} {r : RecP} {Ls : List Lf} {S : List Nat} (h : EscB w0 w b sb c r Ls) (hf : Fr S w w') (h1 : b ∉ S) (h2 : sb ∉ S) : EscB w0 w' b sb c r Ls := by
  obtain ⟨⟨l, nl, cl, hm⟩, hz, hz2, hne, hlb, hls, hrd⟩ := h
  exact ⟨⟨l, nl, cl, by rw [hf.mm (lt_of_fz hz) h1, hm]⟩, by rw [hf.fz (lt_of_fz hz) h1, hz], by rw [hf.fz (lt_of_fz hz2) h2, hz2], hne, hlb, hls, hrd.fr hf (fun k hk => by simp [sl, Value.ownBlock] at hk; subst hk; exact h2)⟩
theorem EscB.fr0 {w0 w w' : World} {b sb c : Nat} {r : RecP} {Ls : List Lf} (h : EscB w0 w b sb c r Ls) (hf : Fr [] w w') : EscB w0 w' b sb c r Ls := h.fr hf (by simp) (by simp)
theorem leftB_spec {w0 w : World} {b sb c : Nat} {r : RecP} {Ls : List Lf} (h : EscB w0 w b sb c r Ls) {i : Nat} {x : Lf} (hx : Ls[i]? = some x) (hn : Ls.length ≤ 8) : Ret P 21 #[pt b 0, i64 i] w fun v w' => v = .tuple #[u64 x.up, u64 x.down] ∧ Fr [] w w' := by
  refine F21ok ?_
  unfold F21
  obtain ⟨⟨l, nl, cl, hm⟩, hz, hz2, hne, hlb, hls, hrd⟩ := h
  have hi : i < Ls.length := (List.getElem?_eq_some_iff.1 hx).1
  obtain ⟨lb, o, c', hv, hlb, hin, htk⟩ := flat_at hrd (lfC_len Ls) (by omega) hx
  simp only [sl, Value.slice.injEq, Option.some.injEq, Addr.mk.injEq, true_and, and_true] at hv
  obtain ⟨⟨rfl, rfl⟩, rfl⟩ := hv
  have hi0 : ¬ (i : Int) < 0 := by omega
  have hi1 : (i : Int) < Ls.length := by omega
  have hi2 : ¬ (Ls.length : Int) ≤ i := by omega
  have hi3 : ¬ Ls.length ≤ i := by omega
  have g0 : gt (mm w sb) (0 + i * 2 + 0) = u64 x.up := by rw [cell_of htk (by omega)]; rfl
  have g1 : gt (mm w sb) (0 + i * 2 + 1) = u64 x.down := by rw [cell_of htk (by omega)]; rfl
  have k0 : 0 + i * 2 + 0 < (mm w sb).length := by omega
  have k1 : 0 + i * 2 + 1 < (mm w sb).length := by omega
  simp only [Nat.add_zero, Nat.zero_add] at g0 k0 g1 k1
  try simp (maxDischargeDepth := 8) [↓sC, sB, sM, hm, hi0, hi1, hi2, hi3, hi, g0, g1, k0, k1, sl]
end Go.Proofs.YtieejbkbdfccdaaDoor

set_option linter.unusedVariables false
set_option linter.unusedSimpArgs false
namespace Go.Proofs.YtieejbkbdfccdaaDoor
open Go

@[simp] theorem esg0 {r : RecP} {lv sv : Value} : gt (esV r lv sv) 0 = i64 r.kind := rfl
theorem splits4 {k : Int} (h : splitsM 4 k = true) (h1 : 1 ≤ k) (h21 : k ≤ 21) : k = 10 ∨ k = 11 := by
  simp only [splitsM, Bool.and_eq_true, decide_eq_true_eq] at h
  rcases h.1 with rfl | rfl | rfl | rfl | rfl | rfl | rfl | rfl
  all_goals first | (left; rfl) | (right; rfl) | exact absurd h.2 (by decide)
def minusL (x c : Lf) : Lf := ⟨x.up - c.up, x.down - c.down⟩
structure DrS (w0 w : World) (b sb sc q : Nat) (r : RecP) (Ls : List Lf) (now : Lf) (e : Env) (w' : World) : Prop where
  esc : EscB w0 w b sb sc r Ls
  q1 : mm w' q = lfC now
  q2 : fz w' q = false
  q3 : sz w ≤ q
  fr : Fr [] w w'
  e0 : e 0 = pt b 0
  e7 : e 7 = pt q 0
theorem acV_oneT {a : ActP} {la : Option Addr} {n c : Nat} : (∀ v, v ∈ acV a (.slice la n c) → v.oneCell' = true) = True := by
  simp only [eq_iff_iff, iff_true, acV]
  intro v hv
  rcases List.mem_append.1 hv with hv | hv
  · rcases List.mem_append.1 hv with hv | hv
    · simp only [List.mem_cons, List.not_mem_nil, or_false] at hv
      rcases hv with rfl | rfl | rfl | rfl | rfl <;> first | exact oc_strB _ | rfl
    · exact rcV_one v hv
  · simp only [List.mem_cons, List.not_mem_nil, or_false] at hv
    subst hv; rfl
set_option maxHeartbeats 2000000 in
set_option maxRecDepth 20000 in
theorem draw_step {w0 w : World} {b sb sc q : Nat} {r : RecP} {Ls : List Lf} {x : Lf} {a : ActP} {la : Option Addr} {c : Nat} {pa : Option Addr} {pc : Nat} (hk4 : r.kind = 4) (hx : x.up < 2 * H63 ∧ x.down < 2 * H63) {e : Env} {w1 : World} (hS : DrS w0 w b sb sc q r Ls x e w1) (hw : KW w1) (ha : IsAct w1 (.slice la a.make.list.length c) a)
    (hrd : RdV w1 (.slice pa 1 pc) 1 (acV a (.slice la a.make.list.length c))) (e30 : e 30 = .slice pa 1 pc) (e31 : e 31 = i64 1) (e32 : e 32 = i64 0) {K : KT}
    (hbad : ∀ e' w' (n : Int), n ≠ 0 → Fr [] w w' → e' 6 = i64 n → K .ret e' w')
    (hok : ∀ e' w', ActOk a → (a.kind = 10 ∨ a.kind = 11) → (costM a).up ≤ x.up → (costM a).down ≤ x.down → DrS w0 w b sb sc q r Ls (minusL x (costM a)) e' w' → e' 1 = e 1 → e' 30 = .slice pa 1 pc → e' 31 = i64 1 → e' 32 = i64 1 → K .normal e' w') : F19B0 e w1 K := by
  obtain ⟨hesc, q1, q2, q3, hf, e0, e7⟩ := hS
  obtain ⟨⟨l, nl, cl, hm⟩, hz, hz2, hne, hlb, hls, hrdE⟩ := hesc.fr0 hf
  obtain ⟨sv, hsv⟩ : ∃ sv, sv = sl sb 0 Ls.length sc := ⟨_, rfl⟩
  rw [← hsv] at hm
  unfold F19B0
  have hrd' : RdV w1 (.slice pa [a].length pc) [a].length (flat (fun a => acV a (.slice la a.make.list.length c)) [a]) := by simpa [flat] using hrd
  obtain ⟨pb, o, pc', hv, hpb1, hin, htk⟩ := flat_at hrd' (n := 14) (fun _ _ => rfl) (by omega) (j := 0) rfl
  simp only [Value.slice.injEq] at hv
  obtain ⟨rfl, _, rfl⟩ := hv
  simp only [Nat.zero_mul, Nat.add_zero] at hin htk
  have hz14 : [Value.int IntKind.i64 0, Value.string ByteArray.empty, Value.int IntKind.i64 0, Value.float FloatKind.f64 0, Value.string ByteArray.empty, Value.int IntKind.i64 0, Value.int IntKind.i64 0, Value.int IntKind.i64 0, Value.int IntKind.i64 0, Value.float FloatKind.f64 0, Value.int IntKind.i64 0, Value.string ByteArray.empty, Value.slice none 0 0, Value.bool false] = acV ⟨0, [], 0, 0, [], rz, false⟩ (.slice none 0 0) := rfl
  obtain ⟨W2, hW2⟩ : ∃ W2, W2 = wr (nw w1 (acV ⟨0, [], 0, 0, [], rz, false⟩ (.slice none 0 0)) 27) (sz w1) (acV a (.slice la a.make.list.length c)) := ⟨_, rfl⟩
  have f2 : Fr [] w1 W2 := by rw [hW2]; exact ((Fr.refl [] w1).nw _ _).wr (.inr (Nat.le_refl _)) _
  have a2 : mm W2 (sz w1) = acV a (.slice la a.make.list.length c) := by rw [hW2]; exact mm_wr_same (by simp [fz_nw]) _
  have hsp : splice (acV ⟨0, [], 0, 0, [], rz, false⟩ (.slice none 0 0)) 0 (acV a (.slice la a.make.list.length c)) = acV a (.slice la a.make.list.length c) := splice_full rfl
  try simp (maxDischargeDepth := 8) [↓sC, sB, sM, e30, e31, e32, hin, htk, hz14, hsp, acV_oneT, ← hW2, a2, a14]
  refine (checkAAny_spec (hw.fr0 f2) (ha.fr0 f2)).call ?_
  rintro _ w3 ⟨n, rfl, hn, f3⟩
  have g3 := f2.trans0 f3
  have hs1w : sz w1 < sz W2 := by rw [hW2, sz_wr, sz_nw]; omega
  have a3 : mm w3 (sz w1) = acV a (.slice la a.make.list.length c) := by rw [f3.mm hs1w (by simp), a2]
  have b3 : mm w3 b = esV r (.slice l nl cl) sv := by rw [g3.mm (lt_of_fz hz) (by simp), hm]
  have p3 := f3.lt hs1w
  rcases (Decidable.em (n = 0)).symm with n0 | n0
  · try simp (maxDischargeDepth := 8) [↓sC, sB, sM, n0]
    exact hbad _ _ n n0 (hf.trans0 g3) (by simp [put_get])
  have aok := hn n0
  try simp (maxDischargeDepth := 8) [↓sC, sB, sM, n0, e0, a3, b3, hk4]
  refine (splits_spec (kind := 4) (k := a.kind) ((hw.fr0 g3).fr0 ((Fr.refl [] w3).drew))).call ?_
  rintro _ w4 ⟨rfl, f4⟩
  have g4 := g3.drew.trans0 f4
  have a4 : mm w4 (sz w1) = acV a (.slice la a.make.list.length c) := by rw [f4.mm (by rw [sz_drew]; exact p3) (by simp), mm_drew, a3]
  have b4 : mm w4 b = esV r (.slice l nl cl) sv := by rw [g4.mm (lt_of_fz hz) (by simp), hm]
  cases hsp4 : splitsM 4 a.kind
  · try simp (maxDischargeDepth := 8) [↓sC, sB, sM]
    exact hbad _ _ 5 (by omega) (hf.trans0 g4) (by simp [put_get])
  have hka := splits4 hsp4 aok.k1 aok.k21
  have p4 : sz w1 < sz w4 := f4.lt (by rw [sz_drew]; exact p3)
  try simp (maxDischargeDepth := 8) [↓sC, sB, sM, e0, a4, a14]
  refine (cost_spec b4 aok hka).call ?_
  rintro _ w5 ⟨rfl, f5⟩
  have g5 := g4.trans0 f5
  have hz2 : [Value.int IntKind.u64 0, Value.int IntKind.u64 0] = lfV 0 0 := rfl
  obtain ⟨W6, hW6⟩ : ∃ W6, W6 = wr (nw w5 (lfV 0 0) 88) (sz w5) (lfC (costM a)) := ⟨_, rfl⟩
  have f6 : Fr [] w5 W6 := by rw [hW6]; exact ((Fr.refl [] w5).nw _ _).wr (.inr (Nat.le_refl _)) _
  have c6 : mm W6 (sz w5) = lfC (costM a) := by rw [hW6]; exact mm_wr_same (by simp [fz_nw]) _
  have g6 := g5.trans0 f6
  have hql := lt_of_fz q2
  have q6 : mm W6 q = lfC x := by rw [g6.mm hql (by simp), q1]
  have qz6 : fz W6 q = false := by rw [g6.fz hql (by simp), q2]
  have a6 : mm W6 (sz w1) = acV a (.slice la a.make.list.length c) := by rw [(f5.trans0 f6).mm p4 (by simp), a4]
  have l2 : ∀ y, (lfC y).length = 2 := fun _ => rfl
  have lo : ∀ y, (∀ v, v ∈ lfC y → v.oneCell' = true) = True := fun y => by simp only [eq_iff_iff, iff_true]; exact lfC_one y
  have l0 : ∀ y, gt (lfC y) 0 = u64 y.up := fun _ => rfl
  have l1 : ∀ y, gt (lfC y) 1 = u64 y.down := fun _ => rfl
  have hs2 : ∀ y, splice (lfV 0 0) 0 (lfC y) = lfC y := fun _ => splice_full rfl
  have k18 : ¬ a.kind = 18 := by omega
  have l3 : ∀ u d, (lfV u d).length = 2 := fun _ _ => rfl
  try simp (maxDischargeDepth := 8) [↓sC, sB, sM, hz2, l2, l3, lo, hs2, ← hW6, c6, e7, q6, l0, l1, a6]
  have fS : Fr [] w W6 := hf.trans0 g6
  by_cases hup : x.up < (costM a).up
  · try simp (maxDischargeDepth := 8) [↓sC, sB, sM, hup, a6, k18, a14, lfV, gt_zero, gt_succ]
    try simp (maxDischargeDepth := 8) [↓sC, sB, sM, hup, a6, k18, a14, c6, q6, l0, l1, l2, l3, e7]
    exact hbad _ _ 9 (by omega) fS (by simp [put_get])
  have hup' := Nat.le_of_not_lt hup
  by_cases hdn : x.down < (costM a).down
  · try simp (maxDischargeDepth := 8) [↓sC, sB, sM, hup, hdn, c6, q6, l0, l1, l2, l3, e7]
    exact hbad _ _ 10 (by omega) fS (by simp [put_get])
  have hdn' := Nat.le_of_not_lt hdn
  have hq5 : sz w5 ≠ q := by have := (hf.trans0 g5); have := lt_of_fz q2; have := g5.size; omega
  have hw1 : IntKind.u64.wrap ((x.up : Int) - ((costM a).up : Int)) = ((x.up - (costM a).up : Nat) : Int) := by rw [← Int.ofNat_sub hup']; exact wrapu (by have := hx.1; omega)
  have hw2 : IntKind.u64.wrap ((x.down : Int) - ((costM a).down : Int)) = ((x.down - (costM a).down : Nat) : Int) := by rw [← Int.ofNat_sub hdn']; exact wrapu (by have := hx.2; omega)
  have st1 : (lfC x).set 0 (Value.int IntKind.u64 ((x.up - (costM a).up : Nat) : Int)) = lfV (x.up - (costM a).up) x.down := rfl
  have st2 : (lfV (x.up - (costM a).up) x.down).set 1 (Value.int IntKind.u64 ((x.down - (costM a).down : Nat) : Int)) = lfC (minusL x (costM a)) := rfl
  have hw01 : IntKind.i64.wrap 1 = 1 := rfl
  have l4 : ∀ u d, gt (lfV u d) 1 = u64 d := fun _ _ => rfl
  try simp (maxDischargeDepth := 8) [↓sC, sB, sM, hup, hdn, c6, q6, l0, l1, l2, l3, e7, qz6, hq5, hw1, hw2, st1, st2, l4, e32, hw01]
  have fE : Fr [] w1 (wr W6 q (lfC (minusL x (costM a)))) ∨ True := .inr trivial
  have fQ : Fr [] w (wr W6 q (lfC (minusL x (costM a)))) := fS.wr (.inr q3) _
  exact hok _ _ aok hka hup' hdn' ⟨hesc, mm_wr_same qz6 _, by rw [fz_wr, qz6], q3, fQ, by simp [put_get, e0], by simp [put_get, e7]⟩ (by simp [put_get]) (by simp [put_get, e30]) (by simp [put_get, e31]) (by simp [put_get])
end Go.Proofs.YtieejbkbdfccdaaDoor

set_option linter.unusedVariables false
set_option linter.unusedSimpArgs false
namespace Go.Proofs.YtieejbkbdfccdaaDoor
open Go

def DrawR (w0 w w' : World) (b sb c : Nat) (r : RecP) (Ls : List Lf) (a : ActP) (wk : Int) (v : Value) : Prop :=
  ∃ k : Int, v = i64 k ∧ ((k ≠ 0 ∧ Fr [] w w') ∨ (k = 0 ∧ ActOk a ∧ (a.kind = 10 ∨ a.kind = 11) ∧ ∃ (i : Nat) (x : Lf), wk = i ∧ Ls[i]? = some x ∧ (costM a).up ≤ x.up ∧ (costM a).down ≤ x.down ∧
    EscB w0 w' b sb c r (Ls.set i (minusL x (costM a))) ∧ Fr [sb] w w'))
def DrI (w0 w : World) (b sb c q : Nat) (r : RecP) (Ls : List Lf) (x : Lf) (a : ActP) (i : Nat) (pa : Option Addr) (pc : Nat) (m : Nat) (e : Env) (w' : World) : Prop :=
  (m = 1 ∧ DrS w0 w b sb c q r Ls x e w' ∧ e 1 = i64 i ∧ e 30 = .slice pa 1 pc ∧ e 31 = i64 1 ∧ e 32 = i64 0) ∨
  (m = 0 ∧ ActOk a ∧ (a.kind = 10 ∨ a.kind = 11) ∧ (costM a).up ≤ x.up ∧ (costM a).down ≤ x.down ∧ DrS w0 w b sb c q r Ls (minusL x (costM a)) e w' ∧ e 1 = i64 i ∧ e 30 = .slice pa 1 pc ∧ e 31 = i64 1 ∧ e 32 = i64 1)
set_option maxHeartbeats 2000000 in
set_option maxRecDepth 20000 in
theorem draw_spec {w0 w : World} {b sb c : Nat} {r : RecP} {Ls : List Lf} {a : ActP} {la : Option Addr} {ca : Nat} {pa : Option Addr} {pc : Nat} {wk : Int} (h : EscB w0 w b sb c r Ls) (hk4 : r.kind = 4) (hx : ∀ x ∈ Ls, x.up < 2 * H63 ∧ x.down < 2 * H63) (hL : Ls.length ≤ 8) (hw : KW w)
    (ha : IsAct w (.slice la a.make.list.length ca) a) (hrd : RdV w (.slice pa 1 pc) 1 (acV a (.slice la a.make.list.length ca))) :
    Ret P 19 #[pt b 0, i64 wk, .slice pa 1 pc] w fun v w' => DrawR w0 w w' b sb c r Ls a wk v := by
  refine F19ok ?_
  unfold F19
  obtain ⟨⟨l, nl, cl, hm⟩, hz, hz2, hne, hlb, hls, hrdE⟩ := id h
  have hbad0 : DrawR w0 w w b sb c r Ls a wk (i64 1) := ⟨1, rfl, .inl ⟨by omega, Fr.refl _ _⟩⟩
  rcases Decidable.em (wk < 0) with hneg | hneg
  · try simp (maxDischargeDepth := 8) [↓sC, sB, sM, hm, hneg]
    exact hbad0
  obtain ⟨i, rfl⟩ : ∃ i : Nat, wk = i := ⟨wk.toNat, by omega⟩
  have e9 : gt (esV r (.slice l nl cl) (sl sb 0 Ls.length c)) 8 = sl sb 0 Ls.length c := rfl
  rcases Decidable.em (Ls.length ≤ i) with hbig | hbig
  · have hb1 : (Ls.length : Int) ≤ i := by omega
    try simp (maxDischargeDepth := 8) [↓sC, sB, sM, hm, hneg, hb1, hbig, sl]
    exact hbad0
  have hb1 : ¬ (Ls.length : Int) ≤ i := by omega
  have hi : i < Ls.length := by omega
  have hi1 : (i : Int) < Ls.length := by omega
  obtain ⟨x, hxi⟩ : ∃ x, Ls[i]? = some x := ⟨_, List.getElem?_eq_getElem hi⟩
  obtain ⟨lb, o, c', hv, hlb', hin, htk⟩ := flat_at hrdE (lfC_len Ls) (by omega) hxi
  simp only [sl, Value.slice.injEq, Option.some.injEq, Addr.mk.injEq, true_and, and_true] at hv
  obtain ⟨⟨rfl, rfl⟩, rfl⟩ := hv
  simp only [Nat.zero_add] at hin htk
  have hz2' : [Value.int IntKind.u64 0, Value.int IntKind.u64 0] = lfV 0 0 := rfl
  have l2 : ∀ y, (lfC y).length = 2 := fun _ => rfl
  have l3 : ∀ u d, (lfV u d).length = 2 := fun _ _ => rfl
  have lo : ∀ y, (∀ v, v ∈ lfC y → v.oneCell' = true) = True := fun y => by simp only [eq_iff_iff, iff_true]; exact lfC_one y
  have hs2 : ∀ y, splice (lfV 0 0) 0 (lfC y) = lfC y := fun _ => splice_full rfl
  obtain ⟨W, hW⟩ : ∃ W, W = wr (nw w (lfV 0 0) 88) (sz w) (lfC x) := ⟨_, rfl⟩
  have fW : Fr [] w W := by rw [hW]; exact ((Fr.refl [] w).nw _ _).wr (.inr (Nat.le_refl _)) _
  have q1 : mm W (sz w) = lfC x := by rw [hW]; exact mm_wr_same (by simp [fz_nw]) _
  have q2 : fz W (sz w) = false := by rw [hW, fz_wr]; simp [fz_nw]
  try simp (maxDischargeDepth := 8) [↓sC, sB, sM, hm, hneg, hb1, hbig, hi, hi1, hin, htk, hz2', l2, l3, lo, hs2, ← hW, sl]
  refine loopE_of (DrI w0 w b sb c (sz w) r Ls x a i pa pc) 1 (.inl ⟨rfl, ⟨h, q1, q2, Nat.le_refl _, fW, by simp [put_get, argE_get], by simp [put_get]⟩, by simp [put_get, argE_get], by simp [put_get], by simp [put_get], by simp [put_get]⟩) ?_
  rintro m e w1 (⟨rfl, hD, e1, e30, e31, e32⟩ | ⟨rfl, aok, hka, hup, hdn, hD, e1, e30, e31, e32⟩)
  · have hxb := hx x (List.mem_of_getElem? hxi)
    refine draw_step hk4 hxb hD (hw.fr0 hD.fr) (ha.fr0 hD.fr) (hrd.fr0 hD.fr) e30 e31 e32 ?_ ?_
    · intro e' w' n hn hf e6
      try simp (maxDischargeDepth := 8) [↓sC, sB, sM, e6]
      exact ⟨n, rfl, .inl ⟨hn, hf⟩⟩
    · intro e' w' aok hka hup hdn hD' e1' e30' e31' e32'
      exact ⟨0, by omega, .inr ⟨rfl, aok, hka, hup, hdn, hD', by rw [e1', e1], e30', e31', e32'⟩⟩
  obtain ⟨hE, p1, p2, p3, pf, e0, e7⟩ := hD
  obtain ⟨⟨l', nl', cl', hm'⟩, hz', hzs', hne', hlb', hls', hrd'⟩ := hE.fr0 pf
  unfold F19B0
  have t2L : ∀ y, (lfC y).take 2 = lfC y := fun _ => rfl
  have hin' : i * 2 + 2 ≤ (mm w1 sb).length := by rw [pf.mm (lt_of_fz hz2) (by simp)]; exact hin
  try simp (maxDischargeDepth := 8) [↓sC, sB, sM, e0, e1, e7, e30, e31, e32, hm', sl, p1, l2, hi, hi1, hneg, hb1, hbig, hzs', hin', lo, t2L]
  refine ⟨0, rfl, .inr ⟨rfl, aok, hka, i, x, rfl, hxi, hup, hdn, ?_, ?_⟩⟩
  · skip
    refine ⟨⟨l', nl', cl', ?_⟩, ?_, ?_, hne', hlb', hls', ?_⟩
    · rw [mm_wr_ne hne', mm_drew, hm', List.length_set]
    · rw [fz_wr, fz_drew, hz']
    · rw [fz_wr, fz_drew, hzs']
    · rw [List.length_set]
      have h2 := rd_setat (rd_drew hrd') (n := 2) (fun _ => rfl) (by omega) (minusL x (costM a)) hi (by rw [fz_drew, hzs'])
      rw [mm_drew] at h2
      exact h2
  · exact (pf.drew.mono (by simp)).wr (.inl (by simp)) _
end Go.Proofs.YtieejbkbdfccdaaDoor

set_option linter.unusedVariables false
set_option linter.unusedSimpArgs false
namespace Go.Proofs.YtieejbkbdfccdaaDoor
open Go

theorem wrap_i64 (x : Int) : IntKind.i64.wrap x = if 9223372036854775808 ≤ x % 18446744073709551616 then x % 18446744073709551616 - 18446744073709551616 else x % 18446744073709551616 := by
  simp [IntKind.wrap, IntKind.signed, IntKind.bits]
theorem wrap_in (x : Int) : in64 (IntKind.i64.wrap x) := by
  rw [wrap_i64]; unfold in64; split <;> omega
theorem wrap_addl (a b : Int) : IntKind.i64.wrap (IntKind.i64.wrap a + b) = IntKind.i64.wrap (a + b) := by
  rw [wrap_i64 a, wrap_i64 (a + b)]
  split
  · rw [wrap_i64]
    have : (a % 18446744073709551616 - 18446744073709551616 + b) % 18446744073709551616 = (a + b) % 18446744073709551616 := by omega
    rw [this]
  · rw [wrap_i64]
    have : (a % 18446744073709551616 + b) % 18446744073709551616 = (a + b) % 18446744073709551616 := by omega
    rw [this]
theorem wrap_subl (a b : Int) : IntKind.i64.wrap (IntKind.i64.wrap a - b) = IntKind.i64.wrap (a - b) := by
  have := wrap_addl a (-b)
  rwa [← Int.sub_eq_add_neg, ← Int.sub_eq_add_neg] at this
theorem wrap_addr (a b : Int) : IntKind.i64.wrap (a + IntKind.i64.wrap b) = IntKind.i64.wrap (a + b) := by
  rw [Int.add_comm, wrap_addl, Int.add_comm]
theorem wrap_id {x : Int} (h : in64 x) : IntKind.i64.wrap x = x := wrap64 h.1 h.2
def sumP : List PR → Int
  | [] => 0
  | p :: L => p.rec'.num + sumP L
theorem mergeN_eq : ∀ (L : List PR) {n : Int}, in64 n → mergeN n L = IntKind.i64.wrap (n + sumP L)
  | [], n, h => by simp [mergeN, sumP, wrap_id h]
  | p :: L, n, h => by
    rw [mergeN, mergeN_eq L (wrap_in _), wrap_addl, sumP]
    congr 1; omega
theorem sumP_set : ∀ {L : List PR} {i : Nat} {x : PR} (y : PR), L[i]? = some x → sumP (L.set i y) = sumP L - x.rec'.num + y.rec'.num
  | [], i, x, y, h => by simp at h
  | p :: L, 0, x, y, h => by
    simp only [List.getElem?_cons_zero, Option.some.injEq] at h
    subst h
    simp only [List.set_cons_zero, sumP]; omega
  | p :: L, i + 1, x, y, h => by
    simp only [List.getElem?_cons_succ] at h
    simp only [List.set_cons_succ, sumP, sumP_set y h]; omega
theorem sumP_zero : ∀ {L : List PR}, (∀ p ∈ L, p.rec'.num = 0) → sumP L = 0
  | [], _ => rfl
  | p :: L, h => by rw [sumP, h p (by simp), sumP_zero fun q hq => h q (by simp [hq])]; rfl
def sumU : List Lf → Nat
  | [] => 0
  | p :: L => p.up + sumU L
def sumD : List Lf → Nat
  | [] => 0
  | p :: L => p.down + sumD L
theorem sumU_set : ∀ {L : List Lf} {i : Nat} {x : Lf} (y : Lf), L[i]? = some x → sumU (L.set i y) + x.up = sumU L + y.up
  | [], i, x, y, h => by simp at h
  | p :: L, 0, x, y, h => by
    simp only [List.getElem?_cons_zero, Option.some.injEq] at h
    subst h
    simp only [List.set_cons_zero, sumU]; omega
  | p :: L, i + 1, x, y, h => by
    simp only [List.getElem?_cons_succ] at h
    have := sumU_set y h
    simp only [List.set_cons_succ, sumU]; omega
theorem sumD_set : ∀ {L : List Lf} {i : Nat} {x : Lf} (y : Lf), L[i]? = some x → sumD (L.set i y) + x.down = sumD L + y.down
  | [], i, x, y, h => by simp at h
  | p :: L, 0, x, y, h => by
    simp only [List.getElem?_cons_zero, Option.some.injEq] at h
    subst h
    simp only [List.set_cons_zero, sumD]; omega
  | p :: L, i + 1, x, y, h => by
    simp only [List.getElem?_cons_succ] at h
    have := sumD_set y h
    simp only [List.set_cons_succ, sumD]; omega
theorem sumU_append : ∀ (L M : List Lf), sumU (L ++ M) = sumU L + sumU M
  | [], M => by simp [sumU]
  | p :: L, M => by simp only [List.cons_append, sumU, sumU_append L M]; omega
theorem sumD_append : ∀ (L M : List Lf), sumD (L ++ M) = sumD L + sumD M
  | [], M => by simp [sumD]
  | p :: L, M => by simp only [List.cons_append, sumD, sumD_append L M]; omega
theorem sumU_mem : ∀ {L : List Lf} {x : Lf}, x ∈ L → x.up ≤ sumU L
  | p :: L, x, h => by
    rcases List.mem_cons.1 h with rfl | h
    · simp only [sumU]; omega
    · have := sumU_mem h; simp only [sumU]; omega
theorem sumD_mem : ∀ {L : List Lf} {x : Lf}, x ∈ L → x.down ≤ sumD L
  | p :: L, x, h => by
    rcases List.mem_cons.1 h with rfl | h
    · simp only [sumD]; omega
    · have := sumD_mem h; simp only [sumD]; omega
theorem sumU_take {L : List Lf} {j : Nat} {x : Lf} (h : L[j]? = some x) : sumU (L.take (j + 1)) = sumU (L.take j) + x.up := by
  rw [List.take_add_one, h, Option.toList_some, sumU_append]; simp [sumU]
theorem sumD_take {L : List Lf} {j : Nat} {x : Lf} (h : L[j]? = some x) : sumD (L.take (j + 1)) = sumD (L.take j) + x.down := by
  rw [List.take_add_one, h, Option.toList_some, sumD_append]; simp [sumD]
theorem sumU_take_le (L : List Lf) (j : Nat) : sumU (L.take j) ≤ sumU L := by
  conv => rhs; rw [← List.take_append_drop j L, sumU_append]
  omega
theorem sumD_take_le (L : List Lf) (j : Nat) : sumD (L.take j) ≤ sumD L := by
  conv => rhs; rw [← List.take_append_drop j L, sumD_append]
  omega
theorem partsL_len (u d n j : Nat) : (partsL u d n j).length = j := by simp [partsL]
theorem sumU_parts (u d n : Nat) : ∀ j, sumU (partsL u d n j) = j * (u / n) + min j (u % n)
  | 0 => by simp [partsL, sumU]
  | j + 1 => by
    rw [partsL_succ, sumU_append, sumU_parts u d n j]
    simp only [sumU, partN, Nat.add_mul, Nat.one_mul]
    split <;> omega
theorem sumD_parts (u d n : Nat) : ∀ j, sumD (partsL u d n j) = j * (d / n) + min j (d % n)
  | 0 => by simp [partsL, sumD]
  | j + 1 => by
    rw [partsL_succ, sumD_append, sumD_parts u d n j]
    simp only [sumD, partN, Nat.add_mul, Nat.one_mul]
    split <;> omega
theorem sumU_all {u d n : Nat} (hn : 0 < n) : sumU (partsL u d n n) = u := by
  rw [sumU_parts]
  have := Nat.mod_lt u hn
  have h2 := Nat.div_add_mod u n
  rw [Nat.min_eq_right (by omega)]; omega
theorem sumD_all {u d n : Nat} (hn : 0 < n) : sumD (partsL u d n n) = d := by
  rw [sumD_parts]
  have := Nat.mod_lt d hn
  have h2 := Nat.div_add_mod d n
  rw [Nat.min_eq_right (by omega)]; omega

/-! ### A part -/
structure PartOk (p : PR) : Prop where
  rec0 : p.rec' = withN rSum p.rec'.num
  n0 : p.n = 0
  num : in64 p.rec'.num
theorem sumOk (n : Int) : RecOk (withN rSum n) := by
  refine ⟨by simp [rSum, withN], by simp [rSum, withN], ?_, by simp [rSum, withN], by simp [rSum, withN], by simp only [rSum, withN]; decide, by simp [rSum, withN]⟩
  simp [onlyP, rSum, withN, fieldsR, fieldL]
theorem sumR {n : Int} (h : in64 n) : okR (withN rSum n) := by
  refine ⟨?_, h, ?_, ?_, ?_, ?_, ?_⟩ <;> simp [withN, rSum, in64, H63]
theorem part_new {n : Int} (h : in64 n) (l : Option Addr) (c : Nat) : PartOk ⟨withN rSum n, l, 0, c⟩ := ⟨rfl, rfl, h⟩
theorem part_is {w : World} {p : PR} (h : PartOk p) : IsRec w (.slice p.l p.rec'.list.length p.c) p.rec' := by
  have hl : p.rec'.list = [] := by rw [h.rec0]; rfl
  exact isRec_nil hl (by rw [h.rec0]; exact sumR h.num)
theorem part_cells {p : PR} (h : PartOk p) : prC p = rcV p.rec' (.slice p.l p.rec'.list.length p.c) := by
  have hl : p.rec'.list = [] := by rw [h.rec0]; rfl
  rw [prC, h.n0, hl]; rfl
end Go.Proofs.YtieejbkbdfccdaaDoor

set_option linter.unusedVariables false
set_option linter.unusedSimpArgs false
namespace Go.Proofs.YtieejbkbdfccdaaDoor
open Go

def pS : PR := ⟨rSum, none, 0, 0⟩
def pZ : PR := ⟨rz, none, 0, 0⟩
theorem rdv_wr {w : World} {v : Value} {n : Nat} {cs : List Value} (h : RdV w v n cs) {b : Nat} {l : List Value} (hb : ∀ k, v.ownBlock = some k → k ≠ b) : RdV (wr w b l) v n cs :=
  h.fr (S := [b]) ((Fr.refl [b] w).wr (.inl (by simp)) _) (fun k hk hm => hb k hk (by simpa using hm))
/-- What stands through all of the law. -/
structure ShC (w0 : World) (b0 : Nat) (r : RecP) (la : Option Addr) (ca : Nat) (w : World) : Prop where
  kw : KW w
  box : mm w b0 = rcV r (.slice la r.list.length ca)
  lt : b0 < sz w
  rec' : IsRec w (.slice la r.list.length ca) r
  fr : Fr [] w0 w
theorem ShC.fr0 {w0 : World} {b0 : Nat} {r : RecP} {la : Option Addr} {ca : Nat} {w w' : World} (h : ShC w0 b0 r la ca w) (hf : Fr [] w w') : ShC w0 b0 r la ca w' :=
  ⟨h.kw.fr0 hf, by rw [hf.mm h.lt (by simp), h.box], hf.lt h.lt, h.rec'.fr0 hf, h.fr.trans0 hf⟩
theorem ShC.of {w0 : World} {b0 : Nat} {r : RecP} {la : Option Addr} {ca : Nat} {w' : World} (h : ShC w0 b0 r la ca w0) (hf : Fr [] w0 w') : ShC w0 b0 r la ca w' := h.fr0 hf

def FillI (w0 : World) (b0 pb n : Nat) (r : RecP) (e0 : Env) (m : Nat) (e : Env) (w' : World) : Prop :=
  ∃ (j : Nat) (Ps : List PR), m = n - j ∧ j ≤ n ∧ Ps.length = n ∧ (∀ i, i < j → Ps[i]? = some pS) ∧ RdV w' (sl pb 0 Ps.length n) Ps.length (flat prC Ps) ∧ fz w' pb = false ∧ Fr [] w0 w' ∧
    e 56 = i64 n ∧ e 57 = i64 j ∧ e 3 = pt b0 0 ∧ e 9 = sl pb 0 n n ∧ e 1 = e0 1 ∧ e 2 = e0 2 ∧ e 7 = e0 7
set_option maxHeartbeats 1000000 in
theorem fill_step {w0 : World} {b0 pb n : Nat} {r : RecP} {la : Option Addr} {ca : Nat} {e0 : Env} (hc : ShC w0 b0 r la ca w0) (hrok : RecOk r) (hk4 : r.kind = 4) (hp0 : sz w0 ≤ pb) (hn8 : n ≤ 8) {j : Nat} {e : Env} {w1 : World} (hj : j < n)
    (hI : FillI w0 b0 pb n r e0 (n - j) e w1) {K : KT} (hK : ∀ e' w'', FillI w0 b0 pb n r e0 (n - (j + 1)) e' w'' → K .normal e' w'') : F5B0 e w1 K := by
  obtain ⟨j', Ps, hmj, hj', hPl, hPs, hrd, hz, hf, e56, e57, e3, e9, e1, e2, e7⟩ := hI
  obtain rfl : j = j' := by omega
  unfold F5B0
  have hc1 := hc.of hf
  have hji : (j : Int) < n := by omega
  have hwj : IntKind.i64.wrap ((j : Int) + 1) = ((j + 1 : Nat) : Int) := wrap64 (by omega) (by omega)
  have t8 : ∀ r lv, (rcV r lv).take 8 = rcV r lv := fun _ _ => rfl
  have hbox := hc1.box
  try simp (maxDischargeDepth := 8) [↓sC, sB, sM, e56, e57, e3, e9, hji, hj, hbox, t8]
  refine (slice_spec hc1.rec' hrok).call ?_
  rintro _ w2 ⟨rr, bb, rfl, h4, f2⟩
  obtain ⟨rfl, rfl⟩ := h4 hk4
  have hz2 : fz w2 pb = false := by rw [f2.fz (lt_of_fz hz) (by simp), hz]
  have hrd2 := hrd.fr0 f2
  have hlen : (mm w2 pb).length ≥ n * 8 := by
    rcases hrd2 with ⟨_, _, _, h0, _⟩ | ⟨b', o, c', hv, _, _, _, hin, _⟩
    · omega
    simp only [sl, Value.slice.injEq, Option.some.injEq, Addr.mk.injEq, true_and, and_true] at hv
    obtain ⟨⟨rfl, rfl⟩, rfl⟩ := hv
    rw [flat_length (prC_len Ps), hPl] at hin
    omega
  have hin : j * 8 + 8 ≤ (mm w2 pb).length := by
    have : (j + 1) * 8 ≤ n * 8 := Nat.mul_le_mul_right _ hj
    omega
  have hset := rd_setat hrd2 (n := 8) (fun _ => rfl) (by omega) pS (i := j) (by omega) hz2
  have one : (∀ v, v ∈ rcV rSum (.slice none 0 0) → v.oneCell' = true) = True := rcV_oneT (r := rSum) (a := none) (n := 0) (c := 0)
  have len8 : (rcV rSum (.slice none 0 0)).length = 8 := rfl
  have hpS : prC pS = rcV rSum (.slice none 0 0) := rfl
  rw [hpS] at hset
  try simp (maxDischargeDepth := 8) [↓sC, sB, sM, hji, hj, hz2, hin, one, len8, hwj, -Int.natCast_add]
  refine hK _ _ ⟨j + 1, Ps.set j pS, rfl, by omega, by rw [List.length_set, hPl], ?_, by rw [List.length_set]; exact hset, by rw [fz_wr, hz2], (hf.trans0 f2).wr (.inr hp0) _, by simp [put_get, e56], by simp [put_get], by simp [put_get, e3], by simp [put_get, e9], by simp [put_get, e1], by simp [put_get, e2], by simp [put_get, e7]⟩
  intro i hi
  rw [List.getElem?_set]
  by_cases h : j = i
  · rw [if_pos h, if_pos (by omega)]
  · rw [if_neg h]; exact hPs i (by omega)

def SumI (w0 w1 : World) (b sb c n : Nat) (r : RecP) (Ls : List Lf) (e0 : Env) (m : Nat) (e : Env) (w' : World) : Prop :=
  ∃ j : Nat, m = n - j ∧ j ≤ n ∧ EscB w0 w' b sb c r Ls ∧ Fr [] w1 w' ∧ e 139 = i64 n ∧ e 140 = i64 j ∧ e 16 = u64 (sumU (Ls.take j)) ∧ e 17 = u64 (sumD (Ls.take j)) ∧ e 7 = pt b 0 ∧
    e 3 = e0 3 ∧ e 9 = e0 9 ∧ e 11 = e0 11 ∧ e 12 = e0 12 ∧ e 13 = e0 13
set_option maxHeartbeats 1000000 in
theorem sum_step {w0 w1 : World} {b sb c n : Nat} {r : RecP} {Ls : List Lf} {e0 : Env} (hn : Ls.length = n) (hn8 : n ≤ 8) (hU : sumU Ls < 2 * H63) (hD : sumD Ls < 2 * H63) {j : Nat} {e : Env} {w2 : World} (hj : j < n)
    (hI : SumI w0 w1 b sb c n r Ls e0 (n - j) e w2) {K : KT} (hK : ∀ e' w'', SumI w0 w1 b sb c n r Ls e0 (n - (j + 1)) e' w'' → K .normal e' w'') : F5B2 e w2 K := by
  obtain ⟨j', hmj, hj', hE, hf, e139, e140, e16, e17, e7, e3, e9, e11, e12, e13⟩ := hI
  obtain rfl : j = j' := by omega
  unfold F5B2
  have hji : (j : Int) < n := by omega
  have hwj : IntKind.i64.wrap ((j : Int) + 1) = ((j + 1 : Nat) : Int) := wrap64 (by omega) (by omega)
  obtain ⟨x, hx⟩ : ∃ x, Ls[j]? = some x := ⟨_, List.getElem?_eq_getElem (by omega)⟩
  have t1 := sumU_take hx
  have t2 := sumD_take hx
  have l1 := sumU_take_le Ls (j + 1)
  have l2 := sumD_take_le Ls (j + 1)
  try simp (maxDischargeDepth := 8) [↓sC, sB, sM, e139, e140, e7, hji, hj]
  refine (leftB_spec hE hx (by omega)).call ?_
  rintro _ w3 ⟨rfl, f3⟩
  have hw1 : IntKind.u64.wrap ((sumU (Ls.take j) : Int) + (x.up : Int)) = ((sumU (Ls.take (j + 1)) : Nat) : Int) := by
    rw [t1, Int.natCast_add, ← Int.natCast_add]; exact wrapu (by omega)
  have hw2 : IntKind.u64.wrap ((sumD (Ls.take j) : Int) + (x.down : Int)) = ((sumD (Ls.take (j + 1)) : Nat) : Int) := by
    rw [t2, Int.natCast_add, ← Int.natCast_add]; exact wrapu (by omega)
  try simp (maxDischargeDepth := 8) [↓sC, sB, sM, e16, e17, e140, hw1, hw2, hwj, -Int.natCast_add]
  exact hK _ _ ⟨j + 1, rfl, by omega, hE.fr0 f3, hf.trans0 f3, by simp [put_get, e139], by simp [put_get], by simp [put_get], by simp [put_get], by simp [put_get, e7], by simp [put_get, e3], by simp [put_get, e9], by simp [put_get, e11], by simp [put_get, e12], by simp [put_get, e13]⟩
end Go.Proofs.YtieejbkbdfccdaaDoor

set_option linter.unusedVariables false
set_option linter.unusedSimpArgs false
namespace Go.Proofs.YtieejbkbdfccdaaDoor
open Go

structure DeedP where
  wk : Int
  act : ActP
  la : Option Addr
  c : Nat
def deV (d : DeedP) : List Value := i64 d.wk :: acV d.act (.slice d.la d.act.make.list.length d.c)
def dz : DeedP := ⟨0, ⟨0, [], 0, 0, [], rz, false⟩, none, 0⟩
theorem deV_len : ∀ (L : List DeedP), ∀ p ∈ L, (deV p).length = 15 := fun _ _ _ => rfl
@[simp] theorem dlen {d : DeedP} : (deV d).length = 15 := rfl
@[simp] theorem dg0 {d : DeedP} : gt (deV d) 0 = i64 d.wk := rfl
@[simp] theorem dg1 {d : DeedP} : gt (deV d) 1 = i64 d.act.kind := rfl
@[simp] theorem dg3 {d : DeedP} : gt (deV d) 3 = i64 d.act.n := rfl
theorem dea {d : DeedP} : ((deV d).drop 1).take 14 = acV d.act (.slice d.la d.act.make.list.length d.c) := rfl
theorem dea' {d : DeedP} : (deV d).tail.take 14 = acV d.act (.slice d.la d.act.make.list.length d.c) := rfl
theorem deV_oneT {d : DeedP} : (∀ v, v ∈ deV d → v.oneCell' = true) = True := by
  simp only [eq_iff_iff, iff_true, deV]
  intro v hv
  rcases List.mem_cons.1 hv with rfl | hv
  · rfl
  · exact (acV_oneT.mpr trivial) v hv
def DeOk (w : World) (d : DeedP) : Prop := in64 d.wk ∧ IsAct w (.slice d.la d.act.make.list.length d.c) d.act
theorem bsl34_one {w : World} {a : ActP} {la : Option Addr} {n c : Nat} : pBuildSlice P 34 1 [(0, .agg (acV a (.slice la n c)).toArray)] w = some (sl (sz w) 0 1 1, nw w (acV a (.slice la n c)) 27) := by
  rw [bsl34 (by omega) (by intro p hp; simp only [List.mem_cons, List.not_mem_nil, or_false] at hp; subst hp; exact ⟨by simp [Value.cells], by simp⟩)]
  rfl

structure ShS (w0 : World) (b sb c pb n : Nat) (r : RecP) (U D : Nat) (Ls : List Lf) (Ps : List PR) (inn out : Nat) (num : Int) (w : World) : Prop where
  esc : EscB w0 w b sb c r Ls
  lenL : Ls.length = n
  up : sumU Ls + inn = U
  down : sumD Ls + out = D
  lenP : Ps.length = n
  okP : ∀ p ∈ Ps, PartOk p
  num : num = IntKind.i64.wrap (r.num + sumP Ps)
  rdP : RdV w (sl pb 0 Ps.length n) Ps.length (flat prC Ps)
  fzP : fz w pb = false
  fr : Fr [] w0 w
theorem ShS.fr0 {w0 : World} {b sb c pb n : Nat} {r : RecP} {U D : Nat} {Ls : List Lf} {Ps : List PR} {inn out : Nat} {num : Int} {w w' : World} (h : ShS w0 b sb c pb n r U D Ls Ps inn out num w) (hf : Fr [] w w') : ShS w0 b sb c pb n r U D Ls Ps inn out num w' :=
  ⟨h.esc.fr0 hf, h.lenL, h.up, h.down, h.lenP, h.okP, h.num, h.rdP.fr0 hf, by rw [hf.fz (lt_of_fz h.fzP) (by simp), h.fzP], h.fr.trans0 hf⟩
def DeI (w0 : World) (b0 b sb c pb n : Nat) (r : RecP) (U D : Nat) (DL : List DeedP) (dv : Value) (m : Nat) (e : Env) (w' : World) : Prop :=
  ∃ (j : Nat) (Ls : List Lf) (Ps : List PR) (inn out : Nat) (num : Int), m = DL.length - j ∧ j ≤ DL.length ∧ ShS w0 b sb c pb n r U D Ls Ps inn out num w' ∧
    e 1 = i64 n ∧ e 2 = dv ∧ e 3 = pt b0 0 ∧ e 7 = pt b 0 ∧ e 9 = sl pb 0 n n ∧ e 11 = i64 num ∧ e 12 = u64 inn ∧ e 13 = u64 out ∧ e 71 = dv ∧ e 72 = i64 DL.length ∧ e 73 = i64 j
theorem ShS.draw {w0 : World} {b sb c pb n : Nat} {r : RecP} {U D : Nat} {Ls : List Lf} {Ps : List PR} {inn out : Nat} {num : Int} {w w' : World} (h : ShS w0 b sb c pb n r U D Ls Ps inn out num w) (hpb : pb ≠ sb) (hpb2 : pb ≠ b) (hp0 : sz w0 ≤ pb) {i : Nat} {x : Lf} {p : PR} {a : ActP} (hxi : Ls[i]? = some x) (hpi : Ps[i]? = some p)
    (hup : (costM a).up ≤ x.up) (hdn : (costM a).down ≤ x.down) (hok : ActOk a) (hka : a.kind = 10 ∨ a.kind = 11) (hE : EscB w0 w' b sb c r (Ls.set i (minusL x (costM a)))) (hf : Fr [sb] w w') {l' : Option Addr} {c' : Nat} :
    ShS w0 b sb c pb n r U D (Ls.set i (minusL x (costM a))) (Ps.set i ⟨addN p.rec' (signed a), l', p.rec'.list.length, c'⟩) (inn + (costM a).up) (out + (costM a).down) (IntKind.i64.wrap (num + signed a)) (wr w' pb (splice (mm w' pb) (i * 8) (prC ⟨addN p.rec' (signed a), l', p.rec'.list.length, c'⟩))) := by
  have hi : i < Ps.length := (List.getElem?_eq_some_iff.1 hpi).1
  have hpk := h.okP p (List.mem_of_getElem? hpi)
  have hl : p.rec'.list = [] := by rw [hpk.rec0]; rfl
  have hz : fz w' pb = false := by rw [hf.fz (lt_of_fz h.fzP) (by simpa using hpb), h.fzP]
  have hrd : RdV w' (sl pb 0 Ps.length n) Ps.length (flat prC Ps) := h.rdP.fr hf (fun k hk => by simp [sl, Value.ownBlock] at hk; subst hk; simpa using hpb)
  have hset := rd_setat hrd (n := 8) (fun _ => rfl) (by omega) ⟨addN p.rec' (signed a), l', p.rec'.list.length, c'⟩ hi hz
  have hsb := h.esc.ls
  refine ⟨hE.fr (S := [pb]) ((Fr.refl [pb] w').wr (.inl (by simp)) _) (by simpa using fun h => hpb2 h.symm) (by simpa using fun h => hpb h.symm), by rw [List.length_set, h.lenL], ?_, ?_, by rw [List.length_set, h.lenP], ?_, ?_, by rw [List.length_set]; exact hset, by rw [fz_wr, hz], (h.fr.trans hf (fun k hk => .inr (by simp at hk; omega))).wr (.inr hp0) _⟩
  · have := sumU_set (minusL x (costM a)) hxi
    have := h.up
    simp only [minusL] at *; omega
  · have := sumD_set (minusL x (costM a)) hxi
    have := h.down
    simp only [minusL] at *; omega
  · intro q hq
    rcases List.mem_or_eq_of_mem_set hq with hq | rfl
    · exact h.okP q hq
    · refine ⟨?_, by rw [hl]; rfl, wrap_in _⟩
      show addN p.rec' (signed a) = _
      conv => lhs; rw [hpk.rec0]
      rfl
  · have e1 : (addN p.rec' (signed a)).num = IntKind.i64.wrap (p.rec'.num + signed a) := rfl
    rw [sumP_set _ hpi, h.num, wrap_addl]
    show _ = IntKind.i64.wrap (r.num + (sumP Ps - p.rec'.num + (addN p.rec' (signed a)).num))
    rw [e1, show r.num + (sumP Ps - p.rec'.num + IntKind.i64.wrap (p.rec'.num + signed a)) = (r.num + sumP Ps - p.rec'.num) + IntKind.i64.wrap (p.rec'.num + signed a) by omega, wrap_addr]
    congr 1; omega

set_option maxHeartbeats 4000000 in
set_option maxRecDepth 20000 in
theorem deed_step {w0 : World} {b0 b sb c pb n : Nat} {r : RecP} {la : Option Addr} {ca : Nat} {U D : Nat} {DL : List DeedP} {dv : Value} (hc : ShC w0 b0 r la ca w0) (hk4 : r.kind = 4) (hU : U < 2 * H63) (hD : D < 2 * H63) (hpb : pb ≠ sb) (hpb2 : pb ≠ b) (hp0 : sz w0 ≤ pb) (hn8 : n ≤ 8)
    (hDL : DL.length ≤ 60) (hdv : RdV w0 dv DL.length (flat deV DL)) (hdo : ∀ d ∈ DL, DeOk w0 d) {j : Nat} {e : Env} {w1 : World} (hj : j < DL.length)
    (hI : DeI w0 b0 b sb c pb n r U D DL dv (DL.length - j) e w1) {K : KT} (hK : ∀ e' w'', DeI w0 b0 b sb c pb n r U D DL dv (DL.length - (j + 1)) e' w'' → K .normal e' w'') : F5B1 e w1 K := by
  obtain ⟨j', Ls, Ps, inn, out, num, hmj, hj', hS, e1, e2, e3, e7, e9, e11, e12, e13, e71, e72, e73⟩ := hI
  obtain rfl : j = j' := by omega
  unfold F5B1
  obtain ⟨d, hd⟩ : ∃ d, DL[j]? = some d := ⟨_, List.getElem?_eq_getElem hj⟩
  have hdk := hdo d (List.mem_of_getElem? hd)
  obtain ⟨db, o, dc, rfl, hdb, hin, htk⟩ := flat_at (hdv.fr0 hS.fr) (deV_len DL) (by omega) hd
  have hji : (j : Int) < DL.length := by omega
  have hwj : IntKind.i64.wrap ((j : Int) + 1) = ((j + 1 : Nat) : Int) := wrap64 (by omega) (by omega)
  have hz15 : [Value.int IntKind.i64 0, Value.int IntKind.i64 0, Value.string ByteArray.empty, Value.int IntKind.i64 0, Value.float FloatKind.f64 0, Value.string ByteArray.empty, Value.int IntKind.i64 0, Value.int IntKind.i64 0, Value.int IntKind.i64 0, Value.int IntKind.i64 0, Value.float FloatKind.f64 0, Value.int IntKind.i64 0, Value.string ByteArray.empty, Value.slice none 0 0, Value.bool false] = deV dz := rfl
  obtain ⟨W2, hW2⟩ : ∃ W2, W2 = wr (nw w1 (deV dz) 60) (sz w1) (deV d) := ⟨_, rfl⟩
  have f2 : Fr [] w1 W2 := by rw [hW2]; exact ((Fr.refl [] w1).nw _ _).wr (.inr (Nat.le_refl _)) _
  have q2 : mm W2 (sz w1) = deV d := by rw [hW2]; exact mm_wr_same (by simp [fz_nw]) _
  have s2 : sz w1 < sz W2 := by rw [hW2, sz_wr, sz_nw]; omega
  have hsp : splice (deV dz) 0 (deV d) = deV d := splice_full rfl
  have hw01 : IntKind.i64.wrap 1 = 1 := rfl
  try simp (maxDischargeDepth := 8) [↓sC, sB, sM, e71, e72, e73, hji, hj, hin, htk, hz15, hsp, deV_oneT, ← hW2, q2, dea, dea']
  refine (bigA_spec (hdk.2.fr0 (hS.fr.trans0 f2))).call ?_
  rintro v w3 ⟨hv, f3⟩
  have g3 := f2.trans0 f3
  have q3 : mm w3 (sz w1) = deV d := by rw [f3.mm s2 (by simp), q2]
  have s3 := f3.lt s2
  rcases hv.symm with rfl | rfl
  · try simp (maxDischargeDepth := 8) [↓sC, sB, sM, hwj, e73, -Int.natCast_add]
    exact hK _ _ ⟨j + 1, Ls, Ps, inn, out, num, rfl, by omega, hS.fr0 g3, by simp [put_get, e1], by simp [put_get, e2], by simp [put_get, e3], by simp [put_get, e7], by simp [put_get, e9], by simp [put_get, e11], by simp [put_get, e12], by simp [put_get, e13], by simp [put_get, e71], by simp [put_get, e72], by simp [put_get]⟩
  try simp (maxDischargeDepth := 8) [↓sC, sB, sM, e7, q3, dea, dea', bsl34_one, -bsl34]
  obtain ⟨W4, hW4⟩ : ∃ W4, W4 = nw w3 (acV d.act (.slice d.la d.act.make.list.length d.c)) 27 := ⟨_, rfl⟩
  have f4 : Fr [] w3 W4 := by rw [hW4]; exact (Fr.refl [] w3).nw _ _
  have hrd4 : RdV W4 (sl (sz w3) 0 1 1) 1 (acV d.act (.slice d.la d.act.make.list.length d.c)) := by rw [hW4]; exact rd_new _ _ _ (by unfold maxLen; omega)
  rw [← hW4]
  have g4 := g3.trans0 f4
  have S4 := hS.fr0 g4
  have hxb : ∀ x ∈ Ls, x.up < 2 * H63 ∧ x.down < 2 * H63 := fun x hx => by
    have h1 := sumU_mem hx
    have h2 := sumD_mem hx
    have h3 := hS.up
    have h4 := hS.down
    exact ⟨by omega, by omega⟩
  have hdr := draw_spec (wk := d.wk) S4.esc hk4 hxb (by rw [hS.lenL]; exact hn8) (hc.kw.fr0 S4.fr) (hdk.2.fr0 S4.fr) hrd4
  refine hdr.call ?_
  rintro _ w5 ⟨k, rfl, ⟨k0, f5⟩ | ⟨rfl, aok, hka, i, x, hwk, hxi, hup, hdn, hE5, f5⟩⟩
  · try simp (maxDischargeDepth := 8) [↓sC, sB, sM, k0, hwj, e73, -Int.natCast_add]
    exact hK _ _ ⟨j + 1, Ls, Ps, inn, out, num, rfl, by omega, S4.fr0 f5, by simp [put_get, e1], by simp [put_get, e2], by simp [put_get, e3], by simp [put_get, e7], by simp [put_get, e9], by simp [put_get, e11], by simp [put_get, e12], by simp [put_get, e13], by simp [put_get, e71], by simp [put_get, e72], by simp [put_get]⟩
  have hin' : i < n := by rw [← hS.lenL]; exact (List.getElem?_eq_some_iff.1 hxi).1
  have hqs : sz w1 ≠ sb := by have := lt_of_fz hS.esc.zs; omega
  have s4 := f4.lt s3
  have q5 : mm w5 (sz w1) = deV d := by rw [f5.mm s4 (by simpa using hqs), f4.mm s3 (by simp), q3]
  have s5 := f5.lt s4
  have i0 : ¬ (i : Int) < 0 := by omega
  have i1 : (i : Int) < n := by omega
  have i2 : ¬ (n : Int) ≤ i := by omega
  have i3 : ¬ n ≤ i := by omega
  obtain ⟨p, hpi⟩ : ∃ p, Ps[i]? = some p := ⟨_, List.getElem?_eq_getElem (by rw [hS.lenP]; exact hin')⟩
  have hpk := hS.okP p (List.mem_of_getElem? hpi)
  have hF5 : Fr [] w0 w5 := S4.fr.trans f5 (fun k hk => .inr (by simp at hk; have := hS.esc.ls; omega))
  have hrd5 : RdV w5 (sl pb 0 Ps.length n) Ps.length (flat prC Ps) := S4.rdP.fr f5 (fun k hk => by simp [sl, Value.ownBlock] at hk; subst hk; simpa using hpb)
  obtain ⟨_, pin, ptk⟩ := flat_at2 hrd5 (prC_len Ps) (by omega) hpi
  simp only [Nat.zero_add] at pin ptk
  rw [part_cells hpk] at ptk
  try simp (maxDischargeDepth := 8) [↓sC, sB, sM, q5, hwk, e1, e9, i0, i1, i2, i3, hin', pin, ptk, dea, dea']
  have hpkk : p.rec'.kind = 2 := by rw [hpk.rec0]; rfl
  have hprk : RecOk p.rec' := by rw [hpk.rec0]; exact sumOk _
  refine (do_spec (hc.kw.fr0 hF5.drew) (part_is hpk) hprk hpkk (hdk.2.fr0 hF5.drew) aok hka).call ?_
  rintro _ w6 ⟨l', c', rfl, f6⟩
  have f56 : Fr [] w5 w6 := ((Fr.refl [] w5).drew).trans0 f6
  have q6 : mm w6 (sz w1) = deV d := by rw [f56.mm s5 (by simp), q5]
  have s6 := f56.lt s5
  have p6 : mm w6 pb = mm w5 pb := f56.mm (by have := S4.fzP; exact f5.lt (lt_of_fz this)) (by simp)
  have hE6 := hE5.fr0 f56
  have z6 : fz w6 pb = false := by rw [(f5.mono (T := [sb]) (by simp)).trans0 f56 |>.fz (lt_of_fz S4.fzP) (by simpa using hpb), S4.fzP]
  have hnew := S4.draw (w' := w6) hpb hpb2 hp0 hxi hpi hup hdn aok hka hE6 (f5.trans0 f56) (l' := l') (c' := c')
  have hqp : sz w1 ≠ pb := by have := lt_of_fz hS.fzP; omega
  have one : (∀ v, v ∈ rcV (addN p.rec' (signed d.act)) (.slice l' p.rec'.list.length c') → v.oneCell' = true) = True := rcV_oneT (r := addN p.rec' (signed d.act))
  have pin6 : i * 8 + 8 ≤ (mm w6 pb).length := by rw [p6]; exact pin
  have len8 : (rcV (addN p.rec' (signed d.act)) (.slice l' p.rec'.list.length c')).length = 8 := rfl
  obtain ⟨W7, hW7⟩ : ∃ W7, W7 = wr w6 pb (splice (mm w6 pb) (i * 8) (rcV (addN p.rec' (signed d.act)) (.slice l' p.rec'.list.length c'))) := ⟨_, rfl⟩
  have hnew7 : ShS w0 b sb c pb n r U D (Ls.set i (minusL x (costM d.act))) (Ps.set i ⟨addN p.rec' (signed d.act), l', p.rec'.list.length, c'⟩) (inn + (costM d.act).up) (out + (costM d.act).down) (IntKind.i64.wrap (num + signed d.act)) W7 := by rw [hW7]; exact hnew
  have q7 : mm W7 (sz w1) = deV d := by rw [hW7, mm_wr_ne hqp, q6]
  obtain ⟨hn0, hn1⟩ := aok.amount hka
  unfold MP at hn1
  have hcw : IntKind.u64.wrap d.act.n = d.act.n := wrap_kind hn0 (by omega)
  have hup2 := hnew7.up
  have hdn2 := hnew7.down
  rcases hka with hk | hk
  · have hcm : costM d.act = ⟨d.act.n.toNat, 0⟩ := by simp [costM, hk]
    have hsg : signed d.act = d.act.n := by simp [signed, hk]
    rw [hcm, hsg] at hnew7
    rw [hcm] at hup2 hdn2
    simp only at hup2 hdn2
    have hw1 : IntKind.u64.wrap ((inn : Int) + d.act.n) = ((inn + d.act.n.toNat : Nat) : Int) := by
      rw [show (inn : Int) + d.act.n = ((inn + d.act.n.toNat : Nat) : Int) by omega]; exact wrapu (by omega)
    try simp (maxDischargeDepth := 8) [↓sC, sB, sM, q6, hwk, e9, i0, i1, hin', one, len8, z6, pin6, ← hW7, q7, hk, e11, e12, e13, hcw, hw1, hwj, e73, -Int.natCast_add]
    exact hK _ _ ⟨j + 1, _, _, _, _, _, rfl, by omega, hnew7.fr0 (Fr.refl [] W7).drew, by simp [put_get, e1], by simp [put_get, e2], by simp [put_get, e3], by simp [put_get, e7], by simp [put_get, e9], by simp [put_get], by simp [put_get], by simp [put_get, e13], by simp [put_get, e71], by simp [put_get, e72], by simp [put_get]⟩
  · have hcm : costM d.act = ⟨0, d.act.n.toNat⟩ := by simp [costM, hk]
    have hsg : signed d.act = -d.act.n := by simp [signed, hk]
    rw [hcm, hsg] at hnew7
    rw [hcm] at hup2 hdn2
    simp only at hup2 hdn2
    have hw1 : IntKind.u64.wrap ((out : Int) + d.act.n) = ((out + d.act.n.toNat : Nat) : Int) := by
      rw [show (out : Int) + d.act.n = ((out + d.act.n.toNat : Nat) : Int) by omega]; exact wrapu (by omega)
    try simp (maxDischargeDepth := 8) [↓sC, sB, sM, q6, hwk, e9, i0, i1, hin', one, len8, z6, pin6, ← hW7, q7, hk, e11, e12, e13, hcw, hw1, hwj, e73, -Int.natCast_add]
    exact hK _ _ ⟨j + 1, _, _, _, _, _, rfl, by omega, hnew7.fr0 (Fr.refl [] W7).drew, by simp [put_get, e1], by simp [put_get, e2], by simp [put_get, e3], by simp [put_get, e7], by simp [put_get, e9], by simp [put_get, Int.sub_eq_add_neg], by simp [put_get, e12], by simp [put_get], by simp [put_get, e71], by simp [put_get, e72], by simp [put_get]⟩
end Go.Proofs.YtieejbkbdfccdaaDoor

set_option linter.unusedVariables false
set_option linter.unusedSimpArgs false
namespace Go.Proofs.YtieejbkbdfccdaaDoor
open Go

theorem all_pS {Ps : List PR} {n : Nat} (hl : Ps.length = n) (h : ∀ i, i < n → Ps[i]? = some pS) : ∀ p ∈ Ps, p = pS := by
  intro p hp
  obtain ⟨i, hi⟩ := List.getElem?_of_mem hp
  have hlt := (List.getElem?_eq_some_iff.1 hi).1
  have := h i (by omega)
  rw [hi] at this
  exact Option.some.inj this
def env2 (n : Nat) (dv b : Value) : Env := fun x => if x = 1 then i64 n else if x = 2 then dv else b
def env3 (a b : Value) (num : Int) (inn out : Nat) : Env := fun x => if x = 3 then a else if x = 9 then b else if x = 11 then i64 num else if x = 12 then u64 inn else u64 out
set_option maxHeartbeats 4000000 in
set_option maxRecDepth 20000 in
theorem wholeShares_law {w : World} {r : RecP} {la : Option Addr} {ca : Nat} {wk : Int} {dv : Value} {DL : List DeedP} (hw : KW w) (hr : IsRec w (.slice la r.list.length ca) r) (hwk : in64 wk) (hdv : RdV w dv DL.length (flat deV DL)) (hdo : ∀ d ∈ DL, DeOk w d) :
    Ret P 5 #[.agg (rcV r (.slice la r.list.length ca)).toArray, i64 wk, dv] w fun v w' => v = .bool true ∧ Fr [] w w' := by
  refine F5ok ?_
  unfold F5
  obtain ⟨da, dc, rfl⟩ := sl_of hdv
  obtain ⟨W, hW⟩ : ∃ W, W = nw w (rcV r (.slice la r.list.length ca)) 25 := ⟨_, rfl⟩
  have fW : Fr [] w W := by rw [hW]; exact (Fr.refl [] w).nw _ _
  have hs : sz W = sz w + 1 := by rw [hW, sz_nw]
  have m1 : mm W (sz w) = rcV r (.slice la r.list.length ca) := by rw [hW]; simp [mm_nw]
  have t8 : ∀ r lv, (rcV r lv).take 8 = rcV r lv := fun _ _ => rfl
  have hsp4 : splitsM 4 11 = true := by decide
  try simp (maxDischargeDepth := 8) [↓sC, sB, sM, rcC, ← hW]
  refine (splits_spec (kind := 4) (k := 11) (hw.fr0 fW)).call ?_
  rintro _ w1 ⟨rfl, f1⟩
  have g1 := fW.trans0 f1
  have m2 : mm w1 (sz w) = rcV r (.slice la r.list.length ca) := by rw [f1.mm (by omega) (by simp), m1]
  have s1 := f1.size
  try simp (maxDischargeDepth := 8) [↓sC, sB, sM, hsp4, m2, t8]
  have hc1 : ShC w1 (sz w) r la ca w1 := ⟨hw.fr0 g1, m2, by omega, hr.fr0 g1, Fr.refl _ _⟩
  refine (new_spec (n := wk) (hr.fr0 g1)).call ?_
  rintro _ w2 ⟨f2, ⟨k, k0, rfl⟩ | ⟨hrok, hn1, hn8, b, rfl, hEsc⟩⟩
  · have hc2 := hc1.fr0 f2
    have m3 := hc2.box
    try simp (maxDischargeDepth := 8) [↓sC, sB, sM, m3, t8]
    refine (bigR_spec hc2.rec').call ?_
    rintro v w3 ⟨hv, f3⟩
    have m4 := (hc2.fr0 f3).box
    have hF := g1.trans0 (hc2.fr0 f3).fr
    rcases hv.symm with rfl | rfl
    · try simp (maxDischargeDepth := 8) [↓sC, sB, sM, k0]
      exact hF
    by_cases hl : 60 < DL.length
    · have hli : (60 : Int) < DL.length := by omega
      try simp (maxDischargeDepth := 8) [↓sC, sB, sM, k0, hl, hli]
      exact hF
    · have hli : ¬ (60 : Int) < DL.length := by omega
      try simp (maxDischargeDepth := 8) [↓sC, sB, sM, k0, hl, hli]
      exact hF
  have hc2 := hc1.fr0 f2
  have m3 := hc2.box
  try simp (maxDischargeDepth := 8) [↓sC, sB, sM, m3, t8]
  refine (bigR_spec hc2.rec').call ?_
  rintro v w3 ⟨hv, f3⟩
  have hc3 := hc2.fr0 f3
  have m4 := hc3.box
  have hF := g1.trans0 hc3.fr
  rcases hv.symm with rfl | rfl
  · try simp (maxDischargeDepth := 8) [↓sC, sB, sM]
    exact hF
  by_cases hl : 60 < DL.length
  · have hli : (60 : Int) < DL.length := by omega
    try simp (maxDischargeDepth := 8) [↓sC, sB, sM, hl, hli]
    exact hF
  have hli : ¬ (60 : Int) < DL.length := by omega
  by_cases hk4 : r.kind = 4
  rotate_left
  · try simp (maxDischargeDepth := 8) [↓sC, sB, sM, hl, hli, m4, hk4]
    exact hF
  obtain ⟨n, rfl⟩ : ∃ n : Nat, wk = n := ⟨wk.toNat, by omega⟩
  have hnt : (n : Int).toNat = n := by omega
  have n0 : 0 < n := by omega
  have n8 : n ≤ 8 := by omega
  obtain ⟨U, hU⟩ : ∃ U, U = (r.high - r.num).toNat := ⟨_, rfl⟩
  obtain ⟨D, hD⟩ : ∃ D, D = (r.num - r.low).toNat := ⟨_, rfl⟩
  obtain ⟨q1, q2, q3, q4⟩ := hrok.bounds hk4
  unfold MP at q1 q2
  have hU63 : U < 2 * H63 := by unfold H63; omega
  have hD63 : D < 2 * H63 := by unfold H63; omega
  have hE2 := hEsc hk4
  rw [← hU, ← hD, hnt] at hE2
  obtain ⟨sb, c, hE⟩ := hE2.toB (by rw [partsL_len]; exact n0)
  have hE3 := hE.fr0 f3
  have hmk : pMake P 56 (i64 n) (i64 n) w3 = some (sl (sz w3) 0 n n, nw w3 (List.replicate n (zeroL P 25)).flatten 25) := pMake_eq sliceE56 hasZero25 tyOk25 (by rw [zeroL25, cellsOf25]; rfl) (by rw [bytesOf25]; omega) (by omega)
  obtain ⟨W4, hW4⟩ : ∃ W4, W4 = nw w3 (List.replicate n (zeroL P 25)).flatten 25 := ⟨_, rfl⟩
  have f4 : Fr [] w3 W4 := by rw [hW4]; exact (Fr.refl [] w3).nw _ _
  have hflz : (List.replicate n (zeroL P 25)).flatten = flat prC (List.replicate n pZ) := by
    rw [zeroL25]; unfold flat; rw [List.map_replicate]; rfl
  have hrd4 : RdV W4 (sl (sz w3) 0 n n) n (flat prC (List.replicate n pZ)) := by rw [hW4, hflz]; exact rd_new _ _ _ (by unfold maxLen; omega)
  have hz4 : fz W4 (sz w3) = false := by rw [hW4]; simp [fz_nw]
  have hb3 : b < sz w3 := lt_of_fz hE3.zb
  have hsb3 : sb < sz w3 := lt_of_fz hE3.zs
  have hp0 : sz w1 ≤ sz w3 := by have := f2.size; have := f3.size; omega
  rw [← hW4] at hmk
  try simp (maxDischargeDepth := 8) [↓sC, sB, sM, hl, hli, m4, hk4, hmk]
  have hc33 : ShC w3 (sz w) r la ca w3 := ⟨hc3.kw, hc3.box, hc3.lt, hc3.rec', Fr.refl _ _⟩
  refine loopE_of (FillI w3 (sz w) (sz w3) n r (env2 n (.slice da DL.length dc) (pt b 0))) n ⟨0, List.replicate n pZ, by omega, by omega, List.length_replicate, by omega, by rw [List.length_replicate]; exact hrd4, hz4, f4, by simp [put_get], by simp [put_get], by simp [put_get], by simp [put_get], by simp [put_get, argE_get, env2], by simp [put_get, argE_get, env2], by simp [put_get, env2]⟩ ?_
  rintro m e w5 hI
  obtain ⟨j, Ps, rfl, hj, i1, i2, i3, i4, i5, e56, e57, e3, e9, e1, e2, e7⟩ := id hI
  by_cases hjl : j < n
  · exact fill_step hc33 hrok hk4 (Nat.le_refl _) n8 hjl hI fun e' w'' hK => ⟨n - (j + 1), by omega, hK⟩
  obtain rfl : j = n := by omega
  have hc5 := hc3.fr0 i5
  have m5 := hc5.box
  have hE5 := hE3.fr0 i5
  have hPs := all_pS i1 i2
  have hnum : in64 r.num := hr.2.2.1
  have hS5 : ShS w1 b sb c (sz w3) j r U D (partsL U D j j) Ps 0 0 r.num w5 := by
    refine ⟨hE5, partsL_len _ _ _ _, by rw [sumU_all n0]; rfl, by rw [sumD_all n0]; rfl, i1, fun p hp => by rw [hPs p hp]; exact part_new (n := 0) (by unfold in64; omega) none 0, ?_, i3, i4, hc5.fr⟩
    rw [sumP_zero (fun p hp => by rw [hPs p hp]; rfl), Int.add_zero, wrap_id hnum]
  clear i1 i2 i3 i4 hPs hrd4 hz4 hmk hW4 f4 hI
  unfold F5B0
  simp only [env2] at e1 e2 e7
  simp at e1 e2 e7
  try simp (maxDischargeDepth := 8) [↓sC, sB, sM, e56, e57, e3, m5, e2]
  have hpb : sz w3 ≠ sb := by omega
  have hpb2 : sz w3 ≠ b := by omega
  have hdv1 := hdv.fr0 g1
  have hdo1 : ∀ d ∈ DL, DeOk w1 d := fun d hd => ⟨(hdo d hd).1, (hdo d hd).2.fr0 g1⟩
  refine loopE_of (DeI w1 (sz w) b sb c (sz w3) j r U D DL (.slice da DL.length dc)) DL.length ⟨0, partsL U D j j, Ps, 0, 0, r.num, by omega, by omega, hS5, by simp [put_get, e1], by simp [put_get, e2], by simp [put_get, e3], by simp [put_get, e7], by simp [put_get, e9], by simp [put_get], by simp [put_get], by simp [put_get], by simp [put_get, e2], by simp [put_get], by simp [put_get]⟩ ?_
  clear hS5
  rintro m e w6 hI
  obtain ⟨i, Ls, Ps, inn, out, num, rfl, hi, hS, d1, d2, d3, d7, d9, d11, d12, d13, d71, d72, d73⟩ := id hI
  by_cases hil : i < DL.length
  · exact deed_step hc1 hk4 hU63 hD63 hpb hpb2 hp0 n8 (by omega) hdv1 hdo1 hil hI fun e' w'' hK => ⟨DL.length - (i + 1), by omega, hK⟩
  obtain rfl : i = DL.length := by omega
  unfold F5B1
  try simp (maxDischargeDepth := 8) [↓sC, sB, sM, d72, d73]
  have hup := hS.up
  have hdn := hS.down
  refine loopE_of (SumI w1 w6 b sb c j r Ls (env3 (pt (sz w) 0) (sl (sz w3) 0 j j) num inn out)) j ⟨0, by omega, by omega, hS.esc, Fr.refl _ _, by simp [put_get, d1], by simp [put_get], by simp [put_get, sumU], by simp [put_get, sumD], by simp [put_get, d7], by simp [put_get, d3, env3], by simp [put_get, d9, env3], by simp [put_get, d11, env3], by simp [put_get, d12, env3], by simp [put_get, d13, env3]⟩ ?_
  rintro m e w7 hI
  obtain ⟨t, rfl, ht, hE7, f7, s139, s140, s16, s17, s7, s3, s9, s11, s12, s13⟩ := id hI
  by_cases htl : t < j
  · exact sum_step hS.lenL n8 (by omega) (by omega) htl hI fun e' w'' hK => ⟨j - (t + 1), by omega, hK⟩
  obtain rfl : t = j := by omega
  rw [List.take_of_length_le (by rw [hS.lenL]; omega)] at s16 s17
  simp only [env3] at s3 s9 s11 s12 s13
  simp at s3 s9 s11 s12 s13
  have hS7 := hS.fr0 f7
  have hc7 := hc1.of hS7.fr
  have m7 := hc7.box
  unfold F5B2
  try simp (maxDischargeDepth := 8) [↓sC, sB, sM, s139, s140, s3, s9, m7, t8]
  have hl32 := list_small hrok
  have hmg := merge_spec (pa := some ⟨sz w3, 0, none⟩) (pc := t) (L := Ps) hc7.rec' hk4 (by omega) (by rw [hS.lenP]; omega) (by rw [hS.lenP]; omega) hS7.rdP
  rw [mergeN_eq Ps hnum, ← hS.num, hS.lenP] at hmg
  refine hmg.call ?_
  rintro _ w8 ⟨l', c', rfl, f8⟩
  have hc8 := hc7.fr0 f8
  have m8 := hc8.box
  have hz8 : [Value.int IntKind.i64 0, Value.int IntKind.i64 0, Value.int IntKind.i64 0, Value.int IntKind.i64 0, Value.float FloatKind.f64 0, Value.int IntKind.i64 0, Value.string ByteArray.empty, Value.slice none 0 0] = rcV rz (.slice none 0 0) := rfl
  obtain ⟨W9, hW9⟩ : ∃ W9, W9 = wr (nw w8 (rcV rz (.slice none 0 0)) 25) (sz w8) (rcV (withN r num) (.slice l' r.list.length c')) := ⟨_, rfl⟩
  have f9 : Fr [] w8 W9 := by rw [hW9]; exact ((Fr.refl [] w8).nw _ _).wr (.inr (Nat.le_refl _)) _
  have q9 : mm W9 (sz w8) = rcV (withN r num) (.slice l' r.list.length c') := by rw [hW9]; exact mm_wr_same (by simp [fz_nw]) _
  have m9 := (hc8.fr0 f9).box
  have hF9 : Fr [] w W9 := g1.trans0 (hc8.fr0 f9).fr
  have hsp : splice (rcV rz (.slice none 0 0)) 0 (rcV (withN r num) (.slice l' r.list.length c')) = rcV (withN r num) (.slice l' r.list.length c') := splice_full rfl
  have one : (∀ v, v ∈ rcV (withN r num) (.slice l' r.list.length c') → v.oneCell' = true) = True := rcV_oneT (r := withN r num)
  have len8 : (rcV (withN r num) (.slice l' r.list.length c')).length = 8 := rfl
  have hk1 : (withN r num).num = num := rfl
  have hk2 : (withN r num).low = r.low := rfl
  have hk3 : (withN r num).high = r.high := rfl
  have u1 : IntKind.i64.wrap (r.high - r.num) = (U : Int) := by rw [wrap64 (by omega) (by omega)]; omega
  have u2 : IntKind.i64.wrap (r.num - r.low) = (D : Int) := by rw [wrap64 (by omega) (by omega)]; omega
  have u3 : IntKind.u64.wrap (U : Int) = U := wrapu hU63
  have u4 : IntKind.u64.wrap (D : Int) = D := wrapu hD63
  have u5 : IntKind.u64.wrap ((U : Int) - inn) = ((sumU Ls : Nat) : Int) := by rw [show (U : Int) - inn = ((sumU Ls : Nat) : Int) by omega]; exact wrapu (by omega)
  have u6 : IntKind.u64.wrap ((D : Int) - out) = ((sumD Ls : Nat) : Int) := by rw [show (D : Int) - out = ((sumD Ls : Nat) : Int) by omega]; exact wrapu (by omega)
  try simp (maxDischargeDepth := 8) [↓sC, sB, sM, hz8, hsp, one, len8, ← hW9, q9, m9, s3, s11, s12, s13, s16, s17, hk1, hk2, hk3, u1, u2, u3, u4, u5, u6]
  exact hF9
end Go.Proofs.YtieejbkbdfccdaaDoor
