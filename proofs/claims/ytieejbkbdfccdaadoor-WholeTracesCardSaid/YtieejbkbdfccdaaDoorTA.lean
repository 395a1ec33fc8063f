/- Clones of lists and records; a kind of acts' kind of records. -/
import Derived.Test.YtieejbkbdfccdaaDoorSim
import Derived.Test.YtieejbkbdfccdaaDoorSA
import Derived.Test.YtieejbkbdfccdaaDoorTypes2
import Derived.Test.YtieejbkbdfccdaaDoorWRule
import Derived.Laws.Cover3
import Derived.Test.YtieejbkbdfccdaaDoorPrims3
import Derived.Test.YtieejbkbdfccdaaDoorBase
import Derived.Test.YtieejbkbdfccdaaDoorWChg
import Derived.Lib.Overlaps
import Derived.Lib.AppendZerosOnto
set_option linter.unusedVariables false
set_option linter.unusedSimpArgs false
namespace Go.Proofs.YtieejbkbdfccdaaDoor
open Go

theorem eq_slice23 {w : World} {a : Option Addr} {n c : Nat} : pBin P .eql 23 true (.slice a n c) (.slice none 0 0) w = some (.bool a.isNone, w) := by
  have hu := sliceE_und sliceE23
  have hg : ∀ x, eqGuard .eql 23 x (.tmp 0) (.slice a n c) (.slice none 0 0) = pure () := fun x => rfl
  have h := run_equal_slice_nil (P := P) w 23 80 a n c hu
  simp only [pBin, runV, hg, Sem.run_bind, Sem.run_pure, Result.andThen_ok]
  simp [binOp, h]
theorem cloneL_spec {w : World} {a : Option Addr} {c : Nat} {L : List ItemP} (hr : RdV w (.slice a L.length c) L.length (flat itemV L)) (hL : L.length ≤ 1000000) :
    Ret P 71 #[.slice a L.length c] w fun v w' => ∃ a' c', v = .slice a' L.length c' ∧ RdV w' (.slice a' L.length c') L.length (flat itemV L) ∧ (∀ k, (Value.slice a' L.length c').ownBlock = some k → sz w ≤ k ∧ k < sz w') ∧ Fr [] w w' := by
  refine F71ok ?_
  unfold F71
  cases a with
  | none =>
    have h0 : L = [] := by
      rcases hr with ⟨_, _, _, h0, _⟩ | ⟨_, _, _, hv, _⟩
      · exact List.eq_nil_of_length_eq_zero h0
      · simp at hv
    subst h0
    try simp (maxDischargeDepth := 8) [↓sC, sB, sM, eq_slice23]
    exact ⟨none, 0, ⟨rfl, rfl⟩, .inl ⟨none, 0, rfl, rfl, rfl⟩, by simp [Value.ownBlock]⟩
  | some ad =>
    have f0 : Fr [] w (nw w [] 80) := (Fr.refl [] w).nw _ _
    obtain ⟨v', w1, hrun, hown, hg, _⟩ := append_own2 (P := P) (t := 23) (ty := 23) (sz w) sliceE23 hasZero80 cellsOf80 (by rw [zeroL80]; rfl) (by omega) (own_made (Nat.le_refl _)) (by rw [sz_nw]; omega) (hr.fr0 f0) (by rw [flat_len (itemV_len L)])
      (by intro u hu; obtain ⟨l, hl, hu⟩ := List.mem_flatten.1 hu; obtain ⟨x, _, rfl⟩ := List.mem_map.1 hl; exact itemV_one x u hu) (by unfold maxLen; omega) (by rw [bytesOf80]; omega)
    simp only [Nat.zero_add, List.nil_append] at hown
    have hf : Fr [] w w1 := f0.trans (Fr.of_grown hg) (fun b hb => .inr (by simp [Value.ownBlock] at hb; omega))
    obtain ⟨a', c', rfl⟩ := own_val hown
    try simp (maxDischargeDepth := 8) [↓sC, sB, sM, eq_slice23, hrun]
    exact ⟨a', c', ⟨rfl, rfl⟩, own_rd hown, fun k hk => hown.lt k hk, hf⟩
theorem clone_spec {w : World} {a : Option Addr} {c : Nat} {L : List ItemP} (hr : RdV w (.slice a L.length c) L.length (flat itemV L)) (hL : L.length ≤ 1000000) :
    Ret P 71 #[.slice a L.length c] w fun v w' => ∃ a' c', v = .slice a' L.length c' ∧ RdV w' (.slice a' L.length c') L.length (flat itemV L) ∧ (∀ k, (Value.slice a' L.length c').ownBlock = some k → sz w ≤ k) ∧ Fr [] w w' :=
  (cloneL_spec hr hL).mono fun _ _ ⟨a', c', h1, h2, h3, h4⟩ => ⟨a', c', h1, h2, fun k hk => (h3 k hk).1, h4⟩
theorem recCloneO_spec {w : World} {r : RecP} {a : Option Addr} {c : Nat} (hr : IsRec w (.slice a r.list.length c) r) (hL : r.list.length ≤ 1000000) :
    Ret P 36 #[.agg (rcV r (.slice a r.list.length c)).toArray] w fun v w' => ∃ a' c', v = .agg (rcV r (.slice a' r.list.length c')).toArray ∧ IsRec w' (.slice a' r.list.length c') r ∧ (∀ k, (Value.slice a' r.list.length c').ownBlock = some k → sz w ≤ k ∧ k < sz w') ∧ Fr [] w w' := by
  refine F36ok ?_
  unfold F36
  obtain ⟨W, hW⟩ : ∃ W, W = nw (nw w (rcV r (.slice a r.list.length c)) 25) (rcV rz (.slice none 0 0)) 25 := ⟨_, rfl⟩
  have fW : Fr [] w W := by rw [hW]; exact ((Fr.refl [] w).nw _ _).nw _ _
  have hs : sz W = sz w + 2 := by rw [hW]; simp [sz_nw]
  have m1 : mm W (sz w) = rcV r (.slice a r.list.length c) := by rw [hW]; simp [mm_nw, sz_nw]
  have m2 : mm W (sz w + 1) = rcV rz (.slice none 0 0) := by rw [hW]; simp [mm_nw, sz_nw]
  have z1 : fz W (sz w) = false := by rw [hW]; simp [fz_nw, sz_nw]
  have z2 : fz W (sz w + 1) = false := by rw [hW]; simp [fz_nw, sz_nw]
  have hz : [Value.int IntKind.i64 0, Value.int IntKind.i64 0, Value.int IntKind.i64 0, Value.int IntKind.i64 0, Value.float FloatKind.f64 0, Value.int IntKind.i64 0, Value.string ByteArray.empty, Value.slice none 0 0] = rcV rz (.slice none 0 0) := rfl
  try simp (maxDischargeDepth := 8) [↓sC, sB, sM, rcC, hz, ← hW, m1]
  refine (cloneL_spec (hr.fr0 fW).1 hL).call ?_
  rintro _ w1 ⟨a', c', rfl, hr1, hk1, f1⟩
  have n1 : mm w1 (sz w) = rcV r (.slice a r.list.length c) := by rw [f1.mm (by omega) (by simp), m1]
  have n2 : mm w1 (sz w + 1) = rcV rz (.slice none 0 0) := by rw [f1.mm (by omega) (by simp), m2]
  have y1 : fz w1 (sz w) = false := by rw [f1.fz (by omega) (by simp), z1]
  have y2 : fz w1 (sz w + 1) = false := by rw [f1.fz (by omega) (by simp), z2]
  have hset : ∀ v, (rcV r (.slice a r.list.length c)).set 7 v = rcV r v := fun _ => rfl
  have t8 : ∀ r lv, (rcV r lv).take 8 = rcV r lv := fun _ _ => rfl
  have hs8 : ∀ l : List Value, l.length = 8 → splice l 0 (rcV r (.slice a' r.list.length c')) = rcV r (.slice a' r.list.length c') := fun l hl => splice_full (by rw [hl]; rfl)
  have e1 : ¬ sz w = sz w + 1 := by omega
  have e2 : ¬ sz w + 1 = sz w := by omega
  obtain ⟨W2, hW2⟩ : ∃ W2, W2 = wr w1 (sz w) (rcV r (.slice a' r.list.length c')) := ⟨_, rfl⟩
  have q1 : mm W2 (sz w) = rcV r (.slice a' r.list.length c') := by rw [hW2]; exact mm_wr_same y1 _
  have q2 : mm W2 (sz w + 1) = rcV rz (.slice none 0 0) := by rw [hW2, mm_wr_ne e2, n2]
  have q3 : fz W2 (sz w + 1) = false := by rw [hW2, fz_wr, y2]
  obtain ⟨W3, hW3⟩ : ∃ W3, W3 = wr W2 (sz w + 1) (rcV r (.slice a' r.list.length c')) := ⟨_, rfl⟩
  have p2 : mm W3 (sz w + 1) = rcV r (.slice a' r.list.length c') := by rw [hW3]; exact mm_wr_same q3 _
  have hf : Fr [] w W3 := by
    rw [hW3, hW2]
    exact ((fW.trans0 f1).wr (.inr (Nat.le_refl _)) _).wr (.inr (by omega)) _
  have hsp : splice (rcV rz (.slice none 0 0)) 0 (rcV r (.slice a' r.list.length c')) = rcV r (.slice a' r.list.length c') := splice_full rfl
  have hr3 : RdV W3 (.slice a' r.list.length c') r.list.length (flat itemV r.list) := by
    have hS : Fr [sz w, sz w + 1] w1 W3 := by
      rw [hW3, hW2]
      exact ((Fr.refl _ w1).wr (.inl (by simp)) _).wr (.inl (by simp)) _
    exact hr1.fr hS (fun k hk hm => by have := hk1 k hk; simp at hm; omega)
  try simp (maxDischargeDepth := 8) [↓sC, sB, sM, n1, y1, hset, ← hW2, q1, q2, q3, t8, hsp, rcV_oneT, ← hW3, p2]
  have hkk : ∀ k, (Value.slice a' r.list.length c').ownBlock = some k → sz w ≤ k ∧ k < sz W3 := fun k hk => by
    have := hk1 k hk
    have e : sz W3 = sz w1 := by rw [hW3, hW2, sz_wr, sz_wr]
    omega
  exact ⟨a', c', rfl, ⟨hr3, hr.2⟩, hkk, hf⟩
theorem recClone_spec {w : World} {r : RecP} {a : Option Addr} {c : Nat} (hr : IsRec w (.slice a r.list.length c) r) (hL : r.list.length ≤ 1000000) :
    Ret P 36 #[.agg (rcV r (.slice a r.list.length c)).toArray] w fun v w' => ∃ a' c', v = .agg (rcV r (.slice a' r.list.length c')).toArray ∧ IsRec w' (.slice a' r.list.length c') r ∧ Fr [] w w' :=
  (recCloneO_spec hr hL).mono fun _ _ ⟨a', c', h1, h2, _, h3⟩ => ⟨a', c', h1, h2, h3⟩
theorem actOn_spec {w : World} {k : Int} (hw : KW w) : Ret P 38 #[i64 k] w fun v w' => v = i64 (kindF k).2.1 ∧ Fr [] w w' := by
  refine F38ok ?_
  unfold F38
  refine (of_spec hw).call ?_
  rintro _ w1 ⟨rfl, f1⟩
  try simp (maxDischargeDepth := 8) [↓sC, sB, sM]
  exact f1
end Go.Proofs.YtieejbkbdfccdaaDoor

set_option linter.unusedVariables false
namespace Go.Proofs.YtieejbkbdfccdaaDoor
open Go

section
variable {w : World} {b i o n c : Nat} {k : IntKind} {x j : Int} {v : Value} {a : Array Value} {lo hi : Option Value}

@[simp] theorem tyOk123 : tyOk P 123 = true := by kernel_rfl
@[simp] theorem isAggB123 : isAggB P 123 = true := by kernel_rfl
@[simp] theorem cellsOf123 : P.cellsOf 123 = 22 := by kernel_rfl
@[simp] theorem bytesOf123 : P.bytesOf 123 = 176 := by kernel_rfl
@[simp] theorem hasZero123 : hasZero P 123 = true := by kernel_rfl
@[simp] theorem zeroL123 : zeroL P 123 = List.replicate 22 Value.nilFunc := by kernel_rfl
@[simp] theorem arrE123 : arrE P 123 = some (22, 122) := by kernel_rfl
@[simp] theorem und123 : P.underlying 123 = some (.array 22 122) := by kernel_rfl
@[simp] theorem eqg123 : P.eqGuardType P.depth 123 = false := by kernel_rfl
@[simp] theorem al123 : pAlloc P 123 w = some (pt (sz w) 0, nw w (List.replicate 22 Value.nilFunc) 123) := by rw [pAlloc_eq hasZero123, zeroL123]
@[simp] theorem ld123 (h : i + 22 ≤ (mm w b).length) : pLoad P 123 (pt b i) w = some (.agg (((mm w b).drop i).take 22).toArray, w) := by
  have := pLoad_agg (w := w) (b := b) (i := i) tyOk123 isAggB123 (by rw [cellsOf123]; exact h); rwa [cellsOf123] at this
@[simp] theorem st123 (hs : a.size = 22) (hv : ∀ v ∈ a.toList, v.oneCell' = true) (hf : fz w b = false) (hi : i + 22 ≤ (mm w b).length) : pStore P 123 (pt b i) (.agg a) w = some (wr w b (splice (mm w b) i a.toList)) :=
  pStore_agg tyOk123 (by rw [cellsOf123, hs]) hv hf (by rw [hs]; exact hi)
end
end Go.Proofs.YtieejbkbdfccdaaDoor

set_option linter.unusedVariables false
set_option linter.unusedSimpArgs false
namespace Go.Proofs.YtieejbkbdfccdaaDoor
open Go

theorem pFunc_eq {fn : Fn} {first cap : List Value} {w : World} : pFunc P fn first cap w = some (.func fn first.toArray cap.toArray, w) := by
  simp [pFunc, runV, Instr.makeFunc]
theorem real_spec {w : World} {v : Value} (hv : v.cells.toList = [v]) : Ret P 88 #[v] w fun x w' => x = .func (.func 98) #[] #[pt (sz w) 0] ∧ mm w' (sz w) = [v] ∧ Fr [] w w' := by
  refine F88ok ?_
  unfold F88
  try simp (maxDischargeDepth := 8) [↓sC, sB, sM, hv, pFunc_eq]
theorem hz122 : (zeroL P 123).length = 22 := by rw [zeroL123]; rfl
theorem tyOk122 : tyOk P 122 = true := by kernel_rfl
theorem cellsOf122 : P.cellsOf 122 = 1 := by kernel_rfl
theorem isAggB122 : isAggB P 122 = false := by kernel_rfl
theorem changes_spec {w : World} : Ret P 73 #[] w fun v w' => ∃ cs : List Value, v = .agg cs.toArray ∧ cs.length = 22 ∧ gt cs 7 = .func (.func 83) #[] #[] ∧ Fr [] w w' := by
  refine F73ok ?_
  unfold F73
  obtain ⟨W, hW⟩ : ∃ W, W = nw w [Value.nilFunc, Value.nilFunc, Value.nilFunc, Value.nilFunc, Value.nilFunc, Value.nilFunc, Value.nilFunc, Value.nilFunc, Value.nilFunc, Value.nilFunc, Value.nilFunc, Value.nilFunc, Value.nilFunc, Value.nilFunc, Value.nilFunc, Value.nilFunc, Value.nilFunc, Value.nilFunc, Value.nilFunc, Value.nilFunc, Value.nilFunc, Value.nilFunc] 123 := ⟨_, rfl⟩
  have fW : Fr [] w W := by rw [hW]; exact (Fr.refl [] w).nw _ _
  have hsW : sz W = sz w + 1 := by rw [hW, sz_nw]
  have hm : (mm W (sz w)).length = 22 := by rw [hW]; simp [mm_nw]
  have hz : fz W (sz w) = false := by rw [hW]; simp [fz_nw]
  try simp (maxDischargeDepth := 8) [↓sC, sB, sM, ← hW]
  refine (real_spec rfl).call ?_
  rintro _ w1 ⟨rfl, _, f1⟩
  refine (real_spec rfl).call ?_
  rintro _ w2 ⟨rfl, _, f2⟩
  refine (real_spec rfl).call ?_
  rintro _ w3 ⟨rfl, _, f3⟩
  refine (real_spec rfl).call ?_
  rintro _ w4 ⟨rfl, _, f4⟩
  refine (real_spec rfl).call ?_
  rintro _ w5 ⟨rfl, _, f5⟩
  have f15 := (((f1.trans0 f2).trans0 f3).trans0 f4).trans0 f5
  have hm5 : (mm w5 (sz w)).length = 22 := by rw [f15.mm (by omega) (by simp), hm]
  have hz5 : fz w5 (sz w) = false := by rw [f15.fz (by omega) (by simp), hz]
  generalize sz W = s1
  generalize sz w1 = s2
  generalize sz w2 = s3
  generalize sz w3 = s4
  generalize sz w4 = s5
  rw [pBuild_arr hasZero123 arrE123 tyOk122 cellsOf122 hz122 (by intro p hp; simp only [List.mem_cons, List.not_mem_nil, or_false] at hp; rcases hp with rfl | rfl | rfl | rfl | rfl | rfl | rfl | rfl | rfl | rfl | rfl | rfl | rfl | rfl | rfl | rfl | rfl <;> exact ⟨by simp, by rfl⟩)]
  rw [zeroL123]
  obtain ⟨cs, hcs⟩ : ∃ cs : List Value, cs = List.foldl (fun l p => l.set p.1 p.2) (List.replicate 22 Value.nilFunc) [(5, Value.func (.func 81) #[] #[]), (6, Value.func (.func 82) #[] #[]), (7, Value.func (.func 83) #[] #[]), (8, Value.func (.func 84) #[] #[]), (9, Value.func (.func 85) #[] #[]), (12, Value.func (.func 85) #[] #[]), (10, Value.func (.func 86) #[] #[]), (11, Value.func (.func 87) #[] #[]), (13, Value.func (.func 98) #[] #[pt s1 0]), (14, Value.func (.func 98) #[] #[pt s2 0]), (15, Value.func (.func 98) #[] #[pt s3 0]), (16, Value.func (.func 98) #[] #[pt s4 0]), (17, Value.func (.func 98) #[] #[pt s5 0]), (18, Value.func (.func 92) #[] #[]), (19, Value.func (.func 93) #[] #[]), (20, Value.func (.func 96) #[] #[]), (21, Value.func (.func 97) #[] #[])] := ⟨_, rfl⟩
  have hl : cs.length = 22 := by rw [hcs]; rfl
  have h7 : gt cs 7 = .func (.func 83) #[] #[] := by rw [hcs]; rfl
  have h1 : (∀ v, v ∈ cs → v.oneCell' = true) = True := by
    simp only [eq_iff_iff, iff_true]
    intro v hv
    rw [hcs] at hv
    simp only [List.foldl_cons, List.foldl_nil, List.replicate, List.set_cons_succ, List.set_cons_zero, List.mem_cons, List.not_mem_nil, or_false] at hv
    rcases hv with rfl | rfl | rfl | rfl | rfl | rfl | rfl | rfl | rfl | rfl | rfl | rfl | rfl | rfl | rfl | rfl | rfl | rfl | rfl | rfl | rfl | rfl <;> rfl
  rw [← hcs]
  have hsp : splice (mm w5 (sz w)) 0 cs = cs := splice_full (by rw [hm5, hl])
  have t22 : cs.take 22 = cs := List.take_of_length_le (by omega)
  try simp (maxDischargeDepth := 8) [↓sC, sB, sM, hl, h1, hm5, hz5, hsp, t22]
  exact ⟨h7, (fW.trans0 f15).wr (.inr (Nat.le_refl _)) _⟩
def addN (r : RecP) (n : Int) : RecP := { r with num := IntKind.i64.wrap (r.num + n) }
theorem add_spec {w : World} {p : Nat} {o : Value} {r : RecP} {lv : Value} {a : ActP} {la : Value} (hm : mm w p = rcV r lv) (hz : fz w p = false) :
    Ret P 83 #[pt p 0, .agg (acV a la).toArray, o] w fun v w' => v = i64 0 ∧ mm w' p = rcV (addN r a.n) lv ∧ fz w' p = false ∧ Fr [p] w w' := by
  refine F83ok ?_
  unfold F83
  have hp := lt_of_fz hz
  obtain ⟨W, hW⟩ : ∃ W, W = nw w (acV a la) 27 := ⟨_, rfl⟩
  have fW : Fr [] w W := by rw [hW]; exact (Fr.refl [] w).nw _ _
  have hma : mm W (sz w) = acV a la := by rw [hW]; simp [mm_nw]
  have hmp : mm W p = rcV r lv := by rw [fW.mm hp (by simp), hm]
  have hzp : fz W p = false := by rw [fW.fz hp (by simp), hz]
  have hset : ∀ n, (rcV r lv).set 1 (i64 (IntKind.i64.wrap (r.num + n))) = rcV (addN r n) lv := fun _ => rfl
  try simp (maxDischargeDepth := 8) [↓sC, sB, sM, acC, ← hW, hma, hmp, hzp, hset]
  exact ((fW.mono (by simp)).drew).wr (.inl (by simp)) _
end Go.Proofs.YtieejbkbdfccdaaDoor

set_option linter.unusedVariables false
set_option linter.unusedSimpArgs false
namespace Go.Proofs.YtieejbkbdfccdaaDoor
open Go

def anZ : List Value := [i64 0, i64 0] ++ rcV rz (.slice none 0 0)
theorem anZ_len : anZ.length = 10 := rfl
theorem anZ_one : (∀ v, v ∈ anZ → v.oneCell' = true) = True := by
  simp only [eq_iff_iff, iff_true, anZ]
  intro v hv
  rcases List.mem_append.1 hv with hv | hv
  · simp only [List.mem_cons, List.not_mem_nil, or_false] at hv
    rcases hv with rfl | rfl <;> rfl
  · exact rcV_one (a := none) (n := 0) (c := 0) v hv
structure ApS (w0 : World) (s0 : Nat) (r : RecP) (lv : Value) (a : ActP) (la : Value) (w : World) : Prop where
  p : mm w s0 = rcV r lv
  pz : fz w s0 = false
  q : mm w (s0 + 1) = [.bool true]
  s : mm w (s0 + 1 + 1) = acV a la
  rr : mm w (s0 + 1 + 1 + 1) = rcV rz (.slice none 0 0)
  rz' : fz w (s0 + 1 + 1 + 1) = false
  ra : mm w (s0 + 1 + 1 + 1 + 1) = anZ
  raz : fz w (s0 + 1 + 1 + 1 + 1) = false
  sz5 : s0 + 5 ≤ sz w
  fr : Fr [] w0 w
theorem isRec_nil {w : World} {r : RecP} {l : Option Addr} {c : Nat} (h : r.list = []) (ho : okR r) : IsRec w (.slice l r.list.length c) r := ⟨.inl ⟨l, c, by rw [h]; rfl, by rw [h]; rfl, by rw [h]; rfl⟩, ho⟩
theorem ApS.fr0 {w0 : World} {s0 : Nat} {r : RecP} {lv : Value} {a : ActP} {la : Value} {w w' : World} (h : ApS w0 s0 r lv a la w) (hf : Fr [] w w') : ApS w0 s0 r lv a la w' := by
  have h5 := h.sz5
  exact ⟨by rw [hf.mm (by omega) (by simp), h.p], by rw [hf.fz (by omega) (by simp), h.pz], by rw [hf.mm (by omega) (by simp), h.q], by rw [hf.mm (by omega) (by simp), h.s], by rw [hf.mm (by omega) (by simp), h.rr],
    by rw [hf.fz (by omega) (by simp), h.rz'], by rw [hf.mm (by omega) (by simp), h.ra], by rw [hf.fz (by omega) (by simp), h.raz], by have := hf.size; omega, h.fr.trans0 hf⟩
theorem ApS.put {w0 : World} {s0 : Nat} {r r' : RecP} {lv lv' : Value} {a : ActP} {la : Value} {w w' : World} (h : ApS w0 s0 r lv a la w) (hf : Fr [s0] w w') (hm : mm w' s0 = rcV r' lv') (hz : fz w' s0 = false) (hs : sz w0 ≤ s0) : ApS w0 s0 r' lv' a la w' := by
  have h5 := h.sz5
  have no : ∀ x, x ≠ s0 → x ∉ [s0] := fun x hx => by simpa using hx
  exact ⟨hm, hz, by rw [hf.mm (by omega) (no _ (by omega)), h.q], by rw [hf.mm (by omega) (no _ (by omega)), h.s], by rw [hf.mm (by omega) (no _ (by omega)), h.rr],
    by rw [hf.fz (by omega) (no _ (by omega)), h.rz'], by rw [hf.mm (by omega) (no _ (by omega)), h.ra], by rw [hf.fz (by omega) (no _ (by omega)), h.raz], by have := hf.size; omega, h.fr.trans hf (fun b hb => .inr (by simp at hb; omega))⟩
set_option maxHeartbeats 4000000 in
set_option maxRecDepth 20000 in
theorem applyAdd_spec {w : World} {r : RecP} {la lb : Option Addr} {c d : Nat} {a : ActP} (hw : KW w) (hr : IsRec w (.slice la r.list.length c) r) (hrok : RecOk r) (hk2 : r.kind = 2) (ha : IsAct w (.slice lb a.make.list.length d) a) (hok : ActOk a) (hk7 : a.kind = 7) :
    Ret P 37 #[.agg (rcV r (.slice la r.list.length c)).toArray, .bool true, .agg (acV a (.slice lb a.make.list.length d)).toArray] w fun v w' =>
      ∃ l' c', v = .tuple #[.agg (rcV (addN r a.n) (.slice l' r.list.length c')).toArray, .bool true, .agg anZ.toArray] ∧ IsRec w' (.slice l' r.list.length c') r ∧ Fr [] w w' := by
  refine F37ok ?_
  unfold F37
  have hz8 : [Value.int IntKind.i64 0, Value.int IntKind.i64 0, Value.int IntKind.i64 0, Value.int IntKind.i64 0, Value.float FloatKind.f64 0, Value.int IntKind.i64 0, Value.string ByteArray.empty, Value.slice none 0 0] = rcV rz (.slice none 0 0) := rfl
  have hz10 : Value.int IntKind.i64 0 :: Value.int IntKind.i64 0 :: rcV rz (.slice none 0 0) = anZ := rfl
  obtain ⟨W, hW⟩ : ∃ W, W = nw (nw (nw (nw (nw w (rcV r (.slice la r.list.length c)) 25) [.bool true] 4) (acV a (.slice lb a.make.list.length d)) 27) (rcV rz (.slice none 0 0)) 25) anZ 49 := ⟨_, rfl⟩
  have h0 : ApS w (sz w) r (.slice la r.list.length c) a (.slice lb a.make.list.length d) W := by
    rw [hW]
    refine ⟨?_, ?_, ?_, ?_, ?_, ?_, ?_, ?_, ?_, ((((((Fr.refl [] w).nw _ _).nw _ _).nw _ _).nw _ _).nw _ _)⟩ <;> simp [mm_nw, fz_nw, sz_nw, Nat.add_assoc]
  have t8 : ∀ r lv, (rcV r lv).take 8 = rcV r lv := fun _ _ => rfl
  have hnil : r.list = [] := (hrok.only.2.2.2.2 (by rw [hk2]; decide)).2
  have hlen32 : r.list.length ≤ 1000000 := by rw [hnil]; simp
  try simp (maxDischargeDepth := 8) [↓sC, sB, sM, rcC, acC, Value.cells, hz8, hz10, ← hW, h0.q, h0.p, t8]
  refine (recClone_spec (hr.fr0 h0.fr) hlen32).call ?_
  rintro _ w1 ⟨l1, c1, rfl, hr1, f1⟩
  have h1 := h0.fr0 f1
  obtain ⟨W1, hW1⟩ : ∃ W1, W1 = wr w1 (sz w) (rcV r (.slice l1 r.list.length c1)) := ⟨_, rfl⟩
  have hsp : ∀ v, splice (rcV r v) 0 (rcV r (.slice l1 r.list.length c1)) = rcV r (.slice l1 r.list.length c1) := fun v => splice_full rfl
  try simp (maxDischargeDepth := 8) [↓sC, sB, sM, h1.p, h1.pz, rcV_oneT, hsp, ← hW1]
  have hS : ApS w (sz w) r (.slice l1 r.list.length c1) a (.slice lb a.make.list.length d) W1 :=
    h1.put (by rw [hW1]; exact (Fr.refl _ w1).wr (.inl (by simp)) _) (by rw [hW1]; exact mm_wr_same h1.pz _) (by rw [hW1, fz_wr, h1.pz]) (Nat.le_refl _)
  try simp (maxDischargeDepth := 8) [↓sC, sB, sM, pFunc_eq, hS.s, a14]
  refine (checkA_spec (hw.fr0 hS.fr) (ha.fr0 hS.fr) hok).call ?_
  rintro _ w2 ⟨rfl, f2⟩
  have h2 := hS.fr0 f2
  try simp (maxDischargeDepth := 8) [↓sC, sB, sM, h2.q, h2.p, t8]
  refine (recCheck_spec (isRec_nil (w := w2) (l := l1) (c := c1) hnil hr.2) hrok).call ?_
  rintro _ w3 ⟨rfl, f3⟩
  have h3 := h2.fr0 f3
  try simp (maxDischargeDepth := 8) [↓sC, sB, sM, h3.q, h3.p, h3.s, hk7]
  refine (actOn_spec (hw.fr0 h3.fr.drew)).call ?_
  rintro _ w4 ⟨rfl, f4⟩
  have h4 := (h3.fr0 ((Fr.refl [] w3).drew)).fr0 f4
  have hon : (kindF 7).2.1 = 2 := by decide
  try simp (maxDischargeDepth := 8) [↓sC, sB, sM, h4.p, hon, hk2, t8]
  refine (recClone_spec (isRec_nil (w := w4) (l := l1) (c := c1) hnil hr.2) hlen32).call ?_
  rintro _ w5 ⟨l2, c2, rfl, _, f5⟩
  have h5 := h4.fr0 f5
  obtain ⟨W5, hW5⟩ : ∃ W5, W5 = nw (wr (nw w5 (rcV rz (.slice none 0 0)) 25) (sz w5) (rcV r (.slice l2 r.list.length c2))) anZ 49 := ⟨_, rfl⟩
  have fW5 : Fr [] w5 W5 := by rw [hW5]; exact (((Fr.refl [] w5).nw _ _).wr (.inr (Nat.le_refl _)) _).nw _ _
  have h6 := h5.fr0 fW5
  have hsz5 : sz W5 = sz w5 + 2 := by rw [hW5]; simp [sz_nw, sz_wr]
  have ho : mm W5 (sz w5 + 1) = anZ := by rw [hW5]; simp [mm_nw, sz_nw, sz_wr]
  have hsp2 : splice (rcV rz (.slice none 0 0)) 0 (rcV r (.slice l2 r.list.length c2)) = rcV r (.slice l2 r.list.length c2) := splice_full rfl
  try simp (maxDischargeDepth := 8) [↓sC, sB, sM, hz8, hz10, rcV_oneT, hsp2, ← hW5, h6.s, hk7, a14]
  refine changes_spec.call ?_
  rintro _ w6 ⟨cs, rfl, hcl, hc7, f6⟩
  have h7 := (h6.fr0 ((Fr.refl [] W5).drew)).fr0 f6
  have hix : pIndex P 123 (.agg cs.toArray) (i64 7) w6 = some (.func (.func 83) #[] #[], w6) := by
    rw [pIndex_arr_scal arrE123 tyOk122 isAggB122 (by omega) (by omega) (by rw [cellsOf122]; simp [hcl])]
    rw [cellsOf122]
    exact congrArg (fun x => some (x, w6)) hc7
  have ho6 : mm w6 (sz w5 + 1) = anZ := by rw [f6.mm (by rw [sz_drew]; omega) (by simp), mm_drew, ho]
  have hss := f6.size
  rw [sz_drew] at hss
  have h5s := h5.sz5
  try simp (maxDischargeDepth := 8) [↓sC, sB, sM, h7.s, hk7, a14, hix]
  refine callV (by kernel_rfl) ?_
  refine (add_spec h7.p h7.pz).call ?_
  rintro _ w7 ⟨rfl, hm7, hz7, f7⟩
  have h8 := h7.put f7 hm7 hz7 (Nat.le_refl _)
  have ho7 : mm w7 (sz w5 + 1) = anZ := by rw [f7.mm (by omega) (by simp; omega), ho6]
  obtain ⟨W8, hW8⟩ : ∃ W8, W8 = wr (drew w7) (sz w + 1 + 1 + 1) (rcV (addN r a.n) (.slice l1 r.list.length c1)) := ⟨_, rfl⟩
  have hd8 := h8.fr0 ((Fr.refl [] w7).drew)
  have n1 : ¬ sz w + 1 = sz w + 1 + 1 + 1 := by omega
  have n2 : ¬ sz w + 1 + 1 + 1 + 1 = sz w + 1 + 1 + 1 := by omega
  have n3 : ¬ sz w + 1 + 1 + 1 = sz w + 1 + 1 + 1 + 1 := by omega
  have n4 : ¬ sz w5 + 1 = sz w + 1 + 1 + 1 := by omega
  have e1 : mm W8 (sz w + 1) = [.bool true] := by rw [hW8, mm_wr_ne n1]; exact hd8.q
  have e2 : mm W8 (sz w + 1 + 1 + 1) = rcV (addN r a.n) (.slice l1 r.list.length c1) := by rw [hW8]; exact mm_wr_same hd8.rz' _
  have e3 : mm W8 (sz w + 1 + 1 + 1 + 1) = anZ := by rw [hW8, mm_wr_ne n2]; exact hd8.ra
  have e4 : fz W8 (sz w + 1 + 1 + 1 + 1) = false := by rw [hW8, fz_wr]; exact hd8.raz
  have e5 : mm W8 (sz w5 + 1) = anZ := by rw [hW8, mm_wr_ne n4, mm_drew, ho7]
  obtain ⟨W9, hW9⟩ : ∃ W9, W9 = wr W8 (sz w + 1 + 1 + 1 + 1) anZ := ⟨_, rfl⟩
  have g1 : mm W9 (sz w + 1 + 1 + 1) = rcV (addN r a.n) (.slice l1 r.list.length c1) := by rw [hW9, mm_wr_ne n3, e2]
  have g2 : mm W9 (sz w + 1 + 1 + 1 + 1) = anZ := by rw [hW9]; exact mm_wr_same e4 _
  have hf : Fr [] w W9 := by
    rw [hW9, hW8]
    exact ((h8.fr.drew).wr (.inr (by omega)) _).wr (.inr (by omega)) _
  have r1 : ∀ X, (rcV (addN r a.n) X).length = 8 := fun _ => rfl
  have hsp8 : splice (rcV rz (.slice none 0 0)) 0 (rcV (addN r a.n) (.slice l1 r.list.length c1)) = rcV (addN r a.n) (.slice l1 r.list.length c1) := splice_full rfl
  have hsp9 : splice anZ 0 anZ = anZ := splice_full rfl
  have t10 : anZ.take 10 = anZ := rfl
  have hadd1 : (∀ v, v ∈ rcV (addN r a.n) (.slice l1 r.list.length c1) → v.oneCell' = true) = True := rcV_oneT (r := addN r a.n)
  try simp (maxDischargeDepth := 8) [↓sC, sB, sM, h8.p, h8.q, h8.rr, h8.rz', ho7, hsp8, hadd1, t8, t10, anZ_len, anZ_one, ← hW8, e1, e3, e4, e5, hsp9, ← hW9, g1, g2]
  exact ⟨l1, c1, rfl, isRec_nil hnil hr.2, hf⟩
end Go.Proofs.YtieejbkbdfccdaaDoor

set_option linter.unusedVariables false
namespace Go.Proofs.YtieejbkbdfccdaaDoor
open Go

section
variable {w : World} {b i o n c : Nat} {k : IntKind} {x j : Int} {v : Value} {a : Array Value} {lo hi : Option Value}

@[simp] theorem tyOk33 : tyOk P 33 = true := by kernel_rfl
@[simp] theorem isAggB33 : isAggB P 33 = false := by kernel_rfl
@[simp] theorem cellsOf33 : P.cellsOf 33 = 1 := by kernel_rfl
@[simp] theorem bytesOf33 : P.bytesOf 33 = 24 := by kernel_rfl
@[simp] theorem hasZero33 : hasZero P 33 = true := by kernel_rfl
@[simp] theorem zeroL33 : zeroL P 33 = [(Value.slice none 0 0)] := by kernel_rfl
@[simp] theorem sliceE33 : sliceE P 33 = some 37 := by kernel_rfl
@[simp] theorem tyOk34 : tyOk P 34 = true := by kernel_rfl
@[simp] theorem isAggB34 : isAggB P 34 = false := by kernel_rfl
@[simp] theorem cellsOf34 : P.cellsOf 34 = 1 := by kernel_rfl
@[simp] theorem bytesOf34 : P.bytesOf 34 = 24 := by kernel_rfl
@[simp] theorem hasZero34 : hasZero P 34 = true := by kernel_rfl
@[simp] theorem zeroL34 : zeroL P 34 = [(Value.slice none 0 0)] := by kernel_rfl
@[simp] theorem sliceE34 : sliceE P 34 = some 27 := by kernel_rfl
@[simp] theorem tyOk37 : tyOk P 37 = true := by kernel_rfl
@[simp] theorem isAggB37 : isAggB P 37 = true := by kernel_rfl
@[simp] theorem cellsOf37 : P.cellsOf 37 = 9 := by kernel_rfl
@[simp] theorem bytesOf37 : P.bytesOf 37 = 104 := by kernel_rfl
@[simp] theorem hasZero37 : hasZero P 37 = true := by kernel_rfl
@[simp] theorem zeroL37 : zeroL P 37 = [(Value.string ByteArray.empty), (Value.int IntKind.i64 0), (Value.int IntKind.i64 0), (Value.int IntKind.i64 0), (Value.int IntKind.i64 0), (Value.float FloatKind.f64 0), (Value.int IntKind.i64 0), (Value.string ByteArray.empty), (Value.slice none 0 0)] := by kernel_rfl
@[simp] theorem eqg37 : P.eqGuardType P.depth 37 = false := by kernel_rfl
@[simp] theorem field37n0 : fieldB P 37 0 = some (0, 9) := by kernel_rfl
@[simp] theorem field37n1 : fieldB P 37 1 = some (1, 25) := by kernel_rfl
@[simp] theorem tyOk41 : tyOk P 41 = true := by kernel_rfl
@[simp] theorem isAggB41 : isAggB P 41 = false := by kernel_rfl
@[simp] theorem cellsOf41 : P.cellsOf 41 = 1 := by kernel_rfl
@[simp] theorem bytesOf41 : P.bytesOf 41 = 24 := by kernel_rfl
@[simp] theorem hasZero41 : hasZero P 41 = true := by kernel_rfl
@[simp] theorem zeroL41 : zeroL P 41 = [(Value.slice none 0 0)] := by kernel_rfl
@[simp] theorem sliceE41 : sliceE P 41 = some 49 := by kernel_rfl
@[simp] theorem al33 : pAlloc P 33 w = some (pt (sz w) 0, nw w ([(Value.slice none 0 0)]) 33) := by rw [pAlloc_eq hasZero33, zeroL33]
@[simp] theorem ld33 (h : i < (mm w b).length) : pLoad P 33 (pt b i) w = some (gt (mm w b) i, w) := pLoad_scal tyOk33 isAggB33 h
@[simp] theorem st33 (hv : v.oneCell' = true) (hf : fz w b = false) (hi : i < (mm w b).length) : pStore P 33 (pt b i) v w = some (wr w b ((mm w b).set i v)) := pStore_one tyOk33 cellsOf33 hv hf hi
@[simp] theorem ia33 (h0 : 0 ≤ j) (h1 : j < n) : pIndexAddr P 33 (sl b o n c) (.int k j) w = some (pt b (o + j.toNat * 9), w) := by
  have := pIndexAddr_slice (w := w) (b := b) (o := o) (c := c) (k := k) sliceE33 tyOk37 h0 h1; rwa [cellsOf37] at this
@[simp] theorem len33 {ty : TypeId} {a : Option Addr} : pBuiltin P .len #[33] ty [.slice a n c] w = some (i64 n, w) := len_slice sliceE33
@[simp] theorem slL33 (h0 : 0 ≤ x) (h1 : x ≤ (n : Int)) (hnc : n ≤ c) : pSlice P 33 (sl b o n c) (some (.int k x)) none none w = some (.slice (some ⟨b, if c = x.toNat then o else o + x.toNat * 9, none⟩) (n - x.toNat) (c - x.toNat), w) := by
  have := pSlice_slice (P := P) (t := 33) (w := w) (b := b) (o := o) (lo := (some (.int k x))) (hi := none) sliceE33 tyOk37 rfl rfl h0 h1 (by simp [bHi]; omega) hnc; simpa [bLo, bHi] using this
@[simp] theorem slH33 {k' : IntKind} {y : Int} (h0 : 0 ≤ y) (h1 : y ≤ (c : Int)) (hnc : n ≤ c) : pSlice P 33 (sl b o n c) none (some (.int k' y)) none w = some (.slice (some ⟨b, o, none⟩) (y.toNat) (c), w) := by
  have := pSlice_slice (P := P) (t := 33) (w := w) (b := b) (o := o) (lo := none) (hi := (some (.int k' y))) sliceE33 tyOk37 rfl rfl (Int.le_refl 0) h0 h1 hnc; simpa [bLo, bHi] using this
@[simp] theorem slB33 {k' : IntKind} {y : Int} (h0 : 0 ≤ x) (h1 : x ≤ y) (h2 : y ≤ (c : Int)) (hnc : n ≤ c) : pSlice P 33 (sl b o n c) (some (.int k x)) (some (.int k' y)) none w = some (.slice (some ⟨b, if c = x.toNat then o else o + x.toNat * 9, none⟩) (y.toNat - x.toNat) (c - x.toNat), w) := by
  have := pSlice_slice (P := P) (t := 33) (w := w) (b := b) (o := o) (lo := (some (.int k x))) (hi := (some (.int k' y))) sliceE33 tyOk37 rfl rfl h0 h1 h2 hnc; simpa [bLo, bHi] using this
@[simp] theorem slN33  (hnc : n ≤ c) : pSlice P 33 (sl b o n c) none none none w = some (.slice (some ⟨b, o, none⟩) (n) (c), w) := by
  have := pSlice_slice (P := P) (t := 33) (w := w) (b := b) (o := o) (lo := none) (hi := none) sliceE33 tyOk37 rfl rfl (Int.le_refl 0) (by simp [bLo, bHi]) (by simp [bHi]; omega) hnc; simpa [bLo, bHi] using this
@[simp] theorem bsl33 {ps : List (Nat × Value)} (hbig : n * 9 ≤ 2 ^ 24) (hp : ∀ p ∈ ps, p.2.cells.size = 9 ∧ p.1 < n) : pBuildSlice P 33 n ps w = some (sl (sz w) 0 n n,
    nw w (ps.foldl (fun l p => splice l (p.1 * 9) p.2.cells.toList) (List.replicate n ([(Value.string ByteArray.empty), (Value.int IntKind.i64 0), (Value.int IntKind.i64 0), (Value.int IntKind.i64 0), (Value.int IntKind.i64 0), (Value.float FloatKind.f64 0), (Value.int IntKind.i64 0), (Value.string ByteArray.empty), (Value.slice none 0 0)])).flatten) 37) := by
  have := pBuildSlice_eq (w := w) sliceE33 hasZero37 tyOk37 cellsOf37 (by rw [zeroL37]; rfl) hbig hp; rwa [zeroL37] at this
@[simp] theorem al34 : pAlloc P 34 w = some (pt (sz w) 0, nw w ([(Value.slice none 0 0)]) 34) := by rw [pAlloc_eq hasZero34, zeroL34]
@[simp] theorem ld34 (h : i < (mm w b).length) : pLoad P 34 (pt b i) w = some (gt (mm w b) i, w) := pLoad_scal tyOk34 isAggB34 h
@[simp] theorem st34 (hv : v.oneCell' = true) (hf : fz w b = false) (hi : i < (mm w b).length) : pStore P 34 (pt b i) v w = some (wr w b ((mm w b).set i v)) := pStore_one tyOk34 cellsOf34 hv hf hi
@[simp] theorem ia34 (h0 : 0 ≤ j) (h1 : j < n) : pIndexAddr P 34 (sl b o n c) (.int k j) w = some (pt b (o + j.toNat * 14), w) := by
  have := pIndexAddr_slice (w := w) (b := b) (o := o) (c := c) (k := k) sliceE34 tyOk27 h0 h1; rwa [cellsOf27] at this
@[simp] theorem len34 {ty : TypeId} {a : Option Addr} : pBuiltin P .len #[34] ty [.slice a n c] w = some (i64 n, w) := len_slice sliceE34
@[simp] theorem slL34 (h0 : 0 ≤ x) (h1 : x ≤ (n : Int)) (hnc : n ≤ c) : pSlice P 34 (sl b o n c) (some (.int k x)) none none w = some (.slice (some ⟨b, if c = x.toNat then o else o + x.toNat * 14, none⟩) (n - x.toNat) (c - x.toNat), w) := by
  have := pSlice_slice (P := P) (t := 34) (w := w) (b := b) (o := o) (lo := (some (.int k x))) (hi := none) sliceE34 tyOk27 rfl rfl h0 h1 (by simp [bHi]; omega) hnc; simpa [bLo, bHi] using this
@[simp] theorem slH34 {k' : IntKind} {y : Int} (h0 : 0 ≤ y) (h1 : y ≤ (c : Int)) (hnc : n ≤ c) : pSlice P 34 (sl b o n c) none (some (.int k' y)) none w = some (.slice (some ⟨b, o, none⟩) (y.toNat) (c), w) := by
  have := pSlice_slice (P := P) (t := 34) (w := w) (b := b) (o := o) (lo := none) (hi := (some (.int k' y))) sliceE34 tyOk27 rfl rfl (Int.le_refl 0) h0 h1 hnc; simpa [bLo, bHi] using this
@[simp] theorem slB34 {k' : IntKind} {y : Int} (h0 : 0 ≤ x) (h1 : x ≤ y) (h2 : y ≤ (c : Int)) (hnc : n ≤ c) : pSlice P 34 (sl b o n c) (some (.int k x)) (some (.int k' y)) none w = some (.slice (some ⟨b, if c = x.toNat then o else o + x.toNat * 14, none⟩) (y.toNat - x.toNat) (c - x.toNat), w) := by
  have := pSlice_slice (P := P) (t := 34) (w := w) (b := b) (o := o) (lo := (some (.int k x))) (hi := (some (.int k' y))) sliceE34 tyOk27 rfl rfl h0 h1 h2 hnc; simpa [bLo, bHi] using this
@[simp] theorem slN34  (hnc : n ≤ c) : pSlice P 34 (sl b o n c) none none none w = some (.slice (some ⟨b, o, none⟩) (n) (c), w) := by
  have := pSlice_slice (P := P) (t := 34) (w := w) (b := b) (o := o) (lo := none) (hi := none) sliceE34 tyOk27 rfl rfl (Int.le_refl 0) (by simp [bLo, bHi]) (by simp [bHi]; omega) hnc; simpa [bLo, bHi] using this
@[simp] theorem bsl34 {ps : List (Nat × Value)} (hbig : n * 14 ≤ 2 ^ 24) (hp : ∀ p ∈ ps, p.2.cells.size = 14 ∧ p.1 < n) : pBuildSlice P 34 n ps w = some (sl (sz w) 0 n n,
    nw w (ps.foldl (fun l p => splice l (p.1 * 14) p.2.cells.toList) (List.replicate n ([(Value.int IntKind.i64 0), (Value.string ByteArray.empty), (Value.int IntKind.i64 0), (Value.float FloatKind.f64 0), (Value.string ByteArray.empty), (Value.int IntKind.i64 0), (Value.int IntKind.i64 0), (Value.int IntKind.i64 0), (Value.int IntKind.i64 0), (Value.float FloatKind.f64 0), (Value.int IntKind.i64 0), (Value.string ByteArray.empty), (Value.slice none 0 0)] ++ List.replicate 1 (Value.bool false))).flatten) 27) := by
  have := pBuildSlice_eq (w := w) sliceE34 hasZero27 tyOk27 cellsOf27 (by rw [zeroL27]; rfl) hbig hp; rwa [zeroL27] at this
@[simp] theorem al37 : pAlloc P 37 w = some (pt (sz w) 0, nw w ([(Value.string ByteArray.empty), (Value.int IntKind.i64 0), (Value.int IntKind.i64 0), (Value.int IntKind.i64 0), (Value.int IntKind.i64 0), (Value.float FloatKind.f64 0), (Value.int IntKind.i64 0), (Value.string ByteArray.empty), (Value.slice none 0 0)]) 37) := by rw [pAlloc_eq hasZero37, zeroL37]
@[simp] theorem ld37 (h : i + 9 ≤ (mm w b).length) : pLoad P 37 (pt b i) w = some (.agg (((mm w b).drop i).take 9).toArray, w) := by
  have := pLoad_agg (w := w) (b := b) (i := i) tyOk37 isAggB37 (by rw [cellsOf37]; exact h); rwa [cellsOf37] at this
@[simp] theorem st37 (hs : a.size = 9) (hv : ∀ v ∈ a.toList, v.oneCell' = true) (hf : fz w b = false) (hi : i + 9 ≤ (mm w b).length) : pStore P 37 (pt b i) (.agg a) w = some (wr w b (splice (mm w b) i a.toList)) :=
  pStore_agg tyOk37 (by rw [cellsOf37, hs]) hv hf (by rw [hs]; exact hi)
@[simp] theorem fa37n0 : pFieldAddr P 37 (pt b i) 0 w = some (pt b (i + 0), w) := pFieldAddr_eq field37n0 tyOk9 (by rw [cellsOf9]; rfl)
@[simp] theorem fi37n0 (h : 0 < a.size) : pField P 37 (.agg a) 0 w = some (gt a.toList 0, w) := pField_scal field37n0 tyOk9 isAggB9 h
@[simp] theorem fa37n1 : pFieldAddr P 37 (pt b i) 1 w = some (pt b (i + 1), w) := pFieldAddr_eq field37n1 tyOk25 (by rw [cellsOf25]; rfl)
@[simp] theorem fi37n1 : pField P 37 (.agg a) 1 w = some (.agg ((a.toList.drop 1).take 8).toArray, w) := by
  have := pField_agg (w := w) (x := a) field37n1 tyOk25 isAggB25; rwa [cellsOf25] at this
@[simp] theorem al41 : pAlloc P 41 w = some (pt (sz w) 0, nw w ([(Value.slice none 0 0)]) 41) := by rw [pAlloc_eq hasZero41, zeroL41]
@[simp] theorem ld41 (h : i < (mm w b).length) : pLoad P 41 (pt b i) w = some (gt (mm w b) i, w) := pLoad_scal tyOk41 isAggB41 h
@[simp] theorem st41 (hv : v.oneCell' = true) (hf : fz w b = false) (hi : i < (mm w b).length) : pStore P 41 (pt b i) v w = some (wr w b ((mm w b).set i v)) := pStore_one tyOk41 cellsOf41 hv hf hi
@[simp] theorem ia41 (h0 : 0 ≤ j) (h1 : j < n) : pIndexAddr P 41 (sl b o n c) (.int k j) w = some (pt b (o + j.toNat * 10), w) := by
  have := pIndexAddr_slice (w := w) (b := b) (o := o) (c := c) (k := k) sliceE41 tyOk49 h0 h1; rwa [cellsOf49] at this
@[simp] theorem len41 {ty : TypeId} {a : Option Addr} : pBuiltin P .len #[41] ty [.slice a n c] w = some (i64 n, w) := len_slice sliceE41
@[simp] theorem slL41 (h0 : 0 ≤ x) (h1 : x ≤ (n : Int)) (hnc : n ≤ c) : pSlice P 41 (sl b o n c) (some (.int k x)) none none w = some (.slice (some ⟨b, if c = x.toNat then o else o + x.toNat * 10, none⟩) (n - x.toNat) (c - x.toNat), w) := by
  have := pSlice_slice (P := P) (t := 41) (w := w) (b := b) (o := o) (lo := (some (.int k x))) (hi := none) sliceE41 tyOk49 rfl rfl h0 h1 (by simp [bHi]; omega) hnc; simpa [bLo, bHi] using this
@[simp] theorem slH41 {k' : IntKind} {y : Int} (h0 : 0 ≤ y) (h1 : y ≤ (c : Int)) (hnc : n ≤ c) : pSlice P 41 (sl b o n c) none (some (.int k' y)) none w = some (.slice (some ⟨b, o, none⟩) (y.toNat) (c), w) := by
  have := pSlice_slice (P := P) (t := 41) (w := w) (b := b) (o := o) (lo := none) (hi := (some (.int k' y))) sliceE41 tyOk49 rfl rfl (Int.le_refl 0) h0 h1 hnc; simpa [bLo, bHi] using this
@[simp] theorem slB41 {k' : IntKind} {y : Int} (h0 : 0 ≤ x) (h1 : x ≤ y) (h2 : y ≤ (c : Int)) (hnc : n ≤ c) : pSlice P 41 (sl b o n c) (some (.int k x)) (some (.int k' y)) none w = some (.slice (some ⟨b, if c = x.toNat then o else o + x.toNat * 10, none⟩) (y.toNat - x.toNat) (c - x.toNat), w) := by
  have := pSlice_slice (P := P) (t := 41) (w := w) (b := b) (o := o) (lo := (some (.int k x))) (hi := (some (.int k' y))) sliceE41 tyOk49 rfl rfl h0 h1 h2 hnc; simpa [bLo, bHi] using this
@[simp] theorem slN41  (hnc : n ≤ c) : pSlice P 41 (sl b o n c) none none none w = some (.slice (some ⟨b, o, none⟩) (n) (c), w) := by
  have := pSlice_slice (P := P) (t := 41) (w := w) (b := b) (o := o) (lo := none) (hi := none) sliceE41 tyOk49 rfl rfl (Int.le_refl 0) (by simp [bLo, bHi]) (by simp [bHi]; omega) hnc; simpa [bLo, bHi] using this
@[simp] theorem bsl41 {ps : List (Nat × Value)} (hbig : n * 10 ≤ 2 ^ 24) (hp : ∀ p ∈ ps, p.2.cells.size = 10 ∧ p.1 < n) : pBuildSlice P 41 n ps w = some (sl (sz w) 0 n n,
    nw w (ps.foldl (fun l p => splice l (p.1 * 10) p.2.cells.toList) (List.replicate n ([(Value.int IntKind.i64 0), (Value.int IntKind.i64 0), (Value.int IntKind.i64 0), (Value.int IntKind.i64 0), (Value.int IntKind.i64 0), (Value.int IntKind.i64 0), (Value.float FloatKind.f64 0), (Value.int IntKind.i64 0), (Value.string ByteArray.empty), (Value.slice none 0 0)])).flatten) 49) := by
  have := pBuildSlice_eq (w := w) sliceE41 hasZero49 tyOk49 cellsOf49 (by rw [zeroL49]; rfl) hbig hp; rwa [zeroL49] at this
end
end Go.Proofs.YtieejbkbdfccdaaDoor

set_option linter.unusedVariables false
namespace Go.Proofs.YtieejbkbdfccdaaDoor
open Go

section
variable {w : World} {b i o n c : Nat} {k : IntKind} {x j : Int} {v : Value} {a : Array Value} {lo hi : Option Value}

@[simp] theorem tyOk130 : tyOk P 130 = true := by kernel_rfl
@[simp] theorem isAggB130 : isAggB P 130 = false := by kernel_rfl
@[simp] theorem cellsOf130 : P.cellsOf 130 = 1 := by kernel_rfl
@[simp] theorem bytesOf130 : P.bytesOf 130 = 8 := by kernel_rfl
@[simp] theorem hasZero130 : hasZero P 130 = true := by kernel_rfl
@[simp] theorem zeroL130 : zeroL P 130 = [(Value.int IntKind.u64 0)] := by kernel_rfl
@[simp] theorem intK130 : intK P 130 = some IntKind.u64 := by kernel_rfl
@[simp] theorem und130 : P.underlying 130 = some (.int .u64) := by kernel_rfl
@[simp] theorem al130 : pAlloc P 130 w = some (pt (sz w) 0, nw w ([(Value.int IntKind.u64 0)]) 130) := by rw [pAlloc_eq hasZero130, zeroL130]
@[simp] theorem ld130 (h : i < (mm w b).length) : pLoad P 130 (pt b i) w = some (gt (mm w b) i, w) := pLoad_scal tyOk130 isAggB130 h
@[simp] theorem st130 (hv : v.oneCell' = true) (hf : fz w b = false) (hi : i < (mm w b).length) : pStore P 130 (pt b i) v w = some (wr w b ((mm w b).set i v)) := pStore_one tyOk130 cellsOf130 hv hf hi
@[simp] theorem cv130 {s : TypeId} (hs : tyOk P s = true) : pConv P s 130 (.int k x) w = some (.int .u64 (IntKind.wrap .u64 x), w) := pConv_int hs intK130
@[simp] theorem tyOk95 : tyOk P 95 = true := by kernel_rfl
@[simp] theorem isAggB95 : isAggB P 95 = false := by kernel_rfl
@[simp] theorem ld95 (h : i < (mm w b).length) : pLoad P 95 (pt b i) w = some (gt (mm w b) i, w) := pLoad_scal tyOk95 isAggB95 h
theorem und40 : P.underlying 40 = some (.map 9 25) := by kernel_rfl
end
end Go.Proofs.YtieejbkbdfccdaaDoor

set_option linter.unusedVariables false
set_option linter.unusedSimpArgs false
namespace Go.Proofs.YtieejbkbdfccdaaDoor
open Go

theorem wrap_i64 (x : Int) : IntKind.i64.wrap x = if 9223372036854775808 ≤ x % 18446744073709551616 then x % 18446744073709551616 - 18446744073709551616 else x % 18446744073709551616 := by
  simp [IntKind.wrap, IntKind.signed, IntKind.bits]
theorem wrap_in (x : Int) : in64 (IntKind.i64.wrap x) := by
  rw [wrap_i64]; unfold in64; split <;> omega
theorem wrap_addl (a b : Int) : IntKind.i64.wrap (IntKind.i64.wrap a + b) = IntKind.i64.wrap (a + b) := by
  rw [wrap_i64 a, wrap_i64 (a + b)]
  split
  · rw [wrap_i64]
    have : (a % 18446744073709551616 - 18446744073709551616 + b) % 18446744073709551616 = (a + b) % 18446744073709551616 := by omega
    rw [this]
  · rw [wrap_i64]
    have : (a % 18446744073709551616 + b) % 18446744073709551616 = (a + b) % 18446744073709551616 := by omega
    rw [this]
theorem wrap_id {x : Int} (h : in64 x) : IntKind.i64.wrap x = x := wrap64 h.1 h.2

/-! ### Texts in order -/
theorem bl_cons (x y : UInt8) (a b : List UInt8) : Op.bytesLess (x :: a) (y :: b) = (decide (x.toNat < y.toNat) || (decide (x.toNat = y.toNat) && Op.bytesLess a b)) := by
  by_cases h : x < y
  · have h' : x.toNat < y.toNat := UInt8.lt_iff_toNat_lt.1 h
    simp [Op.bytesLess, h, h']
  · have h' : ¬ x.toNat < y.toNat := fun k => h (UInt8.lt_iff_toNat_lt.2 k)
    by_cases e : x = y
    · subst e; simp [Op.bytesLess]
    · have e' : ¬ x.toNat = y.toNat := fun k => e (UInt8.toNat_inj.1 k)
      simp [Op.bytesLess, h, e, h', e']
theorem bl_irrefl : ∀ a : List UInt8, Op.bytesLess a a = false
  | [] => rfl
  | x :: a => by rw [bl_cons, bl_irrefl a]; simp
theorem bl_trans : ∀ {a b c : List UInt8}, Op.bytesLess a b = true → Op.bytesLess b c = true → Op.bytesLess a c = true
  | _, [], _, h, _ => by simp [Op.bytesLess] at h
  | _, _ :: _, [], _, h => by simp [Op.bytesLess] at h
  | [], _ :: _, _ :: _, _, _ => rfl
  | x :: a, y :: b, z :: c, h, k => by
    rw [bl_cons] at h k ⊢
    simp only [Bool.or_eq_true, Bool.and_eq_true, decide_eq_true_eq] at h k ⊢
    rcases h with h | ⟨h, h'⟩ <;> rcases k with k | ⟨k, k'⟩
    · left; omega
    · left; omega
    · left; omega
    · right; exact ⟨by omega, bl_trans h' k'⟩
theorem bl_asymm {a b : List UInt8} (h : Op.bytesLess a b = true) : Op.bytesLess b a = false := by
  cases k : Op.bytesLess b a
  · rfl
  · have := bl_trans h k; rw [bl_irrefl] at this; cases this
theorem bl_eq : ∀ {a b : List UInt8}, Op.bytesLess a b = false → Op.bytesLess b a = false → a = b
  | [], [], _, _ => rfl
  | [], _ :: _, h, _ => by simp [Op.bytesLess] at h
  | _ :: _, [], _, h => by simp [Op.bytesLess] at h
  | x :: a, y :: b, h, k => by
    rw [bl_cons] at h k
    simp only [Bool.or_eq_false_iff, Bool.and_eq_false_imp, decide_eq_false_iff_not, decide_eq_true_eq] at h k
    have e : x.toNat = y.toNat := by omega
    rw [UInt8.toNat_inj.1 e, bl_eq (h.2 e) (k.2 e.symm)]
theorem ah_irrefl (a : ItemP) : aheadB a a = false := by simp [aheadB, bl_irrefl]
theorem ah_trans {a b c : ItemP} (h : aheadB a b = true) (k : aheadB b c = true) : aheadB a c = true := by
  simp only [aheadB, Bool.or_eq_true, Bool.and_eq_true, decide_eq_true_eq] at h k ⊢
  rcases h with h | ⟨h, h'⟩ <;> rcases k with k | ⟨k, k'⟩
  · left; omega
  · left; omega
  · left; omega
  · right; exact ⟨by omega, bl_trans h' k'⟩
theorem ah_asymm {a b : ItemP} (h : aheadB a b = true) : aheadB b a = false := by
  cases k : aheadB b a
  · rfl
  · have := ah_trans h k; rw [ah_irrefl] at this; cases this
/-- An item that may be upon a list. -/
def canI (x : ItemP) : Prop := x.score < 2 * H63 ∧ x.score = canon x.score
theorem ah_eq {a b : ItemP} (ha : canI a) (hb : canI b) (h : aheadB a b = false) (k : aheadB b a = false) : a = b := by
  simp only [aheadB, Bool.or_eq_false_iff, Bool.and_eq_false_imp, decide_eq_false_iff_not, decide_eq_true_eq] at h k
  have e : key a.score = key b.score := by omega
  have en := bl_eq (h.2 e) (k.2 e.symm)
  have es := key_inj ha.1 hb.1 e
  rw [← ha.2, ← hb.2] at es
  cases a; cases b; simp_all

/-! ### Lists with an item more -/
def insN (s : List UInt8) : List ItemP → List ItemP
  | [] => [⟨0, s⟩]
  | x :: L => if Op.bytesLess x.name s = true then x :: insN s L else ⟨0, s⟩ :: x :: L
def insT (x : ItemP) : List ItemP → List ItemP
  | [] => [x]
  | y :: L => if aheadB y x = true then y :: insT x L else if aheadB x y = true then x :: y :: L else y :: L
theorem insT_comm {x y : ItemP} (hx : canI x) (hy : canI y) : ∀ L, insT x (insT y L) = insT y (insT x L)
  | [] => by
    simp only [insT]
    by_cases h1 : aheadB y x = true
    · have h2 := ah_asymm h1
      simp [h1, h2, insT]
    · by_cases h2 : aheadB x y = true
      · simp [h1, h2, insT]
      · have := ah_eq hx hy (by simpa using h2) (by simpa using h1)
        subst this; simp [h1, insT]
  | z :: L => by
    simp only [insT]
    by_cases h1 : aheadB z y = true
    · by_cases h2 : aheadB z x = true
      · simp only [h1, h2, if_true, insT]
        rw [insT_comm hx hy L]
      · by_cases h3 : aheadB x z = true
        · have h4 := ah_trans h3 h1
          have h5 := ah_asymm h4
          simp [h1, h2, h3, h4, h5, insT]
        · simp [h1, h2, h3, insT]
    · by_cases h2 : aheadB z x = true
      · by_cases h3 : aheadB y z = true
        · have h4 := ah_trans h3 h2
          have h5 := ah_asymm h4
          simp [h1, h2, h3, h4, h5, insT]
        · simp [h1, h2, h3, insT]
      · by_cases h3 : aheadB y z = true
        · by_cases h4 : aheadB x z = true
          · by_cases h5 : aheadB x y = true
            · have h6 := ah_asymm h5
              simp [h1, h2, h3, h4, h5, h6, insT]
            · by_cases h6 : aheadB y x = true
              · simp [h1, h2, h3, h4, h5, h6, insT]
              · have := ah_eq hx hy (by simpa using h5) (by simpa using h6)
                subst this; simp [h1, h2, h3, h4, h5, h6, insT]
          · have hy' : aheadB y x = true := by
              cases k : aheadB y x
              · exfalso
                have e1 : aheadB x z = false := by simpa using h4
                have e2 : aheadB z x = false := by simpa using h2
                simp only [aheadB, Bool.or_eq_false_iff, Bool.and_eq_false_imp, decide_eq_false_iff_not, decide_eq_true_eq] at e1 e2 k
                simp only [aheadB, Bool.or_eq_true, Bool.and_eq_true, decide_eq_true_eq] at h3
                have ek : key x.score = key z.score := by omega
                have en := bl_eq (e1.2 ek) (e2.2 ek.symm)
                rw [en, ek] at k
                rcases h3 with h3 | ⟨h3, h3'⟩
                · exact k.1 h3
                · rw [k.2 h3] at h3'; cases h3'
              · rfl
            have hx' := ah_asymm hy'
            simp [h1, h2, h3, h4, hy', hx', insT]
        · by_cases h4 : aheadB x z = true
          · have hx' : aheadB x y = true := by
              cases k : aheadB x y
              · exfalso
                have e1 : aheadB y z = false := by simpa using h3
                have e2 : aheadB z y = false := by simpa using h1
                simp only [aheadB, Bool.or_eq_false_iff, Bool.and_eq_false_imp, decide_eq_false_iff_not, decide_eq_true_eq] at e1 e2 k
                simp only [aheadB, Bool.or_eq_true, Bool.and_eq_true, decide_eq_true_eq] at h4
                have ek : key y.score = key z.score := by omega
                have en := bl_eq (e1.2 ek) (e2.2 ek.symm)
                rw [en, ek] at k
                rcases h4 with h4 | ⟨h4, h4'⟩
                · exact k.1 h4
                · rw [k.2 h4] at h4'; cases h4'
              · rfl
            have hy' := ah_asymm hx'
            simp [h1, h2, h3, h4, hy', hx', insT]
          · simp [h1, h2, h3, h4, insT]
theorem take_insT (x : ItemP) : ∀ (c : Nat) (M : List ItemP), (insT x (M.take c)).take c = (insT x M).take c
  | 0, M => by simp
  | c + 1, [] => by simp
  | c + 1, y :: M => by
    simp only [List.take_succ_cons, insT]
    by_cases h1 : aheadB y x = true
    · simp only [h1, if_true, List.take_succ_cons, take_insT x c M]
    · by_cases h2 : aheadB x y = true
      · simp only [h1, h2, if_true, List.take_succ_cons]
        cases c with
        | zero => simp
        | succ c => simp [List.take_take]
      · simp [h1, h2, List.take_take]
theorem mem_insN {s : List UInt8} {y : ItemP} : ∀ {L}, y ∈ insN s L → y = ⟨0, s⟩ ∨ y ∈ L
  | [], h => by simpa [insN] using h
  | x :: L, h => by
    unfold insN at h
    split at h
    · rcases List.mem_cons.1 h with rfl | h
      · right; simp
      · rcases mem_insN h with h | h
        · exact .inl h
        · right; simp [h]
    · rcases List.mem_cons.1 h with rfl | h
      · exact .inl rfl
      · exact .inr h
theorem mem_insT {x y : ItemP} : ∀ {L}, y ∈ insT x L → y = x ∨ y ∈ L
  | [], h => by simpa [insT] using h
  | z :: L, h => by
    unfold insT at h
    split at h
    · rcases List.mem_cons.1 h with rfl | h
      · right; simp
      · rcases mem_insT h with h | h
        · exact .inl h
        · right; simp [h]
    · split at h
      · rcases List.mem_cons.1 h with rfl | h
        · exact .inl rfl
        · exact .inr h
      · exact .inr h
theorem len_insN (s : List UInt8) : ∀ L, (insN s L).length = L.length + 1
  | [] => rfl
  | x :: L => by
    unfold insN
    split
    · simp [len_insN s L]
    · simp
def nameLt (x y : ItemP) : Prop := Op.bytesLess x.name y.name = true
def ahead (x y : ItemP) : Prop := aheadB x y = true
theorem pw_insN {s : List UInt8} : ∀ {L : List ItemP}, L.Pairwise nameLt → (∀ x ∈ L, x.name ≠ s) → (insN s L).Pairwise nameLt
  | [], _, _ => by simp [insN]
  | x :: L, h, hne => by
    obtain ⟨h1, h2⟩ := List.pairwise_cons.1 h
    unfold insN
    split
    · rename_i hlt
      refine List.pairwise_cons.2 ⟨fun y hy => ?_, pw_insN h2 fun y hy => hne y (by simp [hy])⟩
      rcases mem_insN hy with rfl | hy
      · exact hlt
      · exact h1 y hy
    · rename_i hlt
      have hlt' : Op.bytesLess s x.name = true := by
        cases k : Op.bytesLess s x.name
        · exact absurd (bl_eq (by simpa using hlt) k) (hne x (by simp))
        · rfl
      refine List.pairwise_cons.2 ⟨fun y hy => ?_, h⟩
      rcases List.mem_cons.1 hy with rfl | hy
      · exact hlt'
      · exact bl_trans hlt' (h1 y hy)
theorem pw_insT {x : ItemP} : ∀ {L : List ItemP}, L.Pairwise ahead → (insT x L).Pairwise ahead
  | [], _ => by simp [insT]
  | y :: L, h => by
    obtain ⟨h1, h2⟩ := List.pairwise_cons.1 h
    unfold insT
    split
    · rename_i hlt
      refine List.pairwise_cons.2 ⟨fun z hz => ?_, pw_insT h2⟩
      rcases mem_insT hz with rfl | hz
      · exact hlt
      · exact h1 z hz
    · split
      · rename_i hlt
        refine List.pairwise_cons.2 ⟨fun z hz => ?_, h⟩
        rcases List.mem_cons.1 hz with rfl | hz
        · exact hlt
        · exact ah_trans hlt (h1 z hz)
      · exact h

/-! ### Lists that may be -/
def goodI (k : Int) (x : ItemP) : Prop := x.name.length ≤ 16 ∧ (k = 8 → key x.score = key 0) ∧ x.score = canon x.score
def relI (k : Int) (y x : ItemP) : Prop := (k = 8 → Op.bytesLess y.name x.name = true) ∧ (k = 9 → aheadB y x = true)
theorem relI_trans {k : Int} {a b c : ItemP} (h : relI k a b) (h' : relI k b c) : relI k a c :=
  ⟨fun e => bl_trans (h.1 e) (h'.1 e), fun e => ah_trans (h.2 e) (h'.2 e)⟩
def ItemsOk (k : Int) (L : List ItemP) : Prop := (∀ x ∈ L, goodI k x) ∧ L.Pairwise (relI k)
theorem items_iff {k : Int} {L : List ItemP} : (∀ i, i < L.length → itemP k L i) ↔ ItemsOk k L := by
  constructor
  · intro h
    refine ⟨fun x hx => ?_, ?_⟩
    · obtain ⟨i, hi⟩ := List.getElem?_of_mem hx
      have := h i (List.getElem?_eq_some_iff.1 hi).1 x hi
      exact ⟨this.1, this.2.1, this.2.2.1⟩
    · rw [List.pairwise_iff_getElem]
      have step : ∀ d i (hd : i + d + 1 < L.length), relI k (L[i]'(by omega)) (L[i + d + 1]) := by
        intro d
        induction d with
        | zero =>
          intro i hi
          have := (h (i + 1) hi _ (List.getElem?_eq_getElem hi)).2.2.2 (L[i]'(by omega)) (by omega) (by simp)
          exact this
        | succ d ih =>
          intro i hi
          have h1 := ih i (by omega)
          have h2 := (h (i + (d + 1) + 1) hi _ (List.getElem?_eq_getElem hi)).2.2.2 (L[i + d + 1]'(by omega)) (by omega) (by rw [List.getElem?_eq_getElem (by omega)]; rfl)
          exact relI_trans h1 h2
      intro i j hi hj hij
      have := step (j - i - 1) i (by omega)
      have e : i + (j - i - 1) + 1 = j := by omega
      simpa [e] using this
  · rintro ⟨h1, h2⟩ i hi x hx
    have hg := h1 x (List.mem_of_getElem? hx)
    refine ⟨hg.1, hg.2.1, hg.2.2, fun y h0 hy => ?_⟩
    rw [List.pairwise_iff_getElem] at h2
    have := h2 (i - 1) i (by omega) hi (by omega)
    rw [List.getElem?_eq_getElem hi] at hx
    rw [List.getElem?_eq_getElem (by omega)] at hy
    cases hx; cases hy
    exact this
end Go.Proofs.YtieejbkbdfccdaaDoor

set_option linter.unusedVariables false
set_option linter.unusedSimpArgs false
namespace Go.Proofs.YtieejbkbdfccdaaDoor
open Go

structure AnP where
  code : Int
  num : Int
  rec' : RecP
def anC (k : Int) : AnP := ⟨k, 0, rz⟩
def maxF (a b : Nat) : Nat := canon (if key a < key b then b else a)
def minF (a b : Nat) : Nat := canon (if key b < key a then b else a)
def hasN (s : List UInt8) (L : List ItemP) : Bool := L.any fun x => decide (x.name = s)
def plusB (r : RecP) (a : ActP) : Prop := (0 < a.n ∧ 9223372036854775807 - a.n < r.num) ∨ (a.n < 0 ∧ r.num < -9223372036854775808 - a.n)
instance (r : RecP) (a : ActP) : Decidable (plusB r a) := inferInstanceAs (Decidable (_ ∨ _))
/-- What an act does to a record of its kind. -/
def changeM (r : RecP) (a : ActP) : RecP × AnP :=
  if a.kind = 5 then ({ r with text := a.s }, anC 0)
  else if a.kind = 6 then ({ r with text := a.s }, ⟨0, 0, r⟩)
  else if a.kind = 7 then (addN r a.n, anC 0)
  else if a.kind = 8 then if plusB r a then (r, anC 9) else (addN r a.n, anC 0)
  else if a.kind = 9 ∨ a.kind = 12 then if r.num < a.n then (r, anC 11) else (r, anC 0)
  else if a.kind = 10 then if r.high - r.num < a.n then (r, anC 9) else (addN r a.n, anC 0)
  else if a.kind = 11 then if r.num - r.low < a.n then (r, anC 10) else (addN r (-a.n), anC 0)
  else if a.kind = 13 then ({ r with real := maxF r.real a.x }, anC 0)
  else if a.kind = 14 then ({ r with real := minF r.real a.x }, anC 0)
  else if a.kind = 15 then ({ r with real := one (fd.add r.real a.x) }, anC 0)
  else if a.kind = 16 then ({ r with real := one (fd.mul r.real a.x) }, anC 0)
  else if a.kind = 17 then ({ r with real := a.x }, anC 0)
  else if a.kind = 18 then if hasN a.s r.list = true then (r, anC 0) else if r.cap ≤ r.list.length then (r, anC 8) else ({ r with list := insN a.s r.list }, anC 0)
  else if a.kind = 19 then ({ r with list := r.list.filter fun x => !decide (x.name = a.s) }, anC 0)
  else if a.kind = 20 then if hasN a.s r.list = true then (r, anC 0) else (r, anC 11)
  else ({ r with list := (insT ⟨a.x, a.s⟩ r.list).take r.cap.toNat }, anC 0)
section
variable {r : RecP} {a : ActP}
theorem ch5 (h : a.kind = 5) : changeM r a = ({ r with text := a.s }, anC 0) := by unfold changeM; simp only [h]; rfl
theorem ch6 (h : a.kind = 6) : changeM r a = ({ r with text := a.s }, ⟨0, 0, r⟩) := by unfold changeM; simp only [h]; rfl
theorem ch7 (h : a.kind = 7) : changeM r a = (addN r a.n, anC 0) := by unfold changeM; simp only [h]; rfl
theorem ch8 (h : a.kind = 8) : changeM r a = if plusB r a then (r, anC 9) else (addN r a.n, anC 0) := by unfold changeM; simp only [h]; rfl
theorem ch9 (h : a.kind = 9) : changeM r a = if r.num < a.n then (r, anC 11) else (r, anC 0) := by unfold changeM; simp only [h]; rfl
theorem ch10 (h : a.kind = 10) : changeM r a = if r.high - r.num < a.n then (r, anC 9) else (addN r a.n, anC 0) := by unfold changeM; simp only [h]; rfl
theorem ch11 (h : a.kind = 11) : changeM r a = if r.num - r.low < a.n then (r, anC 10) else (addN r (-a.n), anC 0) := by unfold changeM; simp only [h]; rfl
theorem ch12 (h : a.kind = 12) : changeM r a = if r.num < a.n then (r, anC 11) else (r, anC 0) := by unfold changeM; simp only [h]; rfl
theorem ch13 (h : a.kind = 13) : changeM r a = ({ r with real := maxF r.real a.x }, anC 0) := by unfold changeM; simp only [h]; rfl
theorem ch14 (h : a.kind = 14) : changeM r a = ({ r with real := minF r.real a.x }, anC 0) := by unfold changeM; simp only [h]; rfl
theorem ch15 (h : a.kind = 15) : changeM r a = ({ r with real := one (fd.add r.real a.x) }, anC 0) := by unfold changeM; simp only [h]; rfl
theorem ch16 (h : a.kind = 16) : changeM r a = ({ r with real := one (fd.mul r.real a.x) }, anC 0) := by unfold changeM; simp only [h]; rfl
theorem ch17 (h : a.kind = 17) : changeM r a = ({ r with real := a.x }, anC 0) := by unfold changeM; simp only [h]; rfl
theorem ch18 (h : a.kind = 18) : changeM r a = if hasN a.s r.list = true then (r, anC 0) else if r.cap ≤ r.list.length then (r, anC 8) else ({ r with list := insN a.s r.list }, anC 0) := by unfold changeM; simp only [h]; rfl
theorem ch19 (h : a.kind = 19) : changeM r a = ({ r with list := r.list.filter fun x => !decide (x.name = a.s) }, anC 0) := by unfold changeM; simp only [h]; rfl
theorem ch20 (h : a.kind = 20) : changeM r a = if hasN a.s r.list = true then (r, anC 0) else (r, anC 11) := by unfold changeM; simp only [h]; rfl
theorem ch21 (h : a.kind = 21) : changeM r a = ({ r with list := (insT ⟨a.x, a.s⟩ r.list).take r.cap.toNat }, anC 0) := by unfold changeM; simp only [h]; rfl
end
def onK (k : Int) : Int := (kindF k).2.1
/-- What an act does to a record, or to none. -/
def applyM (s : Option RecP) (a : ActP) : Option RecP × AnP :=
  if a.kind = 1 then match s with
    | some r => (some r, anC 7)
    | none => (some a.make, anC 0)
  else if a.kind = 3 then (s, ⟨0, match s with | some r => r.kind | none => 0, rz⟩)
  else match s with
    | none => (none, anC 6)
    | some r =>
      if a.kind = 2 then (none, anC 0)
      else if a.kind = 4 then (some r, ⟨0, 0, r⟩)
      else if onK a.kind ≠ r.kind then (some r, anC 5)
      else (some (changeM r a).1, (changeM r a).2)

/-! ### What may be stays so -/
def Fit' (r : RecP) : Prop := RecOk r ∧ okR r
def actI (a : ActP) : Prop := ActOk a ∧ okA a ∧ okR a.make
theorem one_lt {x : Option Nat} (h : ∀ r, x = some r → r < 2 * H63) : one x < 2 * H63 ∧ one x = canon (one x) := by
  cases x with
  | none => exact ⟨by show NAN < _; decide, by show NAN = canon NAN; decide⟩
  | some r => exact ⟨canon_lt (h r rfl), (canon_canon r).symm⟩
theorem fit_text {r : RecP} (h : Fit' r) (hk : r.kind = 1) {s : List UInt8} (hs : s.length ≤ 64) : Fit' { r with text := s } := by
  obtain ⟨⟨k1, k9, only, text, bounds, real, cap⟩, o1, o2, o3, o4, o5, o6, o7⟩ := h
  obtain ⟨p1, p2, p3, p4, p5⟩ := only
  have hf : fieldsR r.kind = [116] := by rw [hk]; rfl
  refine ⟨⟨k1, k9, ⟨fun h => ?_, p2, p3, p4, p5⟩, fun _ => hs, bounds, real, cap⟩, o1, o2, o3, o4, o5, o6, o7⟩
  rw [show ({ r with text := s } : RecP).kind = r.kind from rfl, hf] at h
  exact absurd h (by decide)
theorem fit_num {r : RecP} (h : Fit' r) (hk : r.kind = 2 ∨ r.kind = 3 ∨ r.kind = 4) {n : Int} (hn : in64 n) (hb : r.kind = 4 → r.low ≤ n ∧ n ≤ r.high) : Fit' { r with num := n } := by
  obtain ⟨⟨k1, k9, only, text, bounds, real, cap⟩, o1, o2, o3, o4, o5, o6, o7⟩ := h
  obtain ⟨p1, p2, p3, p4, p5⟩ := only
  have hf : (fieldsR r.kind).contains 110 = true := by rcases hk with hk | hk | hk <;> rw [hk] <;> decide
  refine ⟨⟨k1, k9, ⟨p1, fun h => ?_, p3, p4, p5⟩, text, fun h => ⟨(bounds h).1, (bounds h).2.1, (hb h).1, (hb h).2⟩, real, cap⟩, o1, hn, o3, o4, o5, o6, o7⟩
  rw [show ({ r with num := n } : RecP).kind = r.kind from rfl, hf] at h
  cases h
theorem fit_real {r : RecP} (h : Fit' r) (hk : r.kind = 5 ∨ r.kind = 6 ∨ r.kind = 7) {x : Nat} (hx : x < 2 * H63) (hc : x = canon x) : Fit' { r with real := x } := by
  obtain ⟨⟨k1, k9, only, text, bounds, real, cap⟩, o1, o2, o3, o4, o5, o6, o7⟩ := h
  obtain ⟨p1, p2, p3, p4, p5⟩ := only
  have hf : (fieldsR r.kind).contains 114 = true := by rcases hk with hk | hk | hk <;> rw [hk] <;> decide
  refine ⟨⟨k1, k9, ⟨p1, p2, p3, fun h => ?_, p5⟩, text, bounds, hc, cap⟩, o1, o2, o3, o4, hx, o6, o7⟩
  rw [show ({ r with real := x } : RecP).kind = r.kind from rfl, hf] at h
  cases h
theorem fit_list {r : RecP} (h : Fit' r) (hk : r.kind = 8 ∨ r.kind = 9) {L : List ItemP} (hl : (L.length : Int) ≤ r.cap) (hi : ItemsOk r.kind L) (ho : ∀ x ∈ L, okI x) : Fit' { r with list := L } := by
  obtain ⟨⟨k1, k9, only, text, bounds, real, cap⟩, o1, o2, o3, o4, o5, o6, o7⟩ := h
  obtain ⟨p1, p2, p3, p4, p5⟩ := only
  have hf : (fieldsR r.kind).contains 108 = true := by rcases hk with hk | hk <;> rw [hk] <;> decide
  refine ⟨⟨k1, k9, ⟨p1, p2, p3, p4, fun h => ?_⟩, text, bounds, real, fun h => ⟨(cap h).1, (cap h).2.1, hl, items_iff.2 hi⟩⟩, o1, o2, o3, o4, o5, o6, ho⟩
  rw [show ({ r with list := L } : RecP).kind = r.kind from rfl, hf] at h
  cases h
theorem fit_items {r : RecP} (h : Fit' r) (hk : r.kind = 8 ∨ r.kind = 9) : ItemsOk r.kind r.list ∧ (r.list.length : Int) ≤ r.cap ∧ r.cap ≤ 32 ∧ 1 ≤ r.cap := by
  obtain ⟨h1, h2, h3, h4⟩ := h.1.cap (by omega)
  exact ⟨items_iff.1 h4, h3, h2, h1⟩
theorem set_lt {L : List ItemP} (h : ItemsOk 8 L) : L.Pairwise nameLt := h.2.imp fun h => h.1 rfl
theorem top_lt {L : List ItemP} (h : ItemsOk 9 L) : L.Pairwise ahead := h.2.imp fun h => h.2 rfl
theorem onK_vals {k : Int} (h : onK k ≠ 0) : (k = 5 ∨ k = 6) ∧ onK k = 1 ∨ k = 7 ∧ onK k = 2 ∨ (k = 8 ∨ k = 9) ∧ onK k = 3 ∨ (k = 10 ∨ k = 11 ∨ k = 12) ∧ onK k = 4 ∨ k = 13 ∧ onK k = 5 ∨ k = 14 ∧ onK k = 6 ∨ (k = 15 ∨ k = 16 ∨ k = 17) ∧ onK k = 7 ∨ (k = 18 ∨ k = 19 ∨ k = 20) ∧ onK k = 8 ∨ k = 21 ∧ onK k = 9 := by
  by_cases h1 : 1 ≤ k ∧ k ≤ 21
  · have : k = 1 ∨ k = 2 ∨ k = 3 ∨ k = 4 ∨ k = 5 ∨ k = 6 ∨ k = 7 ∨ k = 8 ∨ k = 9 ∨ k = 10 ∨ k = 11 ∨ k = 12 ∨ k = 13 ∨ k = 14 ∨ k = 15 ∨ k = 16 ∨ k = 17 ∨ k = 18 ∨ k = 19 ∨ k = 20 ∨ k = 21 := by omega
    rcases this with rfl | rfl | rfl | rfl | rfl | rfl | rfl | rfl | rfl | rfl | rfl | rfl | rfl | rfl | rfl | rfl | rfl | rfl | rfl | rfl | rfl <;> first | exact absurd rfl h | (have e : onK 5 = 1 ∧ onK 6 = 1 ∧ onK 7 = 2 ∧ onK 8 = 3 ∧ onK 9 = 3 ∧ onK 10 = 4 ∧ onK 11 = 4 ∧ onK 12 = 4 ∧ onK 13 = 5 ∧ onK 14 = 6 ∧ onK 15 = 7 ∧ onK 16 = 7 ∧ onK 17 = 7 ∧ onK 18 = 8 ∧ onK 19 = 8 ∧ onK 20 = 8 ∧ onK 21 = 9 := ⟨rfl, rfl, rfl, rfl, rfl, rfl, rfl, rfl, rfl, rfl, rfl, rfl, rfl, rfl, rfl, rfl, rfl⟩; omega)
  · exfalso; apply h
    unfold onK kindF
    rw [if_pos (by omega)]
theorem change_fit {r : RecP} {a : ActP} (h : Fit' r) (ha : actI a) (hon : onK a.kind = r.kind) : Fit' (changeM r a).1 := by
  have hk1 := h.1.k1
  obtain ⟨hok, ⟨hi1, hi2, hi3⟩, _⟩ := ha
  have hv := onK_vals (k := a.kind) (by omega)
  have hof : onF a.kind = onK a.kind := by unfold onK kindF; rw [if_neg (by have := hok.k1; have := hok.k21; omega)]
  have s16 : onK a.kind ≠ 1 → a.s.length ≤ 16 := fun h => hok.s16 (by rw [hof]; exact h)
  have hm : ∀ c : Bool, canon (if c then a.x else r.real) < 2 * H63 := fun c => canon_lt (by cases c; exact h.2.2.2.2.2.1; exact hi3)
  rcases hv with ⟨hv | hv, e⟩ | ⟨hv, e⟩ | ⟨hv | hv, e⟩ | ⟨hv | hv | hv, e⟩ | ⟨hv, e⟩ | ⟨hv, e⟩ | ⟨hv | hv | hv, e⟩ | ⟨hv | hv | hv, e⟩ | ⟨hv, e⟩
  · rw [ch5 hv]; exact fit_text h (by omega) (hok.s64 (by rw [hof]; omega))
  · rw [ch6 hv]; exact fit_text h (by omega) (hok.s64 (by rw [hof]; omega))
  · rw [ch7 hv]; exact fit_num h (by omega) (wrap_in _) (by omega)
  · rw [ch8 hv]
    by_cases hp : plusB r a
    · rw [if_pos hp]; exact h
    · rw [if_neg hp]; exact fit_num h (by omega) (wrap_in _) (by omega)
  · rw [ch9 hv]
    by_cases hp : r.num < a.n
    · rw [if_pos hp]; exact h
    · rw [if_neg hp]; exact h
  · rw [ch10 hv]
    by_cases hp : r.high - r.num < a.n
    · rw [if_pos hp]; exact h
    · rw [if_neg hp]
      obtain ⟨b1, b2, b3, b4⟩ := h.1.bounds (by omega)
      obtain ⟨c1, c2⟩ := hok.amount (by omega)
      unfold MP at b1 b2 c2
      have : IntKind.i64.wrap (r.num + a.n) = r.num + a.n := wrap64 (by omega) (by omega)
      exact fit_num h (by omega) (wrap_in _) (fun _ => by rw [this]; omega)
  · rw [ch11 hv]
    by_cases hp : r.num - r.low < a.n
    · rw [if_pos hp]; exact h
    · rw [if_neg hp]
      obtain ⟨b1, b2, b3, b4⟩ := h.1.bounds (by omega)
      obtain ⟨c1, c2⟩ := hok.amount (by omega)
      unfold MP at b1 b2 c2
      have : IntKind.i64.wrap (r.num + -a.n) = r.num - a.n := by rw [← Int.sub_eq_add_neg]; exact wrap64 (by omega) (by omega)
      exact fit_num h (by omega) (wrap_in _) (fun _ => by rw [this]; omega)
  · rw [ch12 hv]
    by_cases hp : r.num < a.n
    · rw [if_pos hp]; exact h
    · rw [if_neg hp]; exact h
  · rw [ch13 hv]
    refine fit_real h (by omega) ?_ (canon_canon _).symm
    unfold maxF
    by_cases hp : key r.real < key a.x
    · rw [if_pos hp]; exact hm true
    · rw [if_neg hp]; exact hm false
  · rw [ch14 hv]
    refine fit_real h (by omega) ?_ (canon_canon _).symm
    unfold minF
    by_cases hp : key a.x < key r.real
    · rw [if_pos hp]; exact hm true
    · rw [if_neg hp]; exact hm false
  · rw [ch15 hv]
    obtain ⟨e1, e2⟩ := one_lt (x := fd.add r.real a.x) fun _ h => add_small h
    exact fit_real h (by omega) e1 e2
  · rw [ch16 hv]
    obtain ⟨e1, e2⟩ := one_lt (x := fd.mul r.real a.x) fun _ h => mul_small h
    exact fit_real h (by omega) e1 e2
  · rw [ch17 hv]; exact fit_real h (by omega) hi3 hok.real
  · rw [ch18 hv]
    by_cases hh : hasN a.s r.list = true
    · rw [if_pos hh]; exact h
    · rw [if_neg hh]
      by_cases hc : r.cap ≤ r.list.length
      · rw [if_pos hc]; exact h
      · rw [if_neg hc]
        have hk8 : r.kind = 8 := by omega
        obtain ⟨i1, i2, i3, i4⟩ := fit_items h (.inl hk8)
        rw [hk8] at i1
        have hne : ∀ x ∈ r.list, x.name ≠ a.s := fun x hx e => hh (by
          rw [hasN, List.any_eq_true]; exact ⟨x, hx, by simpa using e⟩)
        refine fit_list h (.inl hk8) (by rw [len_insN]; omega) ?_ ?_
        · rw [hk8]
          refine ⟨fun x hx => ?_, (pw_insN (set_lt i1) hne).imp fun h => ⟨fun _ => h, fun e => by omega⟩⟩
          rcases mem_insN hx with rfl | hx
          · exact ⟨s16 (by omega), fun _ => rfl, (by decide : (0 : Nat) = canon 0)⟩
          · exact i1.1 x hx
        · intro x hx
          rcases mem_insN hx with rfl | hx
          · show (0 : Nat) < _; unfold H63; omega
          · exact h.2.2.2.2.2.2.2 x hx
  · rw [ch19 hv]
    have hk8 : r.kind = 8 := by omega
    obtain ⟨i1, i2, i3, i4⟩ := fit_items h (.inl hk8)
    have := List.length_filter_le (fun x : ItemP => !decide (x.name = a.s)) r.list
    exact fit_list h (.inl hk8) (by omega) ⟨fun x hx => i1.1 x (List.mem_filter.1 hx).1, i1.2.filter _⟩ fun x hx => h.2.2.2.2.2.2.2 x (List.mem_filter.1 hx).1
  · rw [ch20 hv]
    by_cases hp : hasN a.s r.list = true
    · rw [if_pos hp]; exact h
    · rw [if_neg hp]; exact h
  · rw [ch21 hv]
    have hk9 : r.kind = 9 := by omega
    obtain ⟨i1, i2, i3, i4⟩ := fit_items h (.inr hk9)
    rw [hk9] at i1
    refine fit_list h (.inr hk9) (by rw [List.length_take]; omega) ?_ ?_
    · rw [hk9]
      refine ⟨fun x hx => ?_, ((pw_insT (top_lt i1)).sublist (List.take_sublist _ _)).imp fun h => ⟨fun e => by omega, fun _ => h⟩⟩
      rcases mem_insT (List.mem_of_mem_take hx) with rfl | hx
      · exact ⟨s16 (by omega), fun e => by omega, hok.real⟩
      · exact i1.1 x hx
    · intro x hx
      rcases mem_insT (List.mem_of_mem_take hx) with rfl | hx
      · exact hi3
      · exact h.2.2.2.2.2.2.2 x hx
def FitO (s : Option RecP) : Prop := ∀ r, s = some r → Fit' r
theorem apply_fit {s : Option RecP} {a : ActP} (h : FitO s) (ha : actI a) : FitO (applyM s a).1 := by
  unfold applyM
  split
  · rename_i h1
    split
    · exact h
    · rintro r hr; cases hr; exact ⟨ha.1.make1 h1, ha.2.2⟩
  split
  · exact h
  split
  · intro r hr; cases hr
  · rename_i r
    have hr := h r rfl
    split
    · intro r hr; cases hr
    split
    · exact h
    split
    · exact h
    · rename_i hon
      rintro r' hr'; cases hr'
      exact change_fit hr ha (by simpa using hon)
end Go.Proofs.YtieejbkbdfccdaaDoor

set_option linter.unusedVariables false
set_option linter.unusedSimpArgs false
namespace Go.Proofs.YtieejbkbdfccdaaDoor
open Go

def readsB (k : Int) : Bool := decide (k = 3 ∨ k = 4 ∨ k = 9 ∨ k = 12 ∨ k = 20)
/-- Do acts of two kinds (that there are) upon one key change places? -/
def kindsB (k l : Int) : Bool :=
  if k ≤ 2 ∨ l ≤ 2 then false
  else if (readsB k && readsB l) = true ∨ k = 3 ∨ l = 3 then true
  else if k = 4 ∨ l = 4 then false
  else if onK k ≠ onK l then true
  else decide (k = l ∧ (k = 7 ∨ k = 13 ∨ k = 14 ∨ k = 19 ∨ k = 21))
theorem iteK {c : Prop} [Decidable c] {x y : RecP × AnP} {k : Int} (h : x.1.kind = k) (h' : y.1.kind = k) : (if c then x else y).1.kind = k := by split <;> assumption
theorem change_kind (r : RecP) (a : ActP) : (changeM r a).1.kind = r.kind := by
  unfold changeM
  repeat' (first | exact rfl | apply iteK)
theorem apply_some {r : RecP} {a : ActP} (h : 3 ≤ a.kind) : ∃ r', (applyM (some r) a).1 = some r' ∧ r'.kind = r.kind := by
  unfold applyM
  rw [if_neg (by omega)]
  split
  · exact ⟨r, rfl, rfl⟩
  simp only
  rw [if_neg (by omega)]
  split
  · exact ⟨r, rfl, rfl⟩
  split
  · exact ⟨r, rfl, rfl⟩
  · exact ⟨_, rfl, change_kind r a⟩
theorem apply_none {a : ActP} (h : 3 ≤ a.kind) : (applyM none a).1 = none := by
  unfold applyM
  rw [if_neg (by omega)]
  split <;> rfl
theorem apply_reads {s : Option RecP} {a : ActP} (h : readsB a.kind = true) : (applyM s a).1 = s := by
  simp only [readsB, decide_eq_true_eq] at h
  unfold applyM
  rw [if_neg (by omega)]
  split
  · rfl
  cases s with
  | none => rfl
  | some r =>
    simp only
    rw [if_neg (by omega)]
    split
    · rfl
    split
    · rfl
    · rename_i h3 h4 _
      have e : (changeM r a).1 = r := by
        rcases h with h | h | h | h | h
        · exact absurd h h3
        · exact absurd h h4
        · rw [ch9 h]; split <;> rfl
        · rw [ch12 h]; split <;> rfl
        · rw [ch20 h]; split <;> rfl
      show some (changeM r a).1 = some r
      rw [e]
theorem apply_is {r : RecP} {a : ActP} (h : a.kind = 3) : applyM (some r) a = (some r, ⟨0, r.kind, rz⟩) := by
  unfold applyM; rw [if_neg (by omega), if_pos h]
theorem apply_off {r : RecP} {a : ActP} (h : 5 ≤ a.kind) (hon : onK a.kind ≠ r.kind) : applyM (some r) a = (some r, anC 5) := by
  unfold applyM
  rw [if_neg (by omega), if_neg (by omega)]
  simp only
  rw [if_neg (by omega), if_neg (by omega), if_pos hon]
theorem apply_on {r : RecP} {a : ActP} (h : 5 ≤ a.kind) (hon : onK a.kind = r.kind) : applyM (some r) a = (some (changeM r a).1, (changeM r a).2) := by
  unfold applyM
  rw [if_neg (by omega), if_neg (by omega)]
  simp only
  rw [if_neg (by omega), if_neg (by omega), if_neg (by simpa using hon)]
theorem maxF_canon {a b : Nat} (ha : a = canon a) (hb : b = canon b) : maxF a b = if key a < key b then b else a := by
  unfold maxF
  split
  · exact hb.symm
  · exact ha.symm
theorem minF_canon {a b : Nat} (ha : a = canon a) (hb : b = canon b) : minF a b = if key b < key a then b else a := by
  unfold minF
  split
  · exact hb.symm
  · exact ha.symm
theorem canon_inj {a b : Nat} (ha : a < 2 * H63) (hb : b < 2 * H63) (ca : a = canon a) (cb : b = canon b) (h : key a = key b) : a = b := by
  rw [ca, cb]; exact key_inj ha hb h
theorem maxF_comm {r x y : Nat} (hx : x < 2 * H63) (hy : y < 2 * H63) (cr : r = canon r) (cx : x = canon x) (cy : y = canon y) : maxF (maxF r x) y = maxF (maxF r y) x := by
  have c1 : maxF r x = canon (maxF r x) := (canon_canon _).symm
  have c2 : maxF r y = canon (maxF r y) := (canon_canon _).symm
  rw [maxF_canon c1 cy, maxF_canon c2 cx, maxF_canon cr cx, maxF_canon cr cy]
  by_cases h1 : key r < key x <;> by_cases h2 : key r < key y <;> simp only [h1, h2, if_true, if_false]
  · by_cases h3 : key x < key y
    · rw [if_pos h3, if_neg (by omega)]
    · by_cases h4 : key y < key x
      · rw [if_neg h3, if_pos h4]
      · rw [if_neg h3, if_neg h4]; exact canon_inj hx hy cx cy (by omega)
  · rw [if_neg (by omega)]
  · rw [if_neg (by omega)]
theorem minF_comm {r x y : Nat} (hx : x < 2 * H63) (hy : y < 2 * H63) (cr : r = canon r) (cx : x = canon x) (cy : y = canon y) : minF (minF r x) y = minF (minF r y) x := by
  have c1 : minF r x = canon (minF r x) := (canon_canon _).symm
  have c2 : minF r y = canon (minF r y) := (canon_canon _).symm
  rw [minF_canon c1 cy, minF_canon c2 cx, minF_canon cr cx, minF_canon cr cy]
  by_cases h1 : key x < key r <;> by_cases h2 : key y < key r <;> simp only [h1, h2, if_true, if_false]
  · by_cases h3 : key y < key x
    · rw [if_pos h3, if_neg (by omega)]
    · by_cases h4 : key x < key y
      · rw [if_neg h3, if_pos h4]
      · rw [if_neg h3, if_neg h4]; exact canon_inj hx hy cx cy (by omega)
  · rw [if_neg (by omega)]
  · rw [if_neg (by omega)]
theorem change_comm {r : RecP} {a b : ActP} (hr : Fit' r) (ha : actI a) (hb : actI b) (hab : a.kind = b.kind) (hk : a.kind = 7 ∨ a.kind = 13 ∨ a.kind = 14 ∨ a.kind = 19 ∨ a.kind = 21) :
    (changeM (changeM r a).1 b).1 = (changeM (changeM r b).1 a).1 ∧ (∀ r, (changeM r a).2 = anC 0) ∧ ∀ r, (changeM r b).2 = anC 0 := by
  have hx := ha.2.1.2.2
  have hy := hb.2.1.2.2
  have cx := ha.1.real
  have cy := hb.1.real
  have cr := hr.1.real
  rcases hk with h | h | h | h | h
  · have h' : b.kind = 7 := by omega
    refine ⟨?_, fun r => by rw [ch7 h], fun r => by rw [ch7 h']⟩
    rw [ch7 h, ch7 h', ch7 h', ch7 h]
    have e : IntKind.i64.wrap (IntKind.i64.wrap (r.num + a.n) + b.n) = IntKind.i64.wrap (IntKind.i64.wrap (r.num + b.n) + a.n) := by
      rw [wrap_addl, wrap_addl]; congr 1; omega
    simp only [addN, e]
  · have h' : b.kind = 13 := by omega
    refine ⟨?_, fun r => by rw [ch13 h], fun r => by rw [ch13 h']⟩
    rw [ch13 h, ch13 h', ch13 h', ch13 h]
    simp only [maxF_comm hx hy cr cx cy]
  · have h' : b.kind = 14 := by omega
    refine ⟨?_, fun r => by rw [ch14 h], fun r => by rw [ch14 h']⟩
    rw [ch14 h, ch14 h', ch14 h', ch14 h]
    simp only [minF_comm hx hy cr cx cy]
  · have h' : b.kind = 19 := by omega
    refine ⟨?_, fun r => by rw [ch19 h], fun r => by rw [ch19 h']⟩
    rw [ch19 h, ch19 h', ch19 h', ch19 h]
    simp only [List.filter_filter]
    congr 2
    funext x
    rw [Bool.and_comm]
  · have h' : b.kind = 21 := by omega
    refine ⟨?_, fun r => by rw [ch21 h], fun r => by rw [ch21 h']⟩
    rw [ch21 h, ch21 h', ch21 h', ch21 h]
    simp only [take_insT, insT_comm (x := ⟨b.x, b.s⟩) (y := ⟨a.x, a.s⟩) ⟨hy, cy⟩ ⟨hx, cx⟩]
theorem apply_comm {s : Option RecP} {a b : ActP} (hs : FitO s) (ha : actI a) (hb : actI b) (h : kindsB a.kind b.kind = true) :
    (applyM (applyM s a).1 b).1 = (applyM (applyM s b).1 a).1 ∧ (applyM s a).2 = (applyM (applyM s b).1 a).2 ∧ (applyM (applyM s a).1 b).2 = (applyM s b).2 := by
  unfold kindsB at h
  split at h
  · cases h
  rename_i h2
  have ha3 : 3 ≤ a.kind := by omega
  have hb3 : 3 ≤ b.kind := by omega
  cases s with
  | none => refine ⟨?_, ?_, ?_⟩ <;> simp only [apply_none ha3, apply_none hb3]
  | some r =>
    have hr := hs r rfl
    split at h
    · rename_i h3
      rcases h3 with h3 | h3 | h3
      · simp only [Bool.and_eq_true] at h3
        rw [apply_reads h3.1, apply_reads h3.2, apply_reads h3.1]
        exact ⟨rfl, rfl, rfl⟩
      · obtain ⟨r', e, ek⟩ := apply_some (r := r) hb3
        rw [apply_is h3, e, apply_is h3, ek]
        exact ⟨rfl, rfl, rfl⟩
      · obtain ⟨r', e, ek⟩ := apply_some (r := r) ha3
        rw [apply_is h3, e, apply_is h3, ek]
        exact ⟨rfl, rfl, rfl⟩
    · rename_i h3
      split at h
      · cases h
      · rename_i h4
        have ha5 : 5 ≤ a.kind := by omega
        have hb5 : 5 ≤ b.kind := by omega
        by_cases hoa : onK a.kind = r.kind
        · by_cases hob : onK b.kind = r.kind
          · rw [if_neg (by omega)] at h
            simp only [decide_eq_true_eq] at h
            obtain ⟨e, an, bn⟩ := change_comm hr ha hb h.1 h.2
            have k1 := change_kind r a
            have k2 := change_kind r b
            rw [apply_on ha5 hoa, apply_on hb5 hob]
            simp only
            rw [apply_on hb5 (by omega), apply_on ha5 (by omega)]
            simp only [an, bn, e, and_self]
          · obtain ⟨r', e, ek⟩ := apply_some (r := r) ha3
            rw [apply_off hb5 hob, e, apply_off hb5 (by rw [ek]; exact hob)]
            exact ⟨rfl, rfl, rfl⟩
        · obtain ⟨r', e, ek⟩ := apply_some (r := r) hb3
          rw [apply_off ha5 hoa, e, apply_off ha5 (by rw [ek]; exact hoa)]
          exact ⟨rfl, rfl, rfl⟩

/-! ### Rows of acts -/
abbrev StM := List UInt8 → Option RecP
def updS (s : StM) (k : List UInt8) (x : Option RecP) : StM := fun l => if l = k then x else s l
def updO (o : Nat → AnP) (i : Nat) (x : AnP) : Nat → AnP := fun j => if j = i then x else o j
def playM (A : Nat → ActP) : List Nat → StM → (Nat → AnP) → StM × (Nat → AnP)
  | [], s, o => (s, o)
  | i :: L, s, o => playM A L (updS s (A i).key (applyM (s (A i).key) (A i)).1) (updO o i (applyM (s (A i).key) (A i)).2)
def FitS (s : StM) : Prop := ∀ k, FitO (s k)
theorem fit_upd {s : StM} (h : FitS s) {k : List UInt8} {x : Option RecP} (hx : FitO x) : FitS (updS s k x) := by
  intro l
  unfold updS
  split
  · exact hx
  · exact h l
def commB (a b : ActP) : Bool := !decide (a.key = b.key) || kindsB a.kind b.kind
theorem upd_comm {s : StM} {k l : List UInt8} (h : k ≠ l) (x y : Option RecP) : updS (updS s k x) l y = updS (updS s l y) k x := by
  funext m
  simp only [updS]
  by_cases h1 : m = l
  · by_cases h2 : m = k
    · exact absurd (h2.symm.trans h1) h
    · have h3 : ¬ l = k := fun e => h e.symm
      simp [h1, h3]
  · simp [h1]
theorem updO_comm {o : Nat → AnP} {i j : Nat} (h : i ≠ j) (x y : AnP) : updO (updO o i x) j y = updO (updO o j y) i x := by
  funext m
  simp only [updO]
  by_cases h1 : m = j
  · subst h1
    have h3 : ¬ m = i := fun e => h e.symm
    simp [h3]
  · simp [h1]
theorem updS_same (s : StM) (k : List UInt8) (x y : Option RecP) : updS (updS s k x) k y = updS s k y := by
  funext m; simp only [updS]; split <;> rfl
theorem play_swap {A : Nat → ActP} {i j : Nat} {L : List Nat} {s : StM} {o : Nat → AnP} (hs : FitS s) (hi : actI (A i)) (hj : actI (A j)) (h : commB (A i) (A j) = true) :
    playM A (i :: j :: L) s o = playM A (j :: i :: L) s o := by
  by_cases hij : i = j
  · subst hij; rfl
  simp only [playM]
  by_cases hk : (A i).key = (A j).key
  · have hk2 : kindsB (A i).kind (A j).kind = true := by simpa [commB, hk] using h
    obtain ⟨e1, e2, e3⟩ := apply_comm (hs (A i).key) hi hj hk2
    have s1 : ∀ x, updS s (A i).key x (A j).key = x := fun x => by simp [updS, hk]
    have s2 : ∀ x, updS s (A j).key x (A i).key = x := fun x => by simp [updS, hk]
    rw [s1, s2, ← hk, updS_same, updS_same, e1, ← e2, e3, updO_comm hij]
  · have hk' : ¬ (A j).key = (A i).key := fun e => hk e.symm
    have s1 : ∀ x, updS s (A i).key x (A j).key = s (A j).key := fun x => if_neg hk'
    have s2 : ∀ x, updS s (A j).key x (A i).key = s (A i).key := fun x => if_neg hk
    rw [s1, s2, upd_comm hk, updO_comm hij]
theorem play_fit {A : Nat → ActP} : ∀ {L : List Nat} {s : StM} {o : Nat → AnP}, FitS s → (∀ i ∈ L, actI (A i)) → FitS (playM A L s o).1
  | [], s, o, h, _ => h
  | i :: L, s, o, h, ha => by
    simp only [playM]
    exact play_fit (fit_upd h (apply_fit (h _) (ha i (by simp)))) fun j hj => ha j (by simp [hj])
theorem play_append {A : Nat → ActP} : ∀ (L M : List Nat) (s : StM) (o : Nat → AnP), playM A (L ++ M) s o = playM A M (playM A L s o).1 (playM A L s o).2
  | [], M, s, o => rfl
  | i :: L, M, s, o => by simp only [List.cons_append, playM]; exact play_append L M _ _
theorem play_swapped {A : Nat → ActP} {i j : Nat} {L M : List Nat} {s : StM} {o : Nat → AnP} (hs : FitS s) (hL : ∀ i ∈ L, actI (A i)) (hi : actI (A i)) (hj : actI (A j)) (h : commB (A i) (A j) = true) :
    playM A (L ++ i :: j :: M) s o = playM A (L ++ j :: i :: M) s o := by
  rw [play_append, play_append, play_swap (play_fit hs hL) hi hj h]
end Go.Proofs.YtieejbkbdfccdaaDoor

set_option linter.unusedVariables false
set_option linter.unusedSimpArgs false
namespace Go.Proofs.YtieejbkbdfccdaaDoor
open Go

def anV (an : AnP) (lv : Value) : List Value := [i64 an.code, i64 an.num] ++ rcV an.rec' lv
theorem anZ_eq : anZ = anV (anC 0) (.slice none 0 0) := rfl
@[simp] theorem anlen {an : AnP} {lv : Value} : (anV an lv).length = 10 := rfl
structure ChS (w : World) (p q : Nat) (r : RecP) (lv : Value) : Prop where
  mp : mm w p = rcV r lv
  zp : fz w p = false
  mq : mm w q = anZ
  zq : fz w q = false
  ne : p ≠ q
  isr : IsRec w lv r
  own : ∀ k, lv.ownBlock = some k → k ≠ p ∧ k ≠ q
structure ChE (w : World) (lv : Value) (w' : World) (p q : Nat) (r : RecP) (an : AnP) : Prop where
  get : ∃ (l : Option Addr) (c : Nat) (l2 : Option Addr) (c2 : Nat), mm w' p = rcV r (.slice l r.list.length c) ∧ IsRec w' (.slice l r.list.length c) r ∧ mm w' q = anV an (.slice l2 an.rec'.list.length c2) ∧ IsRec w' (.slice l2 an.rec'.list.length c2) an.rec' ∧
    (∀ k, (Value.slice l r.list.length c).ownBlock = some k → lv.ownBlock = some k ∨ sz w ≤ k) ∧ (∀ k, (Value.slice l2 an.rec'.list.length c2).ownBlock = some k → sz w ≤ k)
def ChR (w : World) (p q : Nat) (r : RecP) (lv : Value) (a : ActP) (v : Value) (w' : World) : Prop :=
  v = i64 (changeM r a).2.code ∧ Fr [p, q] w w' ∧ ((changeM r a).2.code = 0 → ChE w lv w' p q (changeM r a).1 (changeM r a).2)
section
variable {w : World} {p q : Nat} {r : RecP} {la lb : Option Addr} {c n d : Nat} {a : ActP}
theorem ChE.scal {w1 : World} (h : ChS w p q r (.slice la r.list.length c)) (hf : Fr [] w w1) {r' : RecP} (hl : r'.list = r.list) (ho : okR r') :
    ChE w (.slice la r.list.length c) (wr w1 p (rcV r' (.slice la r.list.length c))) p q r' (anC 0) := by
  have z1 : fz w1 p = false := by rw [hf.fz (lt_of_fz h.zp) (by simp), h.zp]
  refine ⟨la, c, none, 0, ?_, ⟨?_, ho⟩, ?_, isRec_rz, ?_, by simp [Value.ownBlock]⟩
  · rw [mm_wr_same z1, hl]
  · rw [hl]
    exact (h.isr.1.fr0 hf).fr (S := [p]) ((Fr.refl [p] w1).wr (.inl (by simp)) _) (fun k hk hm => (h.own k hk).1 (by simpa using hm))
  · rw [mm_wr_ne (fun e => h.ne e.symm), hf.mm (lt_of_fz h.zq) (by simp), h.mq]; rfl
  · intro k hk; left; rw [hl] at hk; exact hk
theorem ChE.same {w1 : World} (h : ChS w p q r (.slice la r.list.length c)) (hf : Fr [] w w1) : ChE w (.slice la r.list.length c) w1 p q r (anC 0) := by
  refine ⟨la, c, none, 0, ?_, h.isr.fr0 hf, ?_, isRec_rz, fun k hk => .inl hk, by simp [Value.ownBlock]⟩
  · rw [hf.mm (lt_of_fz h.zp) (by simp), h.mp]
  · rw [hf.mm (lt_of_fz h.zq) (by simp), h.mq]; rfl
theorem frpq {w1 : World} (hf : Fr [] w w1) : Fr [p, q] w w1 := hf.mono (by simp)
theorem frp {w1 : World} (hf : Fr [] w w1) (l : List Value) : Fr [p, q] w (wr w1 p l) := (frpq hf).wr (.inl (by simp)) _
theorem bx (w : World) (a : ActP) (lv : Value) : ∃ W, W = nw w (acV a lv) 27 ∧ Fr [] w W ∧ mm W (sz w) = acV a lv ∧ sz w < sz W :=
  ⟨_, rfl, (Fr.refl [] w).nw _ _, by simp [mm_nw], by rw [sz_nw]; omega⟩
theorem chg5 (h : ChS w p q r (.slice la r.list.length c)) (hk : a.kind = 5) : Ret P 81 #[pt p 0, .agg (acV a (.slice lb n d)).toArray, pt q 0] w fun v w' => ChR w p q r (.slice la r.list.length c) a v w' := by
  refine F81ok ?_
  unfold F81
  obtain ⟨W, hW, fW, mW, sW⟩ := bx w a (.slice lb n d)
  have hmp : mm W p = rcV r (.slice la r.list.length c) := by rw [fW.mm (lt_of_fz h.zp) (by simp), h.mp]
  have hzp : fz W p = false := by rw [fW.fz (lt_of_fz h.zp) (by simp), h.zp]
  have hset : (rcV r (.slice la r.list.length c)).set 6 (strB a.s) = rcV { r with text := a.s } (.slice la r.list.length c) := rfl
  have hos := oc_strB a.s
  try simp (maxDischargeDepth := 8) [↓sC, sB, sM, acC, ← hW, mW, hmp, hzp, hset, hos]
  unfold ChR
  rw [ch5 hk]
  exact ⟨rfl, frp fW _, fun _ => ChE.scal h fW rfl h.isr.2⟩
theorem chg8 (h : ChS w p q r (.slice la r.list.length c)) (hk : a.kind = 8) (ha : in64 a.n) : Ret P 84 #[pt p 0, .agg (acV a (.slice lb n d)).toArray, pt q 0] w fun v w' => ChR w p q r (.slice la r.list.length c) a v w' := by
  refine F84ok ?_
  unfold F84
  obtain ⟨W, hW, fW, mW, sW⟩ := bx w a (.slice lb n d)
  have hmp : mm W p = rcV r (.slice la r.list.length c) := by rw [fW.mm (lt_of_fz h.zp) (by simp), h.mp]
  have hzp : fz W p = false := by rw [fW.fz (lt_of_fz h.zp) (by simp), h.zp]
  have hset : ∀ x, (rcV r (.slice la r.list.length c)).set 1 (i64 x) = rcV { r with num := x } (.slice la r.list.length c) := fun _ => rfl
  unfold in64 at ha
  have key : ChR w p q r (.slice la r.list.length c) a (i64 9) (drew W) ∨ ¬ plusB r a := by
    by_cases hp : plusB r a
    · left; unfold ChR; rw [ch8 hk, if_pos hp]; exact ⟨rfl, (frpq fW).drew, fun h => absurd h (by simp [anC])⟩
    · exact .inr hp
  have key2 : plusB r a ∨ ChR w p q r (.slice la r.list.length c) a (i64 0) (wr (drew (drew W)) p (rcV { r with num := IntKind.i64.wrap (r.num + a.n) } (.slice la r.list.length c))) := by
    by_cases hp : plusB r a
    · exact .inl hp
    · right; unfold ChR; rw [ch8 hk, if_neg hp]
      exact ⟨rfl, frp fW.drew.drew _, fun _ => ChE.scal h fW.drew.drew rfl ⟨h.isr.2.1, wrap_in _, h.isr.2.2.2⟩⟩
  by_cases h1 : 0 < a.n
  · have h1' : ¬ a.n < 0 := by omega
    have e1 : IntKind.i64.wrap (9223372036854775807 - a.n) = 9223372036854775807 - a.n := wrap64 (by omega) (by omega)
    by_cases h2 : 9223372036854775807 - a.n < r.num
    · try simp (maxDischargeDepth := 8) [↓sC, sB, sM, acC, ← hW, mW, hmp, h1, e1, h2]
      exact key.resolve_right fun k => k (.inl ⟨h1, h2⟩)
    · try simp (maxDischargeDepth := 8) [↓sC, sB, sM, acC, ← hW, mW, hmp, hzp, h1, h1', e1, h2, hset]
      exact key2.resolve_left fun k => by rcases k with k | k <;> omega
  · by_cases h3 : a.n < 0
    · have e1 : IntKind.i64.wrap (-9223372036854775808 - a.n) = -9223372036854775808 - a.n := wrap64 (by omega) (by omega)
      by_cases h2 : r.num < -9223372036854775808 - a.n
      · try simp (maxDischargeDepth := 8) [↓sC, sB, sM, acC, ← hW, mW, hmp, h1, h3, e1, h2]
        exact key.resolve_right fun k => k (.inr ⟨h3, h2⟩)
      · try simp (maxDischargeDepth := 8) [↓sC, sB, sM, acC, ← hW, mW, hmp, hzp, h1, h3, e1, h2, hset]
        exact key2.resolve_left fun k => by rcases k with k | k <;> omega
    · try simp (maxDischargeDepth := 8) [↓sC, sB, sM, acC, ← hW, mW, hmp, hzp, h1, h3, hset]
      exact key2.resolve_left fun k => by rcases k with k | k <;> omega
theorem chg9 (h : ChS w p q r (.slice la r.list.length c)) (hk : a.kind = 9 ∨ a.kind = 12) : Ret P 85 #[pt p 0, .agg (acV a (.slice lb n d)).toArray, pt q 0] w fun v w' => ChR w p q r (.slice la r.list.length c) a v w' := by
  refine F85ok ?_
  unfold F85
  obtain ⟨W, hW, fW, mW, sW⟩ := bx w a (.slice lb n d)
  have hmp : mm W p = rcV r (.slice la r.list.length c) := by rw [fW.mm (lt_of_fz h.zp) (by simp), h.mp]
  have hch : changeM r a = if r.num < a.n then (r, anC 11) else (r, anC 0) := by rcases hk with hk | hk; exact ch9 hk; exact ch12 hk
  by_cases h1 : r.num < a.n
  · try simp (maxDischargeDepth := 8) [↓sC, sB, sM, acC, ← hW, mW, hmp, h1]
    unfold ChR
    rw [hch, if_pos h1]
    exact ⟨rfl, (frpq fW).drew, fun h => absurd h (by simp [anC])⟩
  · try simp (maxDischargeDepth := 8) [↓sC, sB, sM, acC, ← hW, mW, hmp, h1]
    unfold ChR
    rw [hch, if_neg h1]
    exact ⟨rfl, (frpq fW).drew, fun _ => ChE.same h fW.drew⟩
theorem chg10 (h : ChS w p q r (.slice la r.list.length c)) (hk : a.kind = 10) (hr : RecOk r) (hrk : r.kind = 4) : Ret P 86 #[pt p 0, .agg (acV a (.slice lb n d)).toArray, pt q 0] w fun v w' => ChR w p q r (.slice la r.list.length c) a v w' := by
  refine F86ok ?_
  unfold F86
  obtain ⟨W, hW, fW, mW, sW⟩ := bx w a (.slice lb n d)
  have hmp : mm W p = rcV r (.slice la r.list.length c) := by rw [fW.mm (lt_of_fz h.zp) (by simp), h.mp]
  have hzp : fz W p = false := by rw [fW.fz (lt_of_fz h.zp) (by simp), h.zp]
  have hset : ∀ x, (rcV r (.slice la r.list.length c)).set 1 (i64 x) = rcV { r with num := x } (.slice la r.list.length c) := fun _ => rfl
  obtain ⟨b1, b2, b3, b4⟩ := hr.bounds hrk
  unfold MP at b1 b2
  have e1 : IntKind.i64.wrap (r.high - r.num) = r.high - r.num := wrap64 (by omega) (by omega)
  by_cases h1 : r.high - r.num < a.n
  · try simp (maxDischargeDepth := 8) [↓sC, sB, sM, acC, ← hW, mW, hmp, e1, h1]
    unfold ChR
    rw [ch10 hk, if_pos h1]
    exact ⟨rfl, (frpq fW).drew, fun h => absurd h (by simp [anC])⟩
  · try simp (maxDischargeDepth := 8) [↓sC, sB, sM, acC, ← hW, mW, hmp, hzp, e1, h1, hset]
    unfold ChR
    rw [ch10 hk, if_neg h1]
    exact ⟨rfl, frp fW.drew.drew _, fun _ => ChE.scal h fW.drew.drew rfl ⟨h.isr.2.1, wrap_in _, h.isr.2.2.2⟩⟩
theorem chg11 (h : ChS w p q r (.slice la r.list.length c)) (hk : a.kind = 11) (hr : RecOk r) (hrk : r.kind = 4) : Ret P 87 #[pt p 0, .agg (acV a (.slice lb n d)).toArray, pt q 0] w fun v w' => ChR w p q r (.slice la r.list.length c) a v w' := by
  refine F87ok ?_
  unfold F87
  obtain ⟨W, hW, fW, mW, sW⟩ := bx w a (.slice lb n d)
  have hmp : mm W p = rcV r (.slice la r.list.length c) := by rw [fW.mm (lt_of_fz h.zp) (by simp), h.mp]
  have hzp : fz W p = false := by rw [fW.fz (lt_of_fz h.zp) (by simp), h.zp]
  have hset : ∀ x, (rcV r (.slice la r.list.length c)).set 1 (i64 x) = rcV { r with num := x } (.slice la r.list.length c) := fun _ => rfl
  obtain ⟨b1, b2, b3, b4⟩ := hr.bounds hrk
  unfold MP at b1 b2
  have e1 : IntKind.i64.wrap (r.num - r.low) = r.num - r.low := wrap64 (by omega) (by omega)
  by_cases h1 : r.num - r.low < a.n
  · try simp (maxDischargeDepth := 8) [↓sC, sB, sM, acC, ← hW, mW, hmp, e1, h1]
    unfold ChR
    rw [ch11 hk, if_pos h1]
    exact ⟨rfl, (frpq fW).drew, fun h => absurd h (by simp [anC])⟩
  · try simp (maxDischargeDepth := 8) [↓sC, sB, sM, acC, ← hW, mW, hmp, hzp, e1, h1, hset]
    unfold ChR
    rw [ch11 hk, if_neg h1]
    exact ⟨rfl, frp fW.drew.drew _, fun _ => ChE.scal h fW.drew.drew rfl ⟨h.isr.2.1, wrap_in _, h.isr.2.2.2⟩⟩
theorem chg7 (h : ChS w p q r (.slice la r.list.length c)) (hk : a.kind = 7) : Ret P 83 #[pt p 0, .agg (acV a (.slice lb n d)).toArray, pt q 0] w fun v w' => ChR w p q r (.slice la r.list.length c) a v w' := by
  refine F83ok ?_
  unfold F83
  obtain ⟨W, hW, fW, mW, sW⟩ := bx w a (.slice lb n d)
  have hmp : mm W p = rcV r (.slice la r.list.length c) := by rw [fW.mm (lt_of_fz h.zp) (by simp), h.mp]
  have hzp : fz W p = false := by rw [fW.fz (lt_of_fz h.zp) (by simp), h.zp]
  have hset : ∀ x, (rcV r (.slice la r.list.length c)).set 1 (i64 x) = rcV { r with num := x } (.slice la r.list.length c) := fun _ => rfl
  try simp (maxDischargeDepth := 8) [↓sC, sB, sM, acC, ← hW, mW, hmp, hzp, hset]
  unfold ChR
  rw [ch7 hk]
  exact ⟨rfl, frp fW.drew _, fun _ => ChE.scal h fW.drew rfl ⟨h.isr.2.1, wrap_in _, h.isr.2.2.2⟩⟩
/-- What a real's change reckons. -/
def realM (k : Int) (x y : Nat) : Nat := if k = 13 then maxF x y else if k = 14 then minF x y else if k = 15 then one (fd.add x y) else if k = 16 then one (fd.mul x y) else y
def realF (k : Int) : Nat := if k = 13 then 44 else if k = 14 then 45 else if k = 15 then 89 else if k = 16 then 90 else 91
theorem fix_spec {w : World} {x y : Value} : Ret P 91 #[x, y] w fun v w' => v = y ∧ w' = w := by
  refine F91ok ?_
  unfold F91
  exact ⟨_, rfl, rfl, rfl⟩
theorem realF_spec {w : World} {k : Int} {x y : Nat} (hk : k = 13 ∨ k = 14 ∨ k = 15 ∨ k = 16 ∨ k = 17) (hx : x < 2 * H63) (hy : y < 2 * H63) : Ret P (realF k) #[fl x, fl y] w fun v w' => v = fl (realM k x y) ∧ Fr [] w w' := by
  rcases hk with rfl | rfl | rfl | rfl | rfl
  · exact max_spec hx hy
  · exact min_spec hx hy
  · exact plus_spec
  · exact times_spec
  · exact fix_spec.mono fun v w' h => ⟨h.1, by rw [h.2]; exact Fr.refl _ _⟩
theorem chgReal {s : Nat} (h : ChS w p q r (.slice la r.list.length c)) (hk : a.kind = 13 ∨ a.kind = 14 ∨ a.kind = 15 ∨ a.kind = 16 ∨ a.kind = 17) (ha : a.x < 2 * H63) (hs : mm w s = [.func (.func (realF a.kind)) #[] #[]]) (hs2 : s < sz w) :
    Ret P 98 #[pt p 0, .agg (acV a (.slice lb n d)).toArray, pt q 0, pt s 0] w fun v w' => ChR w p q r (.slice la r.list.length c) a v w' := by
  refine F98ok ?_
  unfold F98
  obtain ⟨W, hW, fW, mW, sW⟩ := bx w a (.slice lb n d)
  have hmp : mm W p = rcV r (.slice la r.list.length c) := by rw [fW.mm (lt_of_fz h.zp) (by simp), h.mp]
  have hzp : fz W p = false := by rw [fW.fz (lt_of_fz h.zp) (by simp), h.zp]
  have hms : mm W s = [.func (.func (realF a.kind)) #[] #[]] := by rw [fW.mm hs2 (by simp), hs]
  have hset : ∀ x, (rcV r (.slice la r.list.length c)).set 4 (fl x) = rcV { r with real := x } (.slice la r.list.length c) := fun _ => rfl
  try simp (maxDischargeDepth := 8) [↓sC, sB, sM, acC, ← hW, mW, hmp, hms]
  refine callV (by rcases hk with hk | hk | hk | hk | hk <;> rw [hk] <;> decide +kernel) ?_
  have hr := h.isr.2.2.2.2.2.1
  refine (realF_spec hk hr ha).call ?_
  rintro _ w2 ⟨rfl, f2⟩
  have f3 := fW.drew.trans0 f2
  have hmp2 : mm w2 p = rcV r (.slice la r.list.length c) := by rw [f3.mm (lt_of_fz h.zp) (by simp), h.mp]
  have hzp2 : fz w2 p = false := by rw [f3.fz (lt_of_fz h.zp) (by simp), h.zp]
  try simp (maxDischargeDepth := 8) [↓sC, sB, sM, hmp2, hzp2, hset]
  have hc : changeM r a = ({ r with real := realM a.kind r.real a.x }, anC 0) := by
    rcases hk with hk | hk | hk | hk | hk
    · rw [ch13 hk, hk]; rfl
    · rw [ch14 hk, hk]; rfl
    · rw [ch15 hk, hk]; rfl
    · rw [ch16 hk, hk]; rfl
    · rw [ch17 hk, hk]; rfl
  have hlt : realM a.kind r.real a.x < 2 * H63 := by
    rcases hk with hk | hk | hk | hk | hk <;> rw [hk]
    · show maxF _ _ < _; unfold maxF; split <;> exact canon_lt (by assumption)
    · show minF _ _ < _; unfold minF; split <;> exact canon_lt (by assumption)
    · exact (one_lt (x := fd.add r.real a.x) fun _ h => add_small h).1
    · exact (one_lt (x := fd.mul r.real a.x) fun _ h => mul_small h).1
    · exact ha
  unfold ChR
  rw [hc]
  exact ⟨rfl, frp f3 _, fun _ => ChE.scal h f3 rfl ⟨h.isr.2.1, h.isr.2.2.1, h.isr.2.2.2.1, h.isr.2.2.2.2.1, hlt, h.isr.2.2.2.2.2.2⟩⟩
theorem chg6 (h : ChS w p q r (.slice la r.list.length c)) (hk : a.kind = 6) (hl : r.list.length ≤ 1000000) : Ret P 82 #[pt p 0, .agg (acV a (.slice lb n d)).toArray, pt q 0] w fun v w' => ChR w p q r (.slice la r.list.length c) a v w' := by
  refine F82ok ?_
  unfold F82
  obtain ⟨W, hW, fW, mW, sW⟩ := bx w a (.slice lb n d)
  have hmp : mm W p = rcV r (.slice la r.list.length c) := by rw [fW.mm (lt_of_fz h.zp) (by simp), h.mp]
  have t8 : ∀ r lv, (rcV r lv).take 8 = rcV r lv := fun _ _ => rfl
  try simp (maxDischargeDepth := 8) [↓sC, sB, sM, acC, ← hW, mW, hmp, t8]
  refine (recCloneO_spec (h.isr.fr0 fW) hl).call ?_
  rintro _ w2 ⟨l', c', rfl, hr2, hk2, f2⟩
  have f3 := fW.trans0 f2
  have hmp2 : mm w2 p = rcV r (.slice la r.list.length c) := by rw [f3.mm (lt_of_fz h.zp) (by simp), h.mp]
  have hzp2 : fz w2 p = false := by rw [f3.fz (lt_of_fz h.zp) (by simp), h.zp]
  have hmq2 : mm w2 q = anZ := by rw [f3.mm (lt_of_fz h.zq) (by simp), h.mq]
  have hzq2 : fz w2 q = false := by rw [f3.fz (lt_of_fz h.zq) (by simp), h.zq]
  have mW2 : mm w2 (sz w) = acV a (.slice lb n d) := by rw [f2.mm sW (by simp), mW]
  have hset : (rcV r (.slice la r.list.length c)).set 6 (strB a.s) = rcV { r with text := a.s } (.slice la r.list.length c) := rfl
  have hos := oc_strB a.s
  have hsp : splice anZ 2 (rcV r (.slice l' r.list.length c')) = anV ⟨0, 0, r⟩ (.slice l' r.list.length c') := rfl
  have hq1 : ¬ p = q := h.ne
  have hq2 : ¬ q = p := fun e => h.ne e.symm
  have hq3 : ¬ sz w = q := by have := lt_of_fz h.zq; omega
  try simp (maxDischargeDepth := 8) [↓sC, sB, sM, hmq2, hzq2, anZ_len, rcV_oneT, hsp, mW2, hmp2, hzp2, hset, hos, hq1, hq2, hq3]
  unfold ChR
  rw [ch6 hk]
  refine ⟨rfl, ((frpq f3).wr (.inl (by simp)) _).wr (.inl (by simp)) _, fun _ => ?_⟩
  have F2 : Fr [q, p] w2 (wr (wr w2 q (anV ⟨0, 0, r⟩ (.slice l' r.list.length c'))) p (rcV { r with text := a.s } (.slice la r.list.length c))) := ((Fr.refl _ w2).wr (.inl (by simp)) _).wr (.inl (by simp)) _
  have hp0 := lt_of_fz h.zp
  have hq0 := lt_of_fz h.zq
  refine ⟨la, c, l', c', mm_wr_same (by rw [fz_wr, hzp2]) _, ⟨(h.isr.1.fr0 f3).fr F2 (fun k hk hm => ?_), h.isr.2⟩, by rw [mm_wr_ne hq2, mm_wr_same hzq2], ⟨hr2.1.fr F2 (fun k hk hm => ?_), h.isr.2⟩, fun k hk => .inl hk, fun k hk => by have := hk2 k hk; omega⟩
  · have := h.own k hk
    simp at hm; omega
  · have := hk2 k hk
    simp at hm; omega
end
end Go.Proofs.YtieejbkbdfccdaaDoor

set_option linter.unusedVariables false
set_option linter.unusedSimpArgs false
namespace Go.Proofs.YtieejbkbdfccdaaDoor
open Go

/-- Where a name stands, or would. -/
def AtN (s : List UInt8) (L : List ItemP) (i : Nat) : Prop := i ≤ L.length ∧ (∀ j x, j < i → L[j]? = some x → Op.bytesLess x.name s = true) ∧ (∀ j x, i ≤ j → L[j]? = some x → Op.bytesLess x.name s = false)
theorem insN_at {s : List UInt8} : ∀ {L : List ItemP} {i : Nat}, AtN s L i → insN s L = L.take i ++ ⟨0, s⟩ :: L.drop i
  | [], i, h => by
    have : i = 0 := by have := h.1; simpa using this
    subst this; rfl
  | x :: L, 0, h => by
    have := h.2.2 0 x (Nat.le_refl _) rfl
    simp [insN, this]
  | x :: L, i + 1, h => by
    have h0 := h.2.1 0 x (by omega) rfl
    have ih := insN_at (s := s) (L := L) (i := i) ⟨by have := h.1; simpa using this, fun j y hj hy => h.2.1 (j + 1) y (by omega) (by simpa using hy), fun j y hj hy => h.2.2 (j + 1) y (by omega) (by simpa using hy)⟩
    simp [insN, h0, ih]
theorem has_at {s : List UInt8} {L : List ItemP} (hp : L.Pairwise nameLt) {i : Nat} (h : AtN s L i) : hasN s L = (match L[i]? with | some x => decide (x.name = s) | none => false) := by
  rw [Bool.eq_iff_iff]
  constructor
  · intro hh
    rw [hasN, List.any_eq_true] at hh
    obtain ⟨x, hx, hn⟩ := hh
    have hn : x.name = s := by simpa using hn
    obtain ⟨j, hj⟩ := List.getElem?_of_mem hx
    have hij : j = i := by
      rcases Nat.lt_trichotomy j i with hlt | heq | hgt
      · have := h.2.1 j x hlt hj
        rw [hn, bl_irrefl] at this; cases this
      · exact heq
      · have hil : i < L.length := by have := (List.getElem?_eq_some_iff.1 hj).1; omega
        have hjl := (List.getElem?_eq_some_iff.1 hj).1
        have hlt := List.pairwise_iff_getElem.1 hp i j hil hjl hgt
        have h2 := h.2.2 i L[i] (Nat.le_refl _) (List.getElem?_eq_getElem hil)
        have h3 : L[j] = x := by rw [List.getElem?_eq_getElem hjl] at hj; exact Option.some.inj hj
        unfold nameLt at hlt
        rw [h3, hn, h2] at hlt; cases hlt
    subst hij
    rw [hj]; simpa using hn
  · intro hh
    cases hx : L[i]? with
    | none => rw [hx] at hh; cases hh
    | some x =>
      rw [hx] at hh
      rw [hasN, List.any_eq_true]
      exact ⟨x, List.mem_of_getElem? hx, hh⟩
theorem filter_off {s : List UInt8} {L : List ItemP} (h : hasN s L = false) : L.filter (fun x => !decide (x.name = s)) = L := by
  rw [List.filter_eq_self]
  intro x hx
  rw [hasN, List.any_eq_false] at h
  simpa using h x hx
theorem filter_at {s : List UInt8} : ∀ {L : List ItemP}, L.Pairwise nameLt → ∀ {i : Nat} {x : ItemP}, L[i]? = some x → x.name = s → L.filter (fun x => !decide (x.name = s)) = L.take i ++ L.drop (i + 1)
  | [], _, i, x, h, _ => by simp at h
  | y :: L, hp, 0, x, h, hn => by
    simp only [List.getElem?_cons_zero, Option.some.injEq] at h
    subst h
    obtain ⟨h1, h2⟩ := List.pairwise_cons.1 hp
    have : L.filter (fun x => !decide (x.name = s)) = L := by
      rw [List.filter_eq_self]
      intro z hz
      have := h1 z hz
      unfold nameLt at this
      have hne : ¬ z.name = s := fun e => by rw [hn, e, bl_irrefl] at this; cases this
      simp [hne]
    simp [hn, this]
  | y :: L, hp, i + 1, x, h, hn => by
    simp only [List.getElem?_cons_succ] at h
    obtain ⟨h1, h2⟩ := List.pairwise_cons.1 hp
    have hlt := h1 x (List.mem_of_getElem? h)
    unfold nameLt at hlt
    have hne : ¬ y.name = s := fun e => by rw [hn, e, bl_irrefl] at hlt; cases hlt
    simp [hne, filter_at h2 h hn]

/-! ### The search -/
def cmpN (x s : List UInt8) : Int := if Op.bytesLess x s = true then -1 else if Op.bytesLess s x = true then 1 else 0
theorem gt_strB {t : TypeId} {lit : Bool} {l m : List UInt8} {w : World} : pBin P .gtr t lit (strB l) (strB m) w = some (.bool (Op.bytesLess m l), w) := by
  have h : (binOp .gtr t (strB l) (strB m)).run P w = .ok (.bool (Op.bytesLess m l)) w := by
    have e : (!(Op.bytesLess l m || l == m)) = Op.bytesLess m l := by
      cases h1 : Op.bytesLess l m
      · cases h2 : Op.bytesLess m l
        · rw [bl_eq h1 h2]; simp
        · have : (l == m) = false := by
            cases h3 : (l == m)
            · rfl
            · have := beq_iff_eq.1 h3; subst this; rw [bl_irrefl] at h2; cases h2
          simp [this]
      · rw [bl_asymm h1]; rfl
    have hb : ∀ l : List UInt8, (⟨l.toArray⟩ : ByteArray).toList = l := fun l => by rw [ByteArray.toList_eq]
    simp only [strB, binOp, Op.stringOp, Sem.run_pure, hb]
    rw [← e]
  simp only [pBin, runV, eqGuard_at_string, strB, Sem.run_bind, Sem.run_pure, Result.andThen_ok]
  simp only [strB] at h
  rw [h]
theorem cmp_spec {w : World} {x : ItemP} {s : List UInt8} : Ret P 101 #[.agg (itemV x).toArray, strB s] w fun v w' => v = i64 (cmpN x.name s) ∧ Fr [] w w' := by
  refine F101ok ?_
  unfold F101
  have hl : ∀ a, (itemV a).length = 2 := fun _ => rfl
  have g1 : ∀ a, gt (itemV a) 1 = strB a.name := fun _ => rfl
  have hlt : ∀ w, pBin P .lss 9 false (strB x.name) (strB s) w = some (.bool (Op.bytesLess x.name s), w) := fun w => lt_strB
  have hgt : ∀ w, pBin P .gtr 9 false (strB x.name) (strB s) w = some (.bool (Op.bytesLess s x.name), w) := fun w => gt_strB
  obtain ⟨W, hW⟩ : ∃ W, W = nw w (itemV x) 80 := ⟨_, rfl⟩
  have fW : Fr [] w W := by rw [hW]; exact (Fr.refl [] w).nw _ _
  have m1 : mm W (sz w) = itemV x := by rw [hW]; simp [mm_nw]
  cases h1 : Op.bytesLess x.name s
  · cases h2 : Op.bytesLess s x.name
    · try simp (maxDischargeDepth := 8) [↓sC, sB, sM, Value.cells, hl, g1, ← hW, m1, hlt, hgt, h1, h2]
      exact ⟨by simp [cmpN, h1, h2], fW⟩
    · try simp (maxDischargeDepth := 8) [↓sC, sB, sM, Value.cells, hl, g1, ← hW, m1, hlt, hgt, h1, h2]
      exact ⟨by simp [cmpN, h1, h2], fW⟩
  · try simp (maxDischargeDepth := 8) [↓sC, sB, sM, Value.cells, hl, g1, ← hW, m1, hlt, hgt, h1]
    exact ⟨by simp [cmpN, h1], fW⟩
def BsI (w0 : World) (av : Value) (s : List UInt8) (L : List ItemP) (m : Nat) (e : Env) (w' : World) : Prop :=
  ∃ i j : Nat, m = j - i ∧ i ≤ j ∧ j ≤ L.length ∧ (∀ k x, k < i → L[k]? = some x → Op.bytesLess x.name s = true) ∧ (∀ k x, j ≤ k → L[k]? = some x → Op.bytesLess x.name s = false) ∧ Fr [] w0 w' ∧
    e 0 = av ∧ e 1 = strB s ∧ e 2 = .func (.func 101) #[] #[] ∧ e 8 = i64 L.length ∧ e 9 = i64 i ∧ e 10 = i64 j
set_option maxHeartbeats 1000000 in
theorem bs_spec {w : World} {a : Option Addr} {c : Nat} {s : List UInt8} {L : List ItemP} (hr : RdV w (.slice a L.length c) L.length (flat itemV L)) (hp : L.Pairwise nameLt) (hL : L.length ≤ 1000000) :
    Ret P 100 #[.slice a L.length c, strB s, .func (.func 101) #[] #[]] w fun v w' => ∃ i, AtN s L i ∧ v = .tuple #[i64 i, .bool (hasN s L)] ∧ Fr [] w w' := by
  refine F100ok ?_
  unfold F100
  have l1 : ∀ a, ((itemV a).take 2) = itemV a := fun _ => rfl
  try simp (maxDischargeDepth := 8) [↓sC, sB, sM]
  refine loopE_of (BsI w (.slice a L.length c) s L) L.length ⟨0, L.length, by omega, by omega, by omega, (fun k x hk _ => absurd hk (by omega)), (fun k x hk hx => absurd (List.getElem?_eq_some_iff.1 hx).1 (by omega)), Fr.refl _ _, by simp [put_get, argE_get], by simp [put_get, argE_get], by simp [put_get, argE_get], by simp [put_get], by simp [put_get], by simp [put_get]⟩ ?_
  rintro m e w1 ⟨i, j, rfl, hij, hjL, hlo, hhi, hf, e0, e1, e2, e8, e9, e10⟩
  unfold F100B0
  by_cases hlt : i < j
  · have hlti : (i : Int) < j := by omega
    have x1 : IntKind.i64.wrap ((i : Int) + (j : Int)) = ((i + j : Nat) : Int) := wrap64 (by omega) (by omega)
    have x2 : IntKind.u64.wrap ((i + j : Nat) : Int) = ((i + j : Nat) : Int) := wrapu (by unfold H63; omega)
    have x3 : ∀ w, pBin P .shr 130 true (u64 (i + j)) (Value.int IntKind.u64 1) w = some (u64 ((i + j) / 2), w) := fun w => by
      have := pShrU (P := P) (t := 130) (w := w) (lit := true) (a := i + j) (k := .u64) (y := 1) (by omega) (by omega)
      exact this
    obtain ⟨h, hh⟩ : ∃ h, h = (i + j) / 2 := ⟨_, rfl⟩
    have x4 : IntKind.i64.wrap ((h : Nat) : Int) = (h : Int) := wrap64 (by omega) (by omega)
    have x5 : IntKind.i64.wrap ((h : Int) + 1) = ((h + 1 : Nat) : Int) := wrap64 (by omega) (by omega)
    rw [← hh] at x3
    have h1 : i ≤ h := by omega
    have h2 : h < j := by omega
    have h3 : h < L.length := by omega
    have h3i : (h : Int) < L.length := by omega
    obtain ⟨x, hx⟩ : ∃ x, L[h]? = some x := ⟨_, List.getElem?_eq_getElem h3⟩
    obtain ⟨b, o, c', hv, hb, hin, htk⟩ := flat_at (hr.fr0 hf) (itemV_len L) (by omega) hx
    simp only [Value.slice.injEq] at hv
    obtain ⟨rfl, _, rfl⟩ := hv
    try simp (maxDischargeDepth := 8) [↓sC, sB, sM, e0, e1, e2, e9, e10, hlt, hlti, x1, x2, x3, x4, h3, h3i, hin, htk, -Int.natCast_add]
    refine callV (by decide +kernel) ?_
    refine cmp_spec.call ?_
    rintro _ w2 ⟨rfl, f2⟩
    have hf2 := hf.trans0 f2
    cases hc : Op.bytesLess x.name s
    · have hcn : ¬ cmpN x.name s < 0 := by
        unfold cmpN; rw [hc]
        by_cases h' : Op.bytesLess s x.name = true
        · simp [h']
        · simp [h']
      try simp (maxDischargeDepth := 8) [↓sC, sB, sM, hcn]
      refine ⟨h - i, by omega, i, h, rfl, h1, by omega, hlo, fun k y hk hy => ?_, hf2, by simp [put_get, e0], by simp [put_get, e1], by simp [put_get, e2], by simp [put_get, e8], by simp [put_get, e9], by simp [put_get]⟩
      rcases Nat.lt_or_ge h k with hkk | hkk
      · have hkl := (List.getElem?_eq_some_iff.1 hy).1
        have hnl := List.pairwise_iff_getElem.1 hp h k h3 hkl hkk
        rw [List.getElem?_eq_getElem h3] at hx
        rw [List.getElem?_eq_getElem hkl] at hy
        cases hx; cases hy
        cases hc2 : Op.bytesLess L[k].name s
        · rfl
        · have := bl_trans hnl hc2
          rw [hc] at this; cases this
      · obtain rfl : k = h := by omega
        rw [hx] at hy; cases hy; exact hc
    · have hcn : cmpN x.name s < 0 := by unfold cmpN; rw [hc]; simp
      try simp (maxDischargeDepth := 8) [↓sC, sB, sM, hcn, x5, -Int.natCast_add]
      refine ⟨j - (h + 1), by omega, h + 1, j, rfl, by omega, hjL, fun k y hk hy => ?_, hhi, hf2, by simp [put_get, e0], by simp [put_get, e1], by simp [put_get, e2], by simp [put_get, e8], by simp [put_get], by simp [put_get, e10]⟩
      rcases Nat.lt_or_ge k h with hkk | hkk
      · have hkl := (List.getElem?_eq_some_iff.1 hy).1
        have hnl := List.pairwise_iff_getElem.1 hp k h hkl h3 hkk
        rw [List.getElem?_eq_getElem h3] at hx
        rw [List.getElem?_eq_getElem hkl] at hy
        cases hx; cases hy
        exact bl_trans hnl hc
      · obtain rfl : k = h := by omega
        rw [hx] at hy; cases hy; exact hc
  · have : i = j := by omega
    subst this
    have hlti : ¬ (i : Int) < i := by omega
    have hat : AtN s L i := ⟨hjL, hlo, hhi⟩
    have hhas := has_at hp hat
    by_cases hin : i < L.length
    · have hini : (i : Int) < L.length := by omega
      obtain ⟨x, hx⟩ : ∃ x, L[i]? = some x := ⟨_, List.getElem?_eq_getElem hin⟩
      obtain ⟨b, o, c', hv, hb, hin', htk⟩ := flat_at (hr.fr0 hf) (itemV_len L) (by omega) hx
      simp only [Value.slice.injEq] at hv
      obtain ⟨rfl, _, rfl⟩ := hv
      try simp (maxDischargeDepth := 8) [↓sC, sB, sM, e0, e1, e2, e8, e9, e10, hlti, hin, hini, hin', htk]
      refine callV (by decide +kernel) ?_
      refine cmp_spec.call ?_
      rintro _ w2 ⟨rfl, f2⟩
      rw [hx] at hhas
      have hge := hhi i x (Nat.le_refl _) hx
      have hc : (cmpN x.name s = 0) = (x.name = s) := by
        rw [eq_iff_iff]
        unfold cmpN; rw [hge]
        constructor
        · intro h
          cases h2 : Op.bytesLess s x.name
          · exact bl_eq hge h2
          · rw [h2] at h; simp at h
        · intro h; rw [h, bl_irrefl]; simp
      try simp (maxDischargeDepth := 8) [↓sC, sB, sM, hc, e9]
      exact ⟨i, hat, ⟨rfl, hhas.symm⟩, hf.trans0 f2⟩
    · have hini : ¬ (i : Int) < L.length := by omega
      rw [List.getElem?_eq_none (by omega)] at hhas
      try simp (maxDischargeDepth := 8) [↓sC, sB, sM, e0, e1, e2, e8, e9, e10, hlti, hin, hini]
      exact ⟨i, hat, ⟨rfl, hhas⟩, hf⟩
theorem find_spec {w : World} {a : Option Addr} {c : Nat} {s : List UInt8} {L : List ItemP} (hr : RdV w (.slice a L.length c) L.length (flat itemV L)) (hp : L.Pairwise nameLt) (hL : L.length ≤ 1000000) :
    Ret P 94 #[.slice a L.length c, strB s] w fun v w' => ∃ i, AtN s L i ∧ v = .tuple #[i64 i, .bool (hasN s L)] ∧ Fr [] w w' := by
  refine F94ok ?_
  unfold F94
  refine (bs_spec hr hp hL).call ?_
  rintro _ w1 ⟨i, hi, rfl, f1⟩
  try simp (maxDischargeDepth := 8) [↓sC, sB, sM]
  exact ⟨i, hi, rfl, f1⟩
end Go.Proofs.YtieejbkbdfccdaaDoor

set_option linter.unusedVariables false
set_option linter.unusedSimpArgs false
namespace Go.Proofs.YtieejbkbdfccdaaDoor
open Go

theorem cloneOwn_spec {w : World} {a : Option Addr} {c : Nat} {L : List ItemP} (hr : RdV w (.slice a L.length c) L.length (flat itemV L)) (hL : L.length ≤ 1000000) :
    Ret P 71 #[.slice a L.length c] w fun v w' => ∃ a' c', v = .slice a' L.length c' ∧ w'.ownsRow (sz w) 80 2 (.slice a' L.length c') L.length (flat itemV L) ∧ Fr [] w w' := by
  refine F71ok ?_
  unfold F71
  cases a with
  | none =>
    have h0 : L = [] := by
      rcases hr with ⟨_, _, _, h0, _⟩ | ⟨_, _, _, hv, _⟩
      · exact List.eq_nil_of_length_eq_zero h0
      · simp at hv
    subst h0
    try simp (maxDischargeDepth := 8) [↓sC, sB, sM, eq_slice23]
    exact ⟨none, 0, ⟨rfl, rfl⟩, World.ownsRow_nil _ _ _ _⟩
  | some ad =>
    have f0 : Fr [] w (nw w [] 80) := (Fr.refl [] w).nw _ _
    obtain ⟨v', w1, hrun, hown, hg, _⟩ := append_own2 (P := P) (t := 23) (ty := 23) (sz w) sliceE23 hasZero80 cellsOf80 (by rw [zeroL80]; rfl) (by omega) (own_made (Nat.le_refl _)) (by rw [sz_nw]; omega) (hr.fr0 f0) (by rw [flat_len (itemV_len L)])
      (by intro u hu; obtain ⟨l, hl, hu⟩ := List.mem_flatten.1 hu; obtain ⟨x, _, rfl⟩ := List.mem_map.1 hl; exact itemV_one x u hu) (by unfold maxLen; omega) (by rw [bytesOf80]; omega)
    simp only [Nat.zero_add, List.nil_append] at hown
    have hf : Fr [] w w1 := f0.trans (Fr.of_grown hg) (fun b hb => .inr (by simp [Value.ownBlock] at hb; omega))
    obtain ⟨a', c', rfl⟩ := own_val hown
    try simp (maxDischargeDepth := 8) [↓sC, sB, sM, eq_slice23, hrun]
    exact ⟨a', c', ⟨rfl, rfl⟩, hown, hf⟩

/-! ### The small operations -/
theorem zeroItem : Builtin.zeroCells #[fl 0, strB []] 1 = #[fl 0, strB []] := by
  apply Array.ext'
  simp [Builtin.zeroCells]
  rfl
section
variable {w : World} {b o n c : Nat}
theorem copy_rows {v : Value} {m : Nat} {cs : List Value} {ty : TypeId} (hr : RdV w v m cs) (hm : cs.length = m * 2) (h1 : ∀ v ∈ cs.take (min m n * 2), v.oneCell' = true) (hf : fz w b = false) (hfit : o + n * 2 ≤ (mm w b).length) :
    pBuiltin P .copy #[23, 23] ty [sl b o n c, v] w = some (i64 ((min m n : Nat) : Int), wr w b (splice (mm w b) o (cs.take (min m n * 2)))) := by
  have hu := sliceE_und (P := P) sliceE23
  have hmn : min m n * 2 ≤ m * 2 := Nat.mul_le_mul_right _ (Nat.min_le_left _ _)
  have hmn2 : min m n * 2 ≤ n * 2 := Nat.mul_le_mul_right _ (Nat.min_le_right _ _)
  have hlen : (cs.take (min m n * 2)).length = min m n * 2 := by rw [List.length_take]; omega
  have hst := run_stores (P := P) (w := w) (b := b) (i := o) (cs.take (min m n * 2)) hf (by rw [hlen]; omega) h1
  have hsz : (sizeOf 80).run P w = .ok 2 w := by rw [run_size tyOk80, cellsOf80]
  rcases hr with ⟨a2, c2, rfl, rfl, rfl⟩ | ⟨b2, o2, c2, rfl, hmc, hmax, hlt, hin, hcs⟩
  · simp only [List.take_nil] at hst
    simp only [pBuiltin, runV, Builtin.copy_]
    cases a2 <;> simp [run_underlying hu, Builtin.lenOf, hsz, Builtin.firstCells, loadCells, loadCellsFrom, hst, goInt]
  · have hl := run_loads (P := P) (w := w) (b := b2) (i := o2) (min m n * 2) (by omega)
    have htake : ((mm w b2).drop o2).take (min m n * 2) = cs.take (min m n * 2) := by
      have h5 := congrArg (List.take (min m n * 2)) hcs
      rw [List.take_take, show min (min m n * 2) cs.length = min m n * 2 by omega] at h5
      exact h5
    rw [htake] at hl
    simp only [pBuiltin, runV, Builtin.copy_]
    have hmin : Nat.min m n = min m n := rfl
    simp [run_underlying hu, Builtin.lenOf, hsz, Builtin.firstCells, hst, goInt, hmin, hl]
theorem app_room {v : Value} {m cap : Nat} {cs : List Value} (hr : RdV w v m cs) (hm : cs.length = m * 2) (h1 : ∀ v ∈ cs, v.oneCell' = true) (hf : fz w b = false) (hroom : n + m ≤ cap) (hfit : n * 2 + m * 2 ≤ (mm w b).length) :
    pBuiltin P .append #[23, 23] 23 [sl b 0 n cap, v] w = some (sl b 0 (n + m) cap, wr w b (splice (mm w b) (n * 2) cs)) := by
  have hu := sliceE_und (P := P) sliceE23
  have hst := run_stores (P := P) (w := w) (b := b) (i := n * 2) cs hf (by rw [hm]; omega) h1
  have hsz : (sizeOf 80).run P w = .ok 2 w := by rw [run_size tyOk80, cellsOf80]
  have had : (⟨b, 0, none⟩ : Addr).add (n * 2) = ⟨b, n * 2, none⟩ := by rw [Addr.add_lit]; simp
  rcases hr with ⟨a2, c2, rfl, rfl, rfl⟩ | ⟨b2, o2, c2, rfl, hmc, hmax, hlt, hin, hcs⟩
  · simp only [pBuiltin, runV, Builtin.append_]
    have hroom' : n ≤ cap := by omega
    cases a2 <;> simp [run_underlying hu, Builtin.lenOf, hsz, Builtin.firstCells, loadCells, loadCellsFrom, hroom', had, hst]
  · have hl := run_loads (P := P) (w := w) (b := b2) (i := o2) (m * 2) (by omega)
    have hcs2 : ((mm w b2).drop o2).take (m * 2) = cs := by rw [← hm]; exact hcs
    rw [hcs2] at hl
    simp only [pBuiltin, runV, Builtin.append_]
    simp [run_underlying hu, Builtin.lenOf, hsz, Builtin.firstCells, hl, hroom, had, hst]
theorem elem23 : P.underlying 23 = some (.slice (P.elem 23)) := by kernel_rfl
theorem elemIs23 : P.elem 23 = 80 := by kernel_rfl
theorem sl_nil : pSlice P 23 (.slice none 0 0) (some (i64 0)) none none w = some (.slice none 0 0, w) := by
  have h := run_slice_l (P := P) (w := w) 23 none 0 0 elem23 .i64 0 (by omega) (by omega)
  have h2 := run_sliceAt_slice (P := P) (w := w) 23 (.slice none 0 0) (some (i64 0)) none none elem23
  rw [h, elemIs23, run_size tyOk80] at h2
  unfold pSlice runV
  rw [h2]
  rfl
theorem sl_max {l h m : Nat} (h1 : l ≤ h) (h2 : h ≤ m) (h3 : m ≤ c) : ∃ v, pSlice P 23 (sl b o n c) (some (i64 l)) (some (i64 h)) (some (i64 m)) w = some (v, w) := by
  have hh := run_slice_lhm (P := P) (w := w) 23 (some ⟨b, o, none⟩) n c elem23 .i64 .i64 .i64 l h m (by omega) (by omega) (by omega) (by omega)
  have h2 := run_sliceAt_slice (P := P) (w := w) 23 (sl b o n c) (some (i64 l)) (some (i64 h)) (some (i64 m)) elem23
  rw [hh, elemIs23, run_size tyOk80] at h2
  unfold pSlice runV
  rw [h2]
  exact ⟨_, rfl⟩
theorem cap23 {ty : TypeId} {a : Option Addr} : pBuiltin P .cap #[23] ty [.slice a n c] w = some (i64 c, w) := by
  have h := run_cap_slice (P := P) (w := w) 23 ty a n c elem23
  unfold pBuiltin runV
  rw [h]; rfl
theorem clear_one {ty : TypeId} (hf : fz w b = false) (hfit : o + 2 ≤ (mm w b).length) : pBuiltin P .clear #[23] ty [sl b o 1 c] w = some (.tuple #[], wr w b (splice (mm w b) o [fl 0, strB []])) := by
  have hu := sliceE_und (P := P) sliceE23
  have hst := run_stores (P := P) (w := w) (b := b) (i := o) [fl 0, strB []] hf (by simpa using hfit) (by intro v hv; simp only [List.mem_cons, List.not_mem_nil, or_false] at hv; rcases hv with rfl | rfl; rfl; exact oc_strB _)
  obtain ⟨z, hz, hzc⟩ := run_zeroV (P := P) hasZero80 w
  rw [zeroL80] at hzc
  have hz0 : Builtin.zeroCells z.cells 1 = #[fl 0, strB []] := by
    have hs : z.cells = #[fl 0, strB []] := Array.ext' hzc
    rw [hs]; exact zeroItem
  simp only [pBuiltin, runV, Builtin.clear_]
  simp [run_underlying hu, hz, hz0, hst]
theorem over_apart {vb vo vn vc g go gn gc : Nat} (h : vb ≠ g) (hv : fz w vb = false) (hg : fz w g = false) (hl : 0 < (mm w g).length) : pExtern P 102 [sl vb vo vn vc, sl g go gn gc] w = some (.bool false, w) := by
  unfold pExtern
  obtain ⟨e1, h1⟩ := heap_of_fz hv
  obtain ⟨e2, h2⟩ := heap_of_fz hg
  have hsz : ∀ w, (sizeOf 80).run P w = .ok 2 w := fun w => by rw [run_size tyOk80, cellsOf80]
  have ho := Lib.run_overlaps_apart (P := P) w 23 4 80 (sliceE_und sliceE23) 2 hsz ⟨vb, vo, none⟩ ⟨g, go, none⟩ vn vc gn gc h e1 e2 (mm w vb).length (mm w g).length (by simp [World.shape?, h1]) (by simp [World.shape?, h2]) (by omega) (by simp [World.frozen?, h1]) (by simp [World.frozen?, h1])
  have hr := run_callFunc_extern (P := P) (f := 102) (fn := Tryd.f102) (e := Extern.SlicesOverlaps.overlaps #[23, 23] #[4]) (by kernel_rfl) (by kernel_rfl) (by kernel_rfl) (by kernel_rfl) (by kernel_rfl) [sl vb vo vn vc, sl g go gn gc].toArray w
  rw [hr]
  have ho' : (Extern.SlicesOverlaps.overlaps #[23, 23] #[4] [sl vb vo vn vc, sl g go gn gc].toArray).run P w = .ok (.bool false) w := ho
  rw [ho']
  rfl
end
theorem ins_grow {A Z X D : List Value} (hZ : X.length + D.length ≤ Z.length) : (splice (splice (A ++ Z) A.length X) (A.length + X.length) D).take (A.length + X.length + D.length) = A ++ X ++ D := by
  have h1 : splice (A ++ Z) A.length X = A ++ X ++ Z.drop X.length := by
    simp [splice, List.drop_append]
  rw [h1]
  have h2 : splice (A ++ X ++ Z.drop X.length) (A.length + X.length) D = A ++ X ++ D ++ Z.drop (X.length + D.length) := by
    unfold splice
    rw [show A.length + X.length = (A ++ X).length by simp, List.take_left, List.drop_append, List.drop_eq_nil_of_le (by omega), List.nil_append]
    simp [List.drop_drop, Nat.add_comm]
  rw [h2, show A.length + X.length + D.length = (A ++ X ++ D).length by simp [Nat.add_assoc], List.take_left]
theorem ins_room {M A X D : List Value} {p : Nat} (hA : M.take A.length = A) (hp : p = A.length + X.length) (hM : A.length + X.length + D.length ≤ M.length) : (splice (splice M p D) A.length X).take (A.length + X.length + D.length) = A ++ X ++ D := by
  subst hp
  have hAl : A.length ≤ M.length := by omega
  obtain ⟨R, hR⟩ : ∃ R, M = A ++ R := ⟨M.drop A.length, by have := List.take_append_drop A.length M; rw [hA] at this; exact this.symm⟩
  subst hR
  have hRl : X.length + D.length ≤ R.length := by rw [List.length_append] at hM; omega
  have h1 : splice (A ++ R) (A.length + X.length) D = A ++ R.take X.length ++ D ++ R.drop (X.length + D.length) := by
    unfold splice
    rw [List.take_append, List.take_of_length_le (by omega : A.length ≤ A.length + X.length), Nat.add_sub_cancel_left, List.drop_append, List.drop_eq_nil_of_le (by omega : A.length ≤ A.length + X.length + D.length), List.nil_append]
    congr 2
    omega
  rw [h1]
  have h2 : splice (A ++ R.take X.length ++ D ++ R.drop (X.length + D.length)) A.length X = A ++ X ++ D ++ R.drop (X.length + D.length) := by
    unfold splice
    simp only [List.append_assoc]
    rw [List.take_left, List.drop_append, List.drop_eq_nil_of_le (by omega : A.length ≤ A.length + X.length), List.nil_append, Nat.add_sub_cancel_left, List.drop_append]
    rw [List.drop_eq_nil_of_le (by rw [List.length_take]; omega : (R.take X.length).length ≤ X.length), List.nil_append]
    have : X.length - (R.take X.length).length = 0 := by rw [List.length_take]; omega
    rw [this, List.drop_zero]
  rw [h2, show A.length + X.length + D.length = (A ++ X ++ D).length by simp [Nat.add_assoc], List.take_left]
theorem flat_drop {L : List ItemP} {i : Nat} (hi : i ≤ L.length) : (flat itemV L).drop (i * 2) = flat itemV (L.drop i) := by
  conv => lhs; rw [← List.take_append_drop i L, flat_append]
  have : (flat itemV (L.take i)).length = i * 2 := by rw [flat_length (itemV_len _), List.length_take]; omega
  rw [List.drop_append, List.drop_eq_nil_of_le (by omega), this]; simp
theorem flat_take {L : List ItemP} {i : Nat} (hi : i ≤ L.length) : (flat itemV L).take (i * 2) = flat itemV (L.take i) := by
  conv => lhs; rw [← List.take_append_drop i L, flat_append]
  have : (flat itemV (L.take i)).length = i * 2 := by rw [flat_length (itemV_len _), List.length_take]; omega
  rw [← this, List.take_left]
theorem flat_one2 (L : List ItemP) : ∀ u ∈ flat itemV L, u.oneCell' = true := by
  intro u hu
  obtain ⟨l, hl, hu⟩ := List.mem_flatten.1 hu
  obtain ⟨x, _, rfl⟩ := List.mem_map.1 hl
  exact itemV_one x u hu
theorem own_blk {w : World} {base n c : Nat} {a : Option Addr} {xs : List Value} (h : w.ownsRow base 80 2 (.slice a n c) n xs) (hn : 0 < n) :
    ∃ g, a = some ⟨g, 0, none⟩ ∧ base ≤ g ∧ fz w g = false ∧ n ≤ c ∧ c ≤ maxLen ∧ (mm w g).length = c * 2 ∧ (mm w g).take (n * 2) = xs := by
  obtain ⟨_, ⟨_, h0⟩ | ⟨g, cap, cur, hv, hb, hg, h1, h2, h3, h4⟩⟩ := h
  · omega
  · simp only [Value.slice.injEq, true_and] at hv
    obtain ⟨rfl, rfl⟩ := hv
    have hm : mm w g = cur.toList := by simp [mm, hg]
    exact ⟨g, rfl, hb, by simp [fz, hg], h1, h2, by rw [hm]; simpa using h3, by rw [hm]; exact h4⟩
theorem rd_take {w : World} {b o n c m : Nat} {L : List ItemP} (h : RdV w (sl b o n c) n (flat itemV L)) (hn : n = L.length) (hm : m ≤ n) : RdV w (sl b o m c) m (flat itemV (L.take m)) := by
  rcases h with ⟨_, _, hv, h0, hc⟩ | ⟨b', o', c', hv, h1, h2, h3, h4, h5⟩
  · have : m = 0 := by omega
    subst this
    exact .inl ⟨_, _, rfl, rfl, by simp [flat]⟩
  · simp only [sl, Value.slice.injEq, Option.some.injEq, Addr.mk.injEq, true_and, and_true] at hv
    obtain ⟨⟨rfl, rfl⟩, rfl⟩ := hv
    rw [flat_length (itemV_len L)] at h4 h5
    have hl : (flat itemV (L.take m)).length = m * 2 := by rw [flat_length (itemV_len _), List.length_take]; omega
    have hmn : m * 2 ≤ L.length * 2 := Nat.mul_le_mul_right _ (by omega)
    refine .inr ⟨b, o, c, rfl, by omega, h2, h3, by rw [hl]; omega, ?_⟩
    rw [hl, ← flat_take (by omega), ← h5, List.take_take]; congr 1; omega
end Go.Proofs.YtieejbkbdfccdaaDoor

set_option linter.unusedVariables false
set_option linter.unusedSimpArgs false
namespace Go.Proofs.YtieejbkbdfccdaaDoor
open Go

theorem splice_len2 {l vs : List Value} {i : Nat} (h : i + vs.length ≤ l.length) : (splice l i vs).length = l.length := by
  unfold splice
  simp only [List.length_append, List.length_take, List.length_drop]
  omega
theorem d3u : P.underlying 3 = some (.int .i64) := by kernel_rfl
set_option maxHeartbeats 4000000 in
set_option maxRecDepth 20000 in
theorem insert_spec {w : World} {base : Nat} {a : Option Addr} {c : Nat} {L : List ItemP} {i : Nat} {x : ItemP} {vb : Nat} (hown : w.ownsRow base 80 2 (.slice a L.length c) L.length (flat itemV L)) (hbase : base ≤ sz w) (hi : i ≤ L.length) (hL : L.length ≤ 1000)
    (hx : RdV w (sl vb 0 1 1) 1 (itemV x)) (hvz : fz w vb = false) (hne : ∀ k, (Value.slice a L.length c).ownBlock = some k → k ≠ vb) :
    Ret P 99 #[.slice a L.length c, i64 i, sl vb 0 1 1] w fun v w' => ∃ a' c', v = .slice a' (L.length + 1) c' ∧ RdV w' (.slice a' (L.length + 1) c') (L.length + 1) (flat itemV (L.take i ++ x :: L.drop i)) ∧
      (∀ k, (Value.slice a' (L.length + 1) c').ownBlock = some k → base ≤ k) ∧ Fr (Value.slice a L.length c).ownBlock.toList w w' := by
  refine F99ok ?_
  unfold F99
  have hii : (i : Int) ≤ L.length := by omega
  have hi0 : (0 : Int) ≤ i := by omega
  have hio := itemV_one x
  by_cases hin : i = L.length
  · have hfl : flat itemV (L.take i ++ x :: L.drop i) = flat itemV L ++ itemV x := by
      rw [hin, List.take_length, List.drop_length, flat_append, flat_one]
    obtain ⟨v', w1, hrun, hown', hg, _⟩ := append_own2 (P := P) (t := 23) (ty := 23) base sliceE23 hasZero80 cellsOf80 (by rw [zeroL80]; rfl) (by omega) hown hbase hx rfl hio (by unfold maxLen; omega) (by rw [bytesOf80]; omega)
    have hf := Fr.of_grown hg
    obtain ⟨a', c', rfl⟩ := own_val hown'
    have fin : ∃ a'' c'', Value.slice a' (L.length + 1) c' = .slice a'' (L.length + 1) c'' ∧ RdV w1 (.slice a'' (L.length + 1) c'') (L.length + 1) (flat itemV (L.take i ++ x :: L.drop i)) ∧
      (∀ k, (Value.slice a'' (L.length + 1) c'').ownBlock = some k → base ≤ k) ∧ Fr (Value.slice a L.length c).ownBlock.toList w w1 := ⟨a', c', rfl, by rw [hfl]; exact own_rd hown', fun k hk => (hown'.lt k hk).1, hf⟩
    cases a with
    | none =>
      have h0 : L.length = 0 ∧ c = 0 := by
        obtain ⟨_, ⟨hv, h0⟩ | ⟨g, cap, cur, hv, _⟩⟩ := hown
        · simp only [Value.slice.injEq] at hv; exact ⟨h0, hv.2.2⟩
        · simp at hv
      obtain ⟨h0, rfl⟩ := h0
      have hi0' : i = 0 := by omega
      subst hi0'
      rw [h0] at hrun fin ⊢
      try simp (maxDischargeDepth := 8) [↓sC, sB, sM, sl_nil, hrun]
      simpa using fin
    | some ad =>
      have hL0 : 0 < L.length ∨ L.length = 0 := by omega
      obtain ⟨g, cap, cur, hv⟩ : ∃ g o cc, (Value.slice (some ad) L.length c) = sl g o L.length cc ∧ L.length ≤ cc := by
        obtain ⟨_, ⟨hv, h0⟩ | ⟨g, cap, cur, hv, _, _, h1, _⟩⟩ := hown
        · simp at hv
        · exact ⟨g, 0, cap, hv, h1⟩
      obtain ⟨hv, hcc⟩ := hv
      rw [hv] at hrun ⊢
      rw [hv] at fin
      subst hin
      try simp (maxDischargeDepth := 8) [↓sC, sB, sM, hii, hi0, hcc, hrun]
      simpa using fin
  · have hlt : i < L.length := by omega
    have hlti : ¬ (i : Int) = L.length := by omega
    have hlti2 : (i : Int) < L.length := by omega
    obtain ⟨g, rfl, hbg, hgz, hnc, hcm, hml, htk⟩ := own_blk hown (by omega)
    have hgv : g ≠ vb := hne g rfl
    have hgl := lt_of_fz hgz
    have e1 : IntKind.i64.wrap ((L.length : Int) + 1) = ((L.length + 1 : Nat) : Int) := wrap64 (by omega) (by omega)
    have e2 : IntKind.i64.wrap ((i : Int) + 1) = ((i + 1 : Nat) : Int) := wrap64 (by omega) (by omega)
    have hw01 : IntKind.i64.wrap 1 = 1 := rfl
    obtain ⟨N, hN⟩ : ∃ N, N = L.length := ⟨_, rfl⟩
    have hX : (itemV x).length = 2 := rfl
    have hA : (flat itemV (L.take i)).length = i * 2 := by rw [flat_length (itemV_len _), List.length_take]; omega
    have hD : (flat itemV (L.drop i)).length = (N - i) * 2 := by rw [flat_length (itemV_len _), List.length_drop, hN]
    have hfl : flat itemV (L.take i ++ x :: L.drop i) = flat itemV (L.take i) ++ itemV x ++ flat itemV (L.drop i) := by
      rw [flat_append, List.append_assoc]; rfl
    have htot : (flat itemV (L.take i)).length + (itemV x).length + (flat itemV (L.drop i)).length = (N + 1) * 2 := by rw [hA, hX, hD]; omega
    have hp2 : (i + 1) * 2 = (flat itemV (L.take i)).length + (itemV x).length := by rw [hA, hX]; omega
    have htake : (mm w g).take (i * 2) = flat itemV (L.take i) := by
      have := flat_take (L := L) (i := i) hi
      rw [← this, ← htk, List.take_take]; congr 1; omega
    rw [← hN] at htk hlt hlti hlti2 hii hL hnc e1 ⊢
    by_cases hroom : N + 1 ≤ c
    · have hr1 : ¬ (c : Int) < ((N + 1 : Nat) : Int) := by omega
      have hr1' : ¬ c < N + 1 := by omega
      have hc1 : c ≠ i := by omega
      have hc2 : c ≠ i + 1 := by omega
      have h3 : ((N + 1 : Nat) : Int) ≤ c := by omega
      have h3' : (0 : Int) ≤ ((N + 1 : Nat) : Int) := by omega
      have h4 : (0 : Int) ≤ ((i + 1 : Nat) : Int) := by omega
      have h5 : ((i + 1 : Nat) : Int) ≤ ((N + 1 : Nat) : Int) := by omega
      have h5' : (i : Int) ≤ ((N + 1 : Nat) : Int) := by omega
      have hov : ∀ go gn gc, pExtern P 102 [sl vb 0 1 1, sl g go gn gc] w = some (.bool false, w) := fun go gn gc => over_apart (fun e => hgv e.symm) hvz hgz (by omega)
      -- the first copy's source
      obtain ⟨cs, hcs⟩ : ∃ cs, cs = ((mm w g).drop (i * 2)).take ((N + 1 - i) * 2) := ⟨_, rfl⟩
      have hcl : cs.length = (N + 1 - i) * 2 := by
        rw [hcs, List.length_take, List.length_drop, hml]
        have : (N + 1) * 2 ≤ c * 2 := Nat.mul_le_mul_right _ hroom
        omega
      have hrd : RdV (drew w) (sl g (i * 2) (N + 1 - i) (c - i)) (N + 1 - i) cs := by
        refine .inr ⟨g, i * 2, c - i, rfl, by omega, by omega, by rw [sz_drew]; exact hgl, ?_, ?_⟩
        · rw [mm_drew, hcl, hml]
          have : (N + 1) * 2 ≤ c * 2 := Nat.mul_le_mul_right _ hroom
          omega
        · rw [mm_drew, hcl, hcs]
      have hmin : min (N + 1 - i) (N - i) = N - i := by omega
      have hct : cs.take ((N - i) * 2) = flat itemV (L.drop i) := by
        rw [hcs, List.take_take, show min ((N - i) * 2) ((N + 1 - i) * 2) = (N - i) * 2 by omega, ← flat_drop hi, ← htk, List.drop_take]
        congr 1; omega
      have hcp1 := copy_rows (w := drew w) (b := g) (o := (i + 1) * 2) (n := N - i) (c := c - (i + 1)) (ty := 3) hrd hcl (by rw [hmin, hct]; exact flat_one2 _) (by rw [fz_drew]; exact hgz) (by rw [mm_drew, hml]; have : (N + 1) * 2 ≤ c * 2 := Nat.mul_le_mul_right _ hroom; omega)
      rw [hmin, hct, mm_drew] at hcp1
      obtain ⟨W1, hW1⟩ : ∃ W1, W1 = wr (drew w) g (splice (mm w g) ((i + 1) * 2) (flat itemV (L.drop i))) := ⟨_, rfl⟩
      have f1 : Fr [g] w W1 := by rw [hW1]; exact ((Fr.refl [g] w).drew).wr (.inl (by simp)) _
      have m1 : mm W1 g = splice (mm w g) ((i + 1) * 2) (flat itemV (L.drop i)) := by rw [hW1]; exact mm_wr_same (by rw [fz_drew]; exact hgz) _
      have z1 : fz W1 g = false := by rw [hW1, fz_wr, fz_drew]; exact hgz
      rw [← hW1] at hcp1
      have hml1 : (splice (mm w g) ((i + 1) * 2) (flat itemV (L.drop i))).length = c * 2 := by
        unfold splice
        simp only [List.length_append, List.length_take, List.length_drop, hD, hml]
        have : (N + 1) * 2 ≤ c * 2 := Nat.mul_le_mul_right _ hroom
        omega
      have hxr : RdV W1 (sl vb 0 1 1) 1 (itemV x) := hx.fr f1 (fun k hk hm => by simp [sl, Value.ownBlock] at hk; subst hk; simp at hm; exact hgv hm.symm)
      have hmin2 : min 1 (N + 1 - i) = 1 := by omega
      have hcp2 := copy_rows (w := W1) (b := g) (o := i * 2) (n := N + 1 - i) (c := c - i) (ty := 3) hxr rfl (by intro u hu; exact hio u (List.mem_of_mem_take hu)) z1 (by rw [m1, hml1]; have : (N + 1) * 2 ≤ c * 2 := Nat.mul_le_mul_right _ hroom; omega)
      rw [hmin2, m1, show (itemV x).take (1 * 2) = itemV x from rfl] at hcp2
      try simp (maxDischargeDepth := 8) [↓sC, sB, sM, cap23, hi0, hii, hnc, hlti, hlt, e1, e2, hr1, hr1', h3, h3', h4, h5, h5', hc1, hc2, hov, hcp1, hcp2, hroom, hw01, -Int.natCast_add]
      refine ⟨_, _, ⟨rfl, rfl⟩, ?_, fun k hk => by simp [Value.ownBlock] at hk; omega, ?_⟩
      · have hl2 : (splice (splice (mm w g) ((i + 1) * 2) (flat itemV (L.drop i))) (i * 2) (itemV x)).length = c * 2 := by
          rw [splice_len2 (by rw [hml1, hX]; have : (N + 1) * 2 ≤ c * 2 := Nat.mul_le_mul_right _ hroom; omega), hml1]
        have hcc : (N + 1) * 2 ≤ c * 2 := Nat.mul_le_mul_right _ hroom
        refine .inr ⟨g, 0, c, rfl, hroom, hcm, by rw [sz_wr]; exact f1.lt hgl, ?_, ?_⟩
        · rw [mm_wr_same z1, hfl, hl2, List.length_append, List.length_append, htot]; omega
        · rw [mm_wr_same z1, hfl, List.length_append, List.length_append, List.drop_zero]
          have := ins_room (M := mm w g) (A := flat itemV (L.take i)) (X := itemV x) (D := flat itemV (L.drop i)) (p := (i + 1) * 2) (by rw [hA]; exact htake) hp2 (by rw [htot, hml]; exact hcc)
          rw [hA] at this ⊢
          exact this
      · exact (f1.mono (by simp [Value.ownBlock])).wr (.inl (by simp [Value.ownBlock])) _
    · have hr1 : (c : Int) < ((N + 1 : Nat) : Int) := by omega
      have hr1' : c < N + 1 := by omega
      have hnc2 : c = N := by omega
      have hci : c ≠ i := by omega
      have hici : (i : Int) ≤ c := by omega
      have hic : i ≤ c := by omega
      have e3 : IntKind.i64.wrap (((N + 1 : Nat) : Int) - (i : Int)) = ((N + 1 - i : Nat) : Int) := by rw [wrap64 (by omega) (by omega)]; omega
      obtain ⟨inf, hinf⟩ := tyOk_info (P := P) tyOk80
      have hinf2 : inf.size = 2 := by have := cellsOf80; simp [Program.cellsOf, hinf] at this; exact this
      have hinfb : inf.bytes = P.bytesOf 80 := by simp [Program.bytesOf, hinf]
      obtain ⟨z, hzz, hzc⟩ : ∃ z, inf.zero = some z ∧ z.cells.toList = zeroL P 80 := by
        have h := hasZero80
        unfold hasZero at h
        rw [hinf] at h
        obtain ⟨z, hz⟩ := Option.isSome_iff_exists.1 h
        have hz' : inf.zero = some z := hz
        exact ⟨z, hz', by simp [zeroL, hinf, hz']⟩
      have hold : (Builtin.firstCells inf.size i (.slice (some ⟨g, 0, none⟩) i c)).run P w.drew = .ok (flat itemV (L.take i)).toArray w.drew := by
        rw [hinf2]
        refine run_firstCells_some (P := P) w.drew 2 i ⟨g, 0, none⟩ i c (flat itemV (L.take i)) (by rw [hA]) (fun j v hj => ?_)
        rw [Addr.add_lit, Nat.zero_add]
        show w.cell? ⟨g, j, none⟩ = some v
        rw [cell_mm]
        have hjl := (List.getElem?_eq_some_iff.1 hj).1
        rw [hA] at hjl
        rw [← hj, ← htake, List.getElem?_take, if_pos hjl]
      have hbb := bytesOf80
      obtain ⟨G, hG⟩ : ∃ G, G = grownCap w (i + (N + 1 - i)) c 80 := ⟨_, rfl⟩
      have hG1 : N + 1 ≤ G := by rw [hG]; have := grownCap_ge w (i + (N + 1 - i)) c 80; omega
      have hG2 : G ≤ maxLen := by rw [hG]; exact grownCap_le_maxLen _ _ _ _ (by unfold maxLen; omega)
      have hrunz := Lib.run_append_grow_zeros (P := P) w 23 3 23 80 inf z .i64 .i64 (sliceE_und sliceE23) d3u hinf hzz (some ⟨g, 0, none⟩) i c (flat itemV (L.take i)) hold (N + 1 - i) (by omega) (by omega) (by omega) (by omega) (by rw [hinfb, hbb]; omega) (growslice_fits (by omega) (by rw [hinfb, hbb]; omega))
      rw [← hG] at hrunz
      have hzs : z.cells.size = 2 := by have := congrArg List.length hzc; rw [zeroL80] at this; simpa using this
      obtain ⟨Z, hZ⟩ : ∃ Z, Z = (Builtin.zeroCells z.cells (N + 1 - i)).toList ++ (Builtin.zeroCells z.cells (G - (i + (N + 1 - i)))).toList := ⟨_, rfl⟩
      have hZl : Z.length = (G - i) * 2 := by
        rw [hZ, List.length_append]
        simp only [Builtin.zeroCells, Array.length_toList, Array.size_map, Array.size_range, hzs]
        omega
      obtain ⟨W1, hW1⟩ : ∃ W1, W1 = nw (drew w) (flat itemV (L.take i) ++ Z) 80 := ⟨_, rfl⟩
      have hwe : w.drew.alloc (.cells ((flat itemV (L.take i)).toArray ++ Builtin.zeroCells z.cells (N + 1 - i) ++ Builtin.zeroCells z.cells (G - (i + (N + 1 - i)))) 80) = W1 := by
        rw [hW1, hZ]
        show w.drew.alloc _ = w.drew.alloc _
        congr 2
        apply Array.ext'
        simp
      rw [hwe, show i + (N + 1 - i) = N + 1 by omega] at hrunz
      have happ : pBuiltin P .append #[23, 3] 23 [sl g 0 i c, i64 ((N + 1 - i : Nat) : Int)] w = some (sl (sz w) 0 (N + 1) G, W1) := by
        simp only [pBuiltin, runV]
        have h2 : (Builtin.append_ #[23, 3] 23 [sl g 0 i c, i64 ((N + 1 - i : Nat) : Int)].toArray).run P w = .ok (.slice (some ⟨w.heap.size, 0, none⟩) (N + 1) G) W1 := hrunz
        rw [h2]; rfl
      have f1 : Fr [] w W1 := by rw [hW1]; exact (Fr.refl [] w).drew.nw _ _
      have m1 : mm W1 (sz w) = flat itemV (L.take i) ++ Z := by rw [hW1]; simp [mm_nw, sz_drew]
      have z1 : fz W1 (sz w) = false := by rw [hW1]; simp [fz_nw, sz_drew]
      have hml1 : (flat itemV (L.take i) ++ Z).length = G * 2 := by rw [List.length_append, hA, hZl]; omega
      have hNG : (N + 1) * 2 ≤ G * 2 := Nat.mul_le_mul_right _ hG1
      have hxr : RdV W1 (sl vb 0 1 1) 1 (itemV x) := hx.fr0 f1
      have hmin2 : min 1 (N + 1 - i) = 1 := by omega
      have hcp1 := copy_rows (w := W1) (b := sz w) (o := i * 2) (n := N + 1 - i) (c := G - i) (ty := 3) hxr rfl (by intro u hu; exact hio u (List.mem_of_mem_take hu)) z1 (by rw [m1, hml1]; omega)
      rw [hmin2, m1, show (itemV x).take (1 * 2) = itemV x from rfl] at hcp1
      obtain ⟨W2, hW2⟩ : ∃ W2, W2 = wr W1 (sz w) (splice (flat itemV (L.take i) ++ Z) (i * 2) (itemV x)) := ⟨_, rfl⟩
      rw [← hW2] at hcp1
      have f2 : Fr [] w W2 := by rw [hW2]; exact f1.wr (.inr (Nat.le_refl _)) _
      have m2 : mm W2 (sz w) = splice (flat itemV (L.take i) ++ Z) (i * 2) (itemV x) := by rw [hW2]; exact mm_wr_same z1 _
      have z2 : fz W2 (sz w) = false := by rw [hW2, fz_wr, z1]
      have hml2 : (splice (flat itemV (L.take i) ++ Z) (i * 2) (itemV x)).length = G * 2 := by rw [splice_len2 (by rw [hml1, hX]; omega), hml1]
      have hrd2 : RdV (drew W2) (sl g (i * 2) (N - i) (c - i)) (N - i) (flat itemV (L.drop i)) := by
        refine RdV.fr0 ?_ f2.drew
        refine .inr ⟨g, i * 2, c - i, rfl, by omega, by omega, hgl, ?_, ?_⟩
        · rw [hD, hml]; omega
        · rw [hD, ← flat_drop hi, ← htk, List.drop_take]
          congr 1; omega
      have hmin3 : min (N - i) (N - i) = N - i := Nat.min_self _
      have hcp2 := copy_rows (w := drew W2) (b := sz w) (o := (i + 1) * 2) (n := N - i) (c := G - (i + 1)) (ty := 3) hrd2 hD (by rw [hmin3]; intro u hu; exact flat_one2 _ u (List.mem_of_mem_take hu)) (by rw [fz_drew]; exact z2) (by rw [mm_drew, m2, hml2]; omega)
      rw [hmin3, mm_drew, m2, show (flat itemV (L.drop i)).take ((N - i) * 2) = flat itemV (L.drop i) from List.take_of_length_le (by rw [hD]; exact Nat.le_refl _)] at hcp2
      have hGi : G ≠ i := by omega
      have hGi2 : G ≠ i + 1 := by omega
      have h4 : (0 : Int) ≤ ((i + 1 : Nat) : Int) := by omega
      have h5 : ((i + 1 : Nat) : Int) ≤ ((N + 1 : Nat) : Int) := by omega
      have h5' : (i : Int) ≤ ((N + 1 : Nat) : Int) := by omega
      try simp (maxDischargeDepth := 8) [↓sC, sB, sM, cap23, hi0, hii, hnc, hlti, hlt, e1, e2, e3, hr1, hr1', h4, h5, h5', hci, hici, hic, hGi, hGi2, hG1, happ, hcp1, hcp2, hw01, -Int.natCast_add]
      refine ⟨_, _, ⟨rfl, rfl⟩, ?_, fun k hk => by simp [Value.ownBlock] at hk; omega, ?_⟩
      · have hl2 : (splice (splice (flat itemV (L.take i) ++ Z) (i * 2) (itemV x)) ((i + 1) * 2) (flat itemV (L.drop i))).length = G * 2 := by
          rw [splice_len2 (by rw [hml2, hD]; omega), hml2]
        have z2d : fz (drew W2) (sz w) = false := by rw [fz_drew]; exact z2
        refine .inr ⟨sz w, 0, G, rfl, hG1, hG2, by rw [sz_wr, sz_drew]; exact lt_of_fz z2, ?_, ?_⟩
        · rw [mm_wr_same z2d, hfl, hl2, List.length_append, List.length_append, htot]; omega
        · rw [mm_wr_same z2d, hfl, List.length_append, List.length_append, List.drop_zero]
          have := ins_grow (A := flat itemV (L.take i)) (Z := Z) (X := itemV x) (D := flat itemV (L.drop i)) (by rw [hX, hD, hZl]; omega)
          rw [hA] at this ⊢
          rw [show (i + 1) * 2 = i * 2 + (itemV x).length by rw [hX]; omega]
          exact this
      · exact (f2.mono (by simp)).drew.wr (.inr (Nat.le_refl _)) _
end Go.Proofs.YtieejbkbdfccdaaDoor

set_option linter.unusedVariables false
set_option linter.unusedSimpArgs false
namespace Go.Proofs.YtieejbkbdfccdaaDoor
open Go

set_option maxHeartbeats 4000000 in
set_option maxRecDepth 20000 in
theorem delete_spec {w : World} {base : Nat} {a : Option Addr} {c : Nat} {L : List ItemP} {i : Nat} (hown : w.ownsRow base 80 2 (.slice a L.length c) L.length (flat itemV L)) (hi : i < L.length) (hL : L.length ≤ 1000) :
    Ret P 95 #[.slice a L.length c, i64 i, i64 ((i + 1 : Nat) : Int)] w fun v w' => ∃ a' c', v = .slice a' (L.take i ++ L.drop (i + 1)).length c' ∧ RdV w' (.slice a' (L.take i ++ L.drop (i + 1)).length c') (L.take i ++ L.drop (i + 1)).length (flat itemV (L.take i ++ L.drop (i + 1))) ∧
      (∀ k, (Value.slice a' (L.take i ++ L.drop (i + 1)).length c').ownBlock = some k → base ≤ k) ∧ Fr (Value.slice a L.length c).ownBlock.toList w w' := by
  refine F95ok ?_
  unfold F95
  obtain ⟨g, rfl, hbg, hgz, hnc, hcm, hml, htk⟩ := own_blk hown (by omega)
  have hgl := lt_of_fz hgz
  obtain ⟨N, hN⟩ : ∃ N, N = L.length := ⟨_, rfl⟩
  have hlen : (L.take i ++ L.drop (i + 1)).length = N - 1 := by rw [List.length_append, List.length_take, List.length_drop]; omega
  rw [hlen]
  have hA : (flat itemV (L.take i)).length = i * 2 := by rw [flat_length (itemV_len _), List.length_take]; omega
  have hD : (flat itemV (L.drop (i + 1))).length = (N - (i + 1)) * 2 := by rw [flat_length (itemV_len _), List.length_drop, hN]
  have hfl : flat itemV (L.take i ++ L.drop (i + 1)) = flat itemV (L.take i) ++ flat itemV (L.drop (i + 1)) := flat_append _ _ _
  rw [← hN] at htk hi hL hnc ⊢
  have hi0 : (0 : Int) ≤ i := by omega
  have hic : (i : Int) ≤ c := by omega
  have hic' : i ≤ c := by omega
  have h1 : (0 : Int) ≤ ((i + 1 : Nat) : Int) := by omega
  have h2 : ((i + 1 : Nat) : Int) ≤ (N : Int) := by omega
  have hne : ¬ (i : Int) = ((i + 1 : Nat) : Int) := by omega
  have hne' : ¬ i = i + 1 := by omega
  obtain ⟨v3, hv3⟩ := sl_max (w := w) (b := g) (o := 0) (n := N) (c := c) (l := i) (h := i + 1) (m := N) (by omega) (by omega) hnc
  obtain ⟨o2, ho2⟩ : ∃ o2, o2 = if c = i + 1 then 0 else (i + 1) * 2 := ⟨_, rfl⟩
  have hrd : RdV (drew w) (sl g o2 (N - (i + 1)) (c - (i + 1))) (N - (i + 1)) (flat itemV (L.drop (i + 1))) := by
    refine rd_drew ?_
    by_cases h0 : N - (i + 1) = 0
    · rw [h0]
      have : L.drop (i + 1) = [] := List.drop_eq_nil_of_le (by omega)
      rw [this]
      exact .inl ⟨_, _, rfl, rfl, rfl⟩
    · have ho : o2 = (i + 1) * 2 := by rw [ho2, if_neg (by omega)]
      refine .inr ⟨g, o2, c - (i + 1), rfl, by omega, by omega, hgl, by rw [ho, hD, hml]; omega, ?_⟩
      rw [ho, hD, ← flat_drop (by omega), ← htk, List.drop_take]
      congr 1; omega
  have happ := app_room (w := drew w) (b := g) (n := i) (cap := c) hrd hD (flat_one2 _) (by rw [fz_drew]; exact hgz) (by omega) (by rw [mm_drew, hml]; omega)
  rw [mm_drew, show i + (N - (i + 1)) = N - 1 by omega] at happ
  obtain ⟨W1, hW1⟩ : ∃ W1, W1 = wr (drew w) g (splice (mm w g) (i * 2) (flat itemV (L.drop (i + 1)))) := ⟨_, rfl⟩
  rw [← hW1] at happ
  have f1 : Fr [g] w W1 := by rw [hW1]; exact ((Fr.refl [g] w).drew).wr (.inl (by simp)) _
  have m1 : mm W1 g = splice (mm w g) (i * 2) (flat itemV (L.drop (i + 1))) := by rw [hW1]; exact mm_wr_same (by rw [fz_drew]; exact hgz) _
  have z1 : fz W1 g = false := by rw [hW1, fz_wr, fz_drew]; exact hgz
  have hml1 : (splice (mm w g) (i * 2) (flat itemV (L.drop (i + 1)))).length = c * 2 := by rw [splice_len2 (by rw [hD, hml]; omega), hml]
  have hcl := clear_one (w := W1) (b := g) (o := (N - 1) * 2) (c := c - (N - 1)) (ty := 0) z1 (by rw [m1, hml1]; omega)
  rw [m1] at hcl
  have h3 : (0 : Int) ≤ ((N - 1 : Nat) : Int) := by omega
  have h4 : ((N - 1 : Nat) : Int) ≤ (N : Int) := by omega
  have h4' : N - 1 ≤ N := by omega
  have h5 : (N : Int) ≤ c := by omega
  have h6 : N - 1 ≤ c := by omega
  have hcN : ¬ c = N - 1 := by omega
  have hN1 : N - (N - 1) = 1 := by omega
  try simp (maxDischargeDepth := 8) [↓sC, sB, sM, hv3, hne, hne', hi0, hic, hic', h1, h2, hnc, ← ho2, happ, h3, h4, h4', h5, h6, hcN, hN1, hcl, -Int.natCast_add]
  refine ⟨_, _, ⟨rfl, rfl⟩, ?_, fun k hk => by simp [Value.ownBlock] at hk; omega, ?_⟩
  · have hl2 : (splice (splice (mm w g) (i * 2) (flat itemV (L.drop (i + 1)))) ((N - 1) * 2) [fl 0, strB []]).length = c * 2 := by
      rw [splice_len2 (by rw [hml1]; simp; omega), hml1]
    refine .inr ⟨g, 0, c, rfl, h6, hcm, by rw [sz_wr]; exact f1.lt hgl, ?_, ?_⟩
    · rw [mm_wr_same z1, hfl, hl2, List.length_append, hA, hD]; omega
    · rw [mm_wr_same z1, hfl, List.length_append, hA, hD, List.drop_zero, show i * 2 + (N - (i + 1)) * 2 = (N - 1) * 2 by omega]
      have ht1 : (splice (splice (mm w g) (i * 2) (flat itemV (L.drop (i + 1)))) ((N - 1) * 2) [fl 0, strB []]).take ((N - 1) * 2) = (splice (mm w g) (i * 2) (flat itemV (L.drop (i + 1)))).take ((N - 1) * 2) := by
        have gen : ∀ S : List Value, S.length = c * 2 → (splice S ((N - 1) * 2) [fl 0, strB []]).take ((N - 1) * 2) = S.take ((N - 1) * 2) := by
          intro S hS
          unfold splice
          rw [List.append_assoc, List.take_append_of_le_length (by rw [List.length_take, hS]; omega), List.take_take]
          congr 1; omega
        exact gen _ hml1
      rw [ht1]
      have htake : (mm w g).take (i * 2) = flat itemV (L.take i) := by
        have := flat_take (L := L) (i := i) (by omega)
        rw [← this, ← htk, List.take_take]; congr 1; omega
      have hsp : splice (mm w g) (i * 2) (flat itemV (L.drop (i + 1))) = (flat itemV (L.take i) ++ flat itemV (L.drop (i + 1))) ++ (mm w g).drop (i * 2 + (N - (i + 1)) * 2) := by
        unfold splice
        rw [htake, hD]
      rw [hsp, List.take_left' (by rw [List.length_append, hA, hD]; omega)]
  · exact (f1.mono (by simp [Value.ownBlock])).wr (.inl (by simp [Value.ownBlock])) _
theorem bsl23_one {w : World} {x : ItemP} : pBuildSlice P 23 1 [(0, .agg (itemV x).toArray)] w = some (sl (sz w) 0 1 1, nw w (itemV x) 80) := by
  rw [bsl23 (by omega) (by intro p hp; simp only [List.mem_cons, List.not_mem_nil, or_false] at hp; subst hp; exact ⟨by simp [Value.cells, itemV], by simp⟩)]
  rfl
section
variable {w : World} {p q : Nat} {r : RecP} {la lb : Option Addr} {c n d : Nat} {a : ActP}
/-- The list alone was turned. -/
theorem ChE.list {w1 : World} (h : ChS w p q r (.slice la r.list.length c)) (hf : Fr [] w w1) {L : List ItemP} {l : Option Addr} {m c' : Nat} (hm : m = L.length) (hr : RdV w1 (.slice l m c') m (flat itemV L)) (hk : ∀ k, (Value.slice l m c').ownBlock = some k → sz w ≤ k) (ho : ∀ x ∈ L, okI x) :
    ChE w (.slice la r.list.length c) (wr w1 p (rcV { r with list := L } (.slice l m c'))) p q { r with list := L } (anC 0) := by
  subst hm
  have z1 : fz w1 p = false := by rw [hf.fz (lt_of_fz h.zp) (by simp), h.zp]
  refine ⟨l, c', none, 0, mm_wr_same z1 _, ⟨?_, ?_⟩, ?_, isRec_rz, fun k hk' => .inr (hk k hk'), by simp [Value.ownBlock]⟩
  · exact hr.fr (S := [p]) ((Fr.refl [p] w1).wr (.inl (by simp)) _) (fun k hk' hm => by have := hk k hk'; have := lt_of_fz h.zp; simp at hm; omega)
  · exact ⟨h.isr.2.1, h.isr.2.2.1, h.isr.2.2.2.1, h.isr.2.2.2.2.1, h.isr.2.2.2.2.2.1, h.isr.2.2.2.2.2.2.1, ho⟩
  · rw [mm_wr_ne (fun e => h.ne e.symm), hf.mm (lt_of_fz h.zq) (by simp), h.mq]; rfl
theorem list1000 {r : RecP} (hr : RecOk r) : r.list.length ≤ 32 := by
  by_cases h8 : 8 ≤ r.kind
  · obtain ⟨_, q2, q3, _⟩ := hr.cap h8
    omega
  · have h1 := hr.k1
    rcases five_kinds hr.k1 hr.k9 hr.only with ⟨_, _, _, _, _, _, _, h⟩ | ⟨_, _, _, _, _, _, _, h⟩ | ⟨_, _, _, _, _, h⟩ | ⟨_, _, _, _, _, _, _, h⟩ | ⟨h, _⟩
    all_goals first | (rw [h]; simp) | omega
theorem set_pw {r : RecP} (hr : Fit' r) (hk : r.kind = 8) : r.list.Pairwise nameLt := by
  have := (fit_items hr (.inl hk)).1
  rw [hk] at this
  exact set_lt this
set_option maxHeartbeats 1000000 in
theorem chg20 (h : ChS w p q r (.slice la r.list.length c)) (hk : a.kind = 20) (hr : Fit' r) (hrk : r.kind = 8) : Ret P 96 #[pt p 0, .agg (acV a (.slice lb n d)).toArray, pt q 0] w fun v w' => ChR w p q r (.slice la r.list.length c) a v w' := by
  refine F96ok ?_
  unfold F96
  obtain ⟨W, hW, fW, mW, sW⟩ := bx w a (.slice lb n d)
  have hmp : mm W p = rcV r (.slice la r.list.length c) := by rw [fW.mm (lt_of_fz h.zp) (by simp), h.mp]
  have hl := list1000 hr.1
  try simp (maxDischargeDepth := 8) [↓sC, sB, sM, acC, ← hW, mW, hmp]
  refine (find_spec (s := a.s) (h.isr.1.fr0 fW.drew) (set_pw hr hrk) (by omega)).call ?_
  rintro _ w1 ⟨i, hi, rfl, f1⟩
  have f2 := fW.drew.trans0 f1
  unfold ChR
  rw [ch20 hk]
  cases hh : hasN a.s r.list
  · try simp (maxDischargeDepth := 8) [↓sC, sB, sM]
    exact ⟨rfl, frpq f2, fun h => absurd h (by simp [anC])⟩
  · try simp (maxDischargeDepth := 8) [↓sC, sB, sM]
    exact ⟨rfl, frpq f2, fun _ => ChE.same h f2⟩
set_option maxHeartbeats 2000000 in
theorem chg19 (h : ChS w p q r (.slice la r.list.length c)) (hk : a.kind = 19) (hr : Fit' r) (hrk : r.kind = 8) : Ret P 93 #[pt p 0, .agg (acV a (.slice lb n d)).toArray, pt q 0] w fun v w' => ChR w p q r (.slice la r.list.length c) a v w' := by
  refine F93ok ?_
  unfold F93
  obtain ⟨W, hW, fW, mW, sW⟩ := bx w a (.slice lb n d)
  have hmp : mm W p = rcV r (.slice la r.list.length c) := by rw [fW.mm (lt_of_fz h.zp) (by simp), h.mp]
  have hl := list1000 hr.1
  have hpw := set_pw hr hrk
  try simp (maxDischargeDepth := 8) [↓sC, sB, sM, acC, ← hW, mW, hmp]
  refine (find_spec (s := a.s) (h.isr.1.fr0 fW.drew) hpw (by omega)).call ?_
  rintro _ w1 ⟨i, hi, rfl, f1⟩
  have f2 := fW.drew.trans0 f1
  have hmp2 : mm w1 p = rcV r (.slice la r.list.length c) := by rw [f2.mm (lt_of_fz h.zp) (by simp), h.mp]
  unfold ChR
  rw [ch19 hk]
  cases hh : hasN a.s r.list
  · try simp (maxDischargeDepth := 8) [↓sC, sB, sM]
    have he : ({ r with list := r.list.filter fun x => !decide (x.name = a.s) } : RecP) = r := by rw [filter_off hh]
    rw [he]
    exact ⟨rfl, frpq f2, fun _ => ChE.same h f2⟩
  · have hat := has_at hpw hi
    rw [hh] at hat
    obtain ⟨x, hx⟩ : ∃ x, r.list[i]? = some x := by
      cases hx : r.list[i]? with
      | none => rw [hx] at hat; cases hat
      | some x => exact ⟨x, rfl⟩
    rw [hx] at hat
    have hxn : x.name = a.s := by simpa using hat.symm
    have hil := (List.getElem?_eq_some_iff.1 hx).1
    have hfil := filter_at hpw hx hxn
    have e1 : IntKind.i64.wrap ((i : Int) + 1) = ((i + 1 : Nat) : Int) := wrap64 (by omega) (by omega)
    try simp (maxDischargeDepth := 8) [↓sC, sB, sM, hmp2]
    refine (cloneOwn_spec (h.isr.1.fr0 f2) (by omega)).call ?_
    rintro _ w2 ⟨a2, c2, rfl, hown, f3⟩
    have f4 := f2.trans0 f3
    try simp (maxDischargeDepth := 8) [↓sC, sB, sM, e1, -Int.natCast_add]
    refine (delete_spec hown hil (by omega)).call ?_
    rintro _ w3 ⟨a3, c3, rfl, hrd, hbs, f5⟩
    obtain ⟨M, hM⟩ : ∃ M, M = (r.list.take i ++ r.list.drop (i + 1)).length := ⟨_, rfl⟩
    rw [← hM] at hrd hbs ⊢
    have f6 : Fr [] w w3 := f4.trans f5 (fun k hk' => .inr (by have := (hown.lt k (by simpa using hk')).1; have := f2.size; omega))
    have hmp3 : mm w3 p = rcV r (.slice la r.list.length c) := by rw [f6.mm (lt_of_fz h.zp) (by simp), h.mp]
    have hzp3 : fz w3 p = false := by rw [f6.fz (lt_of_fz h.zp) (by simp), h.zp]
    have hset : ∀ v, (rcV r (.slice la r.list.length c)).set 7 v = rcV { r with list := r.list.filter fun x => !decide (x.name = a.s) } v := fun _ => rfl
    try simp (maxDischargeDepth := 8) [↓sC, sB, sM, hmp3, hzp3, hset]
    refine ⟨rfl, frp f6 _, ?_⟩
    refine fun _ => ChE.list h f6 (L := r.list.filter fun x => !decide (x.name = a.s)) (by rw [hfil]; exact hM) (by rw [hfil]; exact hrd) (fun k hk' => by have := hbs k hk'; have := f2.size; omega) fun x hx => h.isr.2.2.2.2.2.2.2 x (List.mem_filter.1 hx).1
end
end Go.Proofs.YtieejbkbdfccdaaDoor

set_option linter.unusedVariables false
set_option linter.unusedSimpArgs false
namespace Go.Proofs.YtieejbkbdfccdaaDoor
open Go

theorem bf80_name {w : World} {s : List UInt8} : pBuild P 80 [(1, strB s)] w = some (.agg (itemV ⟨0, s⟩).toArray, w) := by
  rw [bf80 (by intro p hp; simp only [List.mem_cons, List.not_mem_nil, or_false] at hp; subst hp; exact ⟨by simp, oc_strB _⟩)]
  rfl
section
variable {w : World} {p q : Nat} {r : RecP} {la lb : Option Addr} {c n d : Nat} {a : ActP}
def InsR (D : World) (L : List ItemP) (i : Nat) (x : ItemP) (v : Value) (w' : World) : Prop :=
  ∃ (a' : Option Addr) (c' : Nat), v = .slice a' (L.length + 1) c' ∧ RdV w' (.slice a' (L.length + 1) c') (L.length + 1) (flat itemV (L.take i ++ x :: L.drop i)) ∧ (∀ k, (Value.slice a' (L.length + 1) c').ownBlock = some k → sz D ≤ k) ∧ Fr [] D w'
theorem insA {D w2 : World} {L : List ItemP} {i : Nat} {x : ItemP} {a2 : Option Addr} {c2 : Nat} (hown : w2.ownsRow (sz D) 80 2 (.slice a2 L.length c2) L.length (flat itemV L)) (f : Fr [] D w2) (hi : i ≤ L.length) (hL : L.length ≤ 1000) :
    Ret P 99 #[.slice a2 L.length c2, i64 i, sl (sz w2) 0 1 1] (nw w2 (itemV x) 80) fun v w' => InsR D L i x v w' := by
  have fN : Fr [] w2 (nw w2 (itemV x) 80) := (Fr.refl [] w2).nw _ _
  have hs := f.size
  refine (insert_spec (own_fr hown fN (by simp)) (by rw [sz_nw]; omega) hi hL (rd_new w2 (itemV x) 80 (by unfold maxLen; omega)) (by simp [fz_nw]) (fun k hk e => by have := (hown.lt k hk).2; unfold sz at e; omega)).mono ?_
  rintro v w' ⟨a', c', rfl, h1, h2, h3⟩
  refine ⟨a', c', rfl, h1, h2, ?_⟩
  exact (f.trans0 fN).trans h3 (fun k hk => .inr ((hown.lt k (by simpa using hk)).1))
theorem insB {D w2 : World} {L : List ItemP} {i : Nat} {x : ItemP} {a2 : Option Addr} {c2 : Nat} (hown : w2.ownsRow (sz (nw D (itemV x) 80)) 80 2 (.slice a2 L.length c2) L.length (flat itemV L)) (f : Fr [] (nw D (itemV x) 80) w2) (hi : i ≤ L.length) (hL : L.length ≤ 1000) :
    Ret P 99 #[.slice a2 L.length c2, i64 i, sl (sz D) 0 1 1] w2 fun v w' => InsR D L i x v w' := by
  have fN : Fr [] D (nw D (itemV x) 80) := (Fr.refl [] D).nw _ _
  have hs := f.size
  rw [sz_nw] at hown hs
  refine (insert_spec hown hs hi hL ((rd_new D (itemV x) 80 (by unfold maxLen; omega)).fr0 f) (by rw [f.fz (by rw [sz_nw]; omega) (by simp)]; simp [fz_nw]) (fun k hk e => by have := (hown.lt k hk).1; omega)).mono ?_
  rintro v w' ⟨a', c', rfl, h1, h2, h3⟩
  refine ⟨a', c', rfl, h1, fun k hk => by have := h2 k hk; omega, ?_⟩
  exact (fN.trans0 f).trans h3 (fun k hk => .inr (by have := (hown.lt k (by simpa using hk)).1; omega))
set_option maxHeartbeats 4000000 in
set_option maxRecDepth 20000 in
theorem chg18 (h : ChS w p q r (.slice la r.list.length c)) (hk : a.kind = 18) (hr : Fit' r) (hrk : r.kind = 8) : Ret P 92 #[pt p 0, .agg (acV a (.slice lb n d)).toArray, pt q 0] w fun v w' => ChR w p q r (.slice la r.list.length c) a v w' := by
  refine F92ok ?_
  unfold F92
  obtain ⟨W, hW, fW, mW, sW⟩ := bx w a (.slice lb n d)
  have hmp : mm W p = rcV r (.slice la r.list.length c) := by rw [fW.mm (lt_of_fz h.zp) (by simp), h.mp]
  have hl := list1000 hr.1
  have hpw := set_pw hr hrk
  try simp (maxDischargeDepth := 8) [↓sC, sB, sM, acC, ← hW, mW, hmp]
  refine (find_spec (s := a.s) (h.isr.1.fr0 fW.drew) hpw (by omega)).call ?_
  rintro _ w1 ⟨i, hi, rfl, f1⟩
  have f2 := fW.drew.trans0 f1
  have hp0 := lt_of_fz h.zp
  have hmp2 : mm w1 p = rcV r (.slice la r.list.length c) := by rw [f2.mm hp0 (by simp), h.mp]
  have mW2 : mm w1 (sz w) = acV a (.slice lb n d) := by rw [f1.mm (by rw [sz_drew]; exact sW) (by simp), mm_drew, mW]
  unfold ChR
  rw [ch18 hk]
  cases hh : hasN a.s r.list
  rotate_left
  · try simp (maxDischargeDepth := 8) [↓sC, sB, sM]
    exact ⟨rfl, frpq f2, fun _ => ChE.same h f2⟩
  by_cases hcap : r.cap ≤ r.list.length
  · try simp (maxDischargeDepth := 8) [↓sC, sB, sM, hmp2, hcap]
    exact ⟨rfl, (frpq f2).drew, fun h => absurd h (by simp [anC])⟩
  have hins := insN_at hi
  have hil := hi.1
  have hlen : (insN a.s r.list).length = r.list.length + 1 := len_insN _ _
  have hoI : ∀ x ∈ insN a.s r.list, okI x := fun x hx => by
    rcases mem_insN hx with rfl | hx
    · show (0 : Nat) < _; unfold H63; omega
    · exact h.isr.2.2.2.2.2.2.2 x hx
  try simp (maxDischargeDepth := 8) [↓sC, sB, sM, hmp2, hcap]
  refine drawE_of (fun e w' => ∃ (l : Option Addr) (c' : Nat) (w2 : World), w' = wr w2 p (rcV { r with list := insN a.s r.list } (.slice l (r.list.length + 1) c')) ∧ Fr [] w w2 ∧ RdV w2 (.slice l (r.list.length + 1) c') (r.list.length + 1) (flat itemV (insN a.s r.list)) ∧ ∀ k, (Value.slice l (r.list.length + 1) c').ownBlock = some k → sz w ≤ k) ?_ ?_
  · intro k kp hkk
    have D0 : Fr [] w (drew (drew w1)) := f2.drew.drew
    have hset : ∀ v, (rcV r (.slice la r.list.length c)).set 7 v = rcV { r with list := insN a.s r.list } v := fun _ => rfl
    have D0w : Fr [] w1 (drew (drew w1)) := ((Fr.refl [] w1).drew).drew
    obtain ⟨D, hD⟩ : ∃ D, D = drew (drew w1) := ⟨_, rfl⟩
    have hspz : ∀ x : ItemP, splice [Value.float FloatKind.f64 0, Value.string ByteArray.empty] 0 (itemV x) = itemV x := fun _ => splice_full rfl
    have fin : ∀ (w3 : World) (v : Value) (a3 : Option Addr) (c3 : Nat) (e : Env), v = .slice a3 (r.list.length + 1) c3 → Fr [] w w3 → RdV w3 (.slice a3 (r.list.length + 1) c3) (r.list.length + 1) (flat itemV (r.list.take i ++ ⟨0, a.s⟩ :: r.list.drop i)) → (∀ k, (Value.slice a3 (r.list.length + 1) c3).ownBlock = some k → sz w ≤ k) →
        k e (wr w3 p (rcV { r with list := insN a.s r.list } (.slice a3 (r.list.length + 1) c3))) := fun w3 v a3 c3 e _ f3 hrd hbs => hkk _ _ ⟨a3, c3, w3, rfl, f3, by rw [hins]; exact hrd, hbs⟩
    have keepP : ∀ {w' : World}, Fr [] w w' → mm w' p = rcV r (.slice la r.list.length c) := fun h' => by rw [h'.mm hp0 (by simp), h.mp]
    have keepZ : ∀ {w' : World}, Fr [] w w' → fz w' p = false := fun h' => by rw [h'.fz hp0 (by simp), h.zp]
    have keepW : ∀ {w' : World}, Fr [] w1 w' → mm w' (sz w) = acV a (.slice lb n d) := fun h' => by rw [h'.mm (f1.lt (by rw [sz_drew]; exact sW)) (by simp), mW2]
    have sD : sz w ≤ sz (drew (drew w1)) := D0.size
    have hpn : ¬ p = sz w1 := by have := f2.size; omega
    try simp (maxDischargeDepth := 8) [↓sC, sB, sM, hmp2, mW2, hspz, hpn]
    refine ⟨?_, ?_, ?_⟩
    · refine (cloneOwn_spec (h.isr.1.fr0 D0) (by omega)).call ?_
      rintro _ w2 ⟨a2, c2, rfl, hown, f3⟩
      have k2 := keepW (D0w.trans0 f3)
      try simp (maxDischargeDepth := 8) [↓sC, sB, sM, k2]
      refine (insA (x := ⟨0, a.s⟩) hown f3 hil (by omega)).call ?_
      rintro _ w3 ⟨a3, c3, rfl, hrd, hbs, f4⟩
      have F4 := D0.trans0 f4
      have kp3 := keepP F4
      have kz3 := keepZ F4
      try simp (maxDischargeDepth := 8) [↓sC, sB, sM, kp3, kz3, hset]
      exact fin _ _ _ _ _ rfl F4 hrd (fun k hk => by have := hbs k hk; omega)
    · refine (cloneOwn_spec (h.isr.1.fr0 D0) (by omega)).call ?_
      rintro _ w2 ⟨a2, c2, rfl, hown, f3⟩
      try simp (maxDischargeDepth := 8) [↓sC, sB, sM]
      refine (insA (x := ⟨0, a.s⟩) hown f3 hil (by omega)).call ?_
      rintro _ w3 ⟨a3, c3, rfl, hrd, hbs, f4⟩
      have F4 := D0.trans0 f4
      have kp3 := keepP F4
      have kz3 := keepZ F4
      try simp (maxDischargeDepth := 8) [↓sC, sB, sM, kp3, kz3, hset]
      exact fin _ _ _ _ _ rfl F4 hrd (fun k hk => by have := hbs k hk; omega)
    · refine (cloneOwn_spec (h.isr.1.fr0 (D0.nw (itemV ⟨0, a.s⟩) 80)) (by omega)).call ?_
      rintro _ w2 ⟨a2, c2, rfl, hown, f3⟩
      try simp (maxDischargeDepth := 8) [↓sC, sB, sM]
      refine (insB (x := ⟨0, a.s⟩) hown f3 hil (by omega)).call ?_
      rintro _ w3 ⟨a3, c3, rfl, hrd, hbs, f4⟩
      have F4 := D0.trans0 f4
      have kp3 := keepP F4
      have kz3 := keepZ F4
      try simp (maxDischargeDepth := 8) [↓sC, sB, sM, kp3, kz3, hset]
      exact fin _ _ _ _ _ rfl F4 hrd (fun k hk => by have := hbs k hk; omega)
  · rintro e w' ⟨l, c', w2, rfl, f3, hrd, hbs⟩
    refine ⟨rfl, frp f3 _, fun _ => ?_⟩
    exact ChE.list h f3 (L := insN a.s r.list) hlen.symm hrd hbs hoI
end
end Go.Proofs.YtieejbkbdfccdaaDoor

set_option linter.unusedVariables false
set_option linter.unusedSimpArgs false
namespace Go.Proofs.YtieejbkbdfccdaaDoor
open Go

theorem insT_at {x : ItemP} : ∀ {L : List ItemP} {i : Nat}, i ≤ L.length → (∀ j y, j < i → L[j]? = some y → aheadB y x = true) → (∀ y, L[i]? = some y → aheadB y x = false) →
    insT x L = (match L[i]? with | some y => if aheadB x y = true then L.take i ++ x :: L.drop i else L | none => L.take i ++ x :: L.drop i)
  | [], i, h, _, _ => by
    have : i = 0 := by simpa using h
    subst this; rfl
  | y :: L, 0, _, _, h => by
    have := h y rfl
    simp only [insT, this, List.getElem?_cons_zero, List.take_zero, List.drop_zero, List.nil_append]
    simp
  | y :: L, i + 1, hi, hlo, h => by
    have h0 := hlo 0 y (by omega) rfl
    have ih := insT_at (x := x) (L := L) (i := i) (by simpa using hi) (fun j z hj hz => hlo (j + 1) z (by omega) (by simpa using hz)) (fun z hz => h z (by simpa using hz))
    simp only [insT, h0, if_true, ih, List.getElem?_cons_succ, List.take_succ_cons, List.drop_succ_cons, List.cons_append]
    cases L[i]? with
    | none => rfl
    | some z => simp only; split <;> rfl
theorem bf80_item {w : World} {x : Nat} {s : List UInt8} : pBuild P 80 [(0, fl x), (1, strB s)] w = some (.agg (itemV ⟨x, s⟩).toArray, w) := by
  rw [bf80 (by intro p hp; simp only [List.mem_cons, List.not_mem_nil, or_false] at hp; rcases hp with rfl | rfl; exact ⟨by simp, rfl⟩; exact ⟨by simp, oc_strB _⟩)]
  rfl
section
variable {w : World} {p q : Nat} {r : RecP} {la lb : Option Addr} {c n d : Nat} {a : ActP}
def OfI (w0 : World) (p qx q : Nat) (r : RecP) (lv : Value) (x : ItemP) (m : Nat) (e : Env) (w' : World) : Prop :=
  ∃ j : Nat, m = r.list.length - j ∧ j ≤ r.list.length ∧ (∀ k y, k < j → r.list[k]? = some y → aheadB y x = true) ∧ mm w' p = rcV r lv ∧ mm w' qx = itemV x ∧ qx < sz w' ∧ Fr [] w0 w' ∧ e 0 = pt p 0 ∧ e 7 = pt qx 0 ∧ e 8 = i64 j
set_option maxHeartbeats 4000000 in
set_option maxRecDepth 20000 in
theorem chg21 (h : ChS w p q r (.slice la r.list.length c)) (hk : a.kind = 21) (hr : Fit' r) (hrk : r.kind = 9) (ha : a.x < 2 * H63) : Ret P 97 #[pt p 0, .agg (acV a (.slice lb n d)).toArray, pt q 0] w fun v w' => ChR w p q r (.slice la r.list.length c) a v w' := by
  refine F97ok ?_
  unfold F97
  obtain ⟨W, hW, fW, mW, sW⟩ := bx w a (.slice lb n d)
  have hp0 := lt_of_fz h.zp
  have hl := list1000 hr.1
  obtain ⟨hits, hlc, hc32, hc1⟩ := fit_items hr (.inr hrk)
  obtain ⟨x, hx⟩ : ∃ x : ItemP, x = ⟨a.x, a.s⟩ := ⟨_, rfl⟩
  have hxok : okI x := by rw [hx]; exact ha
  have hbf : ∀ w, pBuild P 80 [(0, fl a.x), (1, strB a.s)] w = some (.agg (itemV x).toArray, w) := fun w => by rw [hx]; exact bf80_item
  have hspz : ∀ x : ItemP, splice [Value.float FloatKind.f64 0, Value.string ByteArray.empty] 0 (itemV x) = itemV x := fun _ => splice_full rfl
  have len2 : ∀ x : ItemP, (itemV x).length = 2 := fun _ => rfl
  have t2 : ∀ x : ItemP, (itemV x).take 2 = itemV x := fun _ => rfl
  obtain ⟨W1, hW1⟩ : ∃ W1, W1 = wr (nw W [Value.float FloatKind.f64 0, Value.string ByteArray.empty] 80) (sz W) (itemV x) := ⟨_, rfl⟩
  have f1 : Fr [] W W1 := by rw [hW1]; exact ((Fr.refl [] W).nw _ _).wr (.inr (Nat.le_refl _)) _
  have m1 : mm W1 (sz W) = itemV x := by rw [hW1]; exact mm_wr_same (by simp [fz_nw]) _
  have s1 : sz W < sz W1 := by rw [hW1, sz_wr, sz_nw]; omega
  have F1 := fW.trans0 f1
  try simp (maxDischargeDepth := 8) [↓sC, sB, sM, acC, ← hW, mW, hbf, hspz, len2, itemV_oneT, ← hW1, -bf80]
  refine loopE_of (OfI w p (sz W) q r (.slice la r.list.length c) x) r.list.length ⟨0, by omega, by omega, (fun k y hk _ => absurd hk (by omega)), by rw [F1.mm hp0 (by simp), h.mp], m1, s1, F1, by simp [put_get, argE_get], by simp [put_get], by simp [put_get]⟩ ?_
  rintro m e w1 ⟨j, rfl, hj, hlo, hmp, hmq, hsq, hf, e0, e7, e8⟩
  unfold F97B0
  have keepP : ∀ {w' : World}, Fr [] w w' → mm w' p = rcV r (.slice la r.list.length c) := fun h' => by rw [h'.mm hp0 (by simp), h.mp]
  have keepZ : ∀ {w' : World}, Fr [] w w' → fz w' p = false := fun h' => by rw [h'.fz hp0 (by simp), h.zp]
  have keepX : ∀ {w' : World}, Fr [] w1 w' → mm w' (sz W) = itemV x := fun h' => by rw [h'.mm hsq (by simp), hmq]
  -- what comes behind the loop
  have hcm : changeM r a = ({ r with list := (insT x r.list).take r.cap.toNat }, anC 0) := by rw [ch21 hk, hx]
  obtain ⟨CC, hCC⟩ : ∃ CC : Nat, r.cap = CC := ⟨r.cap.toNat, by omega⟩
  have hct : r.cap.toNat = CC := by omega
  have hoI : ∀ y ∈ (insT x r.list).take r.cap.toNat, okI y := fun y hy => by
    rcases mem_insT (List.mem_of_mem_take hy) with rfl | hy
    · exact hxok
    · exact h.isr.2.2.2.2.2.2.2 y hy
  by_cases hjl : j < r.list.length
  · have hjli : (j : Int) < r.list.length := by omega
    obtain ⟨y, hy⟩ : ∃ y, r.list[j]? = some y := ⟨_, List.getElem?_eq_getElem hjl⟩
    have hyok := h.isr.2.2.2.2.2.2.2 y (List.mem_of_getElem? hy)
    obtain ⟨b, o, c', hv, hb, hin, htk⟩ := flat_at (h.isr.1.fr0 hf) (itemV_len _) (by omega) hy
    simp only [Value.slice.injEq] at hv
    obtain ⟨rfl, _, rfl⟩ := hv
    try simp (maxDischargeDepth := 8) [↓sC, sB, sM, e0, e7, e8, hmp, hmq, hjl, hjli, hin, htk, len2, t2]
    refine (better_spec hyok hxok).call ?_
    rintro _ w2 ⟨rfl, f2⟩
    have hwj : IntKind.i64.wrap ((j : Int) + 1) = ((j + 1 : Nat) : Int) := wrap64 (by omega) (by omega)
    have F2 := hf.drew.trans0 f2
    have G2 : Fr [] w1 w2 := ((Fr.refl [] w1).drew).trans0 f2
    cases hah : aheadB y x
    · have kp2 := keepP F2
      have kx2 := keepX G2
      obtain ⟨_, hin2, htk2⟩ := flat_at2 (h.isr.1.fr0 F2) (itemV_len _) (by omega) hy
      try simp (maxDischargeDepth := 8) [↓sC, sB, sM, hah, e0, e7, e8, kp2, kx2, hjl, hjli, hin2, htk2, len2, t2]
      refine (better_spec hxok hyok).call ?_
      rintro _ w3 ⟨rfl, f3⟩
      have F3 := F2.drew.trans0 f3
      have G3 := G2.drew.trans0 f3
      have hins0 := insT_at (x := x) hj hlo (fun z hz => by rw [hy] at hz; cases hz; exact hah)
      rw [hy] at hins0
      cases hxa : aheadB x y
      · have hins1 : insT x r.list = r.list := by rw [hins0]; simp [hxa]
        try simp (maxDischargeDepth := 8) [↓sC, sB, sM, hxa, e0, e7, e8]
        unfold ChR
        rw [hcm, hins1, List.take_of_length_le (by omega)]
        exact ⟨rfl, frpq F3, fun _ => ChE.same h F3⟩
      have hins : insT x r.list = r.list.take j ++ x :: r.list.drop j := by rw [hins0]; simp [hxa]
      have kpT := keepP F3
      have kxT := keepX G3
      have hpn : ¬ p = sz w3 := by have := F3.size; omega
      have hxn : ¬ sz W = sz w3 := by have := G3.size; omega
      have kpD := keepP F3.drew
      try simp only [sz_drew] at hpn hxn
      try simp (maxDischargeDepth := 8) [↓sC, sB, sM, e0, e7, e8]
      refine drawE_of (fun e' w' => e' 0 = pt p 0 ∧ ∃ (l : Option Addr) (c' : Nat), e' 9 = .slice l (r.list.length + 1) c' ∧ Fr [] w w' ∧ RdV w' (.slice l (r.list.length + 1) c') (r.list.length + 1) (flat itemV (insT x r.list)) ∧ ∀ k, (Value.slice l (r.list.length + 1) c').ownBlock = some k → sz w ≤ k) ?_ ?_
      · intro k kp hkk
        have D0 : Fr [] w (drew w3) := F3.drew
        have sD := D0.size
        try simp (maxDischargeDepth := 8) [↓sC, sB, sM, e0, e7, e8, kpT, kxT, hspz, len2, t2, hpn, hxn]
        refine ⟨?_, ?_⟩
        · refine (cloneOwn_spec (h.isr.1.fr0 D0) (by omega)).call ?_
          rintro _ w5 ⟨a2, c2, rfl, hown, f5⟩
          have kx5 := keepX (G3.drew.trans0 f5)
          try simp (maxDischargeDepth := 8) [↓sC, sB, sM, kx5, hspz, len2, t2]
          refine (insA (x := x) hown f5 hj (by omega)).call ?_
          rintro _ w6 ⟨a3, c3, rfl, hrd, hbs, f6⟩
          exact hkk _ _ ⟨by simp [put_get, e0], a3, c3, by simp [put_get], D0.trans0 f6, by rw [hins]; exact hrd, fun k hk => by have := hbs k hk; omega⟩
        · refine (cloneOwn_spec (h.isr.1.fr0 (D0.nw (itemV x) 80)) (by omega)).call ?_
          rintro _ w5 ⟨a2, c2, rfl, hown, f5⟩
          try simp (maxDischargeDepth := 8) [↓sC, sB, sM]
          refine (insB (x := x) hown f5 hj (by omega)).call ?_
          rintro _ w6 ⟨a3, c3, rfl, hrd, hbs, f6⟩
          exact hkk _ _ ⟨by simp [put_get, e0], a3, c3, by simp [put_get], D0.trans0 f6, by rw [hins]; exact hrd, fun k hk => by have := hbs k hk; omega⟩
      · rintro e' w' ⟨e0', l, c', e9', f7, hrd, hbs⟩
        obtain ⟨b2, o2, hl2⟩ : ∃ b2 o2, l = some ⟨b2, o2, none⟩ ∧ r.list.length + 1 ≤ c' := by
          rcases hrd with ⟨_, _, _, h0, _⟩ | ⟨b', o', c'', hv, h1, _⟩
          · omega
          · simp only [sl, Value.slice.injEq] at hv
            obtain ⟨rfl, _, rfl⟩ := hv
            exact ⟨b', o', rfl, h1⟩
        obtain ⟨rfl, hcl⟩ := hl2
        have kp7 := keepP f7
        have kz7 := keepZ f7
        obtain ⟨M, hM⟩ : ∃ M, M = min (r.list.length + 1) CC := ⟨_, rfl⟩
        have hMi : min ((r.list.length + 1 : Nat) : Int) r.cap = (M : Int) := by omega
        have hM0 : (0 : Int) ≤ M := by omega
        have hM1 : (M : Int) ≤ c' := by omega
        have hset : ∀ lv v, (rcV r lv).set 7 v = rcV { r with list := (insT x r.list).take r.cap.toNat } v := fun _ _ => rfl
        have hlenT : (insT x r.list).length = r.list.length + 1 := by rw [hins, List.length_append, List.length_cons, List.length_take, List.length_drop]; omega
        try simp (maxDischargeDepth := 8) [↓sC, sB, sM, e0', e9', kp7, kz7, hMi, hM0, hM1, hcl, hset, -Int.natCast_add]
        unfold ChR
        rw [hcm]
        refine ⟨rfl, frp f7 _, fun _ => ?_⟩
        have htk3 : (insT x r.list).take r.cap.toNat = (insT x r.list).take M := by
          rw [hct]
          rcases Nat.le_total (r.list.length + 1) CC with h' | h'
          · rw [List.take_of_length_le (by omega), List.take_of_length_le (by omega)]
          · rw [hM, Nat.min_eq_right h']
        have hrt := rd_take (L := insT x r.list) hrd hlenT.symm (m := M) (by omega)
        rw [← htk3] at hrt
        exact ChE.list h f7 (L := (insT x r.list).take r.cap.toNat) (by rw [htk3, List.length_take]; omega) hrt (fun k hk => hbs k (by simpa [Value.ownBlock] using hk)) hoI
    · try simp (maxDischargeDepth := 8) [↓sC, sB, sM, hah, e0, e7, e8, hwj, -Int.natCast_add]
      exact ⟨r.list.length - (j + 1), by omega, j + 1, rfl, by omega, fun k z hk hz => by
        rcases Nat.lt_or_ge k j with h' | h'
        · exact hlo k z h' hz
        · obtain rfl : k = j := by omega
          rw [hy] at hz; cases hz; exact hah, keepP F2, keepX G2, G2.lt hsq, F2, by simp [put_get, e0], by simp [put_get, e7], by simp [put_get]⟩
  · have : j = r.list.length := by omega
    subst this
    try simp (maxDischargeDepth := 8) [↓sC, sB, sM, e0, e7, e8, hmp, hmq, len2, t2]
    have hins0 := insT_at (x := x) hj hlo (fun z hz => absurd (List.getElem?_eq_some_iff.1 hz).1 (by omega))
    rw [List.getElem?_eq_none (Nat.le_refl _)] at hins0
    have hins : insT x r.list = r.list.take r.list.length ++ x :: r.list.drop r.list.length := hins0
    have FT := hf.drew.drew
    have GT : Fr [] w1 (drew (drew w1)) := ((Fr.refl [] w1).drew).drew
    have kpT := keepP FT
    have kxT := keepX GT
    have hpn : ¬ p = sz (drew (drew w1)) := by have := FT.size; omega
    have hxn : ¬ sz W = sz (drew (drew w1)) := by have := GT.size; omega
    have kpD := keepP FT.drew
    try simp only [sz_drew] at hpn hxn
    try simp (maxDischargeDepth := 8) [↓sC, sB, sM, e0, e7, e8]
    refine drawE_of (fun e' w' => e' 0 = pt p 0 ∧ ∃ (l : Option Addr) (c' : Nat), e' 9 = .slice l (r.list.length + 1) c' ∧ Fr [] w w' ∧ RdV w' (.slice l (r.list.length + 1) c') (r.list.length + 1) (flat itemV (insT x r.list)) ∧ ∀ k, (Value.slice l (r.list.length + 1) c').ownBlock = some k → sz w ≤ k) ?_ ?_
    · intro k kp hkk
      have D0 : Fr [] w (drew (drew (drew w1))) := FT.drew
      have sD := D0.size
      try simp (maxDischargeDepth := 8) [↓sC, sB, sM, e0, e7, e8, kpT, kxT, hspz, len2, t2, hpn, hxn]
      refine ⟨?_, ?_⟩
      · refine (cloneOwn_spec (h.isr.1.fr0 D0) (by omega)).call ?_
        rintro _ w5 ⟨a2, c2, rfl, hown, f5⟩
        have kx5 := keepX (GT.drew.trans0 f5)
        try simp (maxDischargeDepth := 8) [↓sC, sB, sM, kx5, hspz, len2, t2]
        refine (insA (x := x) hown f5 hj (by omega)).call ?_
        rintro _ w6 ⟨a3, c3, rfl, hrd, hbs, f6⟩
        exact hkk _ _ ⟨by simp [put_get, e0], a3, c3, by simp [put_get], D0.trans0 f6, by rw [hins]; exact hrd, fun k hk => by have := hbs k hk; omega⟩
      · refine (cloneOwn_spec (h.isr.1.fr0 (D0.nw (itemV x) 80)) (by omega)).call ?_
        rintro _ w5 ⟨a2, c2, rfl, hown, f5⟩
        try simp (maxDischargeDepth := 8) [↓sC, sB, sM]
        refine (insB (x := x) hown f5 hj (by omega)).call ?_
        rintro _ w6 ⟨a3, c3, rfl, hrd, hbs, f6⟩
        exact hkk _ _ ⟨by simp [put_get, e0], a3, c3, by simp [put_get], D0.trans0 f6, by rw [hins]; exact hrd, fun k hk => by have := hbs k hk; omega⟩
    · rintro e' w' ⟨e0', l, c', e9', f7, hrd, hbs⟩
      obtain ⟨b2, o2, hl2⟩ : ∃ b2 o2, l = some ⟨b2, o2, none⟩ ∧ r.list.length + 1 ≤ c' := by
        rcases hrd with ⟨_, _, _, h0, _⟩ | ⟨b', o', c'', hv, h1, _⟩
        · omega
        · simp only [sl, Value.slice.injEq] at hv
          obtain ⟨rfl, _, rfl⟩ := hv
          exact ⟨b', o', rfl, h1⟩
      obtain ⟨rfl, hcl⟩ := hl2
      have kp7 := keepP f7
      have kz7 := keepZ f7
      obtain ⟨M, hM⟩ : ∃ M, M = min (r.list.length + 1) CC := ⟨_, rfl⟩
      have hMi : min ((r.list.length + 1 : Nat) : Int) r.cap = (M : Int) := by omega
      have hM0 : (0 : Int) ≤ M := by omega
      have hM1 : (M : Int) ≤ c' := by omega
      have hset : ∀ lv v, (rcV r lv).set 7 v = rcV { r with list := (insT x r.list).take r.cap.toNat } v := fun _ _ => rfl
      have hlenT : (insT x r.list).length = r.list.length + 1 := by rw [hins, List.length_append, List.length_cons, List.length_take, List.length_drop]; omega
      try simp (maxDischargeDepth := 8) [↓sC, sB, sM, e0', e9', kp7, kz7, hMi, hM0, hM1, hcl, hset, -Int.natCast_add]
      unfold ChR
      rw [hcm]
      refine ⟨rfl, frp f7 _, fun _ => ?_⟩
      have htk3 : (insT x r.list).take r.cap.toNat = (insT x r.list).take M := by
        rw [hct]
        rcases Nat.le_total (r.list.length + 1) CC with h' | h'
        · rw [List.take_of_length_le (by omega), List.take_of_length_le (by omega)]
        · rw [hM, Nat.min_eq_right h']
      have hrt := rd_take (L := insT x r.list) hrd hlenT.symm (m := M) (by omega)
      rw [← htk3] at hrt
      exact ChE.list h f7 (L := (insT x r.list).take r.cap.toNat) (by rw [htk3, List.length_take]; omega) hrt (fun k hk => hbs k (by simpa [Value.ownBlock] using hk)) hoI
end
end Go.Proofs.YtieejbkbdfccdaaDoor

set_option linter.unusedVariables false
set_option linter.unusedSimpArgs false
namespace Go.Proofs.YtieejbkbdfccdaaDoor
open Go

theorem callVc {f : FuncId} {args : List Value} {caps : Array Value} {w : World} {K : Value → World → Prop} {KP : List PanicEntry → World → Prop} (hC : C f = true) (h : callE P f (args.toArray ++ caps) w K KP) : callVE P C (.func (.func f) #[] caps) args w K KP :=
  ⟨f, #[], caps, rfl, hC, by simpa using h⟩
def chT (s1 s2 s3 s4 s5 : Nat) : List Value := List.foldl (fun l p => l.set p.1 p.2) (List.replicate 22 Value.nilFunc) [(5, Value.func (.func 81) #[] #[]), (6, Value.func (.func 82) #[] #[]), (7, Value.func (.func 83) #[] #[]), (8, Value.func (.func 84) #[] #[]), (9, Value.func (.func 85) #[] #[]), (12, Value.func (.func 85) #[] #[]), (10, Value.func (.func 86) #[] #[]), (11, Value.func (.func 87) #[] #[]), (13, Value.func (.func 98) #[] #[pt s1 0]), (14, Value.func (.func 98) #[] #[pt s2 0]), (15, Value.func (.func 98) #[] #[pt s3 0]), (16, Value.func (.func 98) #[] #[pt s4 0]), (17, Value.func (.func 98) #[] #[pt s5 0]), (18, Value.func (.func 92) #[] #[]), (19, Value.func (.func 93) #[] #[]), (20, Value.func (.func 96) #[] #[]), (21, Value.func (.func 97) #[] #[])]
structure ChTab (w : World) (s1 s2 s3 s4 s5 : Nat) : Prop where
  m1 : mm w s1 = [.func (.func 44) #[] #[]] ∧ s1 < sz w
  m2 : mm w s2 = [.func (.func 45) #[] #[]] ∧ s2 < sz w
  m3 : mm w s3 = [.func (.func 89) #[] #[]] ∧ s3 < sz w
  m4 : mm w s4 = [.func (.func 90) #[] #[]] ∧ s4 < sz w
  m5 : mm w s5 = [.func (.func 91) #[] #[]] ∧ s5 < sz w
theorem realL_spec {w : World} {v : Value} (hv : v.cells.toList = [v]) : Ret P 88 #[v] w fun x w' => x = .func (.func 98) #[] #[pt (sz w) 0] ∧ mm w' (sz w) = [v] ∧ sz w < sz w' ∧ Fr [] w w' := by
  refine F88ok ?_
  unfold F88
  try simp (maxDischargeDepth := 8) [↓sC, sB, sM, hv, pFunc_eq]
set_option maxHeartbeats 1000000 in
theorem changesAll_spec {w : World} : Ret P 73 #[] w fun v w' => ∃ s1 s2 s3 s4 s5, v = .agg (chT s1 s2 s3 s4 s5).toArray ∧ ChTab w' s1 s2 s3 s4 s5 ∧ Fr [] w w' := by
  refine F73ok ?_
  unfold F73
  obtain ⟨W, hW⟩ : ∃ W, W = nw w [Value.nilFunc, Value.nilFunc, Value.nilFunc, Value.nilFunc, Value.nilFunc, Value.nilFunc, Value.nilFunc, Value.nilFunc, Value.nilFunc, Value.nilFunc, Value.nilFunc, Value.nilFunc, Value.nilFunc, Value.nilFunc, Value.nilFunc, Value.nilFunc, Value.nilFunc, Value.nilFunc, Value.nilFunc, Value.nilFunc, Value.nilFunc, Value.nilFunc] 123 := ⟨_, rfl⟩
  have fW : Fr [] w W := by rw [hW]; exact (Fr.refl [] w).nw _ _
  have hsW : sz W = sz w + 1 := by rw [hW, sz_nw]
  have hm : (mm W (sz w)).length = 22 := by rw [hW]; simp [mm_nw]
  have hz : fz W (sz w) = false := by rw [hW]; simp [fz_nw]
  try simp (maxDischargeDepth := 8) [↓sC, sB, sM, ← hW]
  refine (realL_spec rfl).call ?_
  rintro _ w1 ⟨rfl, q1, l1, f1⟩
  refine (realL_spec rfl).call ?_
  rintro _ w2 ⟨rfl, q2, l2, f2⟩
  refine (realL_spec rfl).call ?_
  rintro _ w3 ⟨rfl, q3, l3, f3⟩
  refine (realL_spec rfl).call ?_
  rintro _ w4 ⟨rfl, q4, l4, f4⟩
  refine (realL_spec rfl).call ?_
  rintro _ w5 ⟨rfl, q5, l5, f5⟩
  have f45 := f4.trans0 f5
  have f35 := f3.trans0 f45
  have f25 := f2.trans0 f35
  have f15 := f1.trans0 f25
  have hm5 : (mm w5 (sz w)).length = 22 := by rw [f15.mm (by omega) (by simp), hm]
  have hz5 : fz w5 (sz w) = false := by rw [f15.fz (by omega) (by simp), hz]
  have htab : ChTab w5 (sz W) (sz w1) (sz w2) (sz w3) (sz w4) := ⟨⟨by rw [f25.mm l1 (by simp), q1], f25.lt l1⟩, ⟨by rw [f35.mm l2 (by simp), q2], f35.lt l2⟩, ⟨by rw [f45.mm l3 (by simp), q3], f45.lt l3⟩, ⟨by rw [f5.mm l4 (by simp), q4], f5.lt l4⟩, ⟨q5, l5⟩⟩
  have hlt1 : sz w < sz W := by omega
  have hlt2 : sz w < sz w1 := by omega
  have hlt3 : sz w < sz w2 := by omega
  have hlt4 : sz w < sz w3 := by omega
  have hlt5 : sz w < sz w4 := by omega
  clear f1 f2 f3 f4 f5 f45 f35 f25 hm hz hW q1 q2 q3 q4 q5 l1 l2 l3 l4 l5
  have fW5 := fW.trans0 f15
  clear f15 fW hsW
  generalize sz W = s1 at *
  generalize sz w1 = s2 at *
  generalize sz w2 = s3 at *
  generalize sz w3 = s4 at *
  generalize sz w4 = s5 at *
  rw [pBuild_arr hasZero123 arrE123 tyOk122 cellsOf122 hz122 (by intro p hp; simp only [List.mem_cons, List.not_mem_nil, or_false] at hp; rcases hp with rfl | rfl | rfl | rfl | rfl | rfl | rfl | rfl | rfl | rfl | rfl | rfl | rfl | rfl | rfl | rfl | rfl <;> exact ⟨by simp, by rfl⟩)]
  rw [zeroL123]
  obtain ⟨cs, hcs⟩ : ∃ cs : List Value, cs = chT s1 s2 s3 s4 s5 := ⟨_, rfl⟩
  have hl : cs.length = 22 := by rw [hcs]; rfl
  have h1 : (∀ v, v ∈ cs → v.oneCell' = true) = True := by
    simp only [eq_iff_iff, iff_true]
    intro v hv
    rw [hcs] at hv
    unfold chT at hv
    simp only [List.foldl_cons, List.foldl_nil, List.replicate, List.set_cons_succ, List.set_cons_zero, List.mem_cons, List.not_mem_nil, or_false] at hv
    rcases hv with rfl | rfl | rfl | rfl | rfl | rfl | rfl | rfl | rfl | rfl | rfl | rfl | rfl | rfl | rfl | rfl | rfl | rfl | rfl | rfl | rfl | rfl <;> rfl
  have hcs' := hcs
  unfold chT at hcs'
  rw [← hcs']
  have hsp : splice (mm w5 (sz w)) 0 cs = cs := splice_full (by rw [hm5, hl])
  have t22 : cs.take 22 = cs := List.take_of_length_le (by omega)
  try simp (maxDischargeDepth := 8) [↓sC, sB, sM, hl, h1, hm5, hz5, hsp, t22]
  refine ⟨s1, s2, s3, s4, s5, hcs, ?_, fW5.wr (.inr (Nat.le_refl _)) _⟩
  obtain ⟨⟨p1, r1⟩, ⟨p2, r2⟩, ⟨p3, r3⟩, ⟨p4, r4⟩, ⟨p5, r5⟩⟩ := htab
  exact ⟨⟨by rw [mm_wr_ne (by omega), p1], by rw [sz_wr]; exact r1⟩, ⟨by rw [mm_wr_ne (by omega), p2], by rw [sz_wr]; exact r2⟩, ⟨by rw [mm_wr_ne (by omega), p3], by rw [sz_wr]; exact r3⟩, ⟨by rw [mm_wr_ne (by omega), p4], by rw [sz_wr]; exact r4⟩, ⟨by rw [mm_wr_ne (by omega), p5], by rw [sz_wr]; exact r5⟩⟩
theorem ChTab.fr0 {w w' : World} {s1 s2 s3 s4 s5 : Nat} (h : ChTab w s1 s2 s3 s4 s5) (f : Fr [] w w') : ChTab w' s1 s2 s3 s4 s5 :=
  ⟨⟨by rw [f.mm h.m1.2 (by simp), h.m1.1], f.lt h.m1.2⟩, ⟨by rw [f.mm h.m2.2 (by simp), h.m2.1], f.lt h.m2.2⟩, ⟨by rw [f.mm h.m3.2 (by simp), h.m3.1], f.lt h.m3.2⟩, ⟨by rw [f.mm h.m4.2 (by simp), h.m4.1], f.lt h.m4.2⟩, ⟨by rw [f.mm h.m5.2 (by simp), h.m5.1], f.lt h.m5.2⟩⟩
/-- Any change, out of the table. -/
def chF (s1 s2 s3 s4 s5 : Nat) (k : Int) : Value := gt (chT s1 s2 s3 s4 s5) k.toNat
theorem anV_oneT {an : AnP} {l : Option Addr} {n c : Nat} : (∀ v, v ∈ anV an (.slice l n c) → v.oneCell' = true) = True := by
  simp only [eq_iff_iff, iff_true, anV]
  intro v hv
  rcases List.mem_append.1 hv with hv | hv
  · simp only [List.mem_cons, List.not_mem_nil, or_false] at hv
    rcases hv with rfl | rfl <;> rfl
  · exact rcV_one v hv
theorem fOk49 : fieldsOk P 49 = true := by kernel_rfl
theorem bf49_code {w : World} {k : Int} : pBuild P 49 [(0, i64 k)] w = some (.agg (anV (anC k) (.slice none 0 0)).toArray, w) := by
  rw [pBuild_struct hasZero49 fOk49 (fun p hp => ?_)]
  · have e0 : offF P 49 0 = 0 := by kernel_rfl
    rw [zeroL49]
    simp only [List.foldl_cons, List.foldl_nil, e0]
    rfl
  · simp only [List.mem_cons, List.not_mem_nil, or_false] at hp
    subst hp
    exact ⟨0, 47, by kernel_rfl, by rw [cellsOf47]; rfl, by rw [zeroL49, cellsOf47]; decide⟩
theorem bf49_num {w : World} {k : Int} : pBuild P 49 [(1, i64 k)] w = some (.agg (anV ⟨0, k, rz⟩ (.slice none 0 0)).toArray, w) := by
  rw [pBuild_struct hasZero49 fOk49 (fun p hp => ?_)]
  · have e0 : offF P 49 1 = 1 := by kernel_rfl
    rw [zeroL49]
    simp only [List.foldl_cons, List.foldl_nil, e0]
    rfl
  · simp only [List.mem_cons, List.not_mem_nil, or_false] at hp
    subst hp
    exact ⟨1, 2, by kernel_rfl, by rw [cellsOf2]; rfl, by rw [zeroL49, cellsOf2]; decide⟩
theorem bf49_rec {w : World} {r : RecP} {l : Option Addr} {n c : Nat} : pBuild P 49 [(2, .agg (rcV r (.slice l n c)).toArray)] w = some (.agg (anV ⟨0, 0, r⟩ (.slice l n c)).toArray, w) := by
  rw [pBuild_struct hasZero49 fOk49 (fun p hp => ?_)]
  · have e0 : offF P 49 2 = 2 := by kernel_rfl
    rw [zeroL49]
    simp only [List.foldl_cons, List.foldl_nil, e0]
    rfl
  · simp only [List.mem_cons, List.not_mem_nil, or_false] at hp
    subst hp
    exact ⟨2, 25, by kernel_rfl, by rw [cellsOf25]; rfl, by rw [zeroL49, cellsOf25]; decide⟩
theorem bf49_nil {w : World} : pBuild P 49 [] w = some (.agg (anV (anC 0) (.slice none 0 0)).toArray, w) := by
  rw [pBuild_struct hasZero49 fOk49 (fun p hp => by simp at hp), zeroL49]
  rfl
theorem bf25_nil {w : World} : pBuild P 25 [] w = some (.agg (rcV rz (.slice none 0 0)).toArray, w) := by
  rw [bf25 (by simp)]; rfl
theorem stays_spec {w : World} {p t : Nat} {r : RecP} {l : Option Addr} {n c : Nat} {tb : Bool} {k : Int} (hp : mm w p = rcV r (.slice l n c)) (hp1 : p < sz w) (ht : mm w t = [.bool tb]) (ht1 : t < sz w) :
    Ret P 72 #[i64 k, pt p 0, pt t 0] w fun v w' => v = .tuple #[.agg (rcV r (.slice l n c)).toArray, .bool tb, .agg (anV (anC k) (.slice none 0 0)).toArray] ∧ Fr [] w w' := by
  refine F72ok ?_
  unfold F72
  have hz8 : [Value.int IntKind.i64 0, Value.int IntKind.i64 0, Value.int IntKind.i64 0, Value.int IntKind.i64 0, Value.float FloatKind.f64 0, Value.int IntKind.i64 0, Value.string ByteArray.empty, Value.slice none 0 0] = rcV rz (.slice none 0 0) := rfl
  have hz10 : Value.int IntKind.i64 0 :: Value.int IntKind.i64 0 :: rcV rz (.slice none 0 0) = anZ := rfl
  have t8 : ∀ r lv, (rcV r lv).take 8 = rcV r lv := fun _ _ => rfl
  have t10 : ∀ an lv, (anV an lv).take 10 = anV an lv := fun _ _ => rfl
  obtain ⟨W, hW⟩ : ∃ W, W = drew (nw (nw w (rcV rz (.slice none 0 0)) 25) anZ 49) := ⟨_, rfl⟩
  have fW : Fr [] w W := by rw [hW]; exact (((Fr.refl [] w).nw _ _).nw _ _).drew
  have n1 : ¬ p = sz w := by omega
  have n2 : ¬ p = sz w + 1 := by omega
  have n3 : ¬ t = sz w := by omega
  have n4 : ¬ t = sz w + 1 := by omega
  have kp : mm W p = rcV r (.slice l n c) := by rw [fW.mm hp1 (by simp), hp]
  have kt : mm W t = [.bool tb] := by rw [fW.mm ht1 (by simp), ht]
  have k1 : mm W (sz w) = rcV rz (.slice none 0 0) := by rw [hW]; simp [mm_nw, mm_drew, sz_nw]
  have k2 : mm W (sz w + 1) = anZ := by rw [hW]; simp [mm_nw, mm_drew, sz_nw]
  have z1 : fz W (sz w) = false := by rw [hW]; simp [fz_nw, fz_drew, sz_nw]
  have z2 : fz W (sz w + 1) = false := by rw [hW]; simp [fz_nw, fz_drew, sz_nw]
  have hsp : ∀ x l n c, splice (rcV rz (.slice none 0 0)) 0 (rcV x (.slice l n c)) = rcV x (.slice l n c) := fun _ _ _ _ => splice_full rfl
  have hsa : ∀ an l n c, splice anZ 0 (anV an (.slice l n c)) = anV an (.slice l n c) := fun _ _ _ _ => splice_full rfl
  have c1 : ¬ sz w = sz w + 1 := by omega
  have c2 : ¬ sz w + 1 = sz w := by omega
  try simp (maxDischargeDepth := 8) [↓sC, sB, sM, hz8, hz10, ← hW]
  refine drawE_of (fun e w' => w' = wr (wr W (sz w) (rcV r (.slice l n c))) (sz w + 1) (anV (anC k) (.slice none 0 0)) ∧ e 4 = pt (sz w) 0 ∧ e 5 = .bool tb ∧ e 6 = pt (sz w + 1) 0) ?_ ?_
  · intro k' kp' hkk
    obtain ⟨W1, hW1⟩ : ∃ W1, W1 = wr W (sz w) (rcV r (.slice l n c)) := ⟨_, rfl⟩
    have w1t : mm W1 t = [.bool tb] := by rw [hW1, mm_wr_ne n3, kt]
    have w1a : mm W1 (sz w + 1) = anZ := by rw [hW1, mm_wr_ne c2, k2]
    have w1z : fz W1 (sz w + 1) = false := by rw [hW1, fz_wr, z2]
    try simp (maxDischargeDepth := 8) [↓sC, sB, sM, kp, kt, k1, k2, z1, z2, t8, bf49_code, hsp, rcV_oneT, ← hW1, w1t, w1a, w1z, hsa, anV_oneT, anZ_len]
    repeat' apply And.intro
    all_goals (refine hkk _ _ ?_; exact ⟨by rw [hW1], by simp [put_get], by simp [put_get], by simp [put_get]⟩)
  · rintro e w' ⟨rfl, e4, e5, e6⟩
    have q1 : mm (wr (wr W (sz w) (rcV r (.slice l n c))) (sz w + 1) (anV (anC k) (.slice none 0 0))) (sz w) = rcV r (.slice l n c) := by rw [mm_wr_ne c1, mm_wr_same z1]
    have q2 : mm (wr (wr W (sz w) (rcV r (.slice l n c))) (sz w + 1) (anV (anC k) (.slice none 0 0))) (sz w + 1) = anV (anC k) (.slice none 0 0) := mm_wr_same (by rw [fz_wr, z2]) _
    generalize hX : wr (wr W (sz w) (rcV r (.slice l n c))) (sz w + 1) (anV (anC k) (.slice none 0 0)) = X at *
    try simp (maxDischargeDepth := 8) [↓sC, sB, sM, e4, e5, e6, q1, q2, t8, t10]
    rw [← hX]
    exact (fW.wr (.inr (by omega)) _).wr (.inr (by omega)) _
end Go.Proofs.YtieejbkbdfccdaaDoor
