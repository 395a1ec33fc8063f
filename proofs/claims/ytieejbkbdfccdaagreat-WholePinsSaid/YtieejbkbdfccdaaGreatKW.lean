/- WholeTraces: what acts do to records, in plain Lean; which change places. -/
import Derived.Test.YtieejbkbdfccdaaGreatKV
import Derived.Test.YtieejbkbdfccdaaGreatSim
import Derived.Test.YtieejbkbdfccdaaGreatKJ
set_option linter.unusedVariables false
set_option linter.unusedSimpArgs false
namespace Go.Proofs.YtieejbkbdfccdaaGreat
open Go
/-! ### Texts in order -/
theorem bl_cons (x y : UInt8) (a b : List UInt8) : Op.bytesLess (x :: a) (y :: b) = (decide (x.toNat < y.toNat) || (decide (x.toNat = y.toNat) && Op.bytesLess a b)) := by
  by_cases h : x < y
  · have h' : x.toNat < y.toNat := UInt8.lt_iff_toNat_lt.1 h
    simp [Op.bytesLess, h, h']
  · have h' : ¬ x.toNat < y.toNat := fun k => h (UInt8.lt_iff_toNat_lt.2 k)
    by_cases e : x = y
    · subst e; simp [Op.bytesLess]
    · have e' : ¬ x.toNat = y.toNat := fun k => e (UInt8.toNat_inj.1 k)
      simp [Op.bytesLess, h, e, h', e']
theorem bl_irrefl : ∀ a : List UInt8, Op.bytesLess a a = false
  | [] => rfl
  | x :: a => by rw [bl_cons, bl_irrefl a]; simp
theorem bl_trans : ∀ {a b c : List UInt8}, Op.bytesLess a b = true → Op.bytesLess b c = true → Op.bytesLess a c = true
  | _, [], _, h, _ => by simp [Op.bytesLess] at h
  | _, _ :: _, [], _, h => by simp [Op.bytesLess] at h
  | [], _ :: _, _ :: _, _, _ => rfl
  | x :: a, y :: b, z :: c, h, k => by
    rw [bl_cons] at h k ⊢
    simp only [Bool.or_eq_true, Bool.and_eq_true, decide_eq_true_eq] at h k ⊢
    rcases h with h | ⟨h, h'⟩ <;> rcases k with k | ⟨k, k'⟩
    · left; omega
    · left; omega
    · left; omega
    · right; exact ⟨by omega, bl_trans h' k'⟩
theorem bl_asymm {a b : List UInt8} (h : Op.bytesLess a b = true) : Op.bytesLess b a = false := by
  cases k : Op.bytesLess b a
  · rfl
  · have := bl_trans h k; rw [bl_irrefl] at this; cases this
theorem bl_eq : ∀ {a b : List UInt8}, Op.bytesLess a b = false → Op.bytesLess b a = false → a = b
  | [], [], _, _ => rfl
  | [], _ :: _, h, _ => by simp [Op.bytesLess] at h
  | _ :: _, [], _, h => by simp [Op.bytesLess] at h
  | x :: a, y :: b, h, k => by
    rw [bl_cons] at h k
    simp only [Bool.or_eq_false_iff, Bool.and_eq_false_imp, decide_eq_false_iff_not, decide_eq_true_eq] at h k
    have e : x.toNat = y.toNat := by omega
    rw [UInt8.toNat_inj.1 e, bl_eq (h.2 e) (k.2 e.symm)]
/-! ### Lists with an item more -/
def ahead (x y : ItemP) : Prop := aheadB x y = true
/-! ### Lists that may be -/
end Go.Proofs.YtieejbkbdfccdaaGreat

set_option linter.unusedVariables false
set_option linter.unusedSimpArgs false
namespace Go.Proofs.YtieejbkbdfccdaaGreat
open Go
theorem only_ok {w : World} {r : RecP} {a : Option Addr} {c : Nat} {s : List UInt8} (hs : fiveS s) (hr : okR r) (hP : onlyP r s) :
    Ret P 74 #[.agg (rcV r (.slice a r.list.length c)).toArray, strB s] w fun v w' => v = .bool true ∧ Fr [] w w' := by
  refine F74ok ?_
  unfold F74
  obtain ⟨W, hW⟩ : ∃ W, W = nw w (rcV r (.slice a r.list.length c)) 61 := ⟨_, rfl⟩
  have fW : Fr [] w W := by rw [hW]; exact (Fr.refl [] w).nw _ _
  have hm : mm W (sz w) = rcV r (.slice a r.list.length c) := by rw [hW]; simp [mm_nw]
  try simp (maxDischargeDepth := 8) [↓sC, sB, sM, rcC, ← hW]
  refine loopE_of (OnlyI W s (sz w)) s.length ⟨0, by omega, by omega, by simp [put_get], by simp [put_get, argE_get], by simp [put_get], by simp [put_get], by simp [put_get], by simp [put_get], by simp [put_get], by simp [put_get], rfl⟩ ?_
  rintro m e w2 hI
  obtain ⟨j, rfl, hj, e10, e1, e2, e5, e6, e7, e8, e9, rfl⟩ := id hI
  by_cases hjl : j < s.length
  · exact only_step hs hjl hI fun e' w'' hK => ⟨s.length - (j + 1), by omega, hK⟩
  have : j = s.length := by omega
  subst this
  unfold F74B0
  have hlen : ∀ w, pBuiltin P .len #[9] 3 [strB s] w = some (i64 s.length, w) := fun w => len_strB und9
  try simp (maxDischargeDepth := 8) [↓sC, sB, sM, e10, e1, hlen]
  rw [List.take_length] at e5 e6 e7 e8 e9
  have hne : ∀ l w, pBin P .neq 9 true (strB l) (Value.string { data := #[] }) w = some (.bool (decide (l ≠ [])), w) := fun l w => ne_strB (m := [])
  have hll : ((r.list.length : Int) = 0) = (r.list = []) := by simp
  have hsW : sz w < sz w2 := by rw [hW, sz_nw]; omega
  clear hI hW hlen hj
  rcases hs with rfl | rfl | rfl | rfl | rfl
  · have c1 : r.num = 0 := by have hQ := hP; simp [onlyP] at hQ; simp [hQ]
    have c2 : r.low = 0 := by have hQ := hP; simp [onlyP] at hQ; simp [hQ]
    have c3 : r.high = 0 := by have hQ := hP; simp [onlyP] at hQ; simp [hQ]
    try simp (maxDischargeDepth := 8) [↓sC, sB, sM, e2, e5, e6, e7, e8, e9, hm, hne, hll, c1, c2, c3]
    refine (zero_spec hr.2.2.2.2.1).call ?_
    rintro _ w3 ⟨rfl, f3⟩
    have hm3 : mm w3 (sz w) = rcV r (.slice a r.list.length c) := by rw [f3.mm (by omega) (by simp), hm]
    have c4 : key r.real = key 0 := by have hQ := hP; simp [onlyP] at hQ; simp [hQ]
    have c5 : r.cap = 0 := by have hQ := hP; simp [onlyP] at hQ; simp [hQ]
    have c6 : r.list = [] := by have hQ := hP; simp [onlyP] at hQ; simp [hQ]
    try simp (maxDischargeDepth := 8) [↓sC, sB, sM, e2, e5, e6, e7, e8, e9, hm3, hne, hll, c1, c2, c3, c4, c5, c6]
    exact fW.trans0 f3
  · have c1 : r.text = [] := by have hQ := hP; simp [onlyP] at hQ; simp [hQ]
    have c2 : r.low = 0 := by have hQ := hP; simp [onlyP] at hQ; simp [hQ]
    have c3 : r.high = 0 := by have hQ := hP; simp [onlyP] at hQ; simp [hQ]
    try simp (maxDischargeDepth := 8) [↓sC, sB, sM, e2, e5, e6, e7, e8, e9, hm, hne, hll, c1, c2, c3]
    refine (zero_spec hr.2.2.2.2.1).call ?_
    rintro _ w3 ⟨rfl, f3⟩
    have hm3 : mm w3 (sz w) = rcV r (.slice a r.list.length c) := by rw [f3.mm (by omega) (by simp), hm]
    have c4 : key r.real = key 0 := by have hQ := hP; simp [onlyP] at hQ; simp [hQ]
    have c5 : r.cap = 0 := by have hQ := hP; simp [onlyP] at hQ; simp [hQ]
    have c6 : r.list = [] := by have hQ := hP; simp [onlyP] at hQ; simp [hQ]
    try simp (maxDischargeDepth := 8) [↓sC, sB, sM, e2, e5, e6, e7, e8, e9, hm3, hne, hll, c1, c2, c3, c4, c5, c6]
    exact fW.trans0 f3
  · have c1 : r.text = [] := by have hQ := hP; simp [onlyP] at hQ; simp [hQ]
    try simp (maxDischargeDepth := 8) [↓sC, sB, sM, e2, e5, e6, e7, e8, e9, hm, hne, hll, c1]
    refine (zero_spec hr.2.2.2.2.1).call ?_
    rintro _ w3 ⟨rfl, f3⟩
    have hm3 : mm w3 (sz w) = rcV r (.slice a r.list.length c) := by rw [f3.mm (by omega) (by simp), hm]
    have c2 : key r.real = key 0 := by have hQ := hP; simp [onlyP] at hQ; simp [hQ]
    have c3 : r.cap = 0 := by have hQ := hP; simp [onlyP] at hQ; simp [hQ]
    have c4 : r.list = [] := by have hQ := hP; simp [onlyP] at hQ; simp [hQ]
    try simp (maxDischargeDepth := 8) [↓sC, sB, sM, e2, e5, e6, e7, e8, e9, hm3, hne, hll, c1, c2, c3, c4]
    exact fW.trans0 f3
  · have c1 : r.text = [] := by have hQ := hP; simp [onlyP] at hQ; simp [hQ]
    have c2 : r.num = 0 := by have hQ := hP; simp [onlyP] at hQ; simp [hQ]
    have c3 : r.low = 0 := by have hQ := hP; simp [onlyP] at hQ; simp [hQ]
    have c4 : r.high = 0 := by have hQ := hP; simp [onlyP] at hQ; simp [hQ]
    have c5 : r.cap = 0 := by have hQ := hP; simp [onlyP] at hQ; simp [hQ]
    have c6 : r.list = [] := by have hQ := hP; simp [onlyP] at hQ; simp [hQ]
    try simp (maxDischargeDepth := 8) [↓sC, sB, sM, e2, e5, e6, e7, e8, e9, hm, hne, hll, c1, c2, c3, c4, c5, c6]
    exact fW
  · have c1 : r.text = [] := by have hQ := hP; simp [onlyP] at hQ; simp [hQ]
    have c2 : r.num = 0 := by have hQ := hP; simp [onlyP] at hQ; simp [hQ]
    have c3 : r.low = 0 := by have hQ := hP; simp [onlyP] at hQ; simp [hQ]
    have c4 : r.high = 0 := by have hQ := hP; simp [onlyP] at hQ; simp [hQ]
    try simp (maxDischargeDepth := 8) [↓sC, sB, sM, e2, e5, e6, e7, e8, e9, hm, hne, hll, c1, c2, c3, c4]
    refine (zero_spec hr.2.2.2.2.1).call ?_
    rintro _ w3 ⟨rfl, f3⟩
    have hm3 : mm w3 (sz w) = rcV r (.slice a r.list.length c) := by rw [f3.mm (by omega) (by simp), hm]
    have c5 : key r.real = key 0 := by have hQ := hP; simp [onlyP] at hQ; simp [hQ]
    try simp (maxDischargeDepth := 8) [↓sC, sB, sM, e2, e5, e6, e7, e8, e9, hm3, hne, hll, c1, c2, c3, c4, c5]
    exact fW.trans0 f3
theorem item_ok {w : World} {k : Int} {a : Option Addr} {c : Nat} {L : List ItemP} (hr : RdV w (.slice a L.length c) L.length (flat itemV L)) (hok : ∀ x ∈ L, okI x) (hL : L.length ≤ 1000000) {i : Nat} (hi : i < L.length) (hP : itemP k L i) :
    Ret P 77 #[i64 k, .slice a L.length c, i64 i] w fun v w' => v = i64 0 ∧ Fr [] w w' := by
  refine F77ok ?_
  unfold F77
  obtain ⟨x, hx⟩ : ∃ x, L[i]? = some x := ⟨_, List.getElem?_eq_getElem hi⟩
  have hxok := hok x (List.mem_of_getElem? hx)
  obtain ⟨b, o, c', hv, hb, hin, htk⟩ := flat_at hr (itemV_len L) (by omega) hx
  simp only [Value.slice.injEq] at hv
  obtain ⟨rfl, _, rfl⟩ := hv
  have hii : (i : Int) < L.length := by omega
  have hs2 : ∀ l : List Value, l.length = 2 → splice l 0 (itemV x) = itemV x := fun l hl => splice_full (by rw [hl]; rfl)
  obtain ⟨W, hW⟩ : ∃ W, W = wr (nw w [Value.float FloatKind.f64 0, Value.string ByteArray.empty] 105) (sz w) (itemV x) := ⟨_, rfl⟩
  have fW : Fr [] w W := by rw [hW]; exact ((Fr.refl [] w).nw _ _).wr (.inr (Nat.le_refl _)) _
  have hm : mm W (sz w) = itemV x := by rw [hW]; exact mm_wr_same (by simp [fz_nw]) _
  have hsW : sz w < sz W := by rw [hW, sz_wr, sz_nw]; omega
  have hlen : ∀ w, pBuiltin P .len #[9] 3 [strB x.name] w = some (i64 x.name.length, w) := fun w => len_strB und9
  try simp (maxDischargeDepth := 8) [↓sC, sB, sM, hii, hi, hin, htk, hs2, itemV_oneT, hlen, ← hW, hm]
  have c1 : x.name.length ≤ 16 := (hP x hx).1
  have c1i : ¬ (16 : Int) < x.name.length := by omega
  rcases Nat.eq_zero_or_pos i with i0 | i0
  · subst i0
    by_cases k8 : k = 8
    · subst k8
      try simp (maxDischargeDepth := 8) [↓sC, sB, sM, c1i, hm]
      refine (zero_spec hxok).call ?_
      rintro _ w1 ⟨rfl, f1⟩
      have hm1 : mm w1 (sz w) = itemV x := by rw [f1.mm hsW (by simp), hm]
      have z : key x.score = key 0 := (hP x hx).2.1 rfl
      try simp (maxDischargeDepth := 8) [↓sC, sB, sM, z, hm1]
      refine (refProper_spec hxok).call ?_
      rintro _ w2 ⟨rfl, f2⟩
      have hsf := (f1.trans0 f2).size
      have hm2 : mm w2 (sz w) = itemV x := by rw [(f1.trans0 f2).mm hsW (by simp), hm]
      have p : x.score = canon x.score := (hP x hx).2.2.1
      rw [decide_eq_true p]
      try simp (maxDischargeDepth := 8) [↓sC, sB, sM, hm2]
      exact ((fW.trans0 f1).trans0 f2).drew.drew
    · skip
      try simp (maxDischargeDepth := 8) [↓sC, sB, sM, c1i, k8, hm]
      have f1 : Fr [] W W := Fr.refl [] W
      have z : True := trivial
      refine (refProper_spec hxok).call ?_
      rintro _ w2 ⟨rfl, f2⟩
      have hsf := (f1.trans0 f2).size
      have hm2 : mm w2 (sz w) = itemV x := by rw [(f1.trans0 f2).mm hsW (by simp), hm]
      have p : x.score = canon x.score := (hP x hx).2.2.1
      rw [decide_eq_true p]
      try simp (maxDischargeDepth := 8) [↓sC, sB, sM, hm2, k8]
      exact ((fW.trans0 f1).trans0 f2).drew.drew
  · obtain ⟨y, hy⟩ : ∃ y, L[i - 1]? = some y := ⟨_, List.getElem?_eq_getElem (by omega)⟩
    have hyok := hok y (List.mem_of_getElem? hy)
    obtain ⟨b', o', c', hv, hb', hin', htk'⟩ := flat_at hr (itemV_len L) (by omega) hy
    simp only [Value.slice.injEq, Option.some.injEq, Addr.mk.injEq] at hv
    obtain ⟨⟨rfl, rfl, _⟩, _, rfl⟩ := hv
    have hwm : IntKind.i64.wrap ((i : Int) - 1) = ((i - 1 : Nat) : Int) := by rw [wrap64 (by omega) (by omega)]; omega
    have i0i : (0 : Int) < i := by omega
    have him : ((i - 1 : Nat) : Int) < L.length := by omega
    have him' : i - 1 < L.length := by omega
    have hlt : ∀ w, pBin P .lss 9 false (strB y.name) (strB x.name) w = some (.bool (Op.bytesLess y.name x.name), w) := fun w => lt_strB
    by_cases k8 : k = 8
    · subst k8
      try simp (maxDischargeDepth := 8) [↓sC, sB, sM, c1i, hm]
      refine (zero_spec hxok).call ?_
      rintro _ w1 ⟨rfl, f1⟩
      have hm1 : mm w1 (sz w) = itemV x := by rw [f1.mm hsW (by simp), hm]
      have z : key x.score = key 0 := (hP x hx).2.1 rfl
      try simp (maxDischargeDepth := 8) [↓sC, sB, sM, z, hm1]
      refine (refProper_spec hxok).call ?_
      rintro _ w2 ⟨rfl, f2⟩
      have hsf := (f1.trans0 f2).size
      have hm2 : mm w2 (sz w) = itemV x := by rw [(f1.trans0 f2).mm hsW (by simp), hm]
      have p : x.score = canon x.score := (hP x hx).2.2.1
      have q1 : o + (i - 1) * 2 + 2 ≤ (mm w2 b).length := by rw [((fW.trans0 f1).trans0 f2).mm hb (by simp)]; exact hin'
      have q2 : ((mm w2 b).drop (o + (i - 1) * 2)).take 2 = itemV y := by rw [((fW.trans0 f1).trans0 f2).mm hb (by simp)]; exact htk'
      have q3 : o + (i - 1) * 2 + 1 < (mm w2 b).length := by omega
      have q4 : gt (mm w2 b) (o + (i - 1) * 2 + 1) = strB y.name := by rw [cell_of q2 (by omega)]; rfl
      rw [decide_eq_true p]
      have hq : Op.bytesLess y.name x.name = true := ((hP x hx).2.2.2 y i0 hy).1 rfl
      try simp (maxDischargeDepth := 8) [↓sC, sB, sM, i0i, i0, hwm, him, him', hm2, q1, q2, q3, q4, hlt, hq]
      exact ((fW.trans0 f1).trans0 f2).drew.drew
    · skip
      try simp (maxDischargeDepth := 8) [↓sC, sB, sM, c1i, k8, hm]
      have f1 : Fr [] W W := Fr.refl [] W
      have z : True := trivial
      refine (refProper_spec hxok).call ?_
      rintro _ w2 ⟨rfl, f2⟩
      have hsf := (f1.trans0 f2).size
      have hm2 : mm w2 (sz w) = itemV x := by rw [(f1.trans0 f2).mm hsW (by simp), hm]
      have p : x.score = canon x.score := (hP x hx).2.2.1
      have q1 : o + (i - 1) * 2 + 2 ≤ (mm w2 b).length := by rw [((fW.trans0 f1).trans0 f2).mm hb (by simp)]; exact hin'
      have q2 : ((mm w2 b).drop (o + (i - 1) * 2)).take 2 = itemV y := by rw [((fW.trans0 f1).trans0 f2).mm hb (by simp)]; exact htk'
      have q3 : o + (i - 1) * 2 + 1 < (mm w2 b).length := by omega
      have q4 : gt (mm w2 b) (o + (i - 1) * 2 + 1) = strB y.name := by rw [cell_of q2 (by omega)]; rfl
      rw [decide_eq_true p]
      by_cases k9 : k = 9
      · subst k9
        try simp (maxDischargeDepth := 8) [↓sC, sB, sM, i0i, i0, hwm, him, him', hm2, q1, q2, q3, q4, hlt, k8]
        refine (ahead_spec hyok hxok).call ?_
        rintro _ w3 ⟨rfl, f3⟩
        have fin := (((fW.trans0 f1).trans0 f2).drew.drew).trans0 f3
        have hq : aheadB y x = true := ((hP x hx).2.2.2 y i0 hy).2 rfl
        try simp (maxDischargeDepth := 8) [↓sC, sB, sM, hq]
        exact fin
      · try simp (maxDischargeDepth := 8) [↓sC, sB, sM, i0i, i0, hwm, him, him', hm2, q1, q2, q3, q4, hlt, k8, k9]
        exact ((fW.trans0 f1).trans0 f2).drew.drew
theorem refCheck_listOk {w : World} {r : RecP} {a : Option Addr} {c : Nat} {b : Nat} (hall : ∀ i, i < r.list.length → itemP r.kind r.list i) (hb : sz w ≤ b) (hc : r.list.length ≤ 32) {e : Env} {w2 : World} (e1 : e 1 = pt b 0) (e4 : e 4 = i64 0) (hm : mm w2 b = rcV r (.slice a r.list.length c)) (hb2 : b < sz w2)
    (hr : IsRec w2 (.slice a r.list.length c) r) (hf : Fr [] w w2) {K : KT} (hok : ∀ e' w', Fr [] w w' → K (.exit 0) e' w') :
    loopE F45B0 e w2 K := by
  refine loopE_of (fun m e w' => ∃ j : Nat, m = r.list.length - j ∧ j ≤ r.list.length ∧ e 1 = pt b 0 ∧ e 4 = i64 j ∧ mm w' b = rcV r (.slice a r.list.length c) ∧ b < sz w' ∧ IsRec w' (.slice a r.list.length c) r ∧ Fr [] w w') r.list.length ⟨0, by omega, by omega, e1, e4, hm, hb2, hr, hf⟩ ?_
  rintro m e w3 ⟨j, rfl, hj, e1, e4, hm, hb2, hr, hf⟩
  unfold F45B0
  have hml : 0 + 7 < (mm w3 b).length := by rw [hm]; simp
  by_cases hjl : j < r.list.length
  · have hji : (j : Int) < r.list.length := by omega
    have hwj : IntKind.i64.wrap ((j : Int) + 1) = ((j + 1 : Nat) : Int) := wrap64 (by omega) (by omega)
    try simp (maxDischargeDepth := 8) [↓sC, sB, sM, e1, e4, hm, hji, hjl]
    refine (item_ok hr.1 hr.2.2.2.2.2.2.2 (by omega) hjl (hall j hjl)).call ?_
    rintro _ w4 ⟨rfl, f4⟩
    try simp (maxDischargeDepth := 8) [↓sC, sB, sM, hwj, e4, -Int.natCast_add]
    exact ⟨r.list.length - (j + 1), by omega, j + 1, rfl, by omega, by simp [put_get, e1], by simp [put_get], by rw [f4.mm hb2 (by simp), hm], f4.lt hb2, hr.fr0 f4, hf.trans0 f4⟩
  · have : j = r.list.length := by omega
    subst this
    try simp (maxDischargeDepth := 8) [↓sC, sB, sM, e1, e4, hm]
    exact hok _ _ hf
theorem refCheck_ok {w : World} {r : RecP} {a : Option Addr} {c : Nat} (hr : IsRec w (.slice a r.list.length c) r) (hP : RecOk r) :
    Ret P 45 #[.agg (rcV r (.slice a r.list.length c)).toArray] w fun v w' => v = i64 0 ∧ Fr [] w w' := by
  refine F45ok ?_
  unfold F45
  obtain ⟨W, hW⟩ : ∃ W, W = nw w (rcV r (.slice a r.list.length c)) 61 := ⟨_, rfl⟩
  have fW : Fr [] w W := by rw [hW]; exact (Fr.refl [] w).nw _ _
  have hm : mm W (sz w) = rcV r (.slice a r.list.length c) := by rw [hW]; simp [mm_nw]
  have hsW : sz w < sz W := by rw [hW, sz_nw]; omega
  have t8 : ∀ r lv, (rcV r lv).take 8 = rcV r lv := fun _ _ => rfl
  try simp (maxDischargeDepth := 8) [↓sC, sB, sM, rcC, ← hW, hm]
  have a1 : 1 ≤ r.kind := hP.k1
  have a1i : ¬ r.kind < 1 := by omega
  have a9 : r.kind ≤ 9 := hP.k9
  have a9i : ¬ 9 < r.kind := by omega
  try simp (maxDischargeDepth := 8) [↓sC, sB, sM, a1i, a9i, hm, t8]
  refine fields_spec.call ?_
  rintro _ w1 ⟨rfl, f1⟩
  have hm1 : mm w1 (sz w) = rcV r (.slice a r.list.length c) := by rw [f1.mm (by rw [sz_drew]; exact hsW) (by simp), mm_drew, hm]
  have g1 : Fr [] w w1 := fW.drew.trans0 f1
  have hs1 : sz w < sz w1 := f1.lt (by rw [sz_drew]; exact hsW)
  try simp (maxDischargeDepth := 8) [↓sC, sB, sM, hm1, t8]
  refine (only_ok (fields_five a1 a9) hr.2 hP.only).call ?_
  rintro _ w2 ⟨rfl, f2⟩
  have hm2 : mm w2 (sz w) = rcV r (.slice a r.list.length c) := by rw [f2.mm hs1 (by simp), hm1]
  have g2 := g1.trans0 f2
  have hs2 := f2.lt hs1
  have hlen : ∀ w, pBuiltin P .len #[9] 3 [strB r.text] w = some (i64 r.text.length, w) := fun w => len_strB und9
  try simp (maxDischargeDepth := 8) [↓sC, sB, sM, hm2]
  by_cases k1 : r.kind = 1
  · have k4 : ¬ r.kind = 4 := by omega
    have t1 : r.text.length ≤ 64 := hP.text k1
    have t1i : ¬ (64 : Int) < r.text.length := by omega
    try simp (maxDischargeDepth := 8) [↓sC, sB, sM, k1, t1i, hm2, hlen]
    refine (refProper_spec hr.2.2.2.2.2.1).call ?_
    rintro _ w3 ⟨rfl, f3⟩
    have hm3 : mm w3 (sz w) = rcV r (.slice a r.list.length c) := by rw [f3.mm hs2 (by simp), hm2]
    have g3 := g2.trans0 f3
    have hs3 := f3.lt hs2
    have p : r.real = canon r.real := hP.real
    rw [decide_eq_true p]
    have k8 : r.kind < 8 := by omega
    try simp (maxDischargeDepth := 8) [↓sC, sB, sM, hm3, k8, k1]
    exact g3
  by_cases k4 : r.kind = 4
  · have b1 : -MP ≤ r.low := (hP.bounds k4).1
    have b1i : ¬ r.low < -2305843009213693952 := by unfold MP at b1; omega
    have b2 : r.high ≤ MP := (hP.bounds k4).2.1
    have b2i : ¬ 2305843009213693952 < r.high := by unfold MP at b2; omega
    have b3 : r.low ≤ r.num := (hP.bounds k4).2.2.1
    have b3i : ¬ r.num < r.low := by omega
    have b4 : r.num ≤ r.high := (hP.bounds k4).2.2.2
    have b4i : ¬ r.high < r.num := by omega
    try simp (maxDischargeDepth := 8) [↓sC, sB, sM, k4, hm2, wneg_MP, b1i, b2i, b3i, b4i]
    refine (refProper_spec hr.2.2.2.2.2.1).call ?_
    rintro _ w3 ⟨rfl, f3⟩
    have hm3 : mm w3 (sz w) = rcV r (.slice a r.list.length c) := by rw [f3.mm hs2 (by simp), hm2]
    have g3 := g2.trans0 f3
    have hs3 := f3.lt hs2
    have p : r.real = canon r.real := hP.real
    rw [decide_eq_true p]
    have k8 : r.kind < 8 := by omega
    try simp (maxDischargeDepth := 8) [↓sC, sB, sM, hm3, k8, k4]
    exact g3
  try simp (maxDischargeDepth := 8) [↓sC, sB, sM, k1, k4, hm2]
  refine (refProper_spec hr.2.2.2.2.2.1).call ?_
  rintro _ w3 ⟨rfl, f3⟩
  have hm3 : mm w3 (sz w) = rcV r (.slice a r.list.length c) := by rw [f3.mm hs2 (by simp), hm2]
  have g3 := g2.trans0 f3
  have hs3 := f3.lt hs2
  have p : r.real = canon r.real := hP.real
  rw [decide_eq_true p]
  by_cases k8 : r.kind < 8
  · try simp (maxDischargeDepth := 8) [↓sC, sB, sM, hm3, k8]
    exact g3
  have q1 : 1 ≤ r.cap := (hP.cap (by omega)).1
  have q1i : ¬ r.cap < 1 := by omega
  have q2 : r.cap ≤ 32 := (hP.cap (by omega)).2.1
  have q2i : ¬ 32 < r.cap := by omega
  have q3 : (r.list.length : Int) ≤ r.cap := (hP.cap (by omega)).2.2.1
  have q3i : ¬ r.cap < (r.list.length : Int) := by omega
  try simp (maxDischargeDepth := 8) [↓sC, sB, sM, hm3, k8, q1i, q2i, q3i]
  have hl32 : r.list.length ≤ 32 := by omega
  refine refCheck_listOk (w := w) (r := r) (a := a) (c := c) (b := sz w) (hP.cap (by omega)).2.2.2 (Nat.le_refl _) hl32 (by simp [put_get]) (by simp [put_get]) hm3 hs3 (hr.fr0 g3) g3 (fun e' w' hf => ?_)
  try simp (maxDischargeDepth := 8) [↓sC, sB, sM]
  exact hf
end Go.Proofs.YtieejbkbdfccdaaGreat

set_option linter.unusedVariables false
set_option linter.unusedSimpArgs false
namespace Go.Proofs.YtieejbkbdfccdaaGreat
open Go
def SmI (w0 : World) (p1 p2 : Nat) (r : RecP) (l1 l2 : Value) (m : Nat) (e : Env) (w' : World) : Prop :=
  ∃ j : Nat, m = r.list.length - j ∧ j ≤ r.list.length ∧ mm w' p1 = rcV r l1 ∧ mm w' p2 = rcV r l2 ∧ p1 < sz w' ∧ p2 < sz w' ∧ Fr [] w0 w' ∧ e 2 = pt p1 0 ∧ e 3 = pt p2 0 ∧ e 5 = i64 j
set_option maxHeartbeats 2000000 in
theorem same14_spec {w : World} {r : RecP} {a b : Option Addr} {c d : Nat} (h1 : IsRec w (.slice a r.list.length c) r) (h2 : IsRec w (.slice b r.list.length d) r) (hl : r.list.length ≤ 1000000) :
    Ret P 40 #[.agg (rcV r (.slice a r.list.length c)).toArray, .agg (rcV r (.slice b r.list.length d)).toArray] w fun v w' => v = .bool true ∧ Fr [] w w' := by
  refine F40ok ?_
  unfold F40
  obtain ⟨W, hW⟩ : ∃ W, W = nw (nw w (rcV r (.slice a r.list.length c)) 61) (rcV r (.slice b r.list.length d)) 61 := ⟨_, rfl⟩
  have fW : Fr [] w W := by rw [hW]; exact ((Fr.refl [] w).nw _ _).nw _ _
  have hs : sz W = sz w + 2 := by rw [hW]; simp [sz_nw]
  have m1 : mm W (sz w) = rcV r (.slice a r.list.length c) := by rw [hW]; simp [mm_nw, sz_nw]
  have m2 : mm W (sz w + 1) = rcV r (.slice b r.list.length d) := by rw [hW]; simp [mm_nw, sz_nw]
  have hne : ∀ l w, pBin P .neq 9 false (strB l) (strB l) w = some (.bool false, w) := fun l w => by
    have := ne_strB (P := P) (t := 9) (lit := false) (l := l) (m := l) (w := w)
    simpa using this
  try simp (maxDischargeDepth := 8) [↓sC, sB, sM, rcC, ← hW, m1, m2, hne]
  refine (refSame_spec h1.2.2.2.2.2.1 h1.2.2.2.2.2.1).call ?_
  rintro _ w1 ⟨rfl, f1⟩
  have n1 : mm w1 (sz w) = rcV r (.slice a r.list.length c) := by rw [f1.mm (by omega) (by simp), m1]
  have n2 : mm w1 (sz w + 1) = rcV r (.slice b r.list.length d) := by rw [f1.mm (by omega) (by simp), m2]
  have hs1 := f1.size
  try simp (maxDischargeDepth := 8) [↓sC, sB, sM, n1, n2]
  refine loopE_of (SmI w (sz w) (sz w + 1) r (.slice a r.list.length c) (.slice b r.list.length d)) r.list.length ⟨0, by omega, by omega, n1, n2, by omega, by omega, fW.trans0 f1, by simp [put_get], by simp [put_get], by simp [put_get]⟩ ?_
  rintro m e w2 ⟨j, rfl, hj, q1, q2, b1, b2, hf, e2, e3, e5⟩
  unfold F40B0
  by_cases hjl : j < r.list.length
  · have hji : (j : Int) < r.list.length := by omega
    have hwj : IntKind.i64.wrap ((j : Int) + 1) = ((j + 1 : Nat) : Int) := wrap64 (by omega) (by omega)
    obtain ⟨x, hx⟩ : ∃ x, r.list[j]? = some x := ⟨_, List.getElem?_eq_getElem hjl⟩
    have hxok := h1.2.2.2.2.2.2.2 x (List.mem_of_getElem? hx)
    obtain ⟨b', o, c', hv, hb, hin, htk⟩ := flat_at (h1.1.fr0 hf) (itemV_len _) (by omega) hx
    simp only [Value.slice.injEq] at hv
    obtain ⟨rfl, _, rfl⟩ := hv
    obtain ⟨b'', o', c'', hv, hb', hin', htk'⟩ := flat_at (h2.1.fr0 hf) (itemV_len _) (by omega) hx
    simp only [Value.slice.injEq] at hv
    obtain ⟨rfl, _, rfl⟩ := hv
    have g0 : gt (mm w2 b') (o + j * 2 + 0) = fl x.score := by rw [cell_of htk (by omega)]; rfl
    have g1 : gt (mm w2 b') (o + j * 2 + 1) = strB x.name := by rw [cell_of htk (by omega)]; rfl
    have g0' : gt (mm w2 b'') (o' + j * 2 + 0) = fl x.score := by rw [cell_of htk' (by omega)]; rfl
    have g1' : gt (mm w2 b'') (o' + j * 2 + 1) = strB x.name := by rw [cell_of htk' (by omega)]; rfl
    have k0 : o + j * 2 + 0 < (mm w2 b').length := by omega
    have k1 : o + j * 2 + 1 < (mm w2 b').length := by omega
    have k0' : o' + j * 2 + 0 < (mm w2 b'').length := by omega
    have k1' : o' + j * 2 + 1 < (mm w2 b'').length := by omega
    simp only [Nat.add_zero] at g0 g0' k0 k0'
    try simp (maxDischargeDepth := 8) [↓sC, sB, sM, e2, e3, e5, q1, q2, hji, hjl, g0, g1, g0', g1', k0, k1, k0', k1', hne]
    refine (refSame_spec hxok hxok).call ?_
    rintro _ w3 ⟨rfl, f3⟩
    try simp (maxDischargeDepth := 8) [↓sC, sB, sM, e5, hwj, -Int.natCast_add]
    have F3 := hf.drew.trans0 f3
    have G3 : Fr [] w2 w3 := ((Fr.refl [] w2).drew).trans0 f3
    exact ⟨r.list.length - (j + 1), by omega, j + 1, rfl, by omega, by rw [G3.mm b1 (by simp), q1], by rw [G3.mm b2 (by simp), q2], G3.lt b1, G3.lt b2, F3, by simp [put_get, e2], by simp [put_get, e3], by simp [put_get]⟩
  · have : j = r.list.length := by omega
    subst this
    try simp (maxDischargeDepth := 8) [↓sC, sB, sM, e2, e3, e5, q1, q2]
    exact hf
end Go.Proofs.YtieejbkbdfccdaaGreat

set_option linter.unusedVariables false
set_option linter.unusedSimpArgs false
namespace Go.Proofs.YtieejbkbdfccdaaGreat
open Go
abbrev KR := List UInt8 × RecP
inductive Tr where
  | nil : Tr
  | node (k : List UInt8) (r : RecP) (l rt : Tr) : Tr
def Tr.size : Tr → Nat
  | .nil => 0
  | .node _ _ l rt => l.size + rt.size + 1
def Tr.ino : Tr → List KR
  | .nil => []
  | .node k r l rt => l.ino ++ (k, r) :: rt.ino
theorem Tr.size_ino : ∀ t : Tr, t.ino.length = t.size
  | .nil => rfl
  | .node k r l rt => by simp only [Tr.ino, Tr.size, List.length_append, List.length_cons, l.size_ino, rt.size_ino]; omega
def nodeV (k : List UInt8) (r : RecP) (lv vl vr : Value) (n : Nat) : List Value := strB k :: (rcV r lv ++ [vl, vr, i64 n])
@[simp] theorem nodeV_len {k : List UInt8} {r : RecP} {lv vl vr : Value} {n : Nat} : (nodeV k r lv vl vr n).length = 12 := rfl
@[simp] theorem nodeV0 {k : List UInt8} {r : RecP} {lv vl vr : Value} {n : Nat} : gt (nodeV k r lv vl vr n) 0 = strB k := rfl
@[simp] theorem nodeV9 {k : List UInt8} {r : RecP} {lv vl vr : Value} {n : Nat} : gt (nodeV k r lv vl vr n) 9 = vl := rfl
@[simp] theorem nodeV10 {k : List UInt8} {r : RecP} {lv vl vr : Value} {n : Nat} : gt (nodeV k r lv vl vr n) 10 = vr := rfl
@[simp] theorem nodeV11 {k : List UInt8} {r : RecP} {lv vl vr : Value} {n : Nat} : gt (nodeV k r lv vl vr n) 11 = i64 n := rfl
theorem nodeVr {k : List UInt8} {r : RecP} {lv vl vr : Value} {n : Nat} : ((nodeV k r lv vl vr n).drop 1).take 8 = rcV r lv := rfl
theorem nodeVr' {k : List UInt8} {r : RecP} {lv vl vr : Value} {n : Nat} : (nodeV k r lv vl vr n).tail.take 8 = rcV r lv := rfl
def IsT (w : World) : Tr → Value → Prop
  | .nil, v => v = .pointer none
  | .node k r l rt, v => ∃ (b : Nat) (la : Option Addr) (c : Nat) (vl vr : Value), v = pt b 0 ∧ b < sz w ∧ mm w b = nodeV k r (.slice la r.list.length c) vl vr (l.size + rt.size + 1) ∧ IsRec w (.slice la r.list.length c) r ∧ IsT w l vl ∧ IsT w rt vr
theorem IsT.fr0 {w w' : World} (hf : Fr [] w w') : ∀ {t : Tr} {v : Value}, IsT w t v → IsT w' t v
  | .nil, v, h => h
  | .node k r l rt, v, h => by
    obtain ⟨b, la, c, vl, vr, rfl, hb, hm, hr, hl, hrt⟩ := h
    exact ⟨b, la, c, vl, vr, rfl, hf.lt hb, by rw [hf.mm hb (by simp), hm], hr.fr0 hf, IsT.fr0 hf hl, IsT.fr0 hf hrt⟩
theorem IsT.val {w : World} : ∀ {t : Tr} {v : Value}, IsT w t v → v = .pointer none ∨ ∃ b, v = pt b 0
  | .nil, v, h => .inl h
  | .node k r l rt, v, h => by
    obtain ⟨b, la, c, vl, vr, rfl, _⟩ := h
    exact .inr ⟨b, rfl⟩
theorem IsT.one {w : World} {t : Tr} {v : Value} (h : IsT w t v) : v.oneCell' = true := by
  rcases h.val with rfl | ⟨b, rfl⟩ <;> rfl
theorem count_spec {w : World} {t : Tr} {v : Value} (h : IsT w t v) : Ret P 47 #[v] w fun x w' => x = i64 t.size ∧ Fr [] w w' := by
  refine F47ok ?_
  unfold F47
  cases t with
  | nil =>
    cases h
    try simp (maxDischargeDepth := 8) [↓sC, sB, sM]
    simp [Tr.size]
  | node k r l rt =>
    obtain ⟨b, la, c, vl, vr, rfl, hb, hm, hr, hl, hrt⟩ := h
    try simp (maxDischargeDepth := 8) [↓sC, sB, sM, hm]
    simp [Tr.size]
theorem fOk113 : fieldsOk P 113 = true := by kernel_rfl
theorem bf113 {w : World} {k : List UInt8} {r : RecP} {l : Option Addr} {m c : Nat} {vl vr : Value} {n : Nat} (h1 : vl.oneCell' = true) (h2 : vr.oneCell' = true) :
    pBuild P 113 [(0, strB k), (1, .agg (rcV r (.slice l m c)).toArray), (2, vl), (3, vr), (4, i64 n)] w = some (.agg (nodeV k r (.slice l m c) vl vr n).toArray, w) := by
  have c1 : vl.cells = #[vl] := by cases vl <;> simp_all [Value.oneCell', Value.cells]
  have c2 : vr.cells = #[vr] := by cases vr <;> simp_all [Value.oneCell', Value.cells]
  rw [pBuild_struct hasZero113 fOk113 (fun p hp => ?_)]
  · rw [zeroL113]
    have e0 : offF P 113 0 = 0 := by kernel_rfl
    have e1 : offF P 113 1 = 1 := by kernel_rfl
    have e2 : offF P 113 2 = 9 := by kernel_rfl
    have e3 : offF P 113 3 = 10 := by kernel_rfl
    have e4 : offF P 113 4 = 11 := by kernel_rfl
    simp only [List.foldl_cons, List.foldl_nil, e0, e1, e2, e3, e4, c1, c2]
    rfl
  · simp only [List.mem_cons, List.not_mem_nil, or_false] at hp
    rcases hp with rfl | rfl | rfl | rfl | rfl
    · exact ⟨0, 9, by kernel_rfl, by rw [cellsOf9]; rfl, by rw [zeroL113, cellsOf9]; decide⟩
    · exact ⟨1, 61, by kernel_rfl, by rw [cellsOf61]; rfl, by rw [zeroL113, cellsOf61]; decide⟩
    · exact ⟨9, 30, by kernel_rfl, by rw [cellsOf30]; simp [c1], by rw [zeroL113, cellsOf30]; decide⟩
    · exact ⟨10, 30, by kernel_rfl, by rw [cellsOf30]; simp [c2], by rw [zeroL113, cellsOf30]; decide⟩
    · exact ⟨11, 3, by kernel_rfl, by rw [cellsOf3]; rfl, by rw [zeroL113, cellsOf3]; decide⟩
end Go.Proofs.YtieejbkbdfccdaaGreat

set_option linter.unusedVariables false
set_option linter.unusedSimpArgs false
namespace Go.Proofs.YtieejbkbdfccdaaGreat
open Go
def TrR (w : World) (t : Tr) (x : Value) (w' : World) : Prop := IsT w' t x ∧ Fr [] w w'
theorem made_spec {w : World} {k : List UInt8} {r : RecP} {la : Option Addr} {c : Nat} {l rt : Tr} {vl vr : Value} (hr : IsRec w (.slice la r.list.length c) r) (hl : IsT w l vl) (hrt : IsT w rt vr) (hn : l.size + rt.size ≤ 100000) :
    Ret P 71 #[strB k, .agg (rcV r (.slice la r.list.length c)).toArray, vl, vr] w fun x w' => TrR w (.node k r l rt) x w' := by
  refine F71ok ?_
  unfold F71
  obtain ⟨W, hW⟩ : ∃ W, W = nw w (rcV r (.slice la r.list.length c)) 61 := ⟨_, rfl⟩
  have fW : Fr [] w W := by rw [hW]; exact (Fr.refl [] w).nw _ _
  have hs : sz w < sz W := by rw [hW]; simp [sM]
  have m1 : mm W (sz w) = rcV r (.slice la r.list.length c) := by rw [hW]; simp [sM]
  have t8 : ∀ r lv, (rcV r lv).take 8 = rcV r lv := fun _ _ => rfl
  try simp (maxDischargeDepth := 8) [↓sC, sB, sM, ← hW, m1, hs, t8]
  refine (count_spec (hl.fr0 fW.drew)).call ?_
  rintro _ w1 ⟨rfl, f1⟩
  have g1 := fW.drew.trans0 f1
  have q1 : mm w1 (sz w) = rcV r (.slice la r.list.length c) := by rw [f1.mm (by rw [sz_drew]; exact hs) (by simp), mm_drew, m1]
  have s1 : sz w < sz w1 := f1.lt (by rw [sz_drew]; exact hs)
  try simp (maxDischargeDepth := 8) [↓sC, sB, sM, q1, t8]
  refine (count_spec (hrt.fr0 g1)).call ?_
  rintro _ w2 ⟨rfl, f2⟩
  have g2 := g1.trans0 f2
  have q2 : mm w2 (sz w) = rcV r (.slice la r.list.length c) := by rw [f2.mm s1 (by simp), q1]
  have a1 : IntKind.i64.wrap ((l.size : Int) + rt.size) = ((l.size + rt.size : Nat) : Int) := by rw [wrap64 (by omega) (by omega)]; omega
  have a2 : IntKind.i64.wrap (((l.size + rt.size : Nat) : Int) + 1) = ((l.size + rt.size + 1 : Nat) : Int) := by rw [wrap64 (by omega) (by omega)]; omega
  have bf := bf113 (w := w2) (k := k) (r := r) (l := la) (m := r.list.length) (c := c) (n := l.size + rt.size + 1) hl.one hrt.one
  try simp (maxDischargeDepth := 8) [↓sC, sB, sM, q2, t8, a1, a2, bf, -Int.natCast_add]
  have f3 : Fr [] w2 (nw w2 (nodeV k r (.slice la r.list.length c) vl vr (l.size + rt.size + 1)) 113) := (Fr.refl [] w2).nw _ _
  have g3 := g2.trans0 f3
  exact ⟨⟨sz w2, la, c, vl, vr, rfl, by rw [sz_nw]; omega, by simp [sM], hr.fr0 g3, hl.fr0 g3, hrt.fr0 g3⟩, g3⟩
theorem heavy_spec {w : World} {a b : Tr} {va vb : Value} (ha : IsT w a va) (hb : IsT w b vb) (h1 : a.size ≤ 100000) (h2 : b.size ≤ 100000) : Ret P 94 #[va, vb] w fun x w' => x = .bool (decide (3 * (b.size + 1) < a.size + 1)) ∧ Fr [] w w' := by
  refine F94ok ?_
  unfold F94
  try simp (maxDischargeDepth := 8) [↓sC, sB, sM]
  refine (count_spec ha).call ?_
  rintro _ w1 ⟨rfl, f1⟩
  have a1 : IntKind.i64.wrap ((a.size : Int) + 1) = ((a.size + 1 : Nat) : Int) := by rw [wrap64 (by omega) (by omega)]; omega
  have b1 : IntKind.i64.wrap ((b.size : Int) + 1) = ((b.size + 1 : Nat) : Int) := by rw [wrap64 (by omega) (by omega)]; omega
  have b2 : IntKind.i64.wrap (3 * ((b.size + 1 : Nat) : Int)) = ((3 * (b.size + 1) : Nat) : Int) := by rw [wrap64 (by omega) (by omega)]; omega
  try simp (maxDischargeDepth := 8) [↓sC, sB, sM, a1, -Int.natCast_add]
  refine (count_spec (hb.fr0 f1)).call ?_
  rintro _ w2 ⟨rfl, f2⟩
  have hmul : ∀ w, pBin P .mul 3 true (Value.int .i64 3) (i64 ((b.size + 1 : Nat) : Int)) w = some (i64 ((3 * (b.size + 1) : Nat) : Int), w) := fun w => by rw [← b2]; exact pBin_mul
  have hc : (((3 * (b.size + 1) : Nat) : Int) < ((a.size + 1 : Nat) : Int)) = (3 * (b.size + 1) < a.size + 1) := by rw [eq_iff_iff]; omega
  try simp (maxDischargeDepth := 8) [↓sC, sB, sM, b1, hmul, hc, -Int.natCast_add, -Int.natCast_mul]
  try exact f1.trans0 f2
end Go.Proofs.YtieejbkbdfccdaaGreat
