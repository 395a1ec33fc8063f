/- The document's shelf: Find. -/
import Derived.Test.YtieejbkbdfccdaaGreatSim
import Derived.Test.YtieejbkbdfccdaaGreatKX
import Derived.Test.YtieejbkbdfccdaaGreatKK
import Derived.Test.YtieejbkbdfccdaaGreatKW
import Derived.Test.YtieejbkbdfccdaaGreatKQ
set_option linter.unusedVariables false
set_option linter.unusedSimpArgs false
namespace Go.Proofs.YtieejbkbdfccdaaGreat
open Go
structure PrP where
  key : List UInt8
  rec' : RecP
  la : Option Addr
  c : Nat
def prV (k : PrP) : List Value := strB k.key :: rcV k.rec' (.slice k.la k.rec'.list.length k.c)
theorem prV_len : ∀ (L : List PrP), ∀ p ∈ L, (prV p).length = 9 := fun _ _ _ => rfl
@[simp] theorem prlen {k : PrP} : (prV k).length = 9 := rfl
@[simp] theorem prg0 {k : PrP} : gt (prV k) 0 = strB k.key := rfl
theorem prd {k : PrP} : ((prV k).drop 1).take 8 = rcV k.rec' (.slice k.la k.rec'.list.length k.c) := rfl
theorem prd' {k : PrP} : (prV k).tail.take 8 = rcV k.rec' (.slice k.la k.rec'.list.length k.c) := rfl
theorem prV_oneT {k : PrP} : (∀ v, v ∈ prV k → v.oneCell' = true) = True := by
  simp only [eq_iff_iff, iff_true, prV]
  intro v hv
  rcases List.mem_cons.1 hv with rfl | hv
  · exact oc_strB _
  · exact rcV_one v hv
def pz : PrP := ⟨[], rz, none, 0⟩
def PrOk (w : World) (k : PrP) : Prop := IsRec w (.slice k.la k.rec'.list.length k.c) k.rec'
def kr (k : PrP) : KR := (k.key, k.rec')
/-- Where a key stands, or would. -/
def findN (key : List UInt8) : List KR → Nat
  | [] => 0
  | p :: L => if Op.bytesLess p.1 key then findN key L + 1 else 0
theorem findN_le (key : List UInt8) : ∀ L : List KR, findN key L ≤ L.length
  | [] => Nat.le_refl _
  | p :: L => by
    have := findN_le key L
    unfold findN
    split <;> simp; omega
theorem findN_below {key : List UInt8} : ∀ {L : List KR} {j : Nat} {p : KR}, j < findN key L → L[j]? = some p → Op.bytesLess p.1 key = true
  | [], j, p, h, _ => by simp [findN] at h
  | q :: L, j, p, h, hp => by
    unfold findN at h
    split at h
    · rename_i hq
      cases j with
      | zero => simp at hp; subst hp; exact hq
      | succ j => exact findN_below (L := L) (j := j) (by omega) (by simpa using hp)
    · omega
theorem findN_here {key : List UInt8} : ∀ {L : List KR} {p : KR}, L[findN key L]? = some p → Op.bytesLess p.1 key = false
  | [], p, h => by simp [findN] at h
  | q :: L, p, h => by
    unfold findN at h
    split at h
    · rename_i hq
      exact findN_here (by simpa using h)
    · rename_i hq
      simp at h; subst h; simpa using hq
def FnI (w0 : World) (b : Nat) (key : List UInt8) (n : Nat) (m : Nat) (e : Env) (w' : World) : Prop := ∃ j : Nat, m = n - j ∧ j ≤ n ∧ Fr [] w0 w' ∧ e 1 = strB key ∧ e 2 = pt b 0 ∧ e 5 = i64 j
set_option maxHeartbeats 4000000 in
theorem find_spec {w : World} {sa : Option Addr} {sc room : Nat} {key : List UInt8} {L : List PrP} (h : RdV w (.slice sa L.length sc) L.length (flat prV L)) (hn : L.length ≤ 100) :
    Ret P 46 #[.agg #[.slice sa L.length sc, i64 room], strB key] w fun x w' => x = i64 (findN key (L.map kr)) ∧ Fr [] w w' := by
  refine F46ok ?_
  unfold F46
  obtain ⟨W, hW⟩ : ∃ W, W = nw w [.slice sa L.length sc, i64 room] 54 := ⟨_, rfl⟩
  have fW : Fr [] w W := by rw [hW]; exact (Fr.refl [] w).nw _ _
  have m0 : mm W (sz w) = [.slice sa L.length sc, i64 room] := by rw [hW]; simp [sM]
  have hs : sz w < sz W := by rw [hW]; simp [sM]
  have hc : (Value.agg #[.slice sa L.length sc, i64 room]).cells.toList = [.slice sa L.length sc, i64 room] := rfl
  have hfl := findN_le key (L.map kr)
  rw [List.length_map] at hfl
  try simp (maxDischargeDepth := 8) [↓sC, sB, sM, hc, ← hW]
  refine loopE_of (FnI W (sz w) key (findN key (L.map kr))) (findN key (L.map kr)) ⟨0, by omega, by omega, Fr.refl _ _, by simp [put_get, argE], by simp [put_get], by simp [put_get]⟩ ?_
  rintro m e w1 ⟨j, rfl, hj, f1, e1, e2, e5⟩
  unfold F46B0
  have m1 : mm w1 (sz w) = [.slice sa L.length sc, i64 room] := by rw [f1.mm hs (by simp), m0]
  have hwj : IntKind.i64.wrap ((j : Int) + 1) = ((j + 1 : Nat) : Int) := wrap64 (by omega) (by omega)
  have hlen : ∀ w, pBuiltin P .len #[22] 3 [.slice sa L.length sc] w = some (i64 L.length, w) := fun w => len22
  by_cases hjL : j < L.length
  · obtain ⟨x, hx⟩ : ∃ x, L[j]? = some x := ⟨_, List.getElem?_eq_getElem hjL⟩
    obtain ⟨b, o, c', hv, hb, hin, htk⟩ := flat_at ((h.fr0 fW).fr0 f1) (prV_len L) (by omega) hx
    have hji : (j : Int) < L.length := by omega
    have hcell : gt (mm w1 b) (o + j * 9) = strB x.key := by
      have := cell_of (n := 9) htk (i := 0) (by omega)
      simpa using this
    have hcl : o + j * 9 < (mm w1 b).length := by omega
    have hlt : ∀ w, pBin P .lss 9 false (strB x.key) (strB key) w = some (.bool (Op.bytesLess x.key key), w) := fun w => lt_strB
    have hmx : (L.map kr)[j]? = some (kr x) := by rw [List.getElem?_map, hx]; rfl
    rw [hv] at m1 hlen
    cases hb2 : Op.bytesLess x.key key with
    | true =>
      have hjf : j < findN key (L.map kr) := by
        rcases Nat.lt_or_ge j (findN key (L.map kr)) with h | h
        · exact h
        · have : j = findN key (L.map kr) := by omega
          rw [this] at hmx
          have := findN_here hmx
          simp only [kr] at this
          rw [hb2] at this; cases this
      try simp (maxDischargeDepth := 8) [↓sC, sB, sM, e2, e5, e1, m1, hlen, hji, hjL, hcell, hcl, hlt, hb2, hwj, -Int.natCast_add]
      exact ⟨findN key (L.map kr) - (j + 1), by omega, j + 1, rfl, by omega, f1, by simp [put_get, e1], by simp [put_get, e2], by simp [put_get]⟩
    | false =>
      have hjf : j = findN key (L.map kr) := by
        rcases Nat.lt_or_ge j (findN key (L.map kr)) with h | h
        · have := findN_below h hmx
          simp only [kr] at this
          rw [hb2] at this; cases this
        · omega
      try simp (maxDischargeDepth := 8) [↓sC, sB, sM, e2, e5, e1, m1, hlen, hji, hjL, hcell, hcl, hlt, hb2]
      exact ⟨by omega, fW.trans0 f1⟩
  · have hji : ¬ (j : Int) < L.length := by omega
    try simp (maxDischargeDepth := 8) [↓sC, sB, sM, e2, e5, e1, m1, hlen, hji, hjL]
    exact ⟨by omega, fW.trans0 f1⟩
end Go.Proofs.YtieejbkbdfccdaaGreat

set_option linter.unusedVariables false
set_option linter.unusedSimpArgs false
namespace Go.Proofs.YtieejbkbdfccdaaGreat
open Go
theorem fprl (L : List PrP) : (flat prV L).length = L.length * 9 := flat_length (fun _ _ => rfl)
theorem fpr_split (L : List PrP) (i : Nat) : flat prV L = flat prV (L.take i) ++ flat prV (L.drop i) := by rw [← flat_append, List.take_append_drop]
theorem prs_to {w : World} {v : Value} {L : List PrP} {hi : Nat} (h : RdV w v L.length (flat prV L)) (hh : hi ≤ L.length) :
    ∃ S, (∀ w', pSlice P 22 v none (some (i64 hi)) none w' = some (S, w')) ∧ RdV w S hi (flat prV (L.take hi)) ∧ S.oneCell' = true := by
  have hsp := fpr_split L hi
  have hl1 : (flat prV (L.take hi)).length = hi * 9 := by rw [fprl, List.length_take, Nat.min_eq_left hh]
  rcases id h with ⟨a, c, rfl, h0, _⟩ | ⟨b, o, c, rfl, hc1, hc2, hlt, hin, hcs⟩
  · have hh0 : hi = 0 := by omega
    subst hh0
    refine ⟨_, fun w' => pSlice_any (w := w') (a := a) (n := 0) (c := c) (lo := none) (hi := some (i64 (0 : Nat))) sliceE22 tyOk63 rfl rfl (by simp [bLo]) (by simp [bLo, bHi]) (by simp [bHi]) (by omega), .inl ⟨_, _, by simp [bLo, bHi]; exact ⟨rfl, rfl⟩, rfl, by simp [flat]⟩, rfl⟩
  · refine ⟨sl b o hi c, fun w' => ?_, .inr ⟨b, o, c, rfl, by omega, hc2, hlt, by rw [hsp, List.length_append] at hin; omega, ?_⟩, rfl⟩
    · rw [pSlice_any (w := w') (n := L.length) (c := c) (lo := none) (hi := some (i64 hi)) sliceE22 tyOk63 rfl rfl (by simp [bLo]) (by simp [bLo, bHi]) (by simp [bHi]; omega) hc1]
      simp [bLo, bHi, Addr.add]
    · have : flat prV (L.take hi) = (flat prV L).take (hi * 9) := by rw [hsp, ← hl1, List.take_left]
      have e := congrArg (List.take (hi * 9)) hcs
      rw [List.take_take, Nat.min_eq_left (by rw [fprl]; omega)] at e
      rw [hl1, e, this]
theorem prs_from {w : World} {v : Value} {L : List PrP} {lo : Nat} (h : RdV w v L.length (flat prV L)) (hh : lo ≤ L.length) :
    ∃ S, (∀ w', pSlice P 22 v (some (i64 lo)) none none w' = some (S, w')) ∧ RdV w S (L.length - lo) (flat prV (L.drop lo)) ∧ S.oneCell' = true := by
  have hsp := fpr_split L lo
  have hl1 : (flat prV (L.take lo)).length = lo * 9 := by rw [fprl, List.length_take, Nat.min_eq_left hh]
  have hl2 : (flat prV (L.drop lo)).length = (L.length - lo) * 9 := by rw [fprl, List.length_drop]
  rcases id h with ⟨a, c, rfl, h0, _⟩ | ⟨b, o, c, rfl, hc1, hc2, hlt, hin, hcs⟩
  · have hh0 : lo = 0 := by omega
    subst hh0
    have hL : L = [] := List.eq_nil_of_length_eq_zero h0
    subst hL
    refine ⟨_, fun w' => pSlice_any (w := w') (a := a) (n := 0) (c := c) (lo := some (i64 (0 : Nat))) (hi := none) sliceE22 tyOk63 rfl rfl (by simp [bLo]) (by simp [bLo, bHi]) (by simp [bHi]) (by omega), .inl ⟨_, _, by simp [bLo, bHi]; exact ⟨rfl, rfl⟩, rfl, by simp [flat]⟩, rfl⟩
  · by_cases hz : lo = L.length
    · subst hz
      refine ⟨.slice (if c = L.length then some ⟨b, o, none⟩ else some ⟨b, o + L.length * 9, none⟩) 0 (c - L.length), fun w' => ?_, .inl ⟨_, _, rfl, by omega, by simp [flat]⟩, rfl⟩
      rw [pSlice_any (w := w') (a := some ⟨b, o, none⟩) (n := L.length) (c := c) (lo := some (i64 (L.length : Nat))) (hi := none) sliceE22 tyOk63 rfl rfl (by simp [bLo]) (by simp [bLo, bHi]) (by simp [bHi]; omega) hc1]
      simp [bLo, bHi, Addr.add]
      by_cases h1 : c = L.length
      · rw [if_pos h1, if_pos h1]
      · rw [if_neg h1, if_neg h1]
        by_cases h2 : L.length * 9 = 0
        · rw [if_pos h2, h2]; rfl
        · rw [if_neg h2]
    · refine ⟨sl b (o + lo * 9) (L.length - lo) (c - lo), fun w' => ?_, .inr ⟨b, o + lo * 9, c - lo, rfl, by omega, by omega, hlt, by rw [hsp, List.length_append] at hin; omega, ?_⟩, rfl⟩
      · rw [pSlice_any (w := w') (n := L.length) (c := c) (lo := some (i64 lo)) (hi := none) sliceE22 tyOk63 rfl rfl (by simp [bLo]) (by simp [bLo, bHi]; omega) (by simp [bHi]; omega) hc1]
        have hne : ¬ c = lo := by omega
        simp [bLo, bHi, Addr.add, hne]
      · have : flat prV (L.drop lo) = (flat prV L).drop (lo * 9) := by rw [hsp, ← hl1, List.drop_left]
        have e := congrArg (List.drop (lo * 9)) hcs
        rw [List.drop_take, List.drop_drop] at e
        rw [hl2, this, ← e, fprl]
        congr 1
        omega
end Go.Proofs.YtieejbkbdfccdaaGreat

set_option linter.unusedVariables false
set_option linter.unusedSimpArgs false
namespace Go.Proofs.YtieejbkbdfccdaaGreat
open Go
theorem findN_cons (key : List UInt8) (p : KR) (L : List KR) : findN key (p :: L) = if Op.bytesLess p.1 key then findN key L + 1 else 0 := rfl
def hasAt (key : List UInt8) (M : List KR) : Bool := match M[findN key M]? with | some p => decide (p.1 = key) | none => false
theorem insL_find {key : List UInt8} {r : RecP} : ∀ M : List KR, insL key r M = M.take (findN key M) ++ (key, r) :: M.drop (if hasAt key M = true then findN key M + 1 else findN key M)
  | [] => by simp [insL, findN, hasAt]
  | (k, x) :: M => by
    have ih := insL_find (key := key) (r := r) M
    unfold insL
    by_cases h : Op.bytesLess k key = true
    · have hf : findN key ((k, x) :: M) = findN key M + 1 := by rw [findN_cons, if_pos h]
      have hh : hasAt key ((k, x) :: M) = hasAt key M := by unfold hasAt; rw [hf]; rfl
      rw [if_pos h, ih, hf, hh]
      simp only [List.take_succ_cons, List.cons_append]
      congr 2
      split <;> rfl
    · have hf : findN key ((k, x) :: M) = 0 := by rw [findN_cons, if_neg h]
      have hh : hasAt key ((k, x) :: M) = decide (k = key) := by unfold hasAt; rw [hf]; rfl
      rw [if_neg h, hf, hh]
      by_cases e : k = key
      · simp [e]
      · simp [e]
theorem hasAt_has {key : List UInt8} : ∀ {M : List KR}, SrtK M → hasAt key M = hasK key M
  | [], _ => rfl
  | (k, x) :: M, hs => by
    obtain ⟨h1, h2⟩ := List.pairwise_cons.1 hs
    have ih := hasAt_has (key := key) h2
    by_cases h : Op.bytesLess k key = true
    · have hf : findN key ((k, x) :: M) = findN key M + 1 := by rw [findN_cons, if_pos h]
      have hh : hasAt key ((k, x) :: M) = hasAt key M := by unfold hasAt; rw [hf]; rfl
      have hk : ¬ k = key := fun e => by rw [e, bl_irrefl] at h; cases h
      rw [hh, ih]
      simp [hasK, hk]
    · have hf : findN key ((k, x) :: M) = 0 := by rw [findN_cons, if_neg h]
      have hh : hasAt key ((k, x) :: M) = decide (k = key) := by unfold hasAt; rw [hf]; rfl
      rw [hh]
      by_cases e : k = key
      · simp [hasK, e]
      · have hlt : Op.bytesLess key k = true := by
          cases hb : Op.bytesLess key k with
          | true => rfl
          | false => exact absurd (bl_eq (by simpa using h) hb) e
        have : (M.any fun p => decide (p.1 = key)) = false := by
          rw [List.any_eq_false]
          intro p hp
          have h3 := bl_trans hlt (h1 p hp)
          have : ¬ p.1 = key := fun e => by rw [e, bl_irrefl] at h3; cases h3
          simpa using this
        unfold hasK
        rw [List.any_cons, this]
        simp [e]
def RefS (w : World) (x : Value) (room : Nat) (L : List PrP) : Prop := ∃ sa sc, x = .agg #[.slice sa L.length sc, i64 room] ∧ RdV w (.slice sa L.length sc) L.length (flat prV L) ∧ ∀ p ∈ L, PrOk w p
theorem bf63 {w : World} {k : List UInt8} {r : RecP} {l : Option Addr} {m c : Nat} (hm : m = r.list.length) : pBuild P 63 [(0, strB k), (1, .agg (rcV r (.slice l m c)).toArray)] w = some (.agg (prV ⟨k, r, l, c⟩).toArray, w) := by
  subst hm
  have fOk63 : fieldsOk P 63 = true := by kernel_rfl
  rw [pBuild_struct hasZero63 fOk63 (fun p hp => ?_)]
  · rw [zeroL63]
    have e0 : offF P 63 0 = 0 := by kernel_rfl
    have e1 : offF P 63 1 = 1 := by kernel_rfl
    simp only [List.foldl_cons, List.foldl_nil, e0, e1]
    rfl
  · simp only [List.mem_cons, List.not_mem_nil, or_false] at hp
    rcases hp with rfl | rfl
    · exact ⟨0, 9, by kernel_rfl, by rw [cellsOf9]; rfl, by rw [zeroL63, cellsOf9]; decide⟩
    · exact ⟨1, 61, by kernel_rfl, by rw [cellsOf61]; rfl, by rw [zeroL63, cellsOf61]; decide⟩
theorem flat_oneP : ∀ (L : List PrP), ∀ u ∈ flat prV L, u.oneCell' = true := fun L u hu => by
  obtain ⟨l, hl, hu⟩ := List.mem_flatten.1 hu
  obtain ⟨x, _, rfl⟩ := List.mem_map.1 hl
  exact (of_eq_true prV_oneT) u hu
end Go.Proofs.YtieejbkbdfccdaaGreat

set_option linter.unusedVariables false
set_option linter.unusedSimpArgs false
namespace Go.Proofs.YtieejbkbdfccdaaGreat
open Go
theorem app22 {base : Nat} {w : World} {v : Value} {n m : Nat} {L M : List PrP} (h : w.ownsRow base 63 9 v n (flat prV L)) (hb : base ≤ sz w) {x : Value} (hx : RdV w x m (flat prV M)) (hm : M.length = m) (hn : n + m ≤ 1000) :
    ∃ v' w', pBuiltin P .append #[22, 22] 22 [v, x] w = some (v', w') ∧ w'.ownsRow base 63 9 v' (n + m) (flat prV (L ++ M)) ∧ Fr v.ownBlock.toList w w' := by
  obtain ⟨x', w', hrun, hown, hg, hx'⟩ := append_own2 (P := P) (t := 22) (ty := 22) base sliceE22 hasZero63 cellsOf63 (by rw [zeroL63]; rfl) (by omega) h hb hx (by rw [fprl, hm]) (flat_oneP M)
    (by unfold maxLen; omega) (by rw [bytesOf63]; omega)
  rw [← flat_append] at hown
  exact ⟨x', w', hrun, hown, Fr.of_grown hg⟩
theorem bsl22z {w : World} : pBuildSlice P 22 0 [] w = some (sl (sz w) 0 0 0, nw w [] 63) := by rw [bsl22 (by omega) (by simp)]; simp
theorem bsl22o {w : World} {k : PrP} : pBuildSlice P 22 1 [(0, .agg (prV k).toArray)] w = some (sl (sz w) 0 1 1, nw w (prV k) 63) := by
  have hc : (Value.agg (prV k).toArray).cells.toList = prV k := rfl
  rw [bsl22 (by omega) (by intro p hp; rw [List.mem_singleton] at hp; subst hp; exact ⟨rfl, by simp⟩)]
  simp only [List.foldl_cons, List.foldl_nil, hc]
  congr 1
def RsR (w : World) (room : Nat) (M : List KR) (key : List UInt8) (r : RecP) (y : Value) (w' : World) : Prop :=
  ∃ (x' : Value) (L' : List PrP) (n : Int), y = .tuple #[x', i64 n] ∧ RefS w' x' room L' ∧ (setOk room M key r → L'.map kr = insL key r M) ∧ (¬ setOk room M key r → L'.map kr = M) ∧ Fr [] w w'
set_option maxHeartbeats 8000000 in
set_option maxRecDepth 20000 in
theorem refSet_spec {w : World} {x : Value} {room : Nat} {key : List UInt8} {r : RecP} {la : Option Addr} {c : Nat} {L : List PrP} (h : RefS w x room L) (hs : SrtK (L.map kr)) (hn : L.length ≤ 100) (hr : IsRec w (.slice la r.list.length c) r) (hroom : room ≤ 4096) :
    Ret P 19 #[x, strB key, .agg (rcV r (.slice la r.list.length c)).toArray] w fun y w' => RsR w room (L.map kr) key r y w' := by
  obtain ⟨sa, sc, rfl, hrd, hok⟩ := h
  refine F19ok ?_
  unfold F19
  have hc : (Value.agg #[.slice sa L.length sc, i64 room]).cells.toList = [.slice sa L.length sc, i64 room] := rfl
  have hlen : ∀ l w, pBuiltin P .len #[9] 3 [strB l] w = some (i64 l.length, w) := fun l w => len_strB und9
  have hlen2 : ∀ w, pBuiltin P .len #[22] 3 [.slice sa L.length sc] w = some (i64 L.length, w) := fun w => len22
  have t8 : ∀ r lv, (rcV r lv).take 8 = rcV r lv := fun _ _ => rfl
  obtain ⟨W, hW⟩ : ∃ W, W = nw (nw (nw w [.slice sa L.length sc, i64 room] 54) (rcV r (.slice la r.list.length c)) 61) [.slice none 0 0, i64 0] 54 := ⟨_, rfl⟩
  have fW : Fr [] w W := by rw [hW]; exact (((Fr.refl [] w).nw _ _).nw _ _).nw _ _
  have hsW : sz W = sz w + 3 := by rw [hW]; simp [sz_nw]
  have m0 : mm W (sz w) = [.slice sa L.length sc, i64 room] := by
    rw [hW, mm_nw, if_neg (by simp [sz_nw]; omega), mm_nw, if_neg (by simp [sz_nw]), mm_nw, if_pos rfl]
  have m1 : mm W (sz w + 1) = rcV r (.slice la r.list.length c) := by rw [hW, mm_nw, if_neg (by simp [sz_nw]), mm_nw, if_pos (by simp [sz_nw])]
  have m2 : mm W (sz w + 2) = [.slice none 0 0, i64 0] := by rw [hW, mm_nw, if_pos (by simp [sz_nw])]
  have z2 : fz W (sz w + 2) = false := by rw [hW, fz_nw, if_pos (by simp [sz_nw])]
  have kp : ∀ {w' : World}, Fr [] W w' → mm w' (sz w) = [.slice sa L.length sc, i64 room] ∧ mm w' (sz w + 1) = rcV r (.slice la r.list.length c) ∧ mm w' (sz w + 2) = [.slice none 0 0, i64 0] ∧ fz w' (sz w + 2) = false ∧ sz w + 3 ≤ sz w' := fun hf => by
    have := hf.size
    exact ⟨by rw [hf.mm (by omega) (by simp), m0], by rw [hf.mm (by omega) (by simp), m1], by rw [hf.mm (by omega) (by simp), m2], by rw [hf.fz (by omega) (by simp), z2], by omega⟩
  have hsp2 : ∀ a b : Value, splice [Value.slice none 0 0, i64 0] 0 [a, b] = [a, b] := fun _ _ => rfl
  have hv1 : (Value.slice sa L.length sc).oneCell' = true := rfl
  have bad : ∀ {w' : World} (n : Int), Fr [] W w' → ¬ setOk room (L.map kr) key r → RsR w room (L.map kr) key r (.tuple #[.agg #[.slice sa L.length sc, i64 room], i64 n]) (wr w' (sz w + 1 + 1) [.slice sa L.length sc, i64 room]) := fun n hf hno => by
    have g := (fW.trans0 hf).wr (b := sz w + 1 + 1) (.inr (by omega)) [.slice sa L.length sc, i64 room]
    exact ⟨_, L, n, rfl, ⟨sa, sc, rfl, hrd.fr0 g, fun p hp => (hok p hp).fr0 g⟩, fun h => absurd h hno, fun _ => rfl, g⟩
  by_cases hk : 1 ≤ key.length ∧ key.length ≤ 24
  · have k0 : ¬ ((key.length : Int) < 1) := by omega
    have k1 : ¬ key.length = 0 := by omega
    have k1' : ¬ key = [] := by rintro rfl; simp at hk
    have k2 : ¬ (24 : Int) < key.length := by omega
    have k3 : ¬ 24 < key.length := by omega
    try simp (maxDischargeDepth := 8) [↓sC, sB, sM, hc, hlen, ← hW, m0, m1, m2, z2, hsW, k0, k1, k1', k2, k3, t8]
    have hchk : Ret P 45 #[.agg (rcV r (.slice la r.list.length c)).toArray] W fun v w' => ∃ n : Int, v = i64 n ∧ (n = 0 ↔ RecOk r) ∧ Fr [] W w' := by
      by_cases h : RecOk r
      · exact (refCheck_ok (hr.fr0 fW) h).mono fun v w' h' => ⟨0, h'.1, ⟨fun _ => h, fun _ => rfl⟩, h'.2⟩
      · exact (refCheck_spec (hr.fr0 fW)).mono fun v w' ⟨n, h1, h2, h3⟩ => ⟨n, h1, ⟨h2, fun h' => absurd h' h⟩, h3⟩
    refine hchk.call ?_
    rintro _ w1 ⟨n, rfl, hn1, f1⟩
    obtain ⟨a0, a1, a2, a3, a4⟩ := kp f1
    rcases (Decidable.em (n = 0)).symm with n0 | n0
    · have hno : ¬ setOk room (L.map kr) key r := fun h => n0 (hn1.2 h.2.2.1)
      try simp (maxDischargeDepth := 8) [↓sC, sB, sM, n0, a0, a2, a3, hsp2, hv1]
      exact bad n f1 hno
    have hok1 := hn1.1 n0
    have g1 := fW.trans0 f1
    try simp (maxDischargeDepth := 8) [↓sC, sB, sM, n0, a0, a1, a2, a3, hsp2, hv1]
    refine (find_spec (room := room) (key := key) (hrd.fr0 g1) hn).call ?_
    rintro _ w2 ⟨rfl, f2⟩
    have F2 := f1.trans0 f2
    have g2 := fW.trans0 F2
    obtain ⟨b0, b1, b2, b3, b4⟩ := kp F2
    obtain ⟨f, hf⟩ : ∃ f, f = findN key (L.map kr) := ⟨_, rfl⟩
    rw [← hf]
    have hfl : f ≤ L.length := by rw [hf]; have := findN_le key (L.map kr); rwa [List.length_map] at this
    have hat := hasAt_has (key := key) hs
    by_cases hfL : f < L.length
    · obtain ⟨x, hx⟩ : ∃ x, L[f]? = some x := ⟨_, List.getElem?_eq_getElem hfL⟩
      obtain ⟨pb, po, pc, hpv, hpb, hpin, hptk⟩ := flat_at (hrd.fr0 g2) (prV_len L) (by omega) hx
      have hji : (f : Int) < L.length := by omega
      have hcell : gt (mm w2 pb) (po + f * 9) = strB x.key := by
        have := cell_of (n := 9) hptk (i := 0) (by omega)
        simpa using this
      have hcl : po + f * 9 < (mm w2 pb).length := by omega
      have hix : pIndexAddr P 22 (.slice sa L.length sc) (i64 f) w2 = some (pt pb (po + f * 9), w2) := by
        rw [hpv]
        exact ia22 (by omega) (by omega)
      have heq : ∀ w, pBin P .eql 9 false (strB x.key) (strB key) w = some (.bool (decide (x.key = key)), w) := fun w => eq_strB
      have hha : hasAt key (L.map kr) = decide (x.key = key) := by
        unfold hasAt
        rw [← hf, List.getElem?_map, hx]; rfl
      by_cases he : x.key = key
      · have hso : setOk room (L.map kr) key r := ⟨hk.1, hk.2, hok1, .inl (by rw [← hat, hha]; simp [he])⟩
        have he' : (x.key = key) = True := eq_true he
        have hif : (if hasAt key (L.map kr) = true then f + 1 else f) = f + 1 := by rw [hha]; simp [he]
        obtain ⟨S1, hS1, hrS1, hoS1⟩ := prs_to (hrd.fr0 g2) (hi := f) (by omega)
        obtain ⟨W3, hW3⟩ : ∃ W3, W3 = nw w2 [] 63 := ⟨_, rfl⟩
        have f3 : Fr [] w2 W3 := by rw [hW3]; exact (Fr.refl [] w2).nw _ _
        have hown3 : W3.ownsRow (sz W) 63 9 (sl (sz w2) 0 0 0) 0 (flat prV []) := by rw [hW3]; exact own_made F2.size
        have F3 := F2.trans0 f3
        obtain ⟨v4, w4, hrun4, hown4, f4⟩ := app22 hown3 F3.size (hrS1.fr0 f3) (by rw [List.length_take]; omega) (by omega)
        have f4' : Fr [sz w2] W3 w4 := by simpa [Value.ownBlock] using f4
        have F4 : Fr [] W w4 := F3.trans f4' (fun k hk => .inr (by simp at hk; have := F2.size; omega))
        obtain ⟨W5, hW5⟩ : ∃ W5, W5 = nw w4 (prV ⟨key, r, la, c⟩) 63 := ⟨_, rfl⟩
        have f5 : Fr [] w4 W5 := by rw [hW5]; exact (Fr.refl [] w4).nw _ _
        have F5 := F4.trans0 f5
        have hrd5 : RdV W5 (sl (sz w4) 0 1 1) 1 (flat prV [⟨key, r, la, c⟩]) := by
          have := rd_new w4 (prV ⟨key, r, la, c⟩) 63 (n := 1) (by unfold maxLen; omega)
          rw [hW5]; simpa [flat] using this
        obtain ⟨v6, w6, hrun6, hown6, f6⟩ := app22 (own_fr hown4 f5 (by simp)) F5.size hrd5 rfl (by omega)
        have F6 : Fr [] W w6 := F5.trans f6 (fun k hk => .inr (own_lt (own_fr hown4 f5 (by simp)) k (by simpa using hk)).1)
        obtain ⟨S2, hS2, hrS2, hoS2⟩ := prs_from (hrd.fr0 (fW.trans0 F6.drew)) (lo := f + 1) (by omega)
        obtain ⟨v7, w7, hrun7, hown7, f7⟩ := app22 (own_fr hown6 (Fr.refl [] w6).drew (by simp)) F6.drew.size hrS2 (by rw [List.length_drop]) (by omega)
        have F7 : Fr [] W w7 := F6.drew.trans f7 (fun k hk => .inr (own_lt (own_fr hown6 (Fr.refl [] w6).drew (by simp)) k (by simpa using hk)).1)
        obtain ⟨c0, c1, c2, c3, c4⟩ := kp F4
        obtain ⟨d0, d1, d2, d3, d4⟩ := kp F6
        obtain ⟨e0, e1, e2, e3, e4⟩ := kp F7
        have hv7 : v7.oneCell' = true := by obtain ⟨_, _, rfl⟩ := own_val hown7; rfl
        have bf63' : ∀ w, pBuild P 63 [(0, strB key), (1, .agg (rcV r (.slice la r.list.length c)).toArray)] w = some (.agg (prV ⟨key, r, la, c⟩).toArray, w) := fun w => bf63 rfl
        have b54 : ∀ w, pBuild P 54 [(0, v7), (1, i64 (room : Int))] w = some (.agg #[v7, i64 room], w) := fun w => by rw [bf54 (by intro p hp; simp only [List.mem_cons, List.not_mem_nil, or_false] at hp; rcases hp with rfl | rfl; exact ⟨by simp, hv7⟩; exact ⟨by simp, rfl⟩)]; rfl
        have hbs0 : pBuildSlice P 22 0 [] w2 = some (sl (sz w2) 0 0 0, W3) := by rw [hW3]; exact bsl22z
        have hbs1 : pBuildSlice P 22 1 [(0, .agg (prV ⟨key, r, la, c⟩).toArray)] w4 = some (sl (sz w4) 0 1 1, W5) := by rw [hW5]; exact bsl22o
        obtain ⟨x0, x1, x2, x3, x4⟩ := kp F3
        have hwf : IntKind.i64.wrap ((f : Int) + 1) = ((f + 1 : Nat) : Int) := wrap64 (by omega) (by omega)
        try simp (maxDischargeDepth := 8) [↓sC, sB, sM, hlen2, hji, hfL, hix, hcell, hcl, heq, he', hbs0, ← hW3, hbs1, ← hW5, hS1, hS2, hrun4, hrun6, hrun7, bf63', b54, b0, b1, b2, b3, c0, c1, c2, c3, d0, d1, d2, d3, e0, e1, e2, e3, x0, x1, x2, x3, t8, hsp2, hv7, hwf, -bsl22, -Int.natCast_add]
        have hown8 : (wr w7 (sz w + 1 + 1) [v7, i64 room]).ownsRow (sz W) 63 9 v7 (f + 1 + (L.length - (f + 1))) (flat prV (([] ++ L.take f) ++ [⟨key, r, la, c⟩] ++ L.drop (f + 1))) := by
          rw [Nat.zero_add] at hown7
          exact own_fr hown7 ((Fr.refl [sz w + 1 + 1] w7).wr (.inl (by simp)) _) (fun k hk hm => by have := (own_lt hown7 k hk).1; simp at hm; omega)
        have G := (fW.trans0 F7).wr (b := sz w + 1 + 1) (.inr (by omega)) [v7, i64 (room : Int)]
        have hlen' : (([] ++ L.take f) ++ [(⟨key, r, la, c⟩ : PrP)] ++ L.drop (f + 1)).length = f + 1 + (L.length - (f + 1)) := by simp; omega
        obtain ⟨a7, c7, rfl⟩ := own_val hown8
        refine ⟨_, ([] ++ L.take f) ++ [(⟨key, r, la, c⟩ : PrP)] ++ L.drop (f + 1), 0, rfl, ⟨a7, c7, by rw [hlen'], by rw [hlen']; exact own_rd hown8, fun p hp => ?_⟩, fun _ => ?_, fun hno => absurd hso hno, G⟩
        · rcases List.mem_append.1 hp with hp | hp
          · rcases List.mem_append.1 hp with hp | hp
            · exact (hok p (List.mem_of_mem_take (by simpa using hp))).fr0 G
            · rw [List.mem_singleton] at hp; subst hp
              exact hr.fr0 G
          · exact (hok p (List.mem_of_mem_drop hp)).fr0 G
        · rw [insL_find, ← hf, hif]
          simp [kr, List.map_take, List.map_drop]
      · have he' : (x.key = key) = False := eq_false he
        have hno0 : hasK key (L.map kr) = false := by rw [← hat, hha]; simp [he]
        have hif : (if hasAt key (L.map kr) = true then f + 1 else f) = f := by rw [hha]; simp [he]
        by_cases hlt : L.length < room
        · have hso : setOk room (L.map kr) key r := ⟨hk.1, hk.2, hok1, .inr (by rw [List.length_map]; exact hlt)⟩
          have u1 : ¬ (room : Int) ≤ L.length := by omega
          have u2 : ¬ room ≤ L.length := by omega
          obtain ⟨S1, hS1, hrS1, hoS1⟩ := prs_to (hrd.fr0 g2) (hi := f) (by omega)
          obtain ⟨W3, hW3⟩ : ∃ W3, W3 = nw w2 [] 63 := ⟨_, rfl⟩
          have f3 : Fr [] w2 W3 := by rw [hW3]; exact (Fr.refl [] w2).nw _ _
          have hown3 : W3.ownsRow (sz W) 63 9 (sl (sz w2) 0 0 0) 0 (flat prV []) := by rw [hW3]; exact own_made F2.size
          have F3 := F2.trans0 f3
          obtain ⟨v4, w4, hrun4, hown4, f4⟩ := app22 hown3 F3.size (hrS1.fr0 f3) (by rw [List.length_take]; omega) (by omega)
          have f4' : Fr [sz w2] W3 w4 := by simpa [Value.ownBlock] using f4
          have F4 : Fr [] W w4 := F3.trans f4' (fun k hk => .inr (by simp at hk; have := F2.size; omega))
          obtain ⟨W5, hW5⟩ : ∃ W5, W5 = nw w4 (prV ⟨key, r, la, c⟩) 63 := ⟨_, rfl⟩
          have f5 : Fr [] w4 W5 := by rw [hW5]; exact (Fr.refl [] w4).nw _ _
          have F5 := F4.trans0 f5
          have hrd5 : RdV W5 (sl (sz w4) 0 1 1) 1 (flat prV [⟨key, r, la, c⟩]) := by
            have := rd_new w4 (prV ⟨key, r, la, c⟩) 63 (n := 1) (by unfold maxLen; omega)
            rw [hW5]; simpa [flat] using this
          obtain ⟨v6, w6, hrun6, hown6, f6⟩ := app22 (own_fr hown4 f5 (by simp)) F5.size hrd5 rfl (by omega)
          have F6 : Fr [] W w6 := F5.trans f6 (fun k hk => .inr (own_lt (own_fr hown4 f5 (by simp)) k (by simpa using hk)).1)
          obtain ⟨S2, hS2, hrS2, hoS2⟩ := prs_from (hrd.fr0 (fW.trans0 F6.drew)) (lo := f) (by omega)
          obtain ⟨v7, w7, hrun7, hown7, f7⟩ := app22 (own_fr hown6 (Fr.refl [] w6).drew (by simp)) F6.drew.size hrS2 (by rw [List.length_drop]) (by omega)
          have F7 : Fr [] W w7 := F6.drew.trans f7 (fun k hk => .inr (own_lt (own_fr hown6 (Fr.refl [] w6).drew (by simp)) k (by simpa using hk)).1)
          obtain ⟨c0, c1, c2, c3, c4⟩ := kp F4
          obtain ⟨d0, d1, d2, d3, d4⟩ := kp F6
          obtain ⟨e0, e1, e2, e3, e4⟩ := kp F7
          have hv7 : v7.oneCell' = true := by obtain ⟨_, _, rfl⟩ := own_val hown7; rfl
          have bf63' : ∀ w, pBuild P 63 [(0, strB key), (1, .agg (rcV r (.slice la r.list.length c)).toArray)] w = some (.agg (prV ⟨key, r, la, c⟩).toArray, w) := fun w => bf63 rfl
          have b54 : ∀ w, pBuild P 54 [(0, v7), (1, i64 (room : Int))] w = some (.agg #[v7, i64 room], w) := fun w => by rw [bf54 (by intro p hp; simp only [List.mem_cons, List.not_mem_nil, or_false] at hp; rcases hp with rfl | rfl; exact ⟨by simp, hv7⟩; exact ⟨by simp, rfl⟩)]; rfl
          have hbs0 : pBuildSlice P 22 0 [] w2 = some (sl (sz w2) 0 0 0, W3) := by rw [hW3]; exact bsl22z
          have hbs1 : pBuildSlice P 22 1 [(0, .agg (prV ⟨key, r, la, c⟩).toArray)] w4 = some (sl (sz w4) 0 1 1, W5) := by rw [hW5]; exact bsl22o
          obtain ⟨x0, x1, x2, x3, x4⟩ := kp F3
          have hwf : IntKind.i64.wrap ((f : Int) + 1) = ((f + 1 : Nat) : Int) := wrap64 (by omega) (by omega)
          try simp (maxDischargeDepth := 8) [↓sC, sB, sM, hlen2, hji, hfL, hix, hcell, hcl, heq, he', u1, u2, hbs0, ← hW3, hbs1, ← hW5, hS1, hS2, hrun4, hrun6, hrun7, bf63', b54, b0, b1, b2, b3, c0, c1, c2, c3, d0, d1, d2, d3, e0, e1, e2, e3, x0, x1, x2, x3, t8, hsp2, hv7, hwf, -bsl22, -Int.natCast_add]
          have hown8 : (wr w7 (sz w + 1 + 1) [v7, i64 room]).ownsRow (sz W) 63 9 v7 (f + 1 + (L.length - (f))) (flat prV (([] ++ L.take f) ++ [⟨key, r, la, c⟩] ++ L.drop (f))) := by
            rw [Nat.zero_add] at hown7
            exact own_fr hown7 ((Fr.refl [sz w + 1 + 1] w7).wr (.inl (by simp)) _) (fun k hk hm => by have := (own_lt hown7 k hk).1; simp at hm; omega)
          have G := (fW.trans0 F7).wr (b := sz w + 1 + 1) (.inr (by omega)) [v7, i64 (room : Int)]
          have hlen' : (([] ++ L.take f) ++ [(⟨key, r, la, c⟩ : PrP)] ++ L.drop (f)).length = f + 1 + (L.length - (f)) := by simp; omega
          obtain ⟨a7, c7, rfl⟩ := own_val hown8
          refine ⟨_, ([] ++ L.take f) ++ [(⟨key, r, la, c⟩ : PrP)] ++ L.drop (f), 0, rfl, ⟨a7, c7, by rw [hlen'], by rw [hlen']; exact own_rd hown8, fun p hp => ?_⟩, fun _ => ?_, fun hno => absurd hso hno, G⟩
          · rcases List.mem_append.1 hp with hp | hp
            · rcases List.mem_append.1 hp with hp | hp
              · exact (hok p (List.mem_of_mem_take (by simpa using hp))).fr0 G
              · rw [List.mem_singleton] at hp; subst hp
                exact hr.fr0 G
            · exact (hok p (List.mem_of_mem_drop hp)).fr0 G
          · rw [insL_find, ← hf, hif]
            simp [kr, List.map_take, List.map_drop]
        · have hno : ¬ setOk room (L.map kr) key r := fun h => by
            rcases h.2.2.2 with h | h
            · rw [hno0] at h; cases h
            · rw [List.length_map] at h; omega
          have u1 : (room : Int) ≤ L.length := by omega
          have u2 : room ≤ L.length := by omega
          try simp (maxDischargeDepth := 8) [↓sC, sB, sM, hlen2, hji, hfL, hix, hcell, hcl, heq, he', u1, u2, b0, b1, b2, b3, hsp2, hv1]
          exact bad 8 F2 hno
    · have hfe : f = L.length := by omega
      have hji : ¬ (f : Int) < L.length := by omega
      have hha : hasAt key (L.map kr) = false := by
        unfold hasAt
        rw [← hf, List.getElem?_eq_none (by rw [List.length_map]; omega)]
      have hno0 : hasK key (L.map kr) = false := by rw [← hat, hha]
      have hif : (if hasAt key (L.map kr) = true then f + 1 else f) = f := by rw [hha]; simp
      by_cases hlt : L.length < room
      · have hso : setOk room (L.map kr) key r := ⟨hk.1, hk.2, hok1, .inr (by rw [List.length_map]; exact hlt)⟩
        have u1 : ¬ (room : Int) ≤ L.length := by omega
        have u2 : ¬ room ≤ L.length := by omega
        obtain ⟨S1, hS1, hrS1, hoS1⟩ := prs_to (hrd.fr0 g2) (hi := f) (by omega)
        obtain ⟨W3, hW3⟩ : ∃ W3, W3 = nw w2 [] 63 := ⟨_, rfl⟩
        have f3 : Fr [] w2 W3 := by rw [hW3]; exact (Fr.refl [] w2).nw _ _
        have hown3 : W3.ownsRow (sz W) 63 9 (sl (sz w2) 0 0 0) 0 (flat prV []) := by rw [hW3]; exact own_made F2.size
        have F3 := F2.trans0 f3
        obtain ⟨v4, w4, hrun4, hown4, f4⟩ := app22 hown3 F3.size (hrS1.fr0 f3) (by rw [List.length_take]; omega) (by omega)
        have f4' : Fr [sz w2] W3 w4 := by simpa [Value.ownBlock] using f4
        have F4 : Fr [] W w4 := F3.trans f4' (fun k hk => .inr (by simp at hk; have := F2.size; omega))
        obtain ⟨W5, hW5⟩ : ∃ W5, W5 = nw w4 (prV ⟨key, r, la, c⟩) 63 := ⟨_, rfl⟩
        have f5 : Fr [] w4 W5 := by rw [hW5]; exact (Fr.refl [] w4).nw _ _
        have F5 := F4.trans0 f5
        have hrd5 : RdV W5 (sl (sz w4) 0 1 1) 1 (flat prV [⟨key, r, la, c⟩]) := by
          have := rd_new w4 (prV ⟨key, r, la, c⟩) 63 (n := 1) (by unfold maxLen; omega)
          rw [hW5]; simpa [flat] using this
        obtain ⟨v6, w6, hrun6, hown6, f6⟩ := app22 (own_fr hown4 f5 (by simp)) F5.size hrd5 rfl (by omega)
        have F6 : Fr [] W w6 := F5.trans f6 (fun k hk => .inr (own_lt (own_fr hown4 f5 (by simp)) k (by simpa using hk)).1)
        obtain ⟨S2, hS2, hrS2, hoS2⟩ := prs_from (hrd.fr0 (fW.trans0 F6.drew)) (lo := f) (by omega)
        obtain ⟨v7, w7, hrun7, hown7, f7⟩ := app22 (own_fr hown6 (Fr.refl [] w6).drew (by simp)) F6.drew.size hrS2 (by rw [List.length_drop]) (by omega)
        have F7 : Fr [] W w7 := F6.drew.trans f7 (fun k hk => .inr (own_lt (own_fr hown6 (Fr.refl [] w6).drew (by simp)) k (by simpa using hk)).1)
        obtain ⟨c0, c1, c2, c3, c4⟩ := kp F4
        obtain ⟨d0, d1, d2, d3, d4⟩ := kp F6
        obtain ⟨e0, e1, e2, e3, e4⟩ := kp F7
        have hv7 : v7.oneCell' = true := by obtain ⟨_, _, rfl⟩ := own_val hown7; rfl
        have bf63' : ∀ w, pBuild P 63 [(0, strB key), (1, .agg (rcV r (.slice la r.list.length c)).toArray)] w = some (.agg (prV ⟨key, r, la, c⟩).toArray, w) := fun w => bf63 rfl
        have b54 : ∀ w, pBuild P 54 [(0, v7), (1, i64 (room : Int))] w = some (.agg #[v7, i64 room], w) := fun w => by rw [bf54 (by intro p hp; simp only [List.mem_cons, List.not_mem_nil, or_false] at hp; rcases hp with rfl | rfl; exact ⟨by simp, hv7⟩; exact ⟨by simp, rfl⟩)]; rfl
        have hbs0 : pBuildSlice P 22 0 [] w2 = some (sl (sz w2) 0 0 0, W3) := by rw [hW3]; exact bsl22z
        have hbs1 : pBuildSlice P 22 1 [(0, .agg (prV ⟨key, r, la, c⟩).toArray)] w4 = some (sl (sz w4) 0 1 1, W5) := by rw [hW5]; exact bsl22o
        obtain ⟨x0, x1, x2, x3, x4⟩ := kp F3
        have hwf : IntKind.i64.wrap ((f : Int) + 1) = ((f + 1 : Nat) : Int) := wrap64 (by omega) (by omega)
        try simp (maxDischargeDepth := 8) [↓sC, sB, sM, hlen2, hji, hfL, u1, u2, hbs0, ← hW3, hbs1, ← hW5, hS1, hS2, hrun4, hrun6, hrun7, bf63', b54, b0, b1, b2, b3, c0, c1, c2, c3, d0, d1, d2, d3, e0, e1, e2, e3, x0, x1, x2, x3, t8, hsp2, hv7, hwf, -bsl22, -Int.natCast_add]
        have hown8 : (wr w7 (sz w + 1 + 1) [v7, i64 room]).ownsRow (sz W) 63 9 v7 (f + 1 + (L.length - (f))) (flat prV (([] ++ L.take f) ++ [⟨key, r, la, c⟩] ++ L.drop (f))) := by
          rw [Nat.zero_add] at hown7
          exact own_fr hown7 ((Fr.refl [sz w + 1 + 1] w7).wr (.inl (by simp)) _) (fun k hk hm => by have := (own_lt hown7 k hk).1; simp at hm; omega)
        have G := (fW.trans0 F7).wr (b := sz w + 1 + 1) (.inr (by omega)) [v7, i64 (room : Int)]
        have hlen' : (([] ++ L.take f) ++ [(⟨key, r, la, c⟩ : PrP)] ++ L.drop (f)).length = f + 1 + (L.length - (f)) := by simp; omega
        obtain ⟨a7, c7, rfl⟩ := own_val hown8
        refine ⟨_, ([] ++ L.take f) ++ [(⟨key, r, la, c⟩ : PrP)] ++ L.drop (f), 0, rfl, ⟨a7, c7, by rw [hlen'], by rw [hlen']; exact own_rd hown8, fun p hp => ?_⟩, fun _ => ?_, fun hno => absurd hso hno, G⟩
        · rcases List.mem_append.1 hp with hp | hp
          · rcases List.mem_append.1 hp with hp | hp
            · exact (hok p (List.mem_of_mem_take (by simpa using hp))).fr0 G
            · rw [List.mem_singleton] at hp; subst hp
              exact hr.fr0 G
          · exact (hok p (List.mem_of_mem_drop hp)).fr0 G
        · rw [insL_find, ← hf, hif]
          simp [kr, List.map_take, List.map_drop]
      · have hno : ¬ setOk room (L.map kr) key r := fun h => by
          rcases h.2.2.2 with h | h
          · rw [hno0] at h; cases h
          · rw [List.length_map] at h; omega
        have u1 : (room : Int) ≤ L.length := by omega
        have u2 : room ≤ L.length := by omega
        try simp (maxDischargeDepth := 8) [↓sC, sB, sM, hlen2, hji, hfL, u1, u2, b0, b1, b2, b3, hsp2, hv1]
        exact bad 8 F2 hno
  · have hno : ¬ setOk room (L.map kr) key r := fun h => hk ⟨h.1, h.2.1⟩
    by_cases k1 : key.length < 1
    · have k0 : ((key.length : Int) < 1) := by omega
      have k1' : key.length = 0 := by omega
      have k2 : key = [] := List.eq_nil_of_length_eq_zero k1'
      have e1 : (key.length = 0) = True := eq_true k1'
      have e2 : (key = []) = True := eq_true k2
      clear k1 k1' k2
      try simp (maxDischargeDepth := 8) [↓sC, sB, sM, hc, hlen, ← hW, m0, m1, m2, z2, hsW, k0, e1, e2, t8, hsp2, hv1]
      exact bad 1 (Fr.refl [] W) hno
    · have k0 : ¬ ((key.length : Int) < 1) := by omega
      have k1' : ¬ key.length = 0 := by omega
      have k1'' : ¬ key = [] := by rintro rfl; simp at k1
      have k2 : (24 : Int) < key.length := by omega
      have k3 : 24 < key.length := by omega
      try simp (maxDischargeDepth := 8) [↓sC, sB, sM, hc, hlen, ← hW, m0, m1, m2, z2, hsW, k0, k1', k1'', k2, k3, t8, hsp2, hv1]
      exact bad 1 (Fr.refl [] W) hno
end Go.Proofs.YtieejbkbdfccdaaGreat
