/- Read: all parts, or the Fault that was thrown. -/
import Derived.Test.YtieejbkbdfccdaaSim
import Derived.Test.YtieejbkbdfccdaaPackR2
import Derived.WideLaws
set_option linter.unusedVariables false
set_option linter.unusedSimpArgs false
namespace Go.Proofs.Ytieejbkbdfccdaa
open Go

theorem new62_spec {w : World} {v : Value} {B : List UInt8} (h : RdV w v B.length (bs B)) : Ret P 23 #[v] w fun r w' => r = pt (sz w) 0 ∧ IsRd w' (sz w) v B 0 ∧ Fr [] w w' ∧ sz w < sz w' := by
  refine F23ok ?_
  unfold F23
  obtain ⟨a, c, hv⟩ := sl_of h
  have hv1 : v.oneCell' = true := by rw [hv]; rfl
  have hb : ∀ w, pBuild P 74 [(0, v)] w = some (.agg #[v, i64 0], w) := fun w => by rw [bf74 (by simp [hv1])]; rfl
  try simp (maxDischargeDepth := 8) [↓sC, sB, sM, hb]
  exact ⟨by simp [sM], by simp [sM], rdb_fr h ((Fr.refl [] w).nw _ _) (by simp), by omega, fun h0 c hc => by have := rdb_lt h h0 hc; omega⟩

theorem und20i : P.underlying 20 = some (.interface (P.methodsAt 20)) := by kernel_rfl
theorem und44s : ∃ d, P.underlying 35 = some d := by
  have : (P.underlying 35).isSome = true := by kernel_rfl
  exact Option.isSome_iff_exists.1 this
theorem bld44 {w : World} : pBuild P 35 [] w = some (.agg #[i64 0, i64 0], w) := by rw [bf35 (by simp)]; rfl
theorem caught_nil {w : World} : Ret P 22 #[.nilIface] w fun r w' => r = .agg #[i64 0, i64 0] ∧ Fr [] w w' := by
  refine F22ok ?_
  unfold F22
  have he : ∀ w, pBin P .eql 20 true .nilIface .nilIface w = some (.bool true, w) := fun w => eqNilNil und20i
  try simp (maxDischargeDepth := 8) [↓sC, sB, sM, he, bld44]
theorem caught_fault {w : World} {c : Int} {k : Nat} : Ret P 22 #[faultV c k] w fun r w' => r = .agg #[i64 c, i64 k] ∧ Fr [] w w' := by
  refine F22ok ?_
  unfold F22
  obtain ⟨d, hd⟩ := und44s
  have he : ∀ w, pBin P .eql 20 true (faultV c k) .nilIface w = some (.bool false, w) := fun w => eqNilIface und20i
  have ha : ∀ w, pAssert P (faultV c k) 20 35 true w = some (.tuple #[.agg #[i64 c, i64 k], .bool true], w) := fun w => pAssert_ok hd concrete44
  have hn : ¬ sz w = sz w + 1 := by omega
  try simp (maxDischargeDepth := 8) [↓sC, sB, sM, he, ha, hn, splice]

theorem readc_nil {w : World} {o f : Nat} : CallsD P 21 #[pt o 0, pt f 0] .returning w fun x u' w' => x = .returned (.tuple #[]) ∧ u' = .returning ∧ Fr [] w w' := by
  refine F21ok ?_
  unfold F21
  rw [recV_returning, recM_returning]
  refine caught_nil.call ?_
  rintro _ w1 ⟨rfl, hf⟩
  try simp (maxDischargeDepth := 8) [↓sC, sB, sM, splice]
  exact ((hf.nw _ _).wr (.inr hf.size) _)
theorem readc_fault {w : World} {o f : Nat} {c : Int} {k : Nat} {ov : Value} {fv : List Value} (hc : c ≠ 0) (h1 : mm w o = [ov]) (h2 : fz w o = false) (h3 : mm w f = fv) (h4 : fz w f = false) (h5 : fv.length = 2) (hne : o ≠ f) :
    CallsD P 21 #[pt o 0, pt f 0] (.panicking (faultC c k)) w fun x u' w' => x = .returned (.tuple #[]) ∧ settle u' = .returning ∧ mm w' o = [.slice none 0 0] ∧ fz w' o = false ∧ mm w' f = [i64 c, i64 k] ∧ fz w' f = false ∧ Fr [o, f] w w' := by
  refine F21ok ?_
  unfold F21
  rw [recV_fresh]
  refine caught_fault.call ?_
  rintro _ w1 ⟨rfl, hf⟩
  have ho := lt_of_fz h2
  have hfl := lt_of_fz h4
  have e1 : mm w1 o = [ov] := by rw [hf.mm ho (by simp), h1]
  have e2 : fz w1 o = false := by rw [hf.fz ho (by simp), h2]
  have e3 : mm w1 f = fv := by rw [hf.mm hfl (by simp), h3]
  have e4 : fz w1 f = false := by rw [hf.fz hfl (by simp), h4]
  have s1 := hf.size
  have n1 : ¬ o = sz w1 := by omega
  have n2 : ¬ f = sz w1 := by omega
  have n3 : ¬ sz w1 = o := by omega
  have n4 : ¬ sz w1 = f := by omega
  have n5 : ¬ f = o := fun h => hne h.symm
  have hsp : splice fv 0 [i64 c, i64 k] = [i64 c, i64 k] := splice_full (by rw [h5]; rfl)
  try simp (maxDischargeDepth := 8) [↓sC, sB, sM, e1, e2, e3, e4, n1, n2, n3, n4, n5, hne, hc, h5, hsp, settle_fresh]
  exact (((((hf.mono (by simp)).nw _ _).wr (.inr s1) _).drew).wr (.inl (by simp)) _).wr (.inl (by simp)) _

/-- The parts that bytes are, of these kinds; the error's number, and how many bytes were read ahead. -/
def readGo (most : Int) : List UInt8 → List UInt8 → Nat → List PartP → List PartP × Nat × Nat
  | [], l, k, acc => if 0 < l.length then ([], 3, k) else (acc, 0, 0)
  | c :: cs, l, k, acc => if (partM c most l).2.2 ≠ 0 then ([], (partM c most l).2.2, k + (partM c most l).2.1) else readGo most cs (l.drop (partM c most l).2.1) (k + (partM c most l).2.1) (acc ++ [(partM c most l).1])
def readM (B K : List UInt8) (most : Int) : List PartP × Nat × Nat := readGo most K B 0 []

def RdI (w : World) (v : Value) (B K : List UInt8) (most : Int) (m : Nat) (e : Env) (w' : World) : Prop :=
  ∃ (j k : Nat) (acc : List PartP) (ov : Value), m = K.length - j ∧ j ≤ K.length ∧ acc.length = j ∧ readGo most (K.drop j) (B.drop k) k acc = readM B K most ∧
    IsRd w' (sz w + 2) v B k ∧ mm w' (sz w) = [ov] ∧ fz w' (sz w) = false ∧ mm w' (sz w + 1) = [i64 0, i64 0] ∧ fz w' (sz w + 1) = false ∧ w'.ownsRow (sz w) 28 6 ov j (flat partC acc) ∧
    (∀ c, ov.ownBlock = some c → c ≠ sz w ∧ c ≠ sz w + 1 ∧ c ≠ sz w + 2) ∧ (∀ p ∈ acc, okP p) ∧ Fr [] w w' ∧
    e 15 = i64 j ∧ e 14 = i64 K.length ∧ e 6 = pt (sz w) 0 ∧ e 7 = pt (sz w + 1) 0 ∧ e 8 = pt (sz w + 2) 0 ∧ e 1 = strB K ∧ e 2 = i64 most

def ReadR (w : World) (r : List PartP × Nat × Nat) (x : Value) (w' : World) : Prop :=
  ∃ ov, x = .tuple #[ov, .agg #[i64 r.2.1, i64 r.2.2]] ∧ w'.ownsRow (sz w) 28 6 ov r.1.length (flat partC r.1) ∧ (∀ p ∈ r.1, okP p) ∧ Fr [] w w'

theorem read_fails {w w2 : World} {e : Env} {ov : Value} {c k : Nat} {r : List PartP × Nat × Nat} (hr : r = ([], c, k)) (hc : c ≠ 0) (h1 : mm w2 (sz w) = [ov]) (h2 : fz w2 (sz w) = false) (h3 : mm w2 (sz w + 1) = [i64 0, i64 0])
    (h4 : fz w2 (sz w + 1) = false) (hf : Fr [] w w2) (e6 : e 6 = pt (sz w) 0) (e7 : e 7 = pt (sz w + 1) 0) :
    leaveE P 21 [pt (sz w) 0, pt (sz w + 1) 0] [.cell 6 32, .cell 7 35] (fun e w' => ∃ v, e = .returned v ∧ ReadR w r v w') (.panicking (faultC c k)) e w2 := by
  refine leaveE_def (CallsD.mono (readc_fault (by omega) h1 h2 h3 h4 rfl (by omega)) ?_)
  rintro x u' w3 ⟨rfl, hs, m1, m2, m3, m4, hf3⟩
  refine ⟨_, rfl, hs, ?_⟩
  subst hr
  try simp (maxDischargeDepth := 8) [↓sC, sB, sM, e6, e7, m1, m3]
  exact ⟨.slice none 0 0, rfl, World.ownsRow_nil _ _ _ _, by simp, hf.trans hf3 (by simp)⟩

theorem read_step {w : World} {v : Value} {B K : List UInt8} {most : Int} (hvl : 0 < B.length → ∀ c, v.ownBlock = some c → c < sz w) (hm : most < 9223372036854775808) (hK : K.length ≤ 1000000) {j : Nat} {e : Env} {w1 : World} (hj : j < K.length)
    (hI : RdI w v B K most (K.length - j) e w1) {KK : KT} (hN : ∀ e' w'', RdI w v B K most (K.length - (j + 1)) e' w'' → KK .normal e' w'')
    (hX : ∀ ch e' w', leaveE P 21 [pt (sz w) 0, pt (sz w + 1) 0] [.cell 6 32, .cell 7 35] (fun e w' => ∃ v, e = .returned v ∧ ReadR w (readM B K most) v w') (.panicking ch) e' w' → KK (.panic ch) e' w') : F8B0 e w1 KK := by
  obtain ⟨j', k, acc, ov, hjm, hj', hacc, hgo, hr, o1, o2, f1, f2, hown, hne, hok, hf, e15, e14, e6, e7, e8, e1, e2⟩ := hI
  have : j' = j := by omega
  subst this
  unfold F8B0
  have hji : (j' : Int) < K.length := by omega
  have hwj : IntKind.i64.wrap ((j' : Int) + 1) = ((j' + 1 : Nat) : Int) := wrap64 (by omega) (by omega)
  have hix : ∀ w, pIndex P 9 (strB K) (i64 j') w = some (bv (gb K j'), w) := fun w => ix_strB und9 hj
  have hov1 : ov.oneCell' = true := by obtain ⟨a, c, rfl⟩ := own_val hown; rfl
  try simp (maxDischargeDepth := 8) [↓sC, sB, sM, e15, e14, e6, e8, e1, e2, hji, hj, hix, o1]
  have hKd : K.drop j' = gb K j' :: K.drop (j' + 1) := drop_gb hj
  rw [hKd] at hgo
  generalize gb K j' = kind at *
  rw [readGo] at hgo
  have hsz := hf.size
  refine (part_spec (kind := kind) (most := most) (hr.fr0 (Fr.refl [] w1).drew) hm).call ?_ ?_
  · rintro _ w2 ⟨h1, rfl, hr2, hf2⟩
    rw [if_neg (by simpa using h1)] at hgo
    have hokp := partM_ok h1
    generalize partM kind most (B.drop k) = r at *
    obtain ⟨p, q, c⟩ := r
    simp only at h1 hr2 hgo hokp ⊢
    rw [List.drop_drop] at hgo
    have hb0 : ∀ x, x ≠ sz w + 2 → x ∉ [sz w + 2] := fun x hx => by simpa using hx
    have hz2 : sz w + 2 < sz w1 := lt_of_fz hr.fz
    have g1 : Fr [sz w + 2] w1 w2 := (Fr.refl [sz w + 2] w1).drew.trans hf2 (by simp)
    have p1 : mm w2 (sz w) = [ov] := by rw [g1.mm (by omega) (hb0 _ (by omega)), o1]
    have p2 : fz w2 (sz w) = false := by rw [g1.fz (by omega) (hb0 _ (by omega)), o2]
    have p3 : mm w2 (sz w + 1) = [i64 0, i64 0] := by rw [g1.mm (by omega) (hb0 _ (by omega)), f1]
    have p4 : fz w2 (sz w + 1) = false := by rw [g1.fz (by omega) (hb0 _ (by omega)), f2]
    have hs2 := g1.size
    have q1 : mm (nw w2 (partC p) 28) (sz w) = [ov] := by rw [mm_nw, if_neg (by omega), p1]
    have hbs : ∀ w, pBuildSlice P 32 1 [(0, .agg (partC p).toArray)] w = some (sl (sz w) 0 1 1, nw w (partC p) 28) := fun w => by
      rw [bsl32 (by omega) (by simp [partC])]; simp [partC, splice]
    have hown3 := own_fr hown (g1.nw (partC p) 28) (fun c hc => hb0 c (hne c hc).2.2)
    have hrd : RdV (nw w2 (partC p) 28) (sl (sz w2) 0 1 1) 1 (partC p) := rd_new w2 (partC p) 28 (n := 1) (by unfold maxLen; omega)
    obtain ⟨v', w3, hrun, hown', hg, hv'⟩ := append_own2 (P := P) (t := 32) (ty := 32) (sz w) sliceE32 hasZero28 cellsOf28 (by rw [zeroL28]; rfl) (by omega) hown3 (by rw [sz_nw]; omega) hrd rfl partC_one
      (by unfold maxLen; omega) (by rw [bytesOf28]; omega)
    have hf3 := Fr.of_grown hg
    have hno : ∀ x, x = sz w ∨ x = sz w + 1 ∨ x = sz w + 2 → x ∉ ov.ownBlock.toList := fun x hx h => by
      have := hne x (by simpa using h); omega
    have r1 : mm w3 (sz w) = [ov] := by rw [hf3.mm (by rw [sz_nw]; omega) (hno _ (by omega)), q1]
    have r2 : fz w3 (sz w) = false := by rw [hf3.fz (by rw [sz_nw]; omega) (hno _ (by omega)), fz_nw, if_neg (by omega), p2]
    have r3 : mm w3 (sz w + 1) = [i64 0, i64 0] := by rw [hf3.mm (by rw [sz_nw]; omega) (hno _ (by omega)), mm_nw, if_neg (by omega), p3]
    have r4 : fz w3 (sz w + 1) = false := by rw [hf3.fz (by rw [sz_nw]; omega) (hno _ (by omega)), fz_nw, if_neg (by omega), p4]
    have hv1 : v'.oneCell' = true := by obtain ⟨a, c, rfl⟩ := own_val hown'; rfl
    have hnv : ∀ c, v'.ownBlock = some c → c ≠ sz w ∧ c ≠ sz w + 1 ∧ c ≠ sz w + 2 := fun c hc => by
      rcases hv' with h | h
      · exact hne c (by rw [← h]; exact hc)
      · rw [h, sz_nw] at hc
        simp only [Option.some.injEq] at hc
        omega
    have hr3 : IsRd w3 (sz w + 2) v B (k + q) := by
      have h := hr2.fr0 ((Fr.refl [] w2).nw (partC p) 28)
      exact h.fr hf3 (hno _ (by omega)) (fun h0 c hc hlt hcm => by
        have hc2 : ov.ownBlock = some c := by simpa using hcm
        have := (hown.lt c hc2).1
        have := hvl h0 c hc
        omega)
    try simp (maxDischargeDepth := 8) [↓sC, sB, sM, p1, q1, hbs, hrun, r1, r2, hv1, hwj, -Int.natCast_add]
    refine hN _ _ ⟨j' + 1, k + q, acc ++ [p], v', rfl, by omega, by simp [hacc], hgo, hr3.fr ((Fr.refl [sz w] w3).wr (.inl (by simp)) _) (by simp) ?_, mm_wr_same r2 _, by rw [fz_wr, r2], by rw [mm_wr_ne (by omega), r3], by rw [fz_wr, r4], ?_, hnv, ?_, ?_,
      by simp [put_get], by simp [put_get, e14], by simp [put_get, e6], by simp [put_get, e7], by simp [put_get, e8], by simp [put_get, e1], by simp [put_get, e2]⟩
    · intro h0 c hc _
      have := hvl h0 c hc
      simp; omega
    · rw [flat_append, flat_one]
      exact own_fr hown' ((Fr.refl [sz w] w3).wr (.inl (by simp)) _) (fun c hc => by have := hnv c hc; simp; omega)
    · intro x hx
      rcases List.mem_append.1 hx with hx | hx
      · exact hok x hx
      · simp only [List.mem_cons, List.not_mem_nil, or_false] at hx; subst hx; exact hokp
    · exact ((hf.trans (g1.nw (partC p) 28) (fun c hc => .inr (by simp at hc; omega))).trans hf3 (fun c hc => .inr (hown.lt c (by simpa using hc)).1)).wr (.inr (Nat.le_refl _)) _
  · rintro ch w2 ⟨h1, rfl, hf2⟩
    rw [if_pos h1] at hgo
    intro e' hag
    have hz2 : sz w + 2 < sz w1 := lt_of_fz hr.fz
    have hb0 : ∀ x, x ≠ sz w + 2 → x ∉ [sz w + 2] := fun x hx => by simpa using hx
    have g1 : Fr [sz w + 2] w1 w2 := (Fr.refl [sz w + 2] w1).drew.trans hf2 (by simp)
    have a6 : e' 6 = pt (sz w) 0 := by rw [hag 6 (by decide)]; simp [put_get, e6]
    have a7 : e' 7 = pt (sz w + 1) 0 := by rw [hag 7 (by decide)]; simp [put_get, e7]
    refine hX _ _ _ (read_fails hgo.symm h1 (ov := ov) ?_ ?_ ?_ ?_ (hf.trans g1 (fun c hc => .inr (by simp at hc; omega))) a6 a7)
    · rw [g1.mm (by omega) (hb0 _ (by omega)), o1]
    · rw [g1.fz (by omega) (hb0 _ (by omega)), o2]
    · rw [g1.mm (by omega) (hb0 _ (by omega)), f1]
    · rw [g1.fz (by omega) (hb0 _ (by omega)), f2]

theorem packRead_spec {w : World} {v : Value} {B K : List UInt8} {most : Int} (hv : RdV w v B.length (bs B)) (hm : most < 9223372036854775808) (hK : K.length ≤ 1000000) :
    Ret P 8 #[v, strB K, i64 most] w fun x w' => ReadR w (readM B K most) x w' := by
  refine F8ok ?_
  unfold F8
  have hvl : 0 < B.length → ∀ c, v.ownBlock = some c → c < sz w := fun h0 c hc => rdb_lt hv h0 hc
  have hlen : ∀ w, pBuiltin P .len #[9] 3 [strB K] w = some (i64 K.length, w) := fun w => len_strB und9
  obtain ⟨W, hW⟩ : ∃ W, W = nw (nw w [.slice none 0 0] 32) [i64 0, i64 0] 35 := ⟨_, rfl⟩
  have hfW : Fr [] w W := by rw [hW]; exact ((Fr.refl [] w).nw _ _).nw _ _
  have hsW : sz W = sz w + 2 := by rw [hW]; simp [sM]
  have m1 : mm W (sz w) = [.slice none 0 0] := by rw [hW]; simp [sM]
  have m2 : fz W (sz w) = false := by rw [hW]; simp [sM]
  have m3 : mm W (sz w + 1) = [i64 0, i64 0] := by rw [hW]; simp [sM]
  have m4 : fz W (sz w + 1) = false := by rw [hW]; simp [sM]
  try simp (maxDischargeDepth := 8) [↓sC, sB, sM, ← hW]
  refine (new62_spec (hv.fr0 hfW)).call ?_
  rintro _ w1 ⟨rfl, hr, hf1, hs1⟩
  rw [hsW] at hr hs1 ⊢
  try simp (maxDischargeDepth := 8) [↓sC, sB, sM, hlen]
  refine loopE_of (RdI w v B K most) K.length ?_ ?_
  · refine ⟨0, 0, [], .slice none 0 0, by omega, by omega, rfl, rfl, hr, ?_, ?_, ?_, ?_, World.ownsRow_nil _ _ _ _, by simp [Value.ownBlock], by simp, hfW.trans0 hf1, by simp [put_get], by simp [put_get], by simp [put_get], by simp [put_get], by simp [put_get], by simp [put_get, argE_get], by simp [put_get, argE_get]⟩
    · rw [hf1.mm (by omega) (by simp), m1]
    · rw [hf1.fz (by omega) (by simp), m2]
    · rw [hf1.mm (by omega) (by simp), m3]
    · rw [hf1.fz (by omega) (by simp), m4]
  · rintro m e w2 hI
    obtain ⟨j, k, acc, ov, hjm, hj, hacc, hgo, hr2, o1, o2, f1, f2, hown, hne, hok, hf, e15, e14, e6, e7, e8, e1, e2⟩ := id hI
    subst hjm
    by_cases hjl : j < K.length
    · refine read_step hvl hm hK hjl hI (fun e' w'' hN => ⟨K.length - (j + 1), by omega, hN⟩) (fun ch e' w' h => ?_)
      exact h
    · have hje : j = K.length := by omega
      subst hje
      unfold F8B0
      rw [List.drop_length, readGo] at hgo
      have hov1 : ov.oneCell' = true := by obtain ⟨a, c, rfl⟩ := own_val hown; rfl
      try simp (maxDischargeDepth := 8) [↓sC, sB, sM, e15, e14, e8]
      refine (end_spec hr2).call ?_ ?_
      · rintro x w3 ⟨hk, hf3⟩
        have hnl : ¬ 0 < (B.drop k).length := by simp; omega
        rw [if_neg hnl] at hgo
        have hlt1 := lt_of_fz o2
        have hlt2 := lt_of_fz f2
        have a1 : mm w3 (sz w) = [ov] := by rw [hf3.mm hlt1 (by simp), o1]
        have a2 : fz w3 (sz w) = false := by rw [hf3.fz hlt1 (by simp), o2]
        have a3 : mm w3 (sz w + 1) = [i64 0, i64 0] := by rw [hf3.mm hlt2 (by simp), f1]
        have a4 : fz w3 (sz w + 1) = false := by rw [hf3.fz hlt2 (by simp), f2]
        have n1 : ¬ sz w + 1 = sz w := by omega
        have n2 : ¬ sz w = sz w + 1 := by omega
        try simp (maxDischargeDepth := 8) [↓sC, sB, sM, e6, e7, a1, a2, a3, a4, bld44, hov1, n1, n2, splice]
        obtain ⟨W3, hW3⟩ : ∃ W3, W3 = wr (wr w3 (sz w) [ov]) (sz w + 1) [i64 0, i64 0] := ⟨_, rfl⟩
        have hfW3 : Fr [sz w, sz w + 1] w3 W3 := by rw [hW3]; exact ((Fr.refl _ _).wr (.inl (by simp)) _).wr (.inl (by simp)) _
        have b1 : mm W3 (sz w) = [ov] := by rw [hW3, mm_wr_ne n2, mm_wr_same a2]
        have b3 : mm W3 (sz w + 1) = [i64 0, i64 0] := by rw [hW3, mm_wr_same (by rw [fz_wr, a4])]
        rw [← hW3]
        have hown3 : W3.ownsRow (sz w) 28 6 ov acc.length (flat partC acc) := by
          rw [hacc]
          exact own_fr (own_fr hown hf3 (by simp)) hfW3 (fun c hc => by have := hne c hc; simp; omega)
        refine leaveE_def (CallsD.mono readc_nil ?_)
        rintro x u' w4 ⟨rfl, rfl, hf4⟩
        refine ⟨_, rfl, settle_returning, ?_⟩
        have hs3 := hf3.size
        have hs4 := hfW3.size
        try simp (maxDischargeDepth := 8) [↓sC, sB, sM, put_get, e6, e7, hf4.mm (show sz w < sz W3 by omega) (by simp), hf4.mm (show sz w + 1 < sz W3 by omega) (by simp), b1, b3]
        rw [← hgo]
        exact ⟨ov, rfl, own_fr hown3 hf4 (by simp), hok, ((hf.trans0 hf3).trans hfW3 (fun c hc => .inr (by simp at hc; omega))).trans0 hf4⟩
      · rintro ch w3 ⟨hk, rfl, hf3⟩
        have hnl : 0 < (B.drop k).length := by simp; omega
        rw [if_pos hnl] at hgo
        have hlt1 := lt_of_fz o2
        have hlt2 := lt_of_fz f2
        exact read_fails (c := 3) hgo.symm (by decide) (by rw [hf3.mm hlt1 (by simp), o1]) (by rw [hf3.fz hlt1 (by simp), o2]) (by rw [hf3.mm hlt2 (by simp), f1]) (by rw [hf3.fz hlt2 (by simp), f2]) (hf.trans0 hf3) (by simp [put_get, e6]) (by simp [put_get, e7])
end Go.Proofs.Ytieejbkbdfccdaa
