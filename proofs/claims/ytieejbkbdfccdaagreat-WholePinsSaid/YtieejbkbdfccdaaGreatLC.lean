/- Leaf: Load's small parts. -/
import Derived.Test.YtieejbkbdfccdaaGreatSim
import Derived.Test.YtieejbkbdfccdaaGreatLB
import Derived.Test.YtieejbkbdfccdaaGreatLA
import Derived.Test.YtieejbkbdfccdaaGreatKS
set_option linter.unusedVariables false
set_option linter.unusedSimpArgs false
namespace Go.Proofs.YtieejbkbdfccdaaGreat
open Go
theorem insL_last {key : List UInt8} {r : RecP} {L : List KR} (h : ∀ p ∈ L, Op.bytesLess p.1 key = true) : insL key r L = L ++ [(key, r)] := by
  have := insL_front (r := r) [] h
  rwa [List.append_nil] at this
theorem srt_take {L : List KR} (h : SrtK L) {j : Nat} {p : KR} (hp : L[j]? = some p) : ∀ q ∈ L.take j, Op.bytesLess q.1 p.1 = true := by
  obtain ⟨hj, he⟩ := List.getElem?_eq_some_iff.1 hp
  have hd : L = L.take j ++ p :: L.drop (j + 1) := by
    rw [← he, ← List.drop_eq_getElem_cons hj, List.take_append_drop]
  unfold SrtK at h
  rw [hd] at h
  exact fun q hq => (List.pairwise_append.1 h).2.2 q hq p (by simp)
theorem insL_step {L : List KR} (h : SrtK L) {j : Nat} {p : KR} (hp : L[j]? = some p) : insL p.1 p.2 (L.take j) = L.take (j + 1) := by
  rw [insL_last (srt_take h hp), List.take_add_one, hp]; rfl
theorem lread_nil {w : World} {o1 o2 o3 : Nat} : CallsD P 60 #[pt o1 0, pt o2 0, pt o3 0] .returning w fun x u' w' => x = .returned (.tuple #[]) ∧ u' = .returning ∧ Fr [] w w' := by
  refine F60ok ?_
  unfold F60
  rw [recV_returning, recM_returning]
  refine caught_nil.call ?_
  rintro _ w1 ⟨rfl, f1⟩
  try simp (maxDischargeDepth := 8) [↓sC, sB, sM, splice]
  exact ((f1.nw _ _).wr (.inr f1.size) _)
end Go.Proofs.YtieejbkbdfccdaaGreat

set_option linter.unusedVariables false
set_option linter.unusedSimpArgs false
namespace Go.Proofs.YtieejbkbdfccdaaGreat
open Go
set_option maxHeartbeats 4000000 in
set_option maxRecDepth 20000 in
theorem lread_spec {w : World} {v : Value} {p : KR} (hv : RdV w v (entB p).length (bs (entB p))) (hok : RecOk p.2) (ho : okR p.2) (hk : 1 ≤ p.1.length) (hk2 : p.1.length ≤ 24) (hvl : ∀ k, v.ownBlock = some k → k < sz w) :
    Ret P 38 #[v] w fun x w' => ∃ (a : Option Addr) (c : Nat), x = .tuple #[strB p.1, .agg (rcV p.2 (.slice a p.2.list.length c)).toArray, .bool true] ∧ IsRec w' (.slice a p.2.list.length c) p.2 ∧ Fr [] w w' := by
  refine F38ok ?_
  unfold F38
  have hz8 : [Value.int IntKind.i64 0, Value.int IntKind.i64 0, Value.int IntKind.i64 0, Value.int IntKind.i64 0, Value.float FloatKind.f64 0, Value.int IntKind.i64 0, Value.string ByteArray.empty, Value.slice none 0 0] = rcV rz (.slice none 0 0) := rfl
  obtain ⟨W, hW⟩ : ∃ W, W = nw (nw (nw w [Value.string ByteArray.empty] 9) (rcV rz (.slice none 0 0)) 61) [.bool false] 4 := ⟨_, rfl⟩
  have fW : Fr [] w W := by rw [hW]; exact (((Fr.refl [] w).nw _ _).nw _ _).nw _ _
  have hsW : sz W = sz w + 3 := by rw [hW]; simp [sz_nw]
  try simp (maxDischargeDepth := 8) [↓sC, sB, sM, hz8, ← hW]
  refine (new62_spec (hv.fr0 fW)).call ?_
  rintro _ w1 ⟨rfl, hr, hf1, hs1⟩
  rw [hsW] at hr hs1 ⊢
  have hat : RdAt w1 (sz w + 3) v (entB p) (digits p.1.length ++ (p.1 ++ encAll (recP p.2))) := ⟨0, hr, by simp [entB, entP, encAll_app, encAll, enc_sP]⟩
  try simp (maxDischargeDepth := 8) [↓sC, sB, sM]
  refine (gS (n := 24) hat hk2 (by omega)).call ?_
  rintro _ w2 ⟨rfl, hat2, hf2⟩
  have l1 := hf1.size
  have l2 := hf2.size
  have cell : ∀ k, k < sz w + 3 → mm w2 k = mm W k ∧ fz w2 k = fz W k := fun k hk => by
    refine ⟨?_, ?_⟩
    · rw [hf2.mm (by omega) (by simp; omega), hf1.mm (by omega) (by simp)]
    · rw [hf2.fz (by omega) (by simp; omega), hf1.fz (by omega) (by simp)]
  have a0 : mm w2 (sz w) = [Value.string ByteArray.empty] := by rw [(cell _ (by omega)).1, hW, mm_nw, if_neg (by simp [sz_nw]; omega), mm_nw, if_neg (by simp [sz_nw]), mm_nw, if_pos rfl]
  have a1 : mm w2 (sz w + 1) = rcV rz (.slice none 0 0) := by rw [(cell _ (by omega)).1, hW, mm_nw, if_neg (by simp [sz_nw]), mm_nw, if_pos (by simp [sz_nw])]
  have a2 : mm w2 (sz w + 2) = [.bool false] := by rw [(cell _ (by omega)).1, hW, mm_nw, if_pos (by simp [sz_nw])]
  have y0 : fz w2 (sz w) = false := by rw [(cell _ (by omega)).2, hW, fz_nw, if_neg (by simp [sz_nw]; omega), fz_nw, if_neg (by simp [sz_nw]), fz_nw, if_pos rfl]
  have y1 : fz w2 (sz w + 1) = false := by rw [(cell _ (by omega)).2, hW, fz_nw, if_neg (by simp [sz_nw]), fz_nw, if_pos (by simp [sz_nw])]
  have y2 : fz w2 (sz w + 2) = false := by rw [(cell _ (by omega)).2, hW, fz_nw, if_pos (by simp [sz_nw])]
  have ho1 : (strB p.1).oneCell' = true := oc_strB _
  obtain ⟨W3, hW3⟩ : ∃ W3, W3 = wr w2 (sz w) [strB p.1] := ⟨_, rfl⟩
  have f3 : Fr [sz w] w2 W3 := by rw [hW3]; exact (Fr.refl [sz w] w2).wr (.inl (by simp)) _
  have hat3 : RdAt W3 (sz w + 3) v (entB p) (encAll (recP p.2) ++ []) := by rw [List.append_nil]; exact hat2.fr f3 (by simp) (fun k hk hm => by have := hvl k hk; simp at hm; omega)
  have l3 := f3.size
  try simp (maxDischargeDepth := 8) [↓sC, sB, sM, a0, y0, ho1, ← hW3]
  refine (take_spec hat3 hok ho (fun k hk => by have := hvl k hk; omega)).call ?_
  rintro _ w4 ⟨a, c, rfl, hrec, hat4, f4, hown⟩
  have l4 := f4.size
  have keep4 : ∀ k, k < sz w + 3 → mm w4 k = mm W3 k ∧ fz w4 k = fz W3 k := fun k hk => ⟨f4.mm (by omega) (by simp; omega), f4.fz (by omega) (by simp; omega)⟩
  have c0 : mm w4 (sz w) = [strB p.1] := by rw [(keep4 _ (by omega)).1, hW3]; exact mm_wr_same y0 _
  have c1 : mm w4 (sz w + 1) = rcV rz (.slice none 0 0) := by rw [(keep4 _ (by omega)).1, hW3, mm_wr_ne (by omega), a1]
  have c2 : mm w4 (sz w + 2) = [.bool false] := by rw [(keep4 _ (by omega)).1, hW3, mm_wr_ne (by omega), a2]
  have d0 : fz w4 (sz w) = false := by rw [(keep4 _ (by omega)).2, hW3, fz_wr, y0]
  have d1 : fz w4 (sz w + 1) = false := by rw [(keep4 _ (by omega)).2, hW3, fz_wr, y1]
  have d2 : fz w4 (sz w + 2) = false := by rw [(keep4 _ (by omega)).2, hW3, fz_wr, y2]
  have hspz : ∀ x l n c, splice (rcV rz (.slice none 0 0)) 0 (rcV x (.slice l n c)) = rcV x (.slice l n c) := fun _ _ _ _ => splice_full rfl
  have len8 : ∀ x lx, (rcV x lx).length = 8 := fun _ _ => rfl
  have t8 : ∀ r lv, (rcV r lv).take 8 = rcV r lv := fun _ _ => rfl
  obtain ⟨W5, hW5⟩ : ∃ W5, W5 = wr w4 (sz w + 1) (rcV p.2 (.slice a p.2.list.length c)) := ⟨_, rfl⟩
  have f5 : Fr [sz w + 1] w4 W5 := by rw [hW5]; exact (Fr.refl [sz w + 1] w4).wr (.inl (by simp)) _
  have hat5 : RdAt W5 (sz w + 3) v (entB p) [] := hat4.fr f5 (by simp) (fun k hk hm => by have := hvl k hk; simp at hm; omega)
  have l5 := f5.size
  try simp (maxDischargeDepth := 8) [↓sC, sB, sM, c1, d1, hspz, rcV_oneT, len8, ← hW5]
  refine (gEnd hat5).call ?_
  rintro _ w6 f6
  have e0 : mm w6 (sz w) = [strB p.1] := by rw [f6.mm (by omega) (by simp), hW5, mm_wr_ne (by omega), c0]
  have e1 : mm w6 (sz w + 1) = rcV p.2 (.slice a p.2.list.length c) := by rw [f6.mm (by omega) (by simp), hW5]; exact mm_wr_same d1 _
  have e2 : mm w6 (sz w + 2) = [.bool false] := by rw [f6.mm (by omega) (by simp), hW5, mm_wr_ne (by omega), c2]
  have z0 : fz w6 (sz w) = false := by rw [f6.fz (by omega) (by simp), hW5, fz_wr, d0]
  have z1 : fz w6 (sz w + 1) = false := by rw [f6.fz (by omega) (by simp), hW5, fz_wr, d1]
  have z2 : fz w6 (sz w + 2) = false := by rw [f6.fz (by omega) (by simp), hW5, fz_wr, d2]
  have hne : ∀ w, pBin P .neq 9 true (strB p.1) (Value.string { data := #[] }) w = some (.bool (decide (p.1 ≠ [])), w) := fun w => ne_strB (m := [])
  have hkey : p.1 ≠ [] := by intro h; rw [h] at hk; simp at hk
  have q1 : ¬ sz w + 1 = sz w := by omega
  have q2 : ¬ sz w + 2 = sz w := by omega
  have q3 : ¬ sz w + 1 + 1 = sz w := by omega
  have hspr : splice (rcV p.2 (.slice a p.2.list.length c)) 0 (rcV p.2 (.slice a p.2.list.length c)) = rcV p.2 (.slice a p.2.list.length c) := splice_full rfl
  try simp (maxDischargeDepth := 8) [↓sC, sB, sM, e0, e1, e2, z0, z1, z2, hne, hkey, ho1, t8, len8, rcV_oneT, hspr, q1, q2, q3]
  refine leaveE_def (CallsD.mono lread_nil ?_)
  rintro x u' w8 ⟨rfl, rfl, f8⟩
  refine ⟨_, rfl, settle_returning, ?_⟩
  obtain ⟨W7, hW7⟩ : ∃ W7, W7 = wr (wr (wr (drew w6) (sz w) [strB p.1]) (sz w + 1) (rcV p.2 (.slice a p.2.list.length c))) (sz w + 1 + 1) [.bool true] := ⟨_, rfl⟩
  rw [← hW7] at f8
  have f7 : Fr [sz w, sz w + 1, sz w + 1 + 1] w6 W7 := by rw [hW7]; exact (((((Fr.refl [] w6).drew).mono (by simp)).wr (.inl (by simp)) _).wr (.inl (by simp)) _).wr (.inl (by simp)) _
  have l6 := f6.size
  have l7 : sz W7 = sz w6 := by rw [hW7, sz_wr, sz_wr, sz_wr, sz_drew]
  have h0 : mm w8 (sz w) = [strB p.1] := by rw [f8.mm (by omega) (by simp), hW7, mm_wr_ne (by omega), mm_wr_ne (by omega)]; exact mm_wr_same (by rw [fz_drew, z0]) _
  have h1 : mm w8 (sz w + 1) = rcV p.2 (.slice a p.2.list.length c) := by rw [f8.mm (by omega) (by simp), hW7, mm_wr_ne (by omega)]; exact mm_wr_same (by rw [fz_wr, fz_drew, z1]) _
  have h2 : mm w8 (sz w + 1 + 1) = [.bool true] := by rw [f8.mm (by omega) (by simp), hW7]; exact mm_wr_same (by rw [fz_wr, fz_wr, fz_drew]; exact z2) _
  try simp (maxDischargeDepth := 8) [↓sC, sB, sM, put_get, h0, h1, h2, t8]
  have G1 : Fr [] w w1 := fW.trans0 hf1
  have G2 : Fr [] w w2 := G1.trans hf2 (fun k hk => .inr (by simp at hk; omega))
  have G3 : Fr [] w W3 := G2.trans f3 (fun k hk => .inr (by simp at hk; omega))
  have G4 : Fr [] w w4 := G3.trans f4 (fun k hk => .inr (by simp at hk; omega))
  have G5 : Fr [] w W5 := G4.trans f5 (fun k hk => .inr (by simp at hk; omega))
  have G7 : Fr [] w W7 := (G5.trans0 f6).trans f7 (fun k hk => .inr (by simp at hk; omega))
  have R5 := hrec.1.fr f5 (fun k hk hm => by have := hown k hk; simp at hm; omega)
  have R7 := (R5.fr0 f6).fr f7 (fun k hk hm => by have := hown k hk; simp at hm; omega)
  exact ⟨a, c, rfl, ⟨R7.fr0 f8, hrec.2⟩, G7.trans0 f8⟩
end Go.Proofs.YtieejbkbdfccdaaGreat

set_option linter.unusedVariables false
set_option linter.unusedSimpArgs false
namespace Go.Proofs.YtieejbkbdfccdaaGreat
open Go
theorem le_strB {t : TypeId} {lit : Bool} {l m : List UInt8} {w : World} (h : Op.bytesLess m l = true) : pBin P .leq t lit (strB l) (strB m) w = some (.bool false, w) := by
  have e : (Op.bytesLess l m || l == m) = false := by
    rw [bl_asymm h]
    cases h3 : (l == m)
    · rfl
    · have := beq_iff_eq.1 h3; subst this; rw [bl_irrefl] at h; cases h
  simp only [pBin, runV, strB, eqGuard_at_string, Sem.run_bind, Sem.run_pure, Result.andThen_ok]
  simp only [binOp, Op.stringOp, ByteArray.toList_eq, Sem.run_pure, e, bl_asymm h]
  simp_all
theorem bl_nil {l : List UInt8} (h : 1 ≤ l.length) : Op.bytesLess [] l = true := by
  cases l with
  | nil => simp at h
  | cons x l => rfl
theorem srtK_take {L : List KR} (h : SrtK L) (j : Nat) : SrtK (L.take j) := List.Pairwise.sublist (List.take_sublist j L) h
structure LdI (w : World) (base c8 c10 : Nat) (L : List KR) (Lp : List (List UInt8 × Value)) (ov : Value) (j : Nat) (e : Env) (w' : World) (t : Tr) (v : Value) (last : List UInt8) : Prop where
  isT : IsT w' t v
  ino : t.ino = L.take j
  b10 : Box w' c10 v (i64 60)
  b8 : Box w' c8 (.pointer none) (i64 0)
  ent : EntR base w' ov Lp
  fr : Fr [] w w'
  lastB : ∀ p, L[j]? = some p → Op.bytesLess last p.1 = true
  e14 : e 14 = strB last
  e10 : e 10 = pt c10 0
  e8 : e 8 = pt c8 0
  e51 : e 51 = ov
  e52 : e 52 = i64 L.length
def LdJ (w : World) (base c8 c10 : Nat) (L : List KR) (Lp : List (List UInt8 × Value)) (ov : Value) (m : Nat) (e : Env) (w' : World) : Prop :=
  ∃ (j : Nat) (t : Tr) (v : Value) (last : List UInt8), m = L.length - j ∧ j ≤ L.length ∧ LdI w base c8 c10 L Lp ov j e w' t v last ∧ e 53 = i64 j
set_option maxHeartbeats 8000000 in
set_option maxRecDepth 20000 in
theorem load_step {w : World} {base c8 c10 : Nat} {L : List KR} {Lp : List (List UInt8 × Value)} {ov : Value} (hs : SrtK L) (hk : KeyOk L) (ho : ∀ p ∈ L, okR p.2) (hn : L.length ≤ 60) (hLp : Lp.map (·.1) = L.map entB) (hb : c10 < base) (hc8 : sz w ≤ c8) (hc10 : sz w ≤ c10) (hne : c8 ≠ c10)
    {j : Nat} (hj : j ≤ L.length) {e : Env} {w1 : World} {t : Tr} {v : Value} {last : List UInt8} (hI : LdI w base c8 c10 L Lp ov j e w1 t v last) (e53 : e 53 = i64 j) {K : KT}
    (hnext : ∀ e' w' t' v' last', LdI w base c8 c10 L Lp ov (j + 1) e' w' t' v' last' → j < L.length → e' 53 = i64 (j + 1 : Nat) → K .normal e' w')
    (hdone : j = L.length → ∀ e', e' 10 = pt c10 0 → e' 8 = pt c8 0 → K (.exit 0) e' w1) : F14B0 e w1 K := by
  obtain ⟨isT, ino, b10, b8, ent, fr, lastB, e14, e10, e8, e51, e52⟩ := hI
  unfold F14B0
  have hLpl : Lp.length = L.length := by have := congrArg List.length hLp; simpa using this
  by_cases hlt : j < L.length
  · obtain ⟨p, hp⟩ : ∃ p, L[j]? = some p := ⟨_, List.getElem?_eq_getElem hlt⟩
    have hpm := List.mem_of_getElem? hp
    obtain ⟨k1, k2, k3⟩ := hk p hpm
    have hji : (j : Int) < L.length := by omega
    have hwj : IntKind.i64.wrap ((j : Int) + 1) = ((j + 1 : Nat) : Int) := wrap64 (by omega) (by omega)
    obtain ⟨q, hq⟩ : ∃ q, Lp[j]? = some q := ⟨_, List.getElem?_eq_getElem (by omega)⟩
    have hqm := List.mem_of_getElem? hq
    have hqe : q.1 = entB p := by
      have h1 : (Lp.map (·.1))[j]? = some q.1 := by rw [List.getElem?_map, hq]; rfl
      have h2 : (L.map entB)[j]? = some (entB p) := by rw [List.getElem?_map, hp]; rfl
      rw [hLp, h2] at h1
      exact (Option.some.inj h1).symm
    have hel := ent.el q hqm
    have hqlt := ent.lt q hqm
    -- the row's cell
    obtain ⟨g, c, hov, hg1, hg2⟩ : ∃ g c, ov = sl g 0 L.length c ∧ j < (mm w1 g).length ∧ gt (mm w1 g) j = q.2 := by
      rcases ent.own.2 with ⟨_, h0⟩ | ⟨g, cap, cur, hv, hbg, hg, hnc, hcm, hcs, htk⟩
      · omega
      · have hm : mm w1 g = cur.toList := by simp [mm, hg]
        have hl : j < cur.toList.length := by rw [Array.length_toList]; omega
        refine ⟨g, cap, by rw [hv, hLpl], by rw [hm]; exact hl, ?_⟩
        have h1 : (Lp.map (·.2))[j]? = some q.2 := by rw [List.getElem?_map, hq]; rfl
        rw [← htk, List.getElem?_take] at h1
        rw [hm]
        unfold gt
        split at h1
        · rw [List.getD_eq_getElem?_getD, h1]; rfl
        · cases h1
    obtain ⟨qa, qc, hqv⟩ := sl_of hel
    rw [hov] at e51
    have hz8 : [Value.int IntKind.i64 0, Value.int IntKind.i64 0, Value.int IntKind.i64 0, Value.int IntKind.i64 0, Value.float FloatKind.f64 0, Value.int IntKind.i64 0, Value.string ByteArray.empty, Value.slice none 0 0] = rcV rz (.slice none 0 0) := rfl
    have hspz : ∀ x l n c, splice (rcV rz (.slice none 0 0)) 0 (rcV x (.slice l n c)) = rcV x (.slice l n c) := fun _ _ _ _ => splice_full rfl
    have len8 : ∀ x lx, (rcV x lx).length = 8 := fun _ _ => rfl
    have t8 : ∀ r lv, (rcV r lv).take 8 = rcV r lv := fun _ _ => rfl
    have ht2 : ∀ x : Value, ([x, i64 60] : List Value).take 2 = [x, i64 60] := fun _ => rfl
    try simp (maxDischargeDepth := 8) [↓sC, sB, sM, e8, e10, e14, e51, e52, e53, hji, hlt, hg1, hg2]
    rw [hqe] at hel
    refine (lread_spec hel k3 (ho p hpm) k1 k2 (fun k hk => (hqlt k hk).2.1)).call ?_
    rintro _ w3 ⟨a3, c3, rfl, hr3, f3⟩
    obtain ⟨W4, hW4⟩ : ∃ W4, W4 = wr (nw w3 (rcV rz (.slice none 0 0)) 61) (sz w3) (rcV p.2 (.slice a3 p.2.list.length c3)) := ⟨_, rfl⟩
    have f4 : Fr [] w3 W4 := by rw [hW4]; exact ((Fr.refl [] w3).nw _ _).wr (.inr (Nat.le_refl _)) _
    have q4 : mm W4 (sz w3) = rcV p.2 (.slice a3 p.2.list.length c3) := by rw [hW4]; exact mm_wr_same (by simp [fz_nw]) _
    have s4 : sz w3 < sz W4 := by rw [hW4, sz_wr, sz_nw]; omega
    have hle : ∀ w, pBin P .leq 9 false (strB p.1) (strB last) w = some (.bool false, w) := fun w => le_strB (lastB p hp)
    have f14 := f3.trans0 f4
    have b10' := b10.fr0 f14
    have hm10 := b10'.m
    have hz10 := b10'.z
    have hl10 : c10 < sz W4 := lt_of_fz hz10
    try simp (maxDischargeDepth := 8) [↓sC, sB, sM, hz8, hspz, rcV_oneT, len8, ← hW4, q4, s4, t8, hle, e14, e10, hm10, hl10, ht2]
    have hsT : SrtK t.ino := by rw [ino]; exact srtK_take hs j
    have hkT : KeyOk t.ino := by rw [ino]; exact fun p hp => hk p (List.mem_of_mem_take hp)
    have hsz : t.size ≤ 60 := by rw [← Tr.size_ino, ino, List.length_take]; omega
    refine (setS_spec (room := 60) (key := p.1) (r := p.2) (isT.fr0 f14) (KeyOk.shT hkT hsT (by omega)) (hr3.fr0 f4) (by omega)).call ?_
    rintro _ w5 ⟨v', t', n, rfl, hT', hyes, _, f5⟩
    have hso : setOk 60 t.ino p.1 p.2 := ⟨k1, k2, k3, .inr (by rw [ino, List.length_take]; omega)⟩
    obtain ⟨rfl, hino⟩ := hyes hso
    have b10'' := b10'.fr0 f5
    have hm5 := b10''.m
    have hz5 := b10''.z
    have hspl : splice [v, i64 60] 0 [v', i64 60] = [v', i64 60] := splice_full rfl
    have hcl : (Value.agg #[v', i64 60]).cells.toList = [v', i64 60] := rfl
    have hone := hT'.one
    obtain ⟨W6, hW6⟩ : ∃ W6, W6 = wr w5 c10 [v', i64 60] := ⟨_, rfl⟩
    have f6 : Fr [c10] w5 W6 := by rw [hW6]; exact (Fr.refl _ _).wr (.inl (by simp)) _
    have f15 := f14.trans0 f5
    try simp (maxDischargeDepth := 8) [↓sC, sB, sM, hm5, hz5, hspl, hone, ← hW6, e53, hwj, -Int.natCast_add]
    refine hnext _ _ t' v' p.1 ⟨?_, ?_, ?_, ?_, ?_, ?_, ?_, ?_, ?_, ?_, ?_, ?_⟩ hlt (by simp [put_get])
    · rw [hW6]; exact isT_wrB b10'' hT'
    · rw [hino, ino]; exact insL_step hs hp
    · rw [hW6]; exact Box.wr b10'' hT'.nofl
    · rw [hW6]; exact Box.ne (x := v') (y := v') (b8.fr0 f15) hne _
    · exact (ent.fr f15 (by simp)).fr f6 (by simp; omega)
    · exact (fr.trans0 f15).trans f6 (fun k hk => .inr (by simp at hk; omega))
    · intro p' hp'
      obtain ⟨hj1, he1⟩ := List.getElem?_eq_some_iff.1 hp'
      have := srt_take hs hp' p
      refine this ?_
      rw [List.take_add_one, hp]
      simp
    · simp [put_get]
    · simp [put_get, e10]
    · simp [put_get, e8]
    · simp [put_get, e51, hov]
    · simp [put_get, e52]
  · have hji : ¬ (j : Int) < L.length := by omega
    try simp (maxDischargeDepth := 8) [↓sC, sB, sM, e8, e10, e14, e51, e52, e53, hji, hlt]
    exact hdone (by omega) _ (by simp [put_get, e10]) (by simp [put_get, e8])
end Go.Proofs.YtieejbkbdfccdaaGreat

set_option linter.unusedVariables false
set_option linter.unusedSimpArgs false
namespace Go.Proofs.YtieejbkbdfccdaaGreat
open Go
def LoadR (L : List KR) (w : World) (x : Value) (w' : World) : Prop := ∃ (t : Tr) (v : Value), x = .tuple #[.agg #[v, i64 60], i64 0] ∧ IsT w' t v ∧ t.ino = L ∧ Fr [] w w'
theorem slH_any {w : World} {x : Value} {base n : Nat} {xs : List Value} (h : w.ownsRow base 72 1 x n xs) : pSlice P 78 x none (some (i64 n)) none w = some (x, w) := by
  rcases h.2 with ⟨rfl, rfl⟩ | ⟨g, cap, cur, rfl, hbg, hg, hnc, hcm, hcs, htk⟩
  · rw [pSlice_any (lo := none) (hi := some (i64 (0 : Nat))) sliceE78 tyOk72 rfl rfl (Int.le_refl 0) (by simp [bLo, bHi]) (by simp [bHi]) (Nat.le_refl _)]
    simp [bLo, bHi]
  · rw [pSlice_any (lo := none) (hi := some (i64 (n : Nat))) sliceE78 tyOk72 rfl rfl (Int.le_refl 0) (by simp [bLo, bHi]) (by simp [bHi]; omega) hnc]
    simp [bLo, bHi, Addr.add]
set_option maxHeartbeats 8000000 in
set_option maxRecDepth 20000 in
theorem load_spec {w : World} {b fr : Nat} {F : List Nat} {D : DD} {L : List KR} (h : IsD w b D F) (hd : D.down = false) (hfit : fitsM D.firm.length (fr : Int) 2000) (hs : SrtK L) (hk : KeyOk L) (ho : ∀ p ∈ L, okR p.2) (hn : L.length ≤ 60)
    (hsm : (scanM (areaS D fr 2000)).1 = L.map entB) : Ret P 14 #[pt b 0, ar fr 2000, i64 L.length, i64 60] w fun x w' => LoadR L w x w' := by
  refine F14ok ?_
  unfold F14 ar
  have hc1 : (Value.agg #[i64 fr, i64 2000]).cells.toList = [i64 fr, i64 2000] := rfl
  have ht1 : ([i64 fr, i64 2000] : List Value).take 2 = [i64 fr, i64 2000] := rfl
  have ht2 : ∀ x : Value, ([x, i64 60] : List Value).take 2 = [x, i64 60] := fun _ => rfl
  have hspl0 : ∀ v : Value, splice [Value.pointer none, i64 0] 0 [v, i64 60] = [v, i64 60] := fun _ => splice_full rfl
  obtain ⟨W, hW⟩ : ∃ W, W = nw (nw w [i64 fr, i64 2000] 42) [.pointer none, i64 0] 32 := ⟨_, rfl⟩
  have fW : Fr [] w W := by rw [hW]; exact ((Fr.refl [] w).nw _ _).nw _ _
  have hsW : sz W = sz w + 2 := by rw [hW]; simp [sz_nw]
  have m0 : mm W (sz w) = [i64 fr, i64 2000] := by rw [hW, mm_nw, if_neg (by simp [sz_nw]), mm_nw, if_pos rfl]
  have b8 : Box W (sz w + 1) (.pointer none) (i64 0) := ⟨by rw [hW, mm_nw, if_pos (by simp [sz_nw])], by rw [hW, fz_nw, if_pos (by simp [sz_nw])], fun z => by simp⟩
  try simp (maxDischargeDepth := 8) [↓sC, sB, sM, hc1, ← hW]
  refine (newS_spec (room := 60) (by omega) (by omega)).call ?_
  rintro _ w1 ⟨rfl, f1⟩
  obtain ⟨W2, hW2⟩ : ∃ W2, W2 = wr (nw w1 [.pointer none, i64 0] 32) (sz w1) [.pointer none, i64 60] := ⟨_, rfl⟩
  have f2 : Fr [] w1 W2 := by rw [hW2]; exact ((Fr.refl [] w1).nw _ _).wr (.inr (Nat.le_refl _)) _
  have b10 : Box W2 (sz w1) (.pointer none) (i64 60) := ⟨by rw [hW2]; exact mm_wr_same (by rw [fz_nw, if_pos rfl]) _, by rw [hW2, fz_wr, fz_nw, if_pos rfl], fun z => by simp⟩
  have s2 : sz W2 = sz w1 + 1 := by rw [hW2, sz_wr, sz_nw]
  have q2 := f1.trans0 f2
  have n0 : mm W2 (sz w) = [i64 fr, i64 2000] := by rw [q2.mm (by omega) (by simp), m0]
  have l1 := f1.size
  have k2 : sz w < sz W2 := by omega
  have b82 := b8.fr0 q2
  try simp (maxDischargeDepth := 8) [↓sC, sB, sM, hspl0, ← hW2, n0, k2, ht1]
  have hsc := scan_spec (fr := (fr : Int)) (ln := 2000) ((h.fr0 fW).fr0 q2)
  unfold ar at hsc
  refine hsc.call ?_
  rintro x w3 ⟨f3, _, _, x3⟩
  obtain ⟨ov, Lp, rfl, hE, hLp⟩ := x3 hd hfit
  have hLp' : Lp.map (·.1) = L.map entB := by rw [hLp]; exact hsm
  have hLpl : Lp.length = L.length := by have := congrArg List.length hLp'; simpa using this
  have hown := hE.own
  rw [hLpl] at hown
  obtain ⟨oa, oc, hov⟩ := own_val hown
  have hlen : ∀ w, pBuiltin P .len #[78] 3 [ov] w = some (i64 L.length, w) := fun w => by rw [hov]; exact len78
  have hsl := slH_any hown
  have hc5 : ((L.length : Int) < 0) = False := eq_false (by omega)
  have hc6 : ((L.length : Int) < (L.length : Int)) = False := eq_false (by omega)
  have q3 := q2.trans0 f3
  try simp (maxDischargeDepth := 8) [↓sC, sB, sM, hlen, hsl, hc5, hc6]
  have hfw := (fW.trans0 q2).trans0 f3
  refine loopE_of (LdJ w (sz W2) (sz w + 1) (sz w1) L Lp ov) L.length ⟨0, .nil, .pointer none, [], by omega, by omega, ⟨rfl, by simp [Tr.ino], b10.fr0 f3, b82.fr0 f3, hE, hfw, fun p hp => bl_nil (hk p (List.mem_of_getElem? hp)).1, by simp [put_get]; rfl, by simp [put_get], by simp [put_get], by simp [put_get], by simp [put_get]⟩, by simp [put_get]⟩ ?_
  rintro m e w6 ⟨j, t, v, last, rfl, hj, hI, e53⟩
  refine load_step hs hk ho hn hLp' (by omega) (by omega) (by omega) (by omega) hj hI e53 (fun e' w' t' v' last' hI' hlt e53' => ⟨L.length - (j + 1), by omega, j + 1, t', v', last', rfl, by omega, hI', e53'⟩) (fun hjt e' e10 e8 => ?_)
  subst hjt
  have hm10 := hI.b10.m
  have hm8 := hI.b8.m
  have hz8 := hI.b8.z
  have hl10 : sz w1 < sz w6 := lt_of_fz hI.b10.z
  have hone := hI.isT.one
  obtain ⟨W7, hW7⟩ : ∃ W7, W7 = wr w6 (sz w + 1) [v, i64 60] := ⟨_, rfl⟩
  have h7 : mm W7 (sz w + 1) = [v, i64 60] := by rw [hW7]; exact mm_wr_same hz8 _
  have f7 : Fr [sz w + 1] w6 W7 := by rw [hW7]; exact (Fr.refl _ _).wr (.inl (by simp)) _
  try simp (maxDischargeDepth := 8) [↓sC, sB, sM, e10, e8, hm10, hm8, hz8, hl10, ht2, hspl0, hone, ← hW7, h7]
  refine ⟨t, v, rfl, by rw [hW7]; exact isT_wrB hI.b8 hI.isT, by rw [hI.ino, List.take_length], hI.fr.trans f7 (fun k hk => .inr (by simp at hk; omega))⟩
end Go.Proofs.YtieejbkbdfccdaaGreat
