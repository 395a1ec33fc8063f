/- Leaf: an entry as bytes. -/
import Derived.Test.YtieejbkbdfccdaaGreatSim
import Derived.Test.YtieejbkbdfccdaaGreatKZ
import Derived.Test.YtieejbkbdfccdaaGreatKK
import Derived.Test.YtieejbkbdfccdaaGreatKO
import Derived.Test.YtieejbkbdfccdaaGreatKT
set_option linter.unusedVariables false
set_option linter.unusedSimpArgs false
namespace Go.Proofs.YtieejbkbdfccdaaGreat
open Go
def entP (p : KR) : List PartP := [sP p.1] ++ recP p.2
def entB (p : KR) : List UInt8 := encAll (entP p)
theorem entP_ok {p : KR} (hk : p.1.length ≤ 64) (h : RecOk p.2) (ho : okR p.2) : okPL (entP p) ∧ (entP p).length ≤ 68 := by
  obtain ⟨h1, h2⟩ := recP_ok h ho
  exact ⟨okPL_app (ok_sP hk) h1, by simp only [entP, List.length_append, List.length_cons, List.length_nil]; omega⟩
theorem entB_len {p : KR} (hk : p.1.length ≤ 64) (h : RecOk p.2) (ho : okR p.2) : (entB p).length ≤ 5032 := by
  obtain ⟨h1, h2⟩ := entP_ok hk h ho
  have := encAll_len h1
  unfold entB; omega
set_option maxHeartbeats 4000000 in
theorem entry_spec {w : World} {key : List UInt8} {r : RecP} {a : Option Addr} {c : Nat} (hr : IsRec w (.slice a r.list.length c) r) (hok : RecOk r) (hk : key.length ≤ 64) :
    Ret P 23 #[strB key, .agg (rcV r (.slice a r.list.length c)).toArray] w fun v w' => w'.ownsRow (sz w) 5 1 v (entB (key, r)).length (bs (entB (key, r))) ∧ Fr [] w w' := by
  refine F23ok ?_
  unfold F23
  obtain ⟨W, hW⟩ : ∃ W, W = nw w (rcV r (.slice a r.list.length c)) 61 := ⟨_, rfl⟩
  have fW : Fr [] w W := by rw [hW]; exact (Fr.refl [] w).nw _ _
  have hm : mm W (sz w) = rcV r (.slice a r.list.length c) := by rw [hW]; simp [mm_nw]
  have hsW : sz W = sz w + 1 := by rw [hW, sz_nw]
  have t8 : ∀ r lv, (rcV r lv).take 8 = rcV r lv := fun _ _ => rfl
  try simp (maxDischargeDepth := 8) [↓sC, sB, sM, ← hW]
  have hst := stS (w := nw W [Value.slice none 0 0] 115) (b := sz W) (B := []) (L := []) (F := [sz W]) (n := key) (by simpa [encAll] using newW (w := W)) (by simp) (fun p hp => by simp at hp) (by simp) hk
  refine hst.call ?_
  rintro _ w1 ⟨rfl, F1, hM1⟩
  simp only [List.nil_append] at hM1
  have hm1 : mm w1 (sz w) = rcV r (.slice a r.list.length c) := by
    rw [hM1.fr.mm (by rw [sz_nw]; omega) (by simp; omega), mm_nw, if_neg (by omega), hm]
  have hs1 : sz w + 2 ≤ sz w1 := by have := hM1.fr.size; rw [sz_nw] at this; omega
  try simp (maxDischargeDepth := 8) [↓sC, sB, sM, hm1, t8]
  have hO : Own W w1 F1 := Own.step (w0 := W) (w := nw W [Value.slice none 0 0] 115) (F := [sz W]) ⟨(Fr.refl [] W).nw _ _, by simp⟩ hM1.fr hM1.new
  have hl1 := encAll_len (ok_sP hk)
  have hput := put_spec (w0 := W) (hr.fr0 fW) hO hM1.is hok (by simp only [List.length_cons, List.length_nil] at hl1; omega)
  rw [← encAll_app] at hput
  refine hput.call ?_
  rintro _ w2 ⟨rfl, F2, hM⟩
  have hlB := entB_len (p := (key, r)) hk hok hr.2
  try simp (maxDischargeDepth := 8) [↓sC, sB, sM]
  refine (wBytes_spec (B := entB (key, r)) hM.is (by omega)).call ?_
  rintro v w3 ⟨hown, f3⟩
  try simp (maxDischargeDepth := 8) [↓sC, sB, sM]
  have hM2 := hM1.trans hM
  have g2 : Fr [] w w2 := (fW.nw _ _).trans hM2.fr (fun k hk' => .inr (by simp at hk'; omega))
  exact ⟨own_base hown g2.size, g2.trans0 f3⟩
end Go.Proofs.YtieejbkbdfccdaaGreat

set_option linter.unusedVariables false
set_option linter.unusedSimpArgs false
namespace Go.Proofs.YtieejbkbdfccdaaGreat
open Go
theorem IsT.okR {w : World} : ∀ {t : Tr} {v : Value}, IsT w t v → ∀ p ∈ t.ino, okR p.2
  | .nil, v, h, p, hp => by simp [Tr.ino] at hp
  | .node k r l rt, v, h, p, hp => by
    obtain ⟨b, la, c, vl, vr, rfl, hb, hm, hr, hl, hrt⟩ := h
    simp only [Tr.ino, List.mem_append, List.mem_cons] at hp
    rcases hp with hp | rfl | hp
    · exact IsT.okR hl p hp
    · exact hr.2
    · exact IsT.okR hrt p hp
def entsB (t : Tr) : List (List UInt8) := t.ino.map entB
def NdI (w0 : World) (b1 : Nat) (t : Tr) (m : Nat) (e : Env) (w' : World) : Prop :=
  ∃ j : Nat, m = t.size - j ∧ j ≤ t.size ∧ Fr [] w0 w' ∧ e 1 = pt b1 0 ∧ e 3 = i64 (total ((entsB t).take j)) ∧ e 9 = i64 t.size ∧ e 10 = i64 j
theorem need_small {n : Nat} (h : n ≤ 5040) : need n ≤ 84 := by unfold need; omega
theorem total_small : ∀ {es : List (List UInt8)}, (∀ b ∈ es, b.length ≤ 5040) → total es ≤ 84 * es.length
  | [], _ => by simp [total]
  | b :: es, h => by
    have h1 := total_small (es := es) fun x hx => h x (by simp [hx])
    have h2 := need_small (h b (by simp))
    simp only [total, List.map_cons, List.sum_cons, List.length_cons] at *
    omega
set_option maxHeartbeats 8000000 in
set_option maxRecDepth 20000 in
theorem need_spec {w : World} {t : Tr} {v : Value} (hT : IsT w t v) (hs : SrtK t.ino) (hk : KeyOk t.ino) (hn : t.size ≤ 60) : Ret P 7 #[.agg #[v, i64 60]] w fun x w' => x = i64 (total (entsB t)) ∧ Fr [] w w' := by
  refine F7ok ?_
  unfold F7
  have hc : (Value.agg #[v, i64 60]).cells.toList = [v, i64 60] := rfl
  have h2 : ([v, i64 60] : List Value).take 2 = [v, i64 60] := rfl
  obtain ⟨W, hW⟩ : ∃ W, W = nw w [v, i64 60] 32 := ⟨_, rfl⟩
  have fW : Fr [] w W := by rw [hW]; exact (Fr.refl [] w).nw _ _
  have hsW : sz W = sz w + 1 := by rw [hW, sz_nw]
  have m0 : mm W (sz w) = [v, i64 60] := by rw [hW, mm_nw, if_pos rfl]
  try simp (maxDischargeDepth := 8) [↓sC, sB, sM, hc, ← hW, m0, hsW]
  refine (len_spec' (room := 60) (hT.fr0 fW)).call ?_
  rintro _ w1 ⟨rfl, f1⟩
  try simp (maxDischargeDepth := 8) [↓sC, sB, sM]
  refine loopE_of (NdI W (sz w) t) t.size ⟨0, by omega, by omega, f1, by simp [put_get], by simp [put_get, total], by simp [put_get], by simp [put_get]⟩ ?_
  rintro m e w2 ⟨j, rfl, hj, f2, e1, e3, e9, e10⟩
  unfold F7B0
  by_cases hjl : j < t.size
  · obtain ⟨p, hp⟩ : ∃ p, t.ino[j]? = some p := ⟨_, List.getElem?_eq_getElem (by rw [Tr.size_ino]; exact hjl)⟩
    have hpk := hk p (List.mem_of_getElem? hp)
    have hji : (j : Int) < t.size := by omega
    have hwj : IntKind.i64.wrap ((j : Int) + 1) = ((j + 1 : Nat) : Int) := wrap64 (by omega) (by omega)
    have m2 : mm w2 (sz w) = [v, i64 60] := by rw [f2.mm (by omega) (by simp), m0]
    have hz8 : [Value.int IntKind.i64 0, Value.int IntKind.i64 0, Value.int IntKind.i64 0, Value.int IntKind.i64 0, Value.float FloatKind.f64 0, Value.int IntKind.i64 0, Value.string ByteArray.empty, Value.slice none 0 0] = rcV rz (.slice none 0 0) := rfl
    have hspz : ∀ x l n c, splice (rcV rz (.slice none 0 0)) 0 (rcV x (.slice l n c)) = rcV x (.slice l n c) := fun _ _ _ _ => splice_full rfl
    have len8 : ∀ x lx, (rcV x lx).length = 8 := fun _ _ => rfl
    have t8 : ∀ r lv, (rcV r lv).take 8 = rcV r lv := fun _ _ => rfl
    try simp (maxDischargeDepth := 8) [↓sC, sB, sM, e9, e10, e1, hji, hjl, m2]
    refine (at_spec (room := 60) (hT.fr0 (fW.trans0 f2)) (KeyOk.shT hk hs (by omega)) hp).call ?_
    rintro _ w3 ⟨a3, c3, rfl, hr3, f3⟩
    obtain ⟨W4, hW4⟩ : ∃ W4, W4 = wr (nw w3 (rcV rz (.slice none 0 0)) 61) (sz w3) (rcV p.2 (.slice a3 p.2.list.length c3)) := ⟨_, rfl⟩
    have f4 : Fr [] w3 W4 := by rw [hW4]; exact ((Fr.refl [] w3).nw _ _).wr (.inr (Nat.le_refl _)) _
    have q4 : mm W4 (sz w3) = rcV p.2 (.slice a3 p.2.list.length c3) := by rw [hW4]; exact mm_wr_same (by simp [fz_nw]) _
    try simp (maxDischargeDepth := 8) [↓sC, sB, sM, hz8, hspz, rcV_oneT, len8, ← hW4, q4, t8]
    refine (entry_spec (key := p.1) (hr3.fr0 f4) hpk.2.2 (by omega)).call ?_
    rintro v5 w5 ⟨hown, f5⟩
    have hlen := entB_len (p := p) (by omega) hpk.2.2 hr3.2
    obtain ⟨a5, c5, rfl⟩ := own_val hown
    have hlv : ∀ w, pBuiltin P .len #[72] 3 [.slice a5 (entB (p.1, p.2)).length c5] w = some (i64 (entB p).length, w) := fun w => len72
    try simp (maxDischargeDepth := 8) [↓sC, sB, sM, hlv]
    refine (rneed_spec (n := (entB p).length) (by omega)).call ?_
    rintro _ w6 ⟨rfl, f6⟩
    have htk : (entsB t).take (j + 1) = (entsB t).take j ++ [entB p] := by
      rw [List.take_add_one, entsB, List.getElem?_map, hp]; rfl
    have hb1 := need_small (n := (entB p).length) (by omega)
    have hall : ∀ b ∈ (entsB t).take j, b.length ≤ 5040 := fun b hb => by
      have hb' := List.mem_of_mem_take hb
      obtain ⟨q, hq, rfl⟩ := List.mem_map.1 hb'
      have := entB_len (p := q) (by have := (hk q hq).2.1; omega) (hk q hq).2.2 (hT.okR q hq)
      omega
    have hb2 := total_small hall
    have hb3 : ((entsB t).take j).length ≤ 60 := by rw [List.length_take]; omega
    have hw3 : IntKind.i64.wrap ((total ((entsB t).take j) : Int) + need (entB p).length) = ((total ((entsB t).take j) + need (entB p).length : Nat) : Int) := by rw [wrap64 (by omega) (by omega)]; omega
    try simp (maxDischargeDepth := 8) [↓sC, sB, sM, e3, e10, hw3, hwj, -Int.natCast_add]
    refine ⟨t.size - (j + 1), by omega, j + 1, rfl, by omega, (((f2.trans0 f3).trans0 f4).trans0 f5).trans0 f6, by simp [put_get, e1], ?_, by simp [put_get, e9], by simp [put_get]⟩
    rw [htk]
    simp [put_get, total]
  · have hji : ¬ (j : Int) < t.size := by omega
    try simp (maxDischargeDepth := 8) [↓sC, sB, sM, e9, e10, hji, hjl, e3]
    have : (entsB t).take j = entsB t := List.take_of_length_le (by simp only [entsB, List.length_map, Tr.size_ino]; omega)
    rw [this]
    exact ⟨rfl, fW.trans0 f2⟩
end Go.Proofs.YtieejbkbdfccdaaGreat

set_option linter.unusedVariables false
set_option linter.unusedSimpArgs false
namespace Go.Proofs.YtieejbkbdfccdaaGreat
open Go
def sumT (L : List PartP) : Nat := (L.map fun p => p.s.length).sum
theorem sumT_app (L M : List PartP) : sumT (L ++ M) = sumT L + sumT M := by simp [sumT]
theorem encAll_sum : ∀ {L : List PartP}, okPL L → (encAll L).length ≤ 10 * L.length + sumT L
  | [], _ => by simp [encAll, sumT]
  | p :: L, h => by
    have h1 := encAll_sum (L := L) fun q hq => h q (List.mem_cons_of_mem _ hq)
    obtain ⟨h2, h3⟩ := h p List.mem_cons_self
    have := encP_len h2 (by omega)
    rw [encAll_cons, List.length_append, List.length_cons]
    simp only [sumT, List.map_cons, List.sum_cons] at h1 ⊢
    omega
theorem sumT_items (k : Int) : ∀ {M : List ItemP}, (∀ x ∈ M, x.name.length ≤ 16) → sumT (M.flatMap (itP k)) ≤ 16 * M.length
  | [], _ => by simp [sumT]
  | x :: M, h => by
    have h1 := sumT_items k (M := M) fun y hy => h y (by simp [hy])
    have h2 := h x (by simp)
    rw [List.flatMap_cons, sumT_app, List.length_cons]
    have h3 : sumT (itP k x) ≤ 16 := by
      unfold itP
      rw [sumT_app]
      have e1 : sumT [sP x.name] = x.name.length := by simp [sumT, sP]
      have e2 : sumT (if k = 9 then [fP x.score] else []) = 0 := by split <;> simp [sumT, fP]
      omega
    omega
theorem sumT_rec {r : RecP} (hk : RecOk r) (ho : okR r) : sumT (recP r) ≤ 64 + 16 * r.list.length := by
  have hn := names_le hk ho
  have e0 : sumT [uP r.kind.toNat] = 0 := by simp [sumT, uP]
  unfold recP
  rw [sumT_app, e0]
  by_cases h1 : r.kind = 1
  · rw [if_pos h1]
    have := hk.text h1
    have e1 : sumT [sP r.text] = r.text.length := by simp [sumT, sP]
    omega
  rw [if_neg h1]
  by_cases h4 : r.kind = 4
  · rw [if_pos h4]
    have e1 : sumT [iP r.low, iP r.high, iP r.num] = 0 := by simp [sumT, iP]
    omega
  rw [if_neg h4]
  by_cases h2 : r.kind = 2 ∨ r.kind = 3
  · rw [if_pos h2]
    have e1 : sumT [iP r.num] = 0 := by simp [sumT, iP]
    omega
  rw [if_neg h2]
  by_cases h5 : r.kind = 5 ∨ r.kind = 6 ∨ r.kind = 7
  · rw [if_pos h5]
    have e1 : sumT [fP r.real] = 0 := by simp [sumT, fP]
    omega
  rw [if_neg h5]
  have e1 : sumT [uP r.cap.toNat, uP r.list.length] = 0 := by simp [sumT, uP]
  have e2 := sumT_items r.kind fun x hx => (hn x hx).2
  rw [sumT_app, e1]
  omega
theorem entB_3840 {p : KR} (hk : p.1.length ≤ 64) (h : RecOk p.2) (ho : okR p.2) : (entB p).length ≤ 3840 := by
  obtain ⟨h1, h2⟩ := entP_ok hk h ho
  have h3 := encAll_sum h1
  have h4 := sumT_rec h ho
  have h5 := list32 h
  have e1 : sumT (entP p) = p.1.length + sumT (recP p.2) := by
    unfold entP
    rw [sumT_app]
    simp [sumT, sP]
  unfold entB
  omega
end Go.Proofs.YtieejbkbdfccdaaGreat
