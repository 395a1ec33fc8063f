/- Parts that are written. -/
import Derived.Test.YtieejbkbdfccdaaSim
import Derived.Test.YtieejbkbdfccdaaPackW
import Derived.Test.YtieejbkbdfccdaaPackC
set_option linter.unusedVariables false
set_option linter.unusedSimpArgs false
namespace Go.Proofs.Ytieejbkbdfccdaa
open Go

def WrI (w : World) (b : Nat) (v : Value) (L : List PartP) (m : Nat) (e : Env) (w' : World) : Prop :=
  ∃ (j : Nat) (F : List Nat), m = L.length - j ∧ j ≤ L.length ∧ IsW w' b (encAll (L.take j)) F ∧ Own w w' F ∧ e 3 = pt b 0 ∧ e 6 = v ∧ e 7 = i64 L.length ∧ e 8 = i64 j

theorem encAll_take {L : List PartP} {j : Nat} {p : PartP} (h : L[j]? = some p) : encAll (L.take (j + 1)) = encAll (L.take j) ++ encP p := by
  rw [List.take_add_one, h]; exact encAll_snoc _ _
theorem encAll_take_le (L : List PartP) (j : Nat) : (encAll (L.take j)).length ≤ (encAll L).length := by
  have : encAll L = encAll (L.take j) ++ encAll (L.drop j) := by
    unfold encAll
    rw [← List.flatten_append, ← List.map_append, List.take_append_drop]
  rw [this, List.length_append]; omega

theorem write_step {w : World} {b : Nat} {v : Value} {L : List PartP} (h : IsParts w v L) (hl : (encAll L).length ≤ 1000000000) {j : Nat} {e : Env} {w1 : World} (hj : j < L.length)
    (hI : WrI w b v L (L.length - j) e w1) {K : KT} (hK : ∀ e' w'', WrI w b v L (L.length - (j + 1)) e' w'' → K .normal e' w'') : F4B0 e w1 K := by
  obtain ⟨j', F, hm, hj', hw, hO, e3, e6, e7, e8⟩ := hI
  have : j' = j := by omega
  subst this
  unfold F4B0
  obtain ⟨p, hp⟩ : ∃ p, L[j']? = some p := ⟨_, List.getElem?_eq_getElem hj⟩
  have h1 := h.fr0 hO.fr
  obtain ⟨hu, hi, hf⟩ := h.2 p (List.mem_of_getElem? hp)
  obtain ⟨pb, po, pc, rfl, hpb, hin, htk⟩ := flat_at h1.1 (partC_len L) (by omega) hp
  have hlen := encAll_take_le L (j' + 1)
  have hnext := encAll_take hp
  rw [hnext, List.length_append] at hlen
  have hji : (j' : Int) < L.length := by omega
  have hLm : L.length < 9223372036854775807 ∨ True := .inr trivial
  have hwj : IntKind.i64.wrap ((j' : Int) + 1) = ((j' + 1 : Nat) : Int) := by
    have hb : L.length ≤ maxLen := by
      rcases h.1 with ⟨_, _, _, h0, _⟩ | ⟨_, _, _, hv, h2, h3, _⟩
      · omega
      · omega
    have : maxLen = 9223372036854775807 := rfl
    exact wrap64 (by omega) (by omega)
  have hs6 : ∀ l : List Value, l.length = 6 → splice l 0 (partC p) = partC p := fun l hl => splice_full (by rw [hl]; rfl)
  have hone := partC_oneT p
  have hol : (partC p).length = 6 := rfl
  have h8 : ∀ k, (placeB k).length = 8 := fun _ => rfl
  have g0 : gt (partC p) 0 = bv p.kind := rfl
  have g1 : gt (partC p) 1 = u64 p.u := rfl
  have g2 : gt (partC p) 2 = i64 p.i := rfl
  have g3 : gt (partC p) 3 = fl p.f := rfl
  have g4 : gt (partC p) 4 = strB p.s := rfl
  have g5 : gt (partC p) 5 = .bool p.b := rfl
  obtain ⟨z, hz⟩ : ∃ z : List Value, z = [Value.int IntKind.u8 0, Value.int IntKind.u64 0, Value.int IntKind.i64 0, Value.float FloatKind.f64 0, Value.string ByteArray.empty, Value.bool false] := ⟨_, rfl⟩
  have hfW : Fr [] w1 (wr (nw w1 z 28) (sz w1) (partC p)) := ((Fr.refl [] w1).nw _ _).wr (.inr (Nat.le_refl _)) _
  have hwW := hw.fr0 hfW
  have hOW := hO.calm hfW
  have fin : ∀ (e' : Env) (w2 : World) (F2 : List Nat), More (wr (nw w1 z 28) (sz w1) (partC p)) b (encAll (L.take j') ++ encP p) F w2 F2 → e' 3 = pt b 0 → e' 6 = sl pb po L.length pc → e' 7 = i64 L.length → e' 8 = i64 (j' + 1 : Nat) →
      WrI w b (sl pb po L.length pc) L (L.length - (j' + 1)) e' w2 := fun e' w2 F2 hm a3 a6 a7 a8 =>
    ⟨j' + 1, F2, rfl, by omega, by rw [hnext]; exact hm.is, hOW.step hm.fr hm.new, a3, a6, a7, a8⟩
  rw [hz] at hwW fin
  try simp (maxDischargeDepth := 8) [↓sC, sB, sM, e3, e6, e7, e8, hji, hj, hin, htk, hs6, hone, hol, g0, ki117, ki105, ki102, ki115, ki98, kk117, kk105, kk102, kk115, kk98]
  by_cases k1 : p.kind = 117
  · have henc : encP p = digits p.u := by unfold encP; rw [if_pos k1]
    rw [henc] at fin hlen
    try simp (maxDischargeDepth := 8) [↓sC, sB, sM, e3, k1, g1, hol]
    refine (wU_spec hwW hu (by omega)).call ?_
    rintro _ w2 ⟨rfl, F2, hm2⟩
    try simp (maxDischargeDepth := 8) [↓sC, sB, sM, hwj, e8, -Int.natCast_add]
    exact hK _ _ (fin _ _ _ hm2 (by simp [put_get, e3]) (by simp [put_get, e6]) (by simp [put_get, e7]) (by simp [put_get]))
  by_cases k2 : p.kind = 105
  · have henc : encP p = digits (zig p.i) := by unfold encP; rw [if_neg k1, if_pos k2]
    rw [henc] at fin hlen
    try simp (maxDischargeDepth := 8) [↓sC, sB, sM, e3, k2, k1, g2, hol]
    refine (wI_spec hwW hi.1 hi.2 (by omega)).call ?_
    rintro _ w2 ⟨rfl, F2, hm2⟩
    try simp (maxDischargeDepth := 8) [↓sC, sB, sM, hwj, e8, -Int.natCast_add]
    exact hK _ _ (fin _ _ _ hm2 (by simp [put_get, e3]) (by simp [put_get, e6]) (by simp [put_get, e7]) (by simp [put_get]))
  by_cases k3 : p.kind = 102
  · have henc : encP p = placeB (key p.f) := by unfold encP; rw [if_neg k1, if_neg k2, if_pos k3]
    rw [henc] at fin hlen
    try simp (maxDischargeDepth := 8) [↓sC, sB, sM, e3, k3, k1, k2, g3, hol]
    refine (wF_spec hwW hf (by have := h8 (key p.f); omega)).call ?_
    rintro _ w2 ⟨rfl, F2, hm2⟩
    try simp (maxDischargeDepth := 8) [↓sC, sB, sM, hwj, e8, -Int.natCast_add]
    exact hK _ _ (fin _ _ _ hm2 (by simp [put_get, e3]) (by simp [put_get, e6]) (by simp [put_get, e7]) (by simp [put_get]))
  by_cases k4 : p.kind = 115
  · have henc : encP p = digits p.s.length ++ p.s := by unfold encP; rw [if_neg k1, if_neg k2, if_neg k3, if_pos k4]
    rw [henc] at fin hlen
    try simp (maxDischargeDepth := 8) [↓sC, sB, sM, e3, k4, k1, k2, k3, g4, hol]
    refine (wS_spec hwW (l := p.s) (by rw [List.length_append] at hlen; omega)).call ?_
    rintro _ w2 ⟨rfl, F2, hm2⟩
    try simp (maxDischargeDepth := 8) [↓sC, sB, sM, hwj, e8, -Int.natCast_add]
    exact hK _ _ (fin _ _ _ hm2 (by simp [put_get, e3]) (by simp [put_get, e6]) (by simp [put_get, e7]) (by simp [put_get]))
  by_cases k5 : p.kind = 98
  · have henc : encP p = [if p.b then 1 else 0] := by unfold encP; rw [if_neg k1, if_neg k2, if_neg k3, if_neg k4, if_pos k5]
    rw [henc] at fin hlen
    try simp (maxDischargeDepth := 8) [↓sC, sB, sM, e3, k5, k1, k2, k3, k4, g5, hol]
    refine (wFlag_spec hwW (x := p.b) (by simp only [List.length_cons, List.length_nil] at hlen; omega)).call ?_
    rintro _ w2 ⟨rfl, F2, hm2⟩
    try simp (maxDischargeDepth := 8) [↓sC, sB, sM, hwj, e8, -Int.natCast_add]
    exact hK _ _ (fin _ _ _ hm2 (by simp [put_get, e3]) (by simp [put_get, e6]) (by simp [put_get, e7]) (by simp [put_get]))
  · have henc : encP p = [] := by unfold encP; rw [if_neg k1, if_neg k2, if_neg k3, if_neg k4, if_neg k5]
    rw [henc, List.append_nil] at fin
    try simp (maxDischargeDepth := 8) [↓sC, sB, sM, e3, k1, k2, k3, k4, k5, hol, hwj, e8, -Int.natCast_add]
    exact hK _ _ (fin _ _ _ (More.refl hwW) (by simp [put_get, e3]) (by simp [put_get, e6]) (by simp [put_get, e7]) (by simp [put_get]))

theorem write_spec {w : World} {v : Value} {L : List PartP} (h : IsParts w v L) (hl : (encAll L).length ≤ 1000000000) :
    Ret P 4 #[v] w fun r w' => w'.ownsRow (sz w) 5 1 r (encAll L).length (bs (encAll L)) ∧ Fr [] w w' := by
  refine F4ok ?_
  unfold F4
  obtain ⟨a, c, hv⟩ := sl_of h.1
  subst hv
  try simp (maxDischargeDepth := 8) [↓sC, sB, sM]
  have hw0 : IsW (nw w [Value.slice none 0 0] 41) (sz w) [] [sz w] := by
    refine ⟨.slice none 0 0, by simp [sM], by simp [sM], World.ownsRow_nil _ _ _ _, by simp [Value.ownBlock], by simp, by simp [sM]⟩
  have hO : Own w (nw w [Value.slice none 0 0] 41) [sz w] := ⟨(Fr.refl [] w).nw _ _, by simp⟩
  refine loopE_of (WrI w (sz w) (.slice a L.length c) L) L.length ⟨0, [sz w], by omega, by omega, hw0, hO, by simp [put_get, argE_get], by simp [put_get], by simp [put_get], by simp [put_get]⟩ ?_
  rintro m e w1 hI
  obtain ⟨j, F, hm, hj, hw, hO, e3, e6, e7, e8⟩ := id hI
  subst hm
  by_cases hjl : j < L.length
  · exact write_step h hl hjl hI fun e' w'' hK => ⟨L.length - (j + 1), by omega, hK⟩
  · have hje : j = L.length := by omega
    subst hje
    unfold F4B0
    try simp (maxDischargeDepth := 8) [↓sC, sB, sM, e3, e7, e8]
    rw [List.take_length] at hw
    refine (wBytes_spec hw hl).call ?_
    rintro v2 w2 ⟨hown, hf⟩
    try simp (maxDischargeDepth := 8) [↓sC, sB, sM]
    exact ⟨own_base hown hO.fr.size, hO.fr.trans0 hf⟩
end Go.Proofs.Ytieejbkbdfccdaa
