/- None begins another one: the plain law. -/
import Derived.Test.YtieejbkbdfccdaaDoorR13
set_option linter.unusedVariables false
set_option linter.unusedSimpArgs false
namespace Go.Proofs.YtieejbkbdfccdaaDoor
open Go

def okK (p : PartP) : Prop := p.kind = 117 ∨ p.kind = 105 ∨ p.kind = 102 ∨ p.kind = 115 ∨ p.kind = 98
theorem inj1 {p p' : PartP} {r r' : List UInt8} (hk : p.kind = p'.kind) (hp : okK p) (ho : okP p ∧ p.s.length ≤ 64) (ho' : okP p' ∧ p'.s.length ≤ 64) (h : encP p ++ r = encP p' ++ r') : plain p = plain p' ∧ r = r' := by
  obtain ⟨q, h1, h2⟩ := enc_part (most := 64) r hp ho.1 (by omega) (by omega)
  obtain ⟨q', h1', h2'⟩ := enc_part (most := 64) r' (show okK p' by unfold okK at hp ⊢; rw [← hk]; exact hp) ho'.1 (by omega) (by omega)
  rw [h, hk, h1'] at h1
  simp only [Prod.mk.injEq] at h1
  obtain ⟨rfl, hl, _⟩ := h1
  exact ⟨by rw [← h2, ← h2'], (List.append_inj h hl.symm).2⟩
theorem injL : ∀ {L M : List PartP} {r r' : List UInt8}, L.map (·.kind) = M.map (·.kind) → (∀ p ∈ L, okK p) → okPL L → okPL M → encAll L ++ r = encAll M ++ r' → L.map plain = M.map plain ∧ r = r'
  | [], [], r, r', _, _, _, _, h => ⟨rfl, by simpa [encAll] using h⟩
  | [], _ :: _, _, _, hk, _, _, _, _ => by simp at hk
  | _ :: _, [], _, _, hk, _, _, _, _ => by simp at hk
  | p :: L, q :: M, r, r', hk, ho, h1, h2, h => by
    simp only [List.map_cons, List.cons.injEq] at hk
    rw [encAll_cons, encAll_cons, List.append_assoc, List.append_assoc] at h
    obtain ⟨e1, e2⟩ := inj1 hk.1 (ho p List.mem_cons_self) (h1 p List.mem_cons_self) (h2 q List.mem_cons_self) h
    obtain ⟨e3, e4⟩ := injL hk.2 (fun x hx => ho x (List.mem_cons_of_mem _ hx)) (fun x hx => h1 x (List.mem_cons_of_mem _ hx)) (fun x hx => h2 x (List.mem_cons_of_mem _ hx)) e2
    exact ⟨by rw [List.map_cons, List.map_cons, e1, e3], e4⟩
theorem pl_u {n m : Nat} (h : plain (uP n) = plain (uP m)) : n = m := by simpa [plain, uP] using h
theorem pl_i {n m : Int} (h : plain (iP n) = plain (iP m)) : n = m := by simpa [plain, iP] using h
theorem pl_f {n m : Nat} (h : plain (fP n) = plain (fP m)) : key n = key m := by simpa [plain, fP] using h
theorem pl_s {n m : List UInt8} (h : plain (sP n) = plain (sP m)) : n = m := by simpa [plain, sP] using h
theorem pl_b {n m : Bool} (h : plain (bP n) = plain (bP m)) : n = m := by simpa [plain, bP] using h
@[simp] theorem ku (n : Nat) : (uP n).kind = 117 := rfl
@[simp] theorem ki' (n : Int) : (iP n).kind = 105 := rfl
@[simp] theorem kf (n : Nat) : (fP n).kind = 102 := rfl
@[simp] theorem ks (n : List UInt8) : (sP n).kind = 115 := rfl
@[simp] theorem kb' (n : Bool) : (bP n).kind = 98 := rfl
theorem okK_u (n : Nat) : okK (uP n) := .inl rfl
theorem okK_i (n : Int) : okK (iP n) := .inr (.inl rfl)
theorem okK_f (n : Nat) : okK (fP n) := .inr (.inr (.inl rfl))
theorem okK_s (n : List UInt8) : okK (sP n) := .inr (.inr (.inr (.inl rfl)))
theorem okK_b (n : Bool) : okK (bP n) := .inr (.inr (.inr (.inr rfl)))

/-! ### Items -/
theorem inj_items {k : Int} : ∀ {L M : List ItemP} {r r' : List UInt8}, L.length = M.length → (∀ x ∈ L, okI x ∧ x.name.length ≤ 16) → (∀ x ∈ M, okI x ∧ x.name.length ≤ 16) → (k ≠ 9 → ∀ x ∈ L, key x.score = key 0) → (k ≠ 9 → ∀ x ∈ M, key x.score = key 0) →
    encAll (L.flatMap (itP k)) ++ r = encAll (M.flatMap (itP k)) ++ r' → L.map itemK = M.map itemK ∧ r = r'
  | [], [], r, r', _, _, _, _, _, h => ⟨rfl, by simpa [encAll] using h⟩
  | [], _ :: _, _, _, hk, _, _, _, _, _ => by simp at hk
  | _ :: _, [], _, _, hk, _, _, _, _, _ => by simp at hk
  | x :: L, y :: M, r, r', hk, h1, h2, h3, h4, h => by
    rw [List.flatMap_cons, List.flatMap_cons, encAll_app, encAll_app, List.append_assoc, List.append_assoc] at h
    obtain ⟨x1, x2⟩ := h1 x List.mem_cons_self
    obtain ⟨y1, y2⟩ := h2 y List.mem_cons_self
    have hh : itemK x = itemK y ∧ encAll (L.flatMap (itP k)) ++ r = encAll (M.flatMap (itP k)) ++ r' := by
      by_cases k9 : k = 9
      · have e : ∀ z, itP k z = [fP z.score, sP z.name] := fun z => by simp [itP, k9]
        rw [e, e] at h
        obtain ⟨p1, p2⟩ := injL (L := [fP x.score, sP x.name]) (M := [fP y.score, sP y.name]) (by rfl) (by intro p hp; simp at hp; rcases hp with rfl | rfl; exact okK_f _; exact okK_s _) (okPL_app (L := [fP x.score]) (ok_fP x1) (ok_sP (by omega))) (okPL_app (L := [fP y.score]) (ok_fP y1) (ok_sP (by omega))) h
        simp only [List.map_cons, List.map_nil, List.cons.injEq, and_true] at p1
        exact ⟨by unfold itemK; rw [pl_f p1.1, pl_s p1.2], p2⟩
      · have e : ∀ z, itP k z = [sP z.name] := fun z => by simp [itP, k9]
        rw [e, e] at h
        obtain ⟨p1, p2⟩ := injL (by rfl) (by intro p hp; simp at hp; subst hp; exact okK_s _) (ok_sP (by omega)) (ok_sP (by omega)) h
        simp only [List.map_cons, List.map_nil, List.cons.injEq, and_true] at p1
        exact ⟨by unfold itemK; rw [pl_s p1, h3 k9 x List.mem_cons_self, h4 k9 y List.mem_cons_self], p2⟩
    obtain ⟨q1, q2⟩ := hh
    obtain ⟨q3, q4⟩ := inj_items (by simpa using hk) (fun z hz => h1 z (List.mem_cons_of_mem _ hz)) (fun z hz => h2 z (List.mem_cons_of_mem _ hz)) (fun hk z hz => h3 hk z (List.mem_cons_of_mem _ hz)) (fun hk z hz => h4 hk z (List.mem_cons_of_mem _ hz)) q2
    exact ⟨by rw [List.map_cons, List.map_cons, q1, q3], q4⟩
theorem scores0 {r : RecP} (hk : RecOk r) (h8 : 8 ≤ r.kind) : r.kind ≠ 9 → ∀ x ∈ r.list, key x.score = key 0 := by
  intro h9 x hx
  have hk9 := hk.k9
  obtain ⟨i, hi⟩ := List.getElem?_of_mem hx
  have hil := (List.getElem?_eq_some_iff.1 hi).1
  exact ((hk.cap h8).2.2.2 i hil x hi).2.1 (by omega)
/-- Records of the same bytes are the same. -/
theorem inj_rec {r s : RecP} (hr : RecOk r) (hs : RecOk s) (ho : okR r) (ho' : okR s) {t u : List UInt8} (h : encAll (recP r) ++ t = encAll (recP s) ++ u) : sameR r s := by
  have hkn : ∀ r, RecOk r → r.kind.toNat < 2 * H63 := fun r hr => by have := hr.k9; unfold H63; omega
  have e0 : r.kind = s.kind := by
    have a1 : ∃ R, recP r = [uP r.kind.toNat] ++ R := ⟨_, rfl⟩
    have a2 : ∃ R, recP s = [uP s.kind.toNat] ++ R := ⟨_, rfl⟩
    obtain ⟨R, hR⟩ := a1
    obtain ⟨S, hS⟩ := a2
    rw [hR, hS, encAll_app, encAll_app, List.append_assoc, List.append_assoc] at h
    obtain ⟨p1, _⟩ := injL (by rfl) (by intro p hp; simp at hp; subst hp; exact okK_u _) (ok_uP (hkn r hr)) (ok_uP (hkn s hs)) h
    simp only [List.map_cons, List.map_nil, List.cons.injEq, and_true] at p1
    have := pl_u p1
    have := hr.k1
    have := hs.k1
    omega
  have hnr := names_le hr ho
  have hns := names_le hs ho'
  have ok1 := (recP_ok hr ho).1
  have ok2 := (recP_ok hs ho').1
  rcases five_kinds hr.k1 hr.k9 hr.only with ⟨hk, _, c1, c2, c3, c4, c5, c6⟩ | ⟨hk, _, c1, c2, c3, c4, c5, c6⟩ | ⟨hk, _, c1, c4, c5, c6⟩ | ⟨hk, _, c1, c2, c3, c4, c5, c6⟩ | ⟨hk, _, c1, c2, c3, c4, c5⟩ <;>
  rcases five_kinds hs.k1 hs.k9 hs.only with ⟨hk', _, d1, d2, d3, d4, d5, d6⟩ | ⟨hk', _, d1, d2, d3, d4, d5, d6⟩ | ⟨hk', _, d1, d4, d5, d6⟩ | ⟨hk', _, d1, d2, d3, d4, d5, d6⟩ | ⟨hk', _, d1, d2, d3, d4, d5⟩ <;> try omega
  · have er : recP r = [uP r.kind.toNat, sP r.text] := by unfold recP; rw [if_pos hk]; rfl
    have es : recP s = [uP s.kind.toNat, sP s.text] := by unfold recP; rw [if_pos hk']; rfl
    rw [er] at h ok1; rw [es] at h ok2
    obtain ⟨p1, _⟩ := injL (by rfl) (by intro p hp; simp at hp; rcases hp with rfl | rfl; exact okK_u _; exact okK_s _) ok1 ok2 h
    simp only [List.map_cons, List.map_nil, List.cons.injEq, and_true] at p1
    exact ⟨e0, by rw [c1, d1], by rw [c2, d2], by rw [c3, d3], by rw [c4, d4], by rw [c5, d5], pl_s p1.2, by rw [c6, d6]⟩
  · have er : recP r = [uP r.kind.toNat, iP r.num] := by unfold recP; rw [if_neg (by omega), if_neg (by omega), if_pos hk]; rfl
    have es : recP s = [uP s.kind.toNat, iP s.num] := by unfold recP; rw [if_neg (by omega), if_neg (by omega), if_pos hk']; rfl
    rw [er] at h ok1; rw [es] at h ok2
    obtain ⟨p1, _⟩ := injL (by rfl) (by intro p hp; simp at hp; rcases hp with rfl | rfl; exact okK_u _; exact okK_i _) ok1 ok2 h
    simp only [List.map_cons, List.map_nil, List.cons.injEq, and_true] at p1
    exact ⟨e0, pl_i p1.2, by rw [c2, d2], by rw [c3, d3], by rw [c4, d4], by rw [c5, d5], by rw [c1, d1], by rw [c6, d6]⟩
  · have er : recP r = [uP r.kind.toNat, iP r.low, iP r.high, iP r.num] := by unfold recP; rw [if_neg (by omega), if_pos hk]; rfl
    have es : recP s = [uP s.kind.toNat, iP s.low, iP s.high, iP s.num] := by unfold recP; rw [if_neg (by omega), if_pos hk']; rfl
    rw [er] at h ok1; rw [es] at h ok2
    obtain ⟨p1, _⟩ := injL (by rfl) (by intro p hp; simp at hp; rcases hp with rfl | rfl | rfl | rfl; exact okK_u _; exact okK_i _; exact okK_i _; exact okK_i _) ok1 ok2 h
    simp only [List.map_cons, List.map_nil, List.cons.injEq, and_true] at p1
    exact ⟨e0, pl_i p1.2.2.2, pl_i p1.2.1, pl_i p1.2.2.1, by rw [c4, d4], by rw [c5, d5], by rw [c1, d1], by rw [c6, d6]⟩
  · have er : recP r = [uP r.kind.toNat, fP r.real] := by unfold recP; rw [if_neg (by omega), if_neg (by omega), if_neg (by omega), if_pos hk]; rfl
    have es : recP s = [uP s.kind.toNat, fP s.real] := by unfold recP; rw [if_neg (by omega), if_neg (by omega), if_neg (by omega), if_pos hk']; rfl
    rw [er] at h ok1; rw [es] at h ok2
    obtain ⟨p1, _⟩ := injL (by rfl) (by intro p hp; simp at hp; rcases hp with rfl | rfl; exact okK_u _; exact okK_f _) ok1 ok2 h
    simp only [List.map_cons, List.map_nil, List.cons.injEq, and_true] at p1
    exact ⟨e0, by rw [c2, d2], by rw [c3, d3], by rw [c4, d4], pl_f p1.2, by rw [c5, d5], by rw [c1, d1], by rw [c6, d6]⟩
  · have er : recP r = [uP r.kind.toNat, uP r.cap.toNat, uP r.list.length] ++ r.list.flatMap (itP r.kind) := by unfold recP; rw [if_neg (by omega), if_neg (by omega), if_neg (by omega), if_neg (by omega)]; rfl
    have es : recP s = [uP s.kind.toNat, uP s.cap.toNat, uP s.list.length] ++ s.list.flatMap (itP s.kind) := by unfold recP; rw [if_neg (by omega), if_neg (by omega), if_neg (by omega), if_neg (by omega)]; rfl
    rw [er] at ok1; rw [es] at ok2
    rw [er, es, encAll_app, encAll_app, List.append_assoc, List.append_assoc] at h
    obtain ⟨p1, p2⟩ := injL (by rfl) (by intro p hp; simp at hp; rcases hp with rfl | rfl | rfl; exact okK_u _; exact okK_u _; exact okK_u _) (fun p hp => ok1 p (List.mem_append_left _ hp)) (fun p hp => ok2 p (List.mem_append_left _ hp)) h
    simp only [List.map_cons, List.map_nil, List.cons.injEq, and_true] at p1
    rw [← e0] at p2
    obtain ⟨q1, _⟩ := inj_items (pl_u p1.2.2) hnr hns (scores0 hr (by omega)) (by rw [e0]; exact scores0 hs (by omega)) p2
    have hc := pl_u p1.2.1
    obtain ⟨r1, _, _, _⟩ := hr.cap (by omega)
    obtain ⟨s1, _, _, _⟩ := hs.cap (by omega)
    exact ⟨e0, by rw [c2, d2], by rw [c3, d3], by rw [c4, d4], by rw [c5, d5], by omega, by rw [c1, d1], q1⟩
/-! ### Acts -/
def headP (a : ActP) : List PartP := [uP a.kind.toNat, bP a.must, sP a.key]
def midP (a : ActP) : List PartP := (if (hasF a.kind).contains 110 then [iP a.n] else []) ++ (if (hasF a.kind).contains 120 then [fP a.x] else []) ++ (if (hasF a.kind).contains 115 then [sP a.s] else [])
def makeP (a : ActP) : List PartP := if (hasF a.kind).contains 109 then recP a.make else []
theorem actP_split (a : ActP) : actP a = headP a ++ (midP a ++ makeP a) := by rw [actP_eq]; simp only [headP, midP, makeP, List.append_assoc]
theorem sameR_zero {r s : RecP} (h : zeroR r) (h' : zeroR s) : sameR r s := by
  obtain ⟨a1, a2, a3, a4, a5, a6, a7, a8⟩ := h
  obtain ⟨b1, b2, b3, b4, b5, b6, b7, b8⟩ := h'
  exact ⟨by rw [a1, b1], by rw [a2, b2], by rw [a3, b3], by rw [a4, b4], by rw [a7, b7], by rw [a5, b5], by rw [a6, b6], by rw [a8, b8]⟩
theorem inj_act {a b : ActP} (ha : ActOk a) (hb : ActOk b) (oa : okA a) (ob : okA b) (ra : okR a.make) (rb : okR b.make) {t : List UInt8} (h : encAll (actP b) = encAll (actP a) ++ t) : sameA a b := by
  obtain ⟨ok1, _⟩ := actP_ok ha oa ra
  obtain ⟨ok2, _⟩ := actP_ok hb ob rb
  rw [actP_split] at ok1 ok2
  have h0 : encAll (actP a) ++ t = encAll (actP b) ++ [] := by rw [h, List.append_nil]
  simp only [actP_split, encAll_app, List.append_assoc] at h0
  obtain ⟨p1, p2⟩ := injL (L := headP a) (M := headP b) (by rfl) (by intro p hp; simp [headP] at hp; rcases hp with rfl | rfl | rfl; exact okK_u _; exact okK_b _; exact okK_s _) (fun p hp => ok1 p (List.mem_append_left _ hp)) (fun p hp => ok2 p (List.mem_append_left _ hp)) h0
  simp only [headP, List.map_cons, List.map_nil, List.cons.injEq, and_true] at p1
  obtain ⟨q1, q2, q3⟩ := p1
  have e0 : a.kind = b.kind := by
    have := pl_u q1
    have := ha.k1
    have := hb.k1
    omega
  have e1 := pl_b q2
  have e2 := pl_s q3
  have ok1' : okPL (midP a ++ makeP a) := fun p hp => ok1 p (List.mem_append_right _ hp)
  have ok2' : okPL (midP b ++ makeP b) := fun p hp => ok2 p (List.mem_append_right _ hp)
  have okm1 : okPL (midP a) := fun p hp => ok1' p (List.mem_append_left _ hp)
  have okm2 : okPL (midP b) := fun p hp => ok2' p (List.mem_append_left _ hp)
  have fin : a.n = b.n → key a.x = key b.x → a.s = b.s → sameR a.make b.make → sameA a b := fun h1 h2 h3 h4 => ⟨e0, e2, h1, h2, h3, h4, e1⟩
  have x0 : (hasF a.kind).contains 120 = false → key a.x = key b.x := fun h => by rw [ha.x0 h, hb.x0 (by rw [← e0]; exact h)]
  have n0 : (hasF a.kind).contains 110 = false → a.n = b.n := fun h => by rw [ha.n0 h, hb.n0 (by rw [← e0]; exact h)]
  have s0 : (hasF a.kind).contains 115 = false → a.s = b.s := fun h => by rw [ha.s0 h, hb.s0 (by rw [← e0]; exact h)]
  have m0 : ¬ a.kind = 1 → sameR a.make b.make := fun h => sameR_zero (ha.make0 h) (hb.make0 (by rw [← e0]; exact h))
  rcases classes ha.k1 ha.k21 with ⟨qn, qx, qs, qm, qo, qb, qi⟩ | ⟨qn, qx, qs, qm, qo, qb, qi⟩ | ⟨qn, qx, qs, qm, qo, qb, qi⟩ | ⟨qn, qx, qs, qm, qo, qb, qi⟩ | ⟨qn, qx, qs, qm, qo, qb, qi⟩ | ⟨qn, qx, qs, qm, qo, qb, qi⟩ | ⟨qn, qx, qs, qm, qo, qb, qi⟩ | ⟨qn, qx, qs, qm, qo, qb, qi⟩
  · have kb : ¬ a.kind = 1 := by simpa using qb
    have ema : midP a = [] := by unfold midP; rw [qn, qx, qs]; rfl
    have emb : midP b = [] := by unfold midP; rw [← e0, qn, qx, qs]; rfl
    exact fin (n0 qn) (x0 qx) (s0 qs) (m0 kb)
  · have kb : a.kind = 1 := by simpa using qb
    have ema : midP a = [] := by unfold midP; rw [qn, qx, qs]; rfl
    have emb : midP b = [] := by unfold midP; rw [← e0, qn, qx, qs]; rfl
    have emk : makeP a = recP a.make := by unfold makeP; rw [qm]; rfl
    have emk' : makeP b = recP b.make := by unfold makeP; rw [← e0, qm]; rfl
    rw [ema, emb, emk, emk'] at p2
    simp only [encAll_nil, List.nil_append] at p2
    exact fin (n0 qn) (x0 qx) (s0 qs) (inj_rec (ha.make1 kb) (hb.make1 (by rw [← e0]; exact kb)) ra rb p2)
  · have kb : ¬ a.kind = 1 := by simpa using qb
    have ema : midP a = [sP a.s] := by unfold midP; rw [qn, qx, qs]; rfl
    have emb : midP b = [sP b.s] := by unfold midP; rw [← e0, qn, qx, qs]; rfl
    rw [ema] at okm1
    rw [emb] at okm2
    rw [ema, emb] at p2
    obtain ⟨r1, r2⟩ := injL (by rfl) (by intro p hp; simp at hp; subst hp; exact okK_s _) okm1 okm2 p2
    simp only [List.map_cons, List.map_nil, List.cons.injEq, and_true] at r1
    exact fin (n0 qn) (x0 qx) (pl_s r1) (m0 kb)
  · have kb : ¬ a.kind = 1 := by simpa using qb
    have ema : midP a = [iP a.n] := by unfold midP; rw [qn, qx, qs]; rfl
    have emb : midP b = [iP b.n] := by unfold midP; rw [← e0, qn, qx, qs]; rfl
    rw [ema] at okm1
    rw [emb] at okm2
    rw [ema, emb] at p2
    obtain ⟨r1, r2⟩ := injL (by rfl) (by intro p hp; simp at hp; subst hp; exact okK_i _) okm1 okm2 p2
    simp only [List.map_cons, List.map_nil, List.cons.injEq, and_true] at r1
    exact fin (pl_i r1) (x0 qx) (s0 qs) (m0 kb)
  · have kb : ¬ a.kind = 1 := by simpa using qb
    have ema : midP a = [iP a.n] := by unfold midP; rw [qn, qx, qs]; rfl
    have emb : midP b = [iP b.n] := by unfold midP; rw [← e0, qn, qx, qs]; rfl
    rw [ema] at okm1
    rw [emb] at okm2
    rw [ema, emb] at p2
    obtain ⟨r1, r2⟩ := injL (by rfl) (by intro p hp; simp at hp; subst hp; exact okK_i _) okm1 okm2 p2
    simp only [List.map_cons, List.map_nil, List.cons.injEq, and_true] at r1
    exact fin (pl_i r1) (x0 qx) (s0 qs) (m0 kb)
  · have kb : ¬ a.kind = 1 := by simpa using qb
    have ema : midP a = [fP a.x] := by unfold midP; rw [qn, qx, qs]; rfl
    have emb : midP b = [fP b.x] := by unfold midP; rw [← e0, qn, qx, qs]; rfl
    rw [ema] at okm1
    rw [emb] at okm2
    rw [ema, emb] at p2
    obtain ⟨r1, r2⟩ := injL (by rfl) (by intro p hp; simp at hp; subst hp; exact okK_f _) okm1 okm2 p2
    simp only [List.map_cons, List.map_nil, List.cons.injEq, and_true] at r1
    exact fin (n0 qn) (pl_f r1) (s0 qs) (m0 kb)
  · have kb : ¬ a.kind = 1 := by simpa using qb
    have ema : midP a = [sP a.s] := by unfold midP; rw [qn, qx, qs]; rfl
    have emb : midP b = [sP b.s] := by unfold midP; rw [← e0, qn, qx, qs]; rfl
    rw [ema] at okm1
    rw [emb] at okm2
    rw [ema, emb] at p2
    obtain ⟨r1, r2⟩ := injL (by rfl) (by intro p hp; simp at hp; subst hp; exact okK_s _) okm1 okm2 p2
    simp only [List.map_cons, List.map_nil, List.cons.injEq, and_true] at r1
    exact fin (n0 qn) (x0 qx) (pl_s r1) (m0 kb)
  · have kb : ¬ a.kind = 1 := by simpa using qb
    have ema : midP a = [fP a.x, sP a.s] := by unfold midP; rw [qn, qx, qs]; rfl
    have emb : midP b = [fP b.x, sP b.s] := by unfold midP; rw [← e0, qn, qx, qs]; rfl
    rw [ema] at okm1
    rw [emb] at okm2
    rw [ema, emb] at p2
    obtain ⟨r1, r2⟩ := injL (by rfl) (by intro p hp; simp at hp; rcases hp with rfl | rfl; exact okK_f _; exact okK_s _) okm1 okm2 p2
    simp only [List.map_cons, List.map_nil, List.cons.injEq, and_true] at r1
    exact fin (n0 qn) (pl_f r1.1) (pl_s r1.2) (m0 kb)
/-- An act that makes a record ends with that record's bytes. -/
theorem ends {a : ActP} (ha : ActOk a) (h : a.kind = 1) : ∃ B, encAll (actP a) = B ++ recB a.make ∧ 0 < B.length := by
  have hm := ha.make1 h
  have hB : recB a.make = encAll (recP a.make) := by unfold recB; rw [if_neg (by have := hm.k1; omega)]
  have hmk : makeP a = recP a.make := by unfold makeP; rw [h]; rfl
  refine ⟨encAll (headP a ++ midP a), ?_, ?_⟩
  · rw [hB, actP_split, hmk, ← encAll_app, List.append_assoc]
  · rw [encAll_app, List.length_append]
    have : encAll (headP a) = encP (uP a.kind.toNat) ++ encAll [bP a.must, sP a.key] := encAll_cons _ _
    have h2 : encP (uP a.kind.toNat) = digits a.kind.toNat := rfl
    have h3 := List.length_pos_iff.2 (digits_ne a.kind.toNat)
    rw [this, List.length_append, h2]; omega
end Go.Proofs.YtieejbkbdfccdaaDoor
