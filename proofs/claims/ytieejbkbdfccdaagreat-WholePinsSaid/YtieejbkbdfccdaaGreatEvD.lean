/- The walker, further: functions that defer a closure, and closures that recover. -/
import Derived.Test.YtieejbkbdfccdaaGreatEv
import Derived.Recover
set_option linter.unusedVariables false
namespace Go.Proofs.YtieejbkbdfccdaaGreat
open Go
def recV : FrameMode → Value
  | .panicking ({ v, recovered := false, goexit := false } :: _) => v
  | _ => .nilIface
def recM : FrameMode → FrameMode
  | .panicking ({ v, recovered := false, goexit := false } :: older) => .panicking ({ v, recovered := true } :: older)
  | u => u
theorem recV_returning : recV .returning = .nilIface := rfl
theorem recM_returning : recM .returning = .returning := rfl
theorem recV_fresh (v : Value) : recV (.panicking [{ v := v, recovered := false }]) = v := rfl
theorem settle_fresh (v : Value) : settle (recM (.panicking [{ v := v, recovered := false }])) = .returning := rfl
theorem settle_returning : settle .returning = .returning := rfl
theorem recover_step (c : Frame) (cs : List Frame) :
    (recoverD (c :: cs) = some (recV c.mode, { c with mode := recM c.mode } :: cs)) ∨
    (recoverD (c :: cs) = none ∧ recV c.mode = .nilIface ∧ { c with mode := recM c.mode } = c) := by
  obtain ⟨fn, tmps, todo, defers, mode, kind, roundOf⟩ := c
  cases mode with
  | run => exact .inr ⟨rfl, rfl, rfl⟩
  | returning => exact .inr ⟨rfl, rfl, rfl⟩
  | panicking l =>
    cases l with
    | nil => exact .inr ⟨rfl, rfl, rfl⟩
    | cons p older =>
      obtain ⟨v, r, g⟩ := p
      cases r with
      | true => exact .inr ⟨rfl, rfl, rfl⟩
      | false =>
        cases g with
        | true => exact .inr ⟨rfl, rfl, rfl⟩
        | false => exact .inl rfl
/-! ### A function that defers a closure -/
def leaveE (P : Program) (g : FuncId) (caps : List Value) (rs : List ResultVar) (R : Ending → World → Prop) (u : FrameMode) (e : Env) (w : World) : Prop :=
  CallsD P g caps.toArray u w fun x u' w' =>
    match x with
    | .returned _ => (match settle u' with
      | .returning => resVs P rs e w' fun vs => R (.returned (tup vs)) w'
      | .panicking c => R (.panicked c) w'
      | .run => False)
    | .panicked c => (match raised u' c with
      | .returning => False
      | .panicking c => R (.panicked c) w'
      | .run => False)
    | .outgrown => False
def topD (P : Program) (g : FuncId) (caps : List Value) (rs : List ResultVar) (R : Ending → World → Prop) (x : Exit) (e : Env) (w : World) : Prop :=
  match x with
  | .normal => leaveE P g caps rs R .returning e w
  | .ret => leaveE P g caps rs R .returning e w
  | .panic c => leaveE P g caps rs R (.panicking c) e w
  | _ => False
def dA : Code → Code
  | .seq a _ => a
  | _ => .skip
def dId : Code → Nat
  | .seq _ (.seq (.region id _ false) _) => id
  | _ => 0
def dOps : Code → Array Oper
  | .seq _ (.seq (.region _ ops false) _) => ops
  | _ => #[]
def dRest : Code → Code
  | .seq _ (.seq (.region _ _ false) r) => r
  | _ => .skip
def dMk (o : Oper) : FuncId × List Operand :=
  match o.op with
  | .makeFunc (.func g) _ l => (g, l.toList)
  | _ => (0, [])
def dDf (o : Oper) : Call :=
  match o.op with
  | .defer c => c
  | _ => default
def thenD (P : Program) (C : FuncId → Bool) (rest : Code) (t : Nat) (g : FuncId) (caps : List Operand) (rs : List ResultVar) (R : Ending → World → Prop) (x : Exit) (e : Env) (w : World) : Prop :=
  match x with
  | .normal => ev P C rest (e.put t (.func (.func g) #[] (caps.map e.val).toArray)) w (topD P g (caps.map e.val) rs R)
  | .panic ch => R (.panicked ch) w
  | _ => False
theorem leaves_of {P : Program} {fn : Func} {tmps : Array Value} {e : Env} (he : ∀ t, tmps.getD t undef = e t) {rs : List ResultVar} (hrs : fn.results = rs.toArray)
    {R : Ending → World → Prop} {g : FuncId} {gf : Func} (hgf : P.funcs[g]? = some gf) (hgb : gf.body.isNone = false) (hgn : (gf.name == "runtime.NumGoroutine") = false)
    {caps : List Value} {u : FrameMode} (hu : u ≠ .run) {w : World} (h : leaveE P g caps rs R u e w) :
    Leaves P fn tmps R [{ target := .fn (.func g) caps.toArray, args := #[] }] u w := by
  refine leaves_cons (f := g) (args := caps.toArray) hu ?_ ?_
  · simp only [invoke, callFunc, Sem.run_bind, run_program, Result.andThen_ok, Array.empty_append, hgf, hgb, hgn, Bool.false_eq_true, if_false, Sem.run_pure]
  · refine CallsD.mono h fun x u' w' hx => ?_
    cases x with
    | returned v =>
      simp only at hx ⊢
      cases hs : settle u' with
      | returning => rw [hs] at hx; exact results_sound he hrs hx
      | panicking c => rw [hs] at hx; exact hx
      | run => rw [hs] at hx; exact hx.elim
    | panicked c =>
      simp only at hx ⊢
      cases hs : raised u' c with
      | returning => rw [hs] at hx; exact hx.elim
      | panicking c => rw [hs] at hx; exact hx
      | run => rw [hs] at hx; exact hx.elim
    | outgrown => exact hx.elim
theorem agr_args {args : List Value} {nt : Nat} (hlen : args.length ≤ nt) {fn : Func} (hn : fn.ntmps = nt) :
    Agr nt [] (argE args) { tmps := args.toArray ++ Array.replicate (fn.ntmps - args.toArray.size) undef, defers := [] } := by
  refine ⟨by simp [hn]; omega, fun t => ?_, rfl⟩
  simp only [argE]
  by_cases ht : t < args.length
  · simp [ht, Array.getElem?_append_left]
  · simp only [List.getD_eq_getElem?_getD, List.getElem?_eq_none (Nat.le_of_not_lt ht), Option.getD_none]
    rw [Array.getD_eq_getD_getElem?, Array.getElem?_append_right (by simpa using Nat.le_of_not_lt ht)]
    simp only [Array.getElem?_replicate]
    split <;> rfl
theorem calls_of_evD {P : Program} {C : FuncId → Bool} (hC : Bodies P C) (hm : P.follows .mixedOrders = true) {f : FuncId} {fn : Func} {A rest : Code} {id nt t : Nat} {ops : Array Oper} {g : FuncId} {caps : List Operand}
    {rs : List ResultVar} (hf : P.funcs[f]? = some fn) (hb : fn.body = some (.seq A (.seq (.region id ops false) rest))) (hn : fn.ntmps = nt) (hrs : fn.results = rs.toArray)
    (hsize : ops.size = 2) (h1 : (opAt ops 0).op = .makeFunc (.func g) #[] caps.toArray) (h2 : (opAt ops 0).dst = some t) (h3 : (opAt ops 0).guard = none)
    (h4 : (opAt ops 1).op = .defer (dDf (opAt ops 1))) (h5 : (dDf (opAt ops 1)).callee = .value (.tmp t)) (h6 : (dDf (opAt ops 1)).args = #[]) (h7 : (opAt ops 1).dst = none) (h8 : (opAt ops 1).guard = none)
    (hg : C g = true) (hwf : wfC nt A = true) (hwf2 : wfC nt rest = true) (ht : t < nt)
    {args : List Value} (hlen : args.length ≤ nt) {w : World} {R : Ending → World → Prop}
    (h : ev P C A (argE args) w (thenD P C rest t g caps rs R)) : Calls P f args.toArray w R := by
  obtain ⟨gf, hgf, hgb, hgn⟩ := hC _ hg
  refine calls_of_wp_defers hf hb ?_
  refine wp_seq (wp_mono (ev_sound (D := []) hC hm A hwf (argE args) _ w _ (agr_args hlen hn) h) fun x a w1 hq => ?_)
  obtain ⟨e, hag, hq⟩ := hq
  cases x with
  | normal =>
    simp only [thenD] at hq
    refine wp_seq (wp_region ?_)
    have o0 : ops[0]? = some (opAt ops 0) := get_some (by omega)
    have o1 : ops[1]? = some (opAt ops 1) := get_some (by omega)
    have hr : List.range ops.size = [0, 1] := by rw [hsize]; rfl
    have hcaps : (caps.toArray.map a.eval) = (caps.map e.val).toArray := by rw [hag.eval]; apply Array.ext'; simp
    have w0 : Region.wanted (opAt ops 0) (yielded ops a.tmps) = true := by simp [Region.wanted, h3]
    rw [hr]
    simp only [wpOps, o0, o1, w0, if_true]
    refine .inl ?_
    have hex : (execOp a.eval (opAt ops 0)).run P w1 = .ok (.value (.func (.func g) #[] (caps.map e.val).toArray)) w1 := by
      unfold execOp
      simp only [h1]
      rw [run_v]
      simp [Instr.makeFunc, hcaps]
    unfold Oper.wp
    rw [hex, Oper.upon_value]
    have w2 : Region.wanted (opAt ops 1) (yielded ops (a.put (opAt ops 0).dst (.func (.func g) #[] (caps.map e.val).toArray)).tmps) = true := by simp [Region.wanted, h8]
    simp only [w2, if_true]
    refine .inl ?_
    have hag1 : Agr nt [] (e.put t (.func (.func g) #[] (caps.map e.val).toArray)) (a.put (opAt ops 0).dst (.func (.func g) #[] (caps.map e.val).toArray)) := by
      rw [h2]; exact hag.putO (d := some t) (by rintro n ⟨⟩; exact ht) _
    have hev : (a.put (opAt ops 0).dst (.func (.func g) #[] (caps.map e.val).toArray)).eval (.tmp t) = .func (.func g) #[] (caps.map e.val).toArray := by
      rw [hag1.eval]; simp [Env.val, Env.put]
    have hex2 : (execOp (a.put (opAt ops 0).dst (.func (.func g) #[] (caps.map e.val).toArray)).eval (opAt ops 1)).run P w1 =
        .ok (.defer { target := .fn (.func g) (caps.map e.val).toArray, args := #[] }) w1 := by
      unfold execOp
      simp only [h4]
      simp only [Sem.run_bind, resolve, h5, h6, hev, Deferred.ofValue, Sem.run_pure, Result.andThen_ok]
      simp
    rw [hex2, Oper.upon_defer, h7]
    have hag2 : Agr nt [{ target := .fn (.func g) (caps.map e.val).toArray, args := #[] }] (e.put t (.func (.func g) #[] (caps.map e.val).toArray))
        (({ a.put (opAt ops 0).dst (.func (.func g) #[] (caps.map e.val).toArray) with defers := { target := .fn (.func g) (caps.map e.val).toArray, args := #[] } :: (a.put (opAt ops 0).dst (.func (.func g) #[] (caps.map e.val).toArray)).defers } : Act).put none undef) :=
      ⟨hag1.size, hag1.val, by show _ :: _ = _; rw [hag1.defers]⟩
    refine wp_mono (ev_sound hC hm rest hwf2 _ _ w1 _ hag2 hq) fun x a' w' hq => ?_
    obtain ⟨e', hag', hq⟩ := hq
    cases x with
    | normal => show Leaves _ _ _ _ _ _ _; rw [hag'.defers]; exact leaves_of hag'.val hrs hgf hgb hgn (by simp) hq
    | ret => show Leaves _ _ _ _ _ _ _; rw [hag'.defers]; exact leaves_of hag'.val hrs hgf hgb hgn (by simp) hq
    | panic ch => show Leaves _ _ _ _ _ _ _; rw [hag'.defers]; exact leaves_of hag'.val hrs hgf hgb hgn (by simp) hq
    | exit i => exact hq.elim
    | goto l => exact hq.elim
    | outgrown => exact hq.elim
  | panic ch =>
    show Leaves _ _ _ _ _ _ _
    rw [hag.defers]
    exact hq
  | ret => exact hq.elim
  | exit i => exact hq.elim
  | goto l => exact hq.elim
  | outgrown => exact hq.elim
/-! ### A closure that recovers, first of all -/
def isRec (o : Oper) : Bool :=
  match o.guard, o.op with
  | none, .call { callee := .builtin .recover, .. } => true
  | _, _ => false
def rOps : Code → Array Oper
  | .seq (.region _ ops false) _ => ops
  | .region _ ops false => ops
  | _ => #[]
def rRest : Code → Code
  | .seq (.region _ _ false) r => r
  | _ => .skip
def isR : Code → Bool
  | .seq (.region _ _ false) _ => true
  | .region _ _ false => true
  | _ => false
def evR (P : Program) (C : FuncId → Bool) (c : Code) (args : List Value) (u : FrameMode) (w : World) (rs : List ResultVar) (R : Ending → FrameMode → World → Prop) : Prop :=
  evOps P C (rOps c).toList ((rOps c).toList.drop 1) ((argE args).putO (opAt (rOps c) 0).dst (recV u)) w
    (fun e w => ev P C (rRest c) e w (topK P rs fun x w => R x (recM u) w)) (fun ch _ w => R (.panicked ch) (recM u) w)
theorem run_rec {P : Program} {o : Oper} (h : isRec o = true) (ρ : Operand → Value) (w : World) : (execOp ρ o).run P w = .ok .recover w := by
  unfold isRec at h
  unfold execOp
  cases hop : o.op with
  | call c =>
    cases hg : o.guard with
    | some g => simp [hg, hop] at h
    | none =>
      obtain ⟨callee, args, ts⟩ := c
      cases callee with
      | builtin b =>
        cases b <;> simp [hg, hop] at h
        simp [resolve, invoke, builtin]
      | _ => simp [hg, hop] at h
  | _ =>
    cases hg : o.guard <;> simp [hg, hop] at h
theorem wpOpsS_of {P : Program} {ops : Array Oper} {Q : Exit → Act → World → Prop} {cs : List Frame} (hQ : ∀ a w, ¬ Q .outgrown a w) :
    ∀ (l : List Nat) (a : Act) (w : World), wpOps P ops Q l a w → wpOpsS P ops (fun x a cs' w => cs' = cs ∧ Q x a w) l a cs w := by
  intro l
  induction l with
  | nil => intro a w h; exact ⟨rfl, h⟩
  | cons i r ih =>
    intro a w h
    simp only [wpOps] at h
    simp only [wpOpsS]
    cases ho : ops[i]? with
    | none => simp only [ho] at h ⊢; exact ih _ _ h
    | some o =>
      simp only [ho] at h ⊢
      by_cases hw : Region.wanted o (yielded ops a.tmps) = true
      · rw [if_pos hw] at h ⊢
        rcases h with h | ⟨_, a2, w2, hl⟩
        · unfold Oper.wp at h
          generalize (execOp a.eval o).run P w = res at h
          cases res with
          | halt x w' =>
            cases x <;> simp only [Oper.upon] at h ⊢ <;> first
              | exact ⟨trivial, h⟩
              | exact False.elim h
          | ok n w' =>
            cases n <;> simp only [Oper.upon] at h ⊢ <;> first
              | exact ih _ _ h
              | exact h.elim
              | (refine Calls.mono h fun x w'' hx => ?_
                 cases x with
                 | returned v => exact ih _ _ hx
                 | panicked c => first | exact ⟨rfl, hx⟩ | exact ⟨trivial, hx⟩ | exact hx
                 | outgrown => obtain ⟨a3, w3, h3⟩ := hx; exact absurd h3 (hQ _ _))
              | exact Rows.mono h fun v w'' hx => ih _ _ hx
        · exact absurd hl (hQ _ _)
      · rw [if_neg hw] at h ⊢
        exact ih _ _ h
theorem wpS_mono {P : Program} {c : Code} {Q Q' : Exit → Act → List Frame → World → Prop} {a : Act} {cs : List Frame} {w : World} (h : c.wpS P Q a cs w)
    (hq : ∀ x a cs w, Q x a cs w → Q' x a cs w) : c.wpS P Q' a cs w :=
  fun b k hb hr => let ⟨e, a', cs', w', q, r⟩ := h b k hb hr; ⟨e, a', cs', w', hq _ _ _ _ q, r⟩
theorem callsD_of_ev {P : Program} {C : FuncId → Bool} (hC : Bodies P C) (hm : P.follows .mixedOrders = true) {f : FuncId} {fn : Func} {c : Code} {nt : Nat}
    {rs : List ResultVar} (hf : P.funcs[f]? = some fn) (hb : fn.body = some c) (hn : fn.ntmps = nt) (hrs : fn.results = rs.toArray) (hwf : wfC nt c = true)
    (hr : isR c = true) (hrec : isRec (opAt (rOps c) 0) = true) (hsz : Nat.blt 0 (rOps c).size = true)
    {args : List Value} (hlen : args.length ≤ nt) {u : FrameMode} {w : World} {R : Ending → FrameMode → World → Prop}
    (h : evR P C c args u w rs R) : CallsD P f args.toArray u w R := by
  refine callsD_of_wpS hf hb fun c₀ cs hu => ?_
  have hag := agr_args hlen hn
  generalize ha : ({ tmps := args.toArray ++ Array.replicate (fn.ntmps - args.toArray.size) undef, defers := [] } : Act) = a at hag
  have hsz' : 0 < (rOps c).size := by simpa using hsz
  have hdst : ∀ d, (opAt (rOps c) 0).dst = some d → dstsIn nt (rOps c).toList = true → d < nt := fun d hd hall =>
    dstsIn_mem hall (o := opAt (rOps c) 0) (by simp [opAt, hsz']) d hd
  have hpost : ∀ x a' w', lift nt [] (topK P rs fun x w => R x (recM u) w) x a' w' → bodyPostS P fn c₀ cs R x a' ({ c₀ with mode := recM u } :: cs) w' := by
    rintro x a' w' ⟨e', hag', hq⟩
    cases x with
    | normal =>
      obtain ⟨v, h1, h2⟩ := results_sound (R := fun x w => R x (recM u) w) hag'.val hrs (by exact hq)
      exact ⟨hag'.defers, _, rfl, v, h1, h2⟩
    | ret =>
      obtain ⟨v, h1, h2⟩ := results_sound (R := fun x w => R x (recM u) w) hag'.val hrs (by exact hq)
      exact ⟨hag'.defers, _, rfl, v, h1, h2⟩
    | panic ch => exact ⟨hag'.defers, _, rfl, hq⟩
    | exit i => exact hq.elim
    | goto l => exact hq.elim
    | outgrown => exact hq.elim
  have hreg : ∀ (id : Nat), dstsIn nt (rOps c).toList = true →
      (Code.region id (rOps c) false).wpS P (fun x a cs' w => cs' = { c₀ with mode := recM u } :: cs ∧ lift nt [] (fun x e w => match x with
          | .normal => ev P C (rRest c) e w (topK P rs fun x w => R x (recM u) w)
          | .panic ch => R (.panicked ch) (recM u) w
          | _ => False) x a w) a (c₀ :: cs) w := by
    intro id hall
    refine wpS_region ?_
    have hrange : List.range (rOps c).size = 0 :: List.range' 1 ((rOps c).toList.drop 1).length := by
      rw [List.range_eq_range']
      have : (rOps c).size = ((rOps c).toList.drop 1).length + 1 := by simp; omega
      rw [this, List.range'_succ]
    rw [hrange]
    have o0 : (rOps c)[0]? = some (opAt (rOps c) 0) := get_some hsz'
    have hwant : Region.wanted (opAt (rOps c) 0) (yielded (rOps c) a.tmps) = true := by
      have : (opAt (rOps c) 0).guard = none := by
        unfold isRec at hrec
        cases hg : (opAt (rOps c) 0).guard with
        | none => rfl
        | some g => simp [hg] at hrec
      simp [Region.wanted, this]
    simp only [wpOpsS, o0, hwant, if_true, run_rec hrec]
    have hagp : Agr nt [] ((argE args).putO (opAt (rOps c) 0).dst (recV u)) (a.put (opAt (rOps c) 0).dst (recV u)) := hag.putO (fun d hd => hdst d hd hall) _
    have hw := evOps_sound (D := []) (Q := fun x e w => match x with
          | .normal => ev P C (rRest c) e w (topK P rs fun x w => R x (recM u) w)
          | .panic ch => R (.panicked ch) (recM u) w
          | _ => False) hC hall ((rOps c).toList.drop 1) 1 rfl _ _ _ hagp h
    have hw2 := wpOpsS_of (cs := { c₀ with mode := recM u } :: cs) (by rintro a w ⟨e, _, hq⟩; exact hq.elim) _ _ _ hw
    rcases recover_step c₀ cs with hr1 | ⟨hr1, hr2, hr3⟩
    · rw [hr1]
      rw [hu]
      exact hw2
    · rw [hr1]
      simp only
      rw [← hr2, hu]
      rw [hu] at hr3
      rw [hr3] at hw2 ⊢
      exact hw2
  cases c with
  | region id ops draw =>
    cases draw with
    | true => simp [isR] at hr
    | false =>
      refine wpS_mono (hreg id hwf) ?_
      rintro x a' cs' w' ⟨rfl, e', hag', hq⟩
      cases x with
      | normal => exact hpost .normal a' w' ⟨e', hag', by simpa [rRest, ev] using hq⟩
      | panic ch => exact hpost (.panic ch) a' w' ⟨e', hag', hq⟩
      | ret => exact hq.elim
      | exit i => exact hq.elim
      | goto l => exact hq.elim
      | outgrown => exact hq.elim
  | seq A B =>
    cases A with
    | region id ops draw =>
      cases draw with
      | true => simp [isR] at hr
      | false =>
        simp only [wfC, Bool.and_eq_true] at hwf
        refine wpS_seq (wpS_mono (hreg id hwf.1) ?_)
        rintro x a' cs' w' ⟨rfl, e', hag', hq⟩
        cases x with
        | normal => exact wpS_mono (wpS_of_wp (Q := fun x a cs' w => cs' = { c₀ with mode := recM u } :: cs ∧ lift nt [] (topK P rs fun x w => R x (recM u) w) x a w)
            (wp_mono (ev_sound hC hm B hwf.2 _ _ _ _ hag' hq) fun x a w h => ⟨rfl, h⟩)) (by rintro x a cs' w ⟨rfl, h⟩; exact hpost x a w h)
        | panic ch => exact hpost (.panic ch) a' w' ⟨e', hag', hq⟩
        | ret => exact hq.elim
        | exit i => exact hq.elim
        | goto l => exact hq.elim
        | outgrown => exact hq.elim
    | _ => simp [isR] at hr
  | _ => simp [isR] at hr
end Go.Proofs.YtieejbkbdfccdaaGreat
