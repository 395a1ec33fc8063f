/- The functions' residual programs, printed by gen.py. -/
import Derived.Test.YtieejbkbdfccdaaBaseD
namespace Go.Proofs.Ytieejbkbdfccdaa
open Go
/-! ### moiety/flo.Max -/
def F5 (a0 : Value) (a1 : Value) (w : World) (R : Ending → World → Prop) : Prop :=
callE P 17 #[a0, a1] w (fun v7n3 w4 =>
condE v7n3 (fun (K5 : KT) =>
callE P 18 #[a1] w4 (fun v9n8 w9 =>
K5 .ret (Env.put (Env.put (Env.put (Env.put (Env.put (Env.put (Env.put (argE [a0, a1]) 4 (Value.float FloatKind.f64 0)) 5 a0) 6 a1) 7 v7n3) 8 a1) 9 v9n8) 4 v9n8) w9) (fun c6 w7 => K5 (.panic c6) (Env.put (Env.put (Env.put (Env.put (Env.put (argE [a0, a1]) 4 (Value.float FloatKind.f64 0)) 5 a0) 6 a1) 7 v7n3) 8 a1) w7)) (fun (K5 : KT) =>
K5 .normal (Env.put (Env.put (Env.put (Env.put (argE [a0, a1]) 4 (Value.float FloatKind.f64 0)) 5 a0) 6 a1) 7 v7n3) w4) (thenK (fun e10 w11 =>
callE P 18 #[(e10 0)] w11 (fun v11n14 w15 =>
R (.returned v11n14) w15) (fun c12 w13 => R (.panicked c12) w13)) (topK P [(ResultVar.tmp 4)] R))) (fun c1 w2 => R (.panicked c1) w2)
theorem F5ok {w : World} {R : Ending → World → Prop} {a0 : Value} {a1 : Value} (h : F5 a0 a1 w R) : Calls P 5 #[a0, a1] w R :=
  calls_of_ev bodies mixed (c := bodyOf Try.f5) (nt := 12) (rs := [(ResultVar.tmp 4)]) (args := [a0, a1]) (fn := Try.f5) (by kernel_rfl) (by kernel_rfl) (by kernel_rfl) (by kernel_rfl) (by kernel_rfl) (by simp)
    (eq_mp (show F5 a0 a1 w R = ev P C (bodyOf Try.f5) (argE [a0, a1]) w (topK P [(ResultVar.tmp 4)] R) by kernel_rfl) h)

/-! ### moiety/flo.Min -/
def F6 (a0 : Value) (a1 : Value) (w : World) (R : Ending → World → Prop) : Prop :=
callE P 17 #[a1, a0] w (fun v7n3 w4 =>
condE v7n3 (fun (K5 : KT) =>
callE P 18 #[a1] w4 (fun v9n8 w9 =>
K5 .ret (Env.put (Env.put (Env.put (Env.put (Env.put (Env.put (Env.put (argE [a0, a1]) 4 (Value.float FloatKind.f64 0)) 5 a1) 6 a0) 7 v7n3) 8 a1) 9 v9n8) 4 v9n8) w9) (fun c6 w7 => K5 (.panic c6) (Env.put (Env.put (Env.put (Env.put (Env.put (argE [a0, a1]) 4 (Value.float FloatKind.f64 0)) 5 a1) 6 a0) 7 v7n3) 8 a1) w7)) (fun (K5 : KT) =>
K5 .normal (Env.put (Env.put (Env.put (Env.put (argE [a0, a1]) 4 (Value.float FloatKind.f64 0)) 5 a1) 6 a0) 7 v7n3) w4) (thenK (fun e10 w11 =>
callE P 18 #[(e10 0)] w11 (fun v11n14 w15 =>
R (.returned v11n14) w15) (fun c12 w13 => R (.panicked c12) w13)) (topK P [(ResultVar.tmp 4)] R))) (fun c1 w2 => R (.panicked c1) w2)
theorem F6ok {w : World} {R : Ending → World → Prop} {a0 : Value} {a1 : Value} (h : F6 a0 a1 w R) : Calls P 6 #[a0, a1] w R :=
  calls_of_ev bodies mixed (c := bodyOf Try.f6) (nt := 12) (rs := [(ResultVar.tmp 4)]) (args := [a0, a1]) (fn := Try.f6) (by kernel_rfl) (by kernel_rfl) (by kernel_rfl) (by kernel_rfl) (by kernel_rfl) (by simp)
    (eq_mp (show F6 a0 a1 w R = ev P C (bodyOf Try.f6) (argE [a0, a1]) w (topK P [(ResultVar.tmp 4)] R) by kernel_rfl) h)

/-! ### moiety/moietyref01.Less -/
def F9 (a0 : Value) (a1 : Value) (w : World) (R : Ending → World → Prop) : Prop :=
callE P 26 #[a0] w (fun v6n3 w4 =>
condE v6n3 (fun (K5 : KT) =>
K5 .ret (Env.put (Env.put (Env.put (Env.put (argE [a0, a1]) 4 (Value.bool false)) 5 a0) 6 v6n3) 4 (Value.bool false)) w4) (fun (K5 : KT) =>
K5 .normal (Env.put (Env.put (Env.put (argE [a0, a1]) 4 (Value.bool false)) 5 a0) 6 v6n3) w4) (thenK (fun e6 w7 =>
callE P 26 #[(e6 1)] w7 (fun v8n10 w11 =>
condE v8n10 (fun (K12 : KT) =>
K12 .ret (Env.put (Env.put (Env.put e6 7 (e6 1)) 8 v8n10) 4 (Value.bool true)) w11) (fun (K12 : KT) =>
K12 .normal (Env.put (Env.put e6 7 (e6 1)) 8 v8n10) w11) (thenK (fun e13 w14 =>
bindV (pBin P BinOp.eql 25 true (e13 0) (Value.float FloatKind.f64 0) w14) fun v10n15 w16 =>
grdE v10n15 true (fun (k17 : Value → World → Prop) => k17 (e13 1) w16) (fun v12n18 w19 =>
grdE v10n15 true (fun (k20 : Value → World → Prop) => bindV (pBin P BinOp.eql 25 true v12n18 (Value.float FloatKind.f64 0) w19) k20) (fun v13n21 w22 =>
pickE v10n15 v13n21 (Value.bool false) fun v14n23 =>
condE v14n23 (fun (K24 : KT) =>
callE P 27 #[(e13 0)] w22 (fun v16n27 w28 =>
grdE v16n27 true (fun (k29 : Value → World → Prop) => k29 (e13 1) w28) (fun v18n30 w31 =>
grdE v16n27 true (fun (k32 : Value → World → Prop) => callE P 27 #[v18n30] w31 k32 (fun c33 w34 => K24 (.panic c33) (Env.put (Env.put (Env.put (Env.put (Env.put (Env.put (Env.put (Env.put (Env.put (Env.put e13 9 (e13 0)) 10 v10n15) 11 v10n15) 12 v12n18) 13 v13n21) 14 v14n23) 15 (e13 0)) 16 v16n27) 17 v16n27) 18 v18n30) w34)) (fun v19n35 w36 =>
grdE v16n27 true (fun (k37 : Value → World → Prop) => bindV (pUn P UnOp.not v19n35 w36) k37) (fun v20n38 w39 =>
pickE v16n27 v20n38 (Value.bool false) fun v21n40 =>
K24 .ret (Env.put (Env.put (Env.put (Env.put (Env.put (Env.put (Env.put (Env.put (Env.put (Env.put (Env.put (Env.put (Env.put (Env.put e13 9 (e13 0)) 10 v10n15) 11 v10n15) 12 v12n18) 13 v13n21) 14 v14n23) 15 (e13 0)) 16 v16n27) 17 v16n27) 18 v18n30) 19 v19n35) 20 v20n38) 21 v21n40) 4 v21n40) w39) w36) w31) w28) (fun c25 w26 => K24 (.panic c25) (Env.put (Env.put (Env.put (Env.put (Env.put (Env.put (Env.put e13 9 (e13 0)) 10 v10n15) 11 v10n15) 12 v12n18) 13 v13n21) 14 v14n23) 15 (e13 0)) w26)) (fun (K24 : KT) =>
K24 .normal (Env.put (Env.put (Env.put (Env.put (Env.put (Env.put e13 9 (e13 0)) 10 v10n15) 11 v10n15) 12 v12n18) 13 v13n21) 14 v14n23) w22) (thenK (fun e41 w42 =>
bindV (pBin P BinOp.lss 25 false (e41 0) (e41 1) w42) fun v24n43 w44 =>
R (.returned v24n43) w44) (topK P [(ResultVar.tmp 4)] R))) w19) w16) (topK P [(ResultVar.tmp 4)] R))) (fun c8 w9 => R (.panicked c8) w9)) (topK P [(ResultVar.tmp 4)] R))) (fun c1 w2 => R (.panicked c1) w2)
theorem F9ok {w : World} {R : Ending → World → Prop} {a0 : Value} {a1 : Value} (h : F9 a0 a1 w R) : Calls P 9 #[a0, a1] w R :=
  calls_of_ev bodies mixed (c := bodyOf Try.f9) (nt := 25) (rs := [(ResultVar.tmp 4)]) (args := [a0, a1]) (fn := Try.f9) (by kernel_rfl) (by kernel_rfl) (by kernel_rfl) (by kernel_rfl) (by kernel_rfl) (by simp)
    (eq_mp (show F9 a0 a1 w R = ev P C (bodyOf Try.f9) (argE [a0, a1]) w (topK P [(ResultVar.tmp 4)] R) by kernel_rfl) h)

/-! ### moiety/flo.Same -/
def F10 (a0 : Value) (a1 : Value) (w : World) (R : Ending → World → Prop) : Prop :=
callE P 28 #[a0] w (fun v6n3 w4 =>
callE P 28 #[a1] w4 (fun v8n7 w8 =>
bindV (pBin P BinOp.eql 26 false v6n3 v8n7 w8) fun v9n9 w10 =>
R (.returned v9n9) w10) (fun c5 w6 => R (.panicked c5) w6)) (fun c1 w2 => R (.panicked c1) w2)
theorem F10ok {w : World} {R : Ending → World → Prop} {a0 : Value} {a1 : Value} (h : F10 a0 a1 w R) : Calls P 10 #[a0, a1] w R :=
  calls_of_ev bodies mixed (c := bodyOf Try.f10) (nt := 10) (rs := [(ResultVar.tmp 4)]) (args := [a0, a1]) (fn := Try.f10) (by kernel_rfl) (by kernel_rfl) (by kernel_rfl) (by kernel_rfl) (by kernel_rfl) (by simp)
    (eq_mp (show F10 a0 a1 w R = ev P C (bodyOf Try.f10) (argE [a0, a1]) w (topK P [(ResultVar.tmp 4)] R) by kernel_rfl) h)

/-! ### moiety/flo.Less -/
def F17 (a0 : Value) (a1 : Value) (w : World) (R : Ending → World → Prop) : Prop :=
callE P 28 #[a0] w (fun v6n3 w4 =>
callE P 28 #[a1] w4 (fun v8n7 w8 =>
bindV (pBin P BinOp.lss 26 false v6n3 v8n7 w8) fun v9n9 w10 =>
R (.returned v9n9) w10) (fun c5 w6 => R (.panicked c5) w6)) (fun c1 w2 => R (.panicked c1) w2)
theorem F17ok {w : World} {R : Ending → World → Prop} {a0 : Value} {a1 : Value} (h : F17 a0 a1 w R) : Calls P 17 #[a0, a1] w R :=
  calls_of_ev bodies mixed (c := bodyOf Try.f17) (nt := 10) (rs := [(ResultVar.tmp 4)]) (args := [a0, a1]) (fn := Try.f17) (by kernel_rfl) (by kernel_rfl) (by kernel_rfl) (by kernel_rfl) (by kernel_rfl) (by simp)
    (eq_mp (show F17 a0 a1 w R = ev P C (bodyOf Try.f17) (argE [a0, a1]) w (topK P [(ResultVar.tmp 4)] R) by kernel_rfl) h)

/-! ### moiety/flo.Canon -/
def F18 (a0 : Value) (w : World) (R : Ending → World → Prop) : Prop :=
bindV (pBin P BinOp.neq 25 false a0 a0 w) fun v5n1 w2 =>
condE v5n1 (fun (K3 : KT) =>
callE P 29 #[] w2 (fun v6n6 w7 =>
K3 .ret (Env.put (Env.put (Env.put (Env.put (Env.put (Env.put (argE [a0]) 2 (Value.float FloatKind.f64 0)) 3 a0) 4 a0) 5 v5n1) 6 v6n6) 2 v6n6) w7) (fun c4 w5 => K3 (.panic c4) (Env.put (Env.put (Env.put (Env.put (argE [a0]) 2 (Value.float FloatKind.f64 0)) 3 a0) 4 a0) 5 v5n1) w5)) (fun (K3 : KT) =>
K3 .normal (Env.put (Env.put (Env.put (Env.put (argE [a0]) 2 (Value.float FloatKind.f64 0)) 3 a0) 4 a0) 5 v5n1) w2) (thenK (fun e8 w9 =>
R (.returned (e8 0)) w9) (topK P [(ResultVar.tmp 2)] R))
theorem F18ok {w : World} {R : Ending → World → Prop} {a0 : Value} (h : F18 a0 w R) : Calls P 18 #[a0] w R :=
  calls_of_ev bodies mixed (c := bodyOf Try.f18) (nt := 8) (rs := [(ResultVar.tmp 2)]) (args := [a0]) (fn := Try.f18) (by kernel_rfl) (by kernel_rfl) (by kernel_rfl) (by kernel_rfl) (by kernel_rfl) (by simp)
    (eq_mp (show F18 a0 w R = ev P C (bodyOf Try.f18) (argE [a0]) w (topK P [(ResultVar.tmp 2)] R) by kernel_rfl) h)

/-! ### moiety/moietyref01.none -/
def F26 (a0 : Value) (w : World) (R : Ending → World → Prop) : Prop :=
bindV (pBin P BinOp.neq 25 false a0 a0 w) fun v5n1 w2 =>
R (.returned v5n1) w2
theorem F26ok {w : World} {R : Ending → World → Prop} {a0 : Value} (h : F26 a0 w R) : Calls P 26 #[a0] w R :=
  calls_of_ev bodies mixed (c := bodyOf Try.f26) (nt := 6) (rs := [(ResultVar.tmp 2)]) (args := [a0]) (fn := Try.f26) (by kernel_rfl) (by kernel_rfl) (by kernel_rfl) (by kernel_rfl) (by kernel_rfl) (by simp)
    (eq_mp (show F26 a0 w R = ev P C (bodyOf Try.f26) (argE [a0]) w (topK P [(ResultVar.tmp 2)] R) by kernel_rfl) h)

/-! ### moiety/moietyref01.below -/
def F27 (a0 : Value) (w : World) (R : Ending → World → Prop) : Prop :=
bindV (pBin P BinOp.eql 25 true a0 (Value.float FloatKind.f64 0) w) fun v4n1 w2 =>
condE v4n1 (fun (K3 : KT) =>
bindV (pBin P BinOp.quo 25 true (Value.float FloatKind.f64 4607182418800017408) a0 w2) fun v6n4 w5 =>
bindV (pBin P BinOp.lss 25 true v6n4 (Value.float FloatKind.f64 0) w5) fun v7n6 w7 =>
K3 .ret (Env.put (Env.put (Env.put (Env.put (Env.put (Env.put (Env.put (argE [a0]) 2 (Value.bool false)) 3 a0) 4 v4n1) 5 a0) 6 v6n4) 7 v7n6) 2 v7n6) w7) (fun (K3 : KT) =>
K3 .normal (Env.put (Env.put (Env.put (argE [a0]) 2 (Value.bool false)) 3 a0) 4 v4n1) w2) (thenK (fun e8 w9 =>
bindV (pBin P BinOp.lss 25 true (e8 0) (Value.float FloatKind.f64 0) w9) fun v9n10 w11 =>
R (.returned v9n10) w11) (topK P [(ResultVar.tmp 2)] R))
theorem F27ok {w : World} {R : Ending → World → Prop} {a0 : Value} (h : F27 a0 w R) : Calls P 27 #[a0] w R :=
  calls_of_ev bodies mixed (c := bodyOf Try.f27) (nt := 10) (rs := [(ResultVar.tmp 2)]) (args := [a0]) (fn := Try.f27) (by kernel_rfl) (by kernel_rfl) (by kernel_rfl) (by kernel_rfl) (by kernel_rfl) (by simp)
    (eq_mp (show F27 a0 w R = ev P C (bodyOf Try.f27) (argE [a0]) w (topK P [(ResultVar.tmp 2)] R) by kernel_rfl) h)

/-! ### moiety/flo.Key -/
def F28 (a0 : Value) (w : World) (R : Ending → World → Prop) : Prop :=
callE P 18 #[a0] w (fun v5n3 w4 =>
bindV (pExtern P 48 [v5n3] w4) fun v6n5 w6 =>
bindV (pBin P BinOp.and 26 true v6n5 (Value.int IntKind.u64 9223372036854775808) w6) fun v8n7 w8 =>
bindV (pBin P BinOp.neq 26 true v8n7 (Value.int IntKind.u64 0) w8) fun v9n9 w10 =>
condE v9n9 (fun (K11 : KT) =>
bindV (pUn P UnOp.xor v6n5 w10) fun v11n12 w13 =>
K11 .ret (Env.put (Env.put (Env.put (Env.put (Env.put (Env.put (Env.put (Env.put (Env.put (Env.put (Env.put (argE [a0]) 2 (Value.int IntKind.u64 0)) 4 a0) 5 v5n3) 6 v6n5) 3 v6n5) 7 v6n5) 8 v8n7) 9 v9n9) 10 v6n5) 11 v11n12) 2 v11n12) w13) (fun (K11 : KT) =>
K11 .normal (Env.put (Env.put (Env.put (Env.put (Env.put (Env.put (Env.put (Env.put (argE [a0]) 2 (Value.int IntKind.u64 0)) 4 a0) 5 v5n3) 6 v6n5) 3 v6n5) 7 v6n5) 8 v8n7) 9 v9n9) w10) (thenK (fun e14 w15 =>
bindV (pBin P BinOp.or 26 true (e14 3) (Value.int IntKind.u64 9223372036854775808) w15) fun v13n16 w17 =>
R (.returned v13n16) w17) (topK P [(ResultVar.tmp 2)] R))) (fun c1 w2 => R (.panicked c1) w2)
theorem F28ok {w : World} {R : Ending → World → Prop} {a0 : Value} (h : F28 a0 w R) : Calls P 28 #[a0] w R :=
  calls_of_ev bodies mixed (c := bodyOf Try.f28) (nt := 14) (rs := [(ResultVar.tmp 2)]) (args := [a0]) (fn := Try.f28) (by kernel_rfl) (by kernel_rfl) (by kernel_rfl) (by kernel_rfl) (by kernel_rfl) (by simp)
    (eq_mp (show F28 a0 w R = ev P C (bodyOf Try.f28) (argE [a0]) w (topK P [(ResultVar.tmp 2)] R) by kernel_rfl) h)

/-! ### math.NaN -/
def F29 (w : World) (R : Ending → World → Prop) : Prop :=
bindV (pExtern P 49 [(Value.int IntKind.u64 9221120237041090561)] w) fun v1n1 w2 =>
R (.returned v1n1) w2
theorem F29ok {w : World} {R : Ending → World → Prop} (h : F29  w R) : Calls P 29 #[] w R :=
  calls_of_ev bodies mixed (c := bodyOf Try.f29) (nt := 2) (rs := [(ResultVar.tmp 0)]) (args := []) (fn := Try.f29) (by kernel_rfl) (by kernel_rfl) (by kernel_rfl) (by kernel_rfl) (by kernel_rfl) (by simp)
    (eq_mp (show F29  w R = ev P C (bodyOf Try.f29) (argE []) w (topK P [(ResultVar.tmp 0)] R) by kernel_rfl) h)

/-! ### moiety/flo.Back -/
def F57 (a0 : Value) (w : World) (R : Ending → World → Prop) : Prop :=
bindV (pUn P UnOp.xor a0 w) fun v7n1 w2 =>
bindV (pBin P BinOp.and 26 true a0 (Value.int IntKind.u64 9223372036854775808) w2) fun v9n3 w4 =>
bindV (pBin P BinOp.neq 26 true v9n3 (Value.int IntKind.u64 0) w4) fun v10n5 w6 =>
condE v10n5 (fun (K7 : KT) =>
bindV (pBin P BinOp.andNot 26 true a0 (Value.int IntKind.u64 9223372036854775808) w6) fun v12n8 w9 =>
K7 .normal (Env.put (Env.put (Env.put (Env.put (Env.put (Env.put (Env.put (Env.put (Env.put (Env.put (Env.put (argE [a0]) 2 (Value.float FloatKind.f64 0)) 3 (Value.bool false)) 6 a0) 7 v7n1) 4 v7n1) 8 a0) 9 v9n3) 10 v10n5) 11 a0) 12 v12n8) 4 v12n8) w9) (fun (K7 : KT) =>
K7 .normal (Env.put (Env.put (Env.put (Env.put (Env.put (Env.put (Env.put (Env.put (argE [a0]) 2 (Value.float FloatKind.f64 0)) 3 (Value.bool false)) 6 a0) 7 v7n1) 4 v7n1) 8 a0) 9 v9n3) 10 v10n5) w6) (thenK (fun e10 w11 =>
bindV (pExtern P 49 [(e10 4)] w11) fun v14n12 w13 =>
callE P 28 #[v14n12] w13 (fun v16n16 w17 =>
bindV (pBin P BinOp.neq 26 false v16n16 (e10 0) w17) fun v18n18 w19 =>
condE v18n18 (fun (K20 : KT) =>
K20 .ret (Env.put (Env.put (Env.put (Env.put (Env.put (Env.put (Env.put (Env.put (Env.put e10 13 (e10 4)) 14 v14n12) 5 v14n12) 15 v14n12) 16 v16n16) 17 (e10 0)) 18 v18n18) 2 (Value.float FloatKind.f64 0)) 3 (Value.bool false)) w19) (fun (K20 : KT) =>
K20 .normal (Env.put (Env.put (Env.put (Env.put (Env.put (Env.put (Env.put e10 13 (e10 4)) 14 v14n12) 5 v14n12) 15 v14n12) 16 v16n16) 17 (e10 0)) 18 v18n18) w19) (thenK (fun e21 w22 =>
R (.returned (.tuple #[(e21 5), (Value.bool true)])) w22) (topK P [(ResultVar.tmp 2), (ResultVar.tmp 3)] R))) (fun c14 w15 => R (.panicked c14) w15)) (topK P [(ResultVar.tmp 2), (ResultVar.tmp 3)] R))
theorem F57ok {w : World} {R : Ending → World → Prop} {a0 : Value} (h : F57 a0 w R) : Calls P 57 #[a0] w R :=
  calls_of_ev bodies mixed (c := bodyOf Try.f57) (nt := 20) (rs := [(ResultVar.tmp 2), (ResultVar.tmp 3)]) (args := [a0]) (fn := Try.f57) (by kernel_rfl) (by kernel_rfl) (by kernel_rfl) (by kernel_rfl) (by kernel_rfl) (by simp)
    (eq_mp (show F57 a0 w R = ev P C (bodyOf Try.f57) (argE [a0]) w (topK P [(ResultVar.tmp 2), (ResultVar.tmp 3)] R) by kernel_rfl) h)

end Go.Proofs.Ytieejbkbdfccdaa
