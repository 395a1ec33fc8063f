/- The functions' residual programs, printed by gen.py. -/
import Derived.Test.YtieejbkbdfccdaaDoorBaseD
set_option linter.unusedVariables false
set_option linter.unusedSimpArgs false
namespace Go.Proofs.YtieejbkbdfccdaaDoor
open Go
/-! ### moiety/moietyref01.Same -/
def F29 (a0 : Value) (a1 : Value) (w : World) (R : Ending → World → Prop) : Prop :=
callE P 60 #[a0, a1] w (fun v7n3 w4 =>
bindV (pUn P UnOp.not v7n3 w4) fun v8n5 w6 =>
grdE v8n5 true (fun (k7 : Value → World → Prop) => k7 a1 w6) (fun v10n8 w9 =>
grdE v8n5 true (fun (k10 : Value → World → Prop) => k10 a0 w9) (fun v11n11 w12 =>
grdE v8n5 true (fun (k13 : Value → World → Prop) => callE P 60 #[v10n8, v11n11] w12 k13 (fun c14 w15 => R (.panicked c14) w15)) (fun v12n16 w17 =>
grdE v8n5 true (fun (k18 : Value → World → Prop) => bindV (pUn P UnOp.not v12n16 w17) k18) (fun v13n19 w20 =>
pickE v8n5 v13n19 (Value.bool false) fun v14n21 =>
R (.returned v14n21) w20) w17) w12) w9) w6) (fun c1 w2 => R (.panicked c1) w2)
theorem F29ok {w : World} {R : Ending → World → Prop} {a0 : Value} {a1 : Value} (h : F29 a0 a1 w R) : Calls P 29 #[a0, a1] w R :=
  calls_of_ev bodies mixed (c := bodyOf Tryd.f29) (nt := 15) (rs := [(ResultVar.tmp 4)]) (args := [a0, a1]) (fn := Tryd.f29) (by kernel_rfl) (by kernel_rfl) (by kernel_rfl) (by kernel_rfl) (by kernel_rfl) (by simp)
    (eq_mp (show F29 a0 a1 w R = ev P C (bodyOf Tryd.f29) (argE [a0, a1]) w (topK P [(ResultVar.tmp 4)] R) by kernel_rfl) h)

/-! ### moiety/moietyref01.Proper -/
def F31 (a0 : Value) (w : World) (R : Ending → World → Prop) : Prop :=
callE P 61 #[a0] w (fun v4n3 w4 =>
bindV (pUn P UnOp.not v4n3 w4) fun v5n5 w6 =>
grdE v5n5 false (fun (k7 : Value → World → Prop) => k7 a0 w6) (fun v7n8 w9 =>
grdE v5n5 false (fun (k10 : Value → World → Prop) => bindV (pExtern P 62 [v7n8] w9) k10) (fun v8n11 w12 =>
grdE v5n5 false (fun (k13 : Value → World → Prop) => bindV (pBin P BinOp.eql 58 true v8n11 (Value.int IntKind.u64 9221120237041090561) w12) k13) (fun v9n14 w15 =>
pickE v5n5 (Value.bool true) v9n14 fun v10n16 =>
R (.returned v10n16) w15) w12) w9) w6) (fun c1 w2 => R (.panicked c1) w2)
theorem F31ok {w : World} {R : Ending → World → Prop} {a0 : Value} (h : F31 a0 w R) : Calls P 31 #[a0] w R :=
  calls_of_ev bodies mixed (c := bodyOf Tryd.f31) (nt := 11) (rs := [(ResultVar.tmp 2)]) (args := [a0]) (fn := Tryd.f31) (by kernel_rfl) (by kernel_rfl) (by kernel_rfl) (by kernel_rfl) (by kernel_rfl) (by simp)
    (eq_mp (show F31 a0 w R = ev P C (bodyOf Tryd.f31) (argE [a0]) w (topK P [(ResultVar.tmp 2)] R) by kernel_rfl) h)

/-! ### moiety/flo.Same -/
def F33 (a0 : Value) (a1 : Value) (w : World) (R : Ending → World → Prop) : Prop :=
callE P 66 #[a0] w (fun v6n3 w4 =>
callE P 66 #[a1] w4 (fun v8n7 w8 =>
bindV (pBin P BinOp.eql 58 false v6n3 v8n7 w8) fun v9n9 w10 =>
R (.returned v9n9) w10) (fun c5 w6 => R (.panicked c5) w6)) (fun c1 w2 => R (.panicked c1) w2)
theorem F33ok {w : World} {R : Ending → World → Prop} {a0 : Value} {a1 : Value} (h : F33 a0 a1 w R) : Calls P 33 #[a0, a1] w R :=
  calls_of_ev bodies mixed (c := bodyOf Tryd.f33) (nt := 10) (rs := [(ResultVar.tmp 4)]) (args := [a0, a1]) (fn := Tryd.f33) (by kernel_rfl) (by kernel_rfl) (by kernel_rfl) (by kernel_rfl) (by kernel_rfl) (by simp)
    (eq_mp (show F33 a0 a1 w R = ev P C (bodyOf Tryd.f33) (argE [a0, a1]) w (topK P [(ResultVar.tmp 4)] R) by kernel_rfl) h)

/-! ### math.NaN -/
def F42 (w : World) (R : Ending → World → Prop) : Prop :=
bindV (pExtern P 74 [(Value.int IntKind.u64 9221120237041090561)] w) fun v1n1 w2 =>
R (.returned v1n1) w2
theorem F42ok {w : World} {R : Ending → World → Prop} (h : F42  w R) : Calls P 42 #[] w R :=
  calls_of_ev bodies mixed (c := bodyOf Tryd.f42) (nt := 2) (rs := [(ResultVar.tmp 0)]) (args := []) (fn := Tryd.f42) (by kernel_rfl) (by kernel_rfl) (by kernel_rfl) (by kernel_rfl) (by kernel_rfl) (by simp)
    (eq_mp (show F42  w R = ev P C (bodyOf Tryd.f42) (argE []) w (topK P [(ResultVar.tmp 0)] R) by kernel_rfl) h)

/-! ### moiety/flo.Max -/
def F44 (a0 : Value) (a1 : Value) (w : World) (R : Ending → World → Prop) : Prop :=
callE P 75 #[a0, a1] w (fun v7n3 w4 =>
condE v7n3 (fun (K5 : KT) =>
callE P 76 #[a1] w4 (fun v9n8 w9 =>
K5 .ret (Env.put (Env.put (Env.put (Env.put (Env.put (Env.put (Env.put (argE [a0, a1]) 4 (Value.float FloatKind.f64 0)) 5 a0) 6 a1) 7 v7n3) 8 a1) 9 v9n8) 4 v9n8) w9) (fun c6 w7 => K5 (.panic c6) (Env.put (Env.put (Env.put (Env.put (Env.put (argE [a0, a1]) 4 (Value.float FloatKind.f64 0)) 5 a0) 6 a1) 7 v7n3) 8 a1) w7)) (fun (K5 : KT) =>
K5 .normal (Env.put (Env.put (Env.put (Env.put (argE [a0, a1]) 4 (Value.float FloatKind.f64 0)) 5 a0) 6 a1) 7 v7n3) w4) (thenK (fun e10 w11 =>
callE P 76 #[(e10 0)] w11 (fun v11n14 w15 =>
R (.returned v11n14) w15) (fun c12 w13 => R (.panicked c12) w13)) (topK P [(ResultVar.tmp 4)] R))) (fun c1 w2 => R (.panicked c1) w2)
theorem F44ok {w : World} {R : Ending → World → Prop} {a0 : Value} {a1 : Value} (h : F44 a0 a1 w R) : Calls P 44 #[a0, a1] w R :=
  calls_of_ev bodies mixed (c := bodyOf Tryd.f44) (nt := 12) (rs := [(ResultVar.tmp 4)]) (args := [a0, a1]) (fn := Tryd.f44) (by kernel_rfl) (by kernel_rfl) (by kernel_rfl) (by kernel_rfl) (by kernel_rfl) (by simp)
    (eq_mp (show F44 a0 a1 w R = ev P C (bodyOf Tryd.f44) (argE [a0, a1]) w (topK P [(ResultVar.tmp 4)] R) by kernel_rfl) h)

/-! ### moiety/flo.Min -/
def F45 (a0 : Value) (a1 : Value) (w : World) (R : Ending → World → Prop) : Prop :=
callE P 75 #[a1, a0] w (fun v7n3 w4 =>
condE v7n3 (fun (K5 : KT) =>
callE P 76 #[a1] w4 (fun v9n8 w9 =>
K5 .ret (Env.put (Env.put (Env.put (Env.put (Env.put (Env.put (Env.put (argE [a0, a1]) 4 (Value.float FloatKind.f64 0)) 5 a1) 6 a0) 7 v7n3) 8 a1) 9 v9n8) 4 v9n8) w9) (fun c6 w7 => K5 (.panic c6) (Env.put (Env.put (Env.put (Env.put (Env.put (argE [a0, a1]) 4 (Value.float FloatKind.f64 0)) 5 a1) 6 a0) 7 v7n3) 8 a1) w7)) (fun (K5 : KT) =>
K5 .normal (Env.put (Env.put (Env.put (Env.put (argE [a0, a1]) 4 (Value.float FloatKind.f64 0)) 5 a1) 6 a0) 7 v7n3) w4) (thenK (fun e10 w11 =>
callE P 76 #[(e10 0)] w11 (fun v11n14 w15 =>
R (.returned v11n14) w15) (fun c12 w13 => R (.panicked c12) w13)) (topK P [(ResultVar.tmp 4)] R))) (fun c1 w2 => R (.panicked c1) w2)
theorem F45ok {w : World} {R : Ending → World → Prop} {a0 : Value} {a1 : Value} (h : F45 a0 a1 w R) : Calls P 45 #[a0, a1] w R :=
  calls_of_ev bodies mixed (c := bodyOf Tryd.f45) (nt := 12) (rs := [(ResultVar.tmp 4)]) (args := [a0, a1]) (fn := Tryd.f45) (by kernel_rfl) (by kernel_rfl) (by kernel_rfl) (by kernel_rfl) (by kernel_rfl) (by simp)
    (eq_mp (show F45 a0 a1 w R = ev P C (bodyOf Tryd.f45) (argE [a0, a1]) w (topK P [(ResultVar.tmp 4)] R) by kernel_rfl) h)

/-! ### moiety/flo.Proper -/
def F49 (a0 : Value) (w : World) (R : Ending → World → Prop) : Prop :=
bindV (pExtern P 62 [a0] w) fun v4n1 w2 =>
callE P 76 #[a0] w2 (fun v6n5 w6 =>
bindV (pExtern P 62 [v6n5] w6) fun v7n7 w8 =>
bindV (pBin P BinOp.eql 58 false v4n1 v7n7 w8) fun v8n9 w10 =>
R (.returned v8n9) w10) (fun c3 w4 => R (.panicked c3) w4)
theorem F49ok {w : World} {R : Ending → World → Prop} {a0 : Value} (h : F49 a0 w R) : Calls P 49 #[a0] w R :=
  calls_of_ev bodies mixed (c := bodyOf Tryd.f49) (nt := 9) (rs := [(ResultVar.tmp 2)]) (args := [a0]) (fn := Tryd.f49) (by kernel_rfl) (by kernel_rfl) (by kernel_rfl) (by kernel_rfl) (by kernel_rfl) (by simp)
    (eq_mp (show F49 a0 w R = ev P C (bodyOf Tryd.f49) (argE [a0]) w (topK P [(ResultVar.tmp 2)] R) by kernel_rfl) h)

/-! ### moiety/moietyref01.Less -/
def F60 (a0 : Value) (a1 : Value) (w : World) (R : Ending → World → Prop) : Prop :=
callE P 61 #[a0] w (fun v6n3 w4 =>
condE v6n3 (fun (K5 : KT) =>
K5 .ret (Env.put (Env.put (Env.put (Env.put (argE [a0, a1]) 4 (Value.bool false)) 5 a0) 6 v6n3) 4 (Value.bool false)) w4) (fun (K5 : KT) =>
K5 .normal (Env.put (Env.put (Env.put (argE [a0, a1]) 4 (Value.bool false)) 5 a0) 6 v6n3) w4) (thenK (fun e6 w7 =>
callE P 61 #[(e6 1)] w7 (fun v8n10 w11 =>
condE v8n10 (fun (K12 : KT) =>
K12 .ret (Env.put (Env.put (Env.put e6 7 (e6 1)) 8 v8n10) 4 (Value.bool true)) w11) (fun (K12 : KT) =>
K12 .normal (Env.put (Env.put e6 7 (e6 1)) 8 v8n10) w11) (thenK (fun e13 w14 =>
bindV (pBin P BinOp.eql 22 true (e13 0) (Value.float FloatKind.f64 0) w14) fun v10n15 w16 =>
grdE v10n15 true (fun (k17 : Value → World → Prop) => k17 (e13 1) w16) (fun v12n18 w19 =>
grdE v10n15 true (fun (k20 : Value → World → Prop) => bindV (pBin P BinOp.eql 22 true v12n18 (Value.float FloatKind.f64 0) w19) k20) (fun v13n21 w22 =>
pickE v10n15 v13n21 (Value.bool false) fun v14n23 =>
condE v14n23 (fun (K24 : KT) =>
callE P 78 #[(e13 0)] w22 (fun v16n27 w28 =>
grdE v16n27 true (fun (k29 : Value → World → Prop) => k29 (e13 1) w28) (fun v18n30 w31 =>
grdE v16n27 true (fun (k32 : Value → World → Prop) => callE P 78 #[v18n30] w31 k32 (fun c33 w34 => K24 (.panic c33) (Env.put (Env.put (Env.put (Env.put (Env.put (Env.put (Env.put (Env.put (Env.put (Env.put e13 9 (e13 0)) 10 v10n15) 11 v10n15) 12 v12n18) 13 v13n21) 14 v14n23) 15 (e13 0)) 16 v16n27) 17 v16n27) 18 v18n30) w34)) (fun v19n35 w36 =>
grdE v16n27 true (fun (k37 : Value → World → Prop) => bindV (pUn P UnOp.not v19n35 w36) k37) (fun v20n38 w39 =>
pickE v16n27 v20n38 (Value.bool false) fun v21n40 =>
K24 .ret (Env.put (Env.put (Env.put (Env.put (Env.put (Env.put (Env.put (Env.put (Env.put (Env.put (Env.put (Env.put (Env.put (Env.put e13 9 (e13 0)) 10 v10n15) 11 v10n15) 12 v12n18) 13 v13n21) 14 v14n23) 15 (e13 0)) 16 v16n27) 17 v16n27) 18 v18n30) 19 v19n35) 20 v20n38) 21 v21n40) 4 v21n40) w39) w36) w31) w28) (fun c25 w26 => K24 (.panic c25) (Env.put (Env.put (Env.put (Env.put (Env.put (Env.put (Env.put e13 9 (e13 0)) 10 v10n15) 11 v10n15) 12 v12n18) 13 v13n21) 14 v14n23) 15 (e13 0)) w26)) (fun (K24 : KT) =>
K24 .normal (Env.put (Env.put (Env.put (Env.put (Env.put (Env.put e13 9 (e13 0)) 10 v10n15) 11 v10n15) 12 v12n18) 13 v13n21) 14 v14n23) w22) (thenK (fun e41 w42 =>
bindV (pBin P BinOp.lss 22 false (e41 0) (e41 1) w42) fun v24n43 w44 =>
R (.returned v24n43) w44) (topK P [(ResultVar.tmp 4)] R))) w19) w16) (topK P [(ResultVar.tmp 4)] R))) (fun c8 w9 => R (.panicked c8) w9)) (topK P [(ResultVar.tmp 4)] R))) (fun c1 w2 => R (.panicked c1) w2)
theorem F60ok {w : World} {R : Ending → World → Prop} {a0 : Value} {a1 : Value} (h : F60 a0 a1 w R) : Calls P 60 #[a0, a1] w R :=
  calls_of_ev bodies mixed (c := bodyOf Tryd.f60) (nt := 25) (rs := [(ResultVar.tmp 4)]) (args := [a0, a1]) (fn := Tryd.f60) (by kernel_rfl) (by kernel_rfl) (by kernel_rfl) (by kernel_rfl) (by kernel_rfl) (by simp)
    (eq_mp (show F60 a0 a1 w R = ev P C (bodyOf Tryd.f60) (argE [a0, a1]) w (topK P [(ResultVar.tmp 4)] R) by kernel_rfl) h)

/-! ### moiety/moietyref01.none -/
def F61 (a0 : Value) (w : World) (R : Ending → World → Prop) : Prop :=
bindV (pBin P BinOp.neq 22 false a0 a0 w) fun v5n1 w2 =>
R (.returned v5n1) w2
theorem F61ok {w : World} {R : Ending → World → Prop} {a0 : Value} (h : F61 a0 w R) : Calls P 61 #[a0] w R :=
  calls_of_ev bodies mixed (c := bodyOf Tryd.f61) (nt := 6) (rs := [(ResultVar.tmp 2)]) (args := [a0]) (fn := Tryd.f61) (by kernel_rfl) (by kernel_rfl) (by kernel_rfl) (by kernel_rfl) (by kernel_rfl) (by simp)
    (eq_mp (show F61 a0 w R = ev P C (bodyOf Tryd.f61) (argE [a0]) w (topK P [(ResultVar.tmp 2)] R) by kernel_rfl) h)

/-! ### moiety/flo.Key -/
def F66 (a0 : Value) (w : World) (R : Ending → World → Prop) : Prop :=
callE P 76 #[a0] w (fun v5n3 w4 =>
bindV (pExtern P 62 [v5n3] w4) fun v6n5 w6 =>
bindV (pBin P BinOp.and 58 true v6n5 (Value.int IntKind.u64 9223372036854775808) w6) fun v8n7 w8 =>
bindV (pBin P BinOp.neq 58 true v8n7 (Value.int IntKind.u64 0) w8) fun v9n9 w10 =>
condE v9n9 (fun (K11 : KT) =>
bindV (pUn P UnOp.xor v6n5 w10) fun v11n12 w13 =>
K11 .ret (Env.put (Env.put (Env.put (Env.put (Env.put (Env.put (Env.put (Env.put (Env.put (Env.put (Env.put (argE [a0]) 2 (Value.int IntKind.u64 0)) 4 a0) 5 v5n3) 6 v6n5) 3 v6n5) 7 v6n5) 8 v8n7) 9 v9n9) 10 v6n5) 11 v11n12) 2 v11n12) w13) (fun (K11 : KT) =>
K11 .normal (Env.put (Env.put (Env.put (Env.put (Env.put (Env.put (Env.put (Env.put (argE [a0]) 2 (Value.int IntKind.u64 0)) 4 a0) 5 v5n3) 6 v6n5) 3 v6n5) 7 v6n5) 8 v8n7) 9 v9n9) w10) (thenK (fun e14 w15 =>
bindV (pBin P BinOp.or 58 true (e14 3) (Value.int IntKind.u64 9223372036854775808) w15) fun v13n16 w17 =>
R (.returned v13n16) w17) (topK P [(ResultVar.tmp 2)] R))) (fun c1 w2 => R (.panicked c1) w2)
theorem F66ok {w : World} {R : Ending → World → Prop} {a0 : Value} (h : F66 a0 w R) : Calls P 66 #[a0] w R :=
  calls_of_ev bodies mixed (c := bodyOf Tryd.f66) (nt := 14) (rs := [(ResultVar.tmp 2)]) (args := [a0]) (fn := Tryd.f66) (by kernel_rfl) (by kernel_rfl) (by kernel_rfl) (by kernel_rfl) (by kernel_rfl) (by simp)
    (eq_mp (show F66 a0 w R = ev P C (bodyOf Tryd.f66) (argE [a0]) w (topK P [(ResultVar.tmp 2)] R) by kernel_rfl) h)

/-! ### moiety/flo.Less -/
def F75 (a0 : Value) (a1 : Value) (w : World) (R : Ending → World → Prop) : Prop :=
callE P 66 #[a0] w (fun v6n3 w4 =>
callE P 66 #[a1] w4 (fun v8n7 w8 =>
bindV (pBin P BinOp.lss 58 false v6n3 v8n7 w8) fun v9n9 w10 =>
R (.returned v9n9) w10) (fun c5 w6 => R (.panicked c5) w6)) (fun c1 w2 => R (.panicked c1) w2)
theorem F75ok {w : World} {R : Ending → World → Prop} {a0 : Value} {a1 : Value} (h : F75 a0 a1 w R) : Calls P 75 #[a0, a1] w R :=
  calls_of_ev bodies mixed (c := bodyOf Tryd.f75) (nt := 10) (rs := [(ResultVar.tmp 4)]) (args := [a0, a1]) (fn := Tryd.f75) (by kernel_rfl) (by kernel_rfl) (by kernel_rfl) (by kernel_rfl) (by kernel_rfl) (by simp)
    (eq_mp (show F75 a0 a1 w R = ev P C (bodyOf Tryd.f75) (argE [a0, a1]) w (topK P [(ResultVar.tmp 4)] R) by kernel_rfl) h)

/-! ### moiety/flo.Canon -/
def F76 (a0 : Value) (w : World) (R : Ending → World → Prop) : Prop :=
bindV (pBin P BinOp.neq 22 false a0 a0 w) fun v5n1 w2 =>
condE v5n1 (fun (K3 : KT) =>
callE P 42 #[] w2 (fun v6n6 w7 =>
K3 .ret (Env.put (Env.put (Env.put (Env.put (Env.put (Env.put (argE [a0]) 2 (Value.float FloatKind.f64 0)) 3 a0) 4 a0) 5 v5n1) 6 v6n6) 2 v6n6) w7) (fun c4 w5 => K3 (.panic c4) (Env.put (Env.put (Env.put (Env.put (argE [a0]) 2 (Value.float FloatKind.f64 0)) 3 a0) 4 a0) 5 v5n1) w5)) (fun (K3 : KT) =>
K3 .normal (Env.put (Env.put (Env.put (Env.put (argE [a0]) 2 (Value.float FloatKind.f64 0)) 3 a0) 4 a0) 5 v5n1) w2) (thenK (fun e8 w9 =>
R (.returned (e8 0)) w9) (topK P [(ResultVar.tmp 2)] R))
theorem F76ok {w : World} {R : Ending → World → Prop} {a0 : Value} (h : F76 a0 w R) : Calls P 76 #[a0] w R :=
  calls_of_ev bodies mixed (c := bodyOf Tryd.f76) (nt := 8) (rs := [(ResultVar.tmp 2)]) (args := [a0]) (fn := Tryd.f76) (by kernel_rfl) (by kernel_rfl) (by kernel_rfl) (by kernel_rfl) (by kernel_rfl) (by simp)
    (eq_mp (show F76 a0 w R = ev P C (bodyOf Tryd.f76) (argE [a0]) w (topK P [(ResultVar.tmp 2)] R) by kernel_rfl) h)

/-! ### moiety/moietyref01.below -/
def F78 (a0 : Value) (w : World) (R : Ending → World → Prop) : Prop :=
bindV (pBin P BinOp.eql 22 true a0 (Value.float FloatKind.f64 0) w) fun v4n1 w2 =>
condE v4n1 (fun (K3 : KT) =>
bindV (pBin P BinOp.quo 22 true (Value.float FloatKind.f64 4607182418800017408) a0 w2) fun v6n4 w5 =>
bindV (pBin P BinOp.lss 22 true v6n4 (Value.float FloatKind.f64 0) w5) fun v7n6 w7 =>
K3 .ret (Env.put (Env.put (Env.put (Env.put (Env.put (Env.put (Env.put (argE [a0]) 2 (Value.bool false)) 3 a0) 4 v4n1) 5 a0) 6 v6n4) 7 v7n6) 2 v7n6) w7) (fun (K3 : KT) =>
K3 .normal (Env.put (Env.put (Env.put (argE [a0]) 2 (Value.bool false)) 3 a0) 4 v4n1) w2) (thenK (fun e8 w9 =>
bindV (pBin P BinOp.lss 22 true (e8 0) (Value.float FloatKind.f64 0) w9) fun v9n10 w11 =>
R (.returned v9n10) w11) (topK P [(ResultVar.tmp 2)] R))
theorem F78ok {w : World} {R : Ending → World → Prop} {a0 : Value} (h : F78 a0 w R) : Calls P 78 #[a0] w R :=
  calls_of_ev bodies mixed (c := bodyOf Tryd.f78) (nt := 10) (rs := [(ResultVar.tmp 2)]) (args := [a0]) (fn := Tryd.f78) (by kernel_rfl) (by kernel_rfl) (by kernel_rfl) (by kernel_rfl) (by kernel_rfl) (by simp)
    (eq_mp (show F78 a0 w R = ev P C (bodyOf Tryd.f78) (argE [a0]) w (topK P [(ResultVar.tmp 2)] R) by kernel_rfl) h)

/-! ### moiety/flo.Plus -/
def F89 (a0 : Value) (a1 : Value) (w : World) (R : Ending → World → Prop) : Prop :=
bindV (pBin P BinOp.add 22 false a0 a1 w) fun v7n1 w2 =>
callE P 76 #[v7n1] w2 (fun v8n5 w6 =>
R (.returned v8n5) w6) (fun c3 w4 => R (.panicked c3) w4)
theorem F89ok {w : World} {R : Ending → World → Prop} {a0 : Value} {a1 : Value} (h : F89 a0 a1 w R) : Calls P 89 #[a0, a1] w R :=
  calls_of_ev bodies mixed (c := bodyOf Tryd.f89) (nt := 9) (rs := [(ResultVar.tmp 4)]) (args := [a0, a1]) (fn := Tryd.f89) (by kernel_rfl) (by kernel_rfl) (by kernel_rfl) (by kernel_rfl) (by kernel_rfl) (by simp)
    (eq_mp (show F89 a0 a1 w R = ev P C (bodyOf Tryd.f89) (argE [a0, a1]) w (topK P [(ResultVar.tmp 4)] R) by kernel_rfl) h)

/-! ### moiety/flo.Times -/
def F90 (a0 : Value) (a1 : Value) (w : World) (R : Ending → World → Prop) : Prop :=
bindV (pBin P BinOp.mul 22 false a0 a1 w) fun v7n1 w2 =>
callE P 76 #[v7n1] w2 (fun v8n5 w6 =>
R (.returned v8n5) w6) (fun c3 w4 => R (.panicked c3) w4)
theorem F90ok {w : World} {R : Ending → World → Prop} {a0 : Value} {a1 : Value} (h : F90 a0 a1 w R) : Calls P 90 #[a0, a1] w R :=
  calls_of_ev bodies mixed (c := bodyOf Tryd.f90) (nt := 9) (rs := [(ResultVar.tmp 4)]) (args := [a0, a1]) (fn := Tryd.f90) (by kernel_rfl) (by kernel_rfl) (by kernel_rfl) (by kernel_rfl) (by kernel_rfl) (by simp)
    (eq_mp (show F90 a0 a1 w R = ev P C (bodyOf Tryd.f90) (argE [a0, a1]) w (topK P [(ResultVar.tmp 4)] R) by kernel_rfl) h)

end Go.Proofs.YtieejbkbdfccdaaDoor
