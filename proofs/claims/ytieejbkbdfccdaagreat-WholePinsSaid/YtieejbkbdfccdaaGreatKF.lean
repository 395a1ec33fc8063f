/- The functions' residual programs, printed by gen.py. -/
import Derived.Test.YtieejbkbdfccdaaGreatBaseD
set_option linter.unusedVariables false
set_option linter.unusedSimpArgs false
namespace Go.Proofs.YtieejbkbdfccdaaGreat
open Go Env
/-! ### moiety/moietyref01.Same -/
def F66 (a0 : Value) (a1 : Value) (w : World) (R : Ending → World → Prop) : Prop :=
callE P 89 #[a0, a1] w (fun v3 w4 =>
bindV (pUn P UnOp.not v3 w4) fun v5 w6 =>
grdE v5 true (fun (k7 : Value → World → Prop) => k7 a1 w6) (fun v8 w9 =>
grdE v5 true (fun (k10 : Value → World → Prop) => k10 a0 w9) (fun v11 w12 =>
grdE v5 true (fun (k13 : Value → World → Prop) => callE P 89 #[v8, v11] w12 k13 (fun c14 w15 => R (.panicked c14) w15)) (fun v16 w17 =>
grdE v5 true (fun (k18 : Value → World → Prop) => bindV (pUn P UnOp.not v16 w17) k18) (fun v19 w20 =>
pickE v5 v19 (Value.bool false) fun v21 =>
R (.returned v21) w20) w17) w12) w9) w6) (fun c1 w2 => R (.panicked c1) w2)
theorem F66ok {w : World} {R : Ending → World → Prop} {a0 : Value} {a1 : Value} (h : F66 a0 a1 w R) : Calls P 66 #[a0, a1] w R :=
  calls_of_ev bodies mixed (c := bodyOf Tryz.f66) (nt := 15) (rs := [(ResultVar.tmp 4)]) (args := [a0, a1]) (fn := Tryz.f66) (by kernel_rfl) (by kernel_rfl) (by kernel_rfl) (by kernel_rfl) (by kernel_rfl) (by simp)
    (eq_mp (show F66 a0 a1 w R = ev P C (bodyOf Tryz.f66) (argE [a0, a1]) w (topK P [(ResultVar.tmp 4)] R) by kernel_rfl) h)
/-! ### moiety/moietyref01.Proper -/
def F76 (a0 : Value) (w : World) (R : Ending → World → Prop) : Prop :=
callE P 96 #[a0] w (fun v3 w4 =>
bindV (pUn P UnOp.not v3 w4) fun v5 w6 =>
grdE v5 false (fun (k7 : Value → World → Prop) => k7 a0 w6) (fun v8 w9 =>
grdE v5 false (fun (k10 : Value → World → Prop) => bindV (pExtern P 91 [v8] w9) k10) (fun v11 w12 =>
grdE v5 false (fun (k13 : Value → World → Prop) => bindV (pBin P BinOp.eql 127 true v11 (Value.int IntKind.u64 9221120237041090561) w12) k13) (fun v14 w15 =>
pickE v5 (Value.bool true) v14 fun v16 =>
R (.returned v16) w15) w12) w9) w6) (fun c1 w2 => R (.panicked c1) w2)
theorem F76ok {w : World} {R : Ending → World → Prop} {a0 : Value} (h : F76 a0 w R) : Calls P 76 #[a0] w R :=
  calls_of_ev bodies mixed (c := bodyOf Tryz.f76) (nt := 11) (rs := [(ResultVar.tmp 2)]) (args := [a0]) (fn := Tryz.f76) (by kernel_rfl) (by kernel_rfl) (by kernel_rfl) (by kernel_rfl) (by kernel_rfl) (by simp)
    (eq_mp (show F76 a0 w R = ev P C (bodyOf Tryz.f76) (argE [a0]) w (topK P [(ResultVar.tmp 2)] R) by kernel_rfl) h)
/-! ### moiety/flo.Same -/
def F90 (a0 : Value) (a1 : Value) (w : World) (R : Ending → World → Prop) : Prop :=
callE P 98 #[a0] w (fun v3 w4 =>
callE P 98 #[a1] w4 (fun v7 w8 =>
bindV (pBin P BinOp.eql 127 false v3 v7 w8) fun v9 w10 =>
R (.returned v9) w10) (fun c5 w6 => R (.panicked c5) w6)) (fun c1 w2 => R (.panicked c1) w2)
theorem F90ok {w : World} {R : Ending → World → Prop} {a0 : Value} {a1 : Value} (h : F90 a0 a1 w R) : Calls P 90 #[a0, a1] w R :=
  calls_of_ev bodies mixed (c := bodyOf Tryz.f90) (nt := 10) (rs := [(ResultVar.tmp 4)]) (args := [a0, a1]) (fn := Tryz.f90) (by kernel_rfl) (by kernel_rfl) (by kernel_rfl) (by kernel_rfl) (by kernel_rfl) (by simp)
    (eq_mp (show F90 a0 a1 w R = ev P C (bodyOf Tryz.f90) (argE [a0, a1]) w (topK P [(ResultVar.tmp 4)] R) by kernel_rfl) h)
/-! ### math.NaN -/
def F103 (w : World) (R : Ending → World → Prop) : Prop :=
bindV (pExtern P 105 [(Value.int IntKind.u64 9221120237041090561)] w) fun v1 w2 =>
R (.returned v1) w2
theorem F103ok {w : World} {R : Ending → World → Prop} (h : F103  w R) : Calls P 103 #[] w R :=
  calls_of_ev bodies mixed (c := bodyOf Tryz.f103) (nt := 2) (rs := [(ResultVar.tmp 0)]) (args := []) (fn := Tryz.f103) (by kernel_rfl) (by kernel_rfl) (by kernel_rfl) (by kernel_rfl) (by kernel_rfl) (by simp)
    (eq_mp (show F103  w R = ev P C (bodyOf Tryz.f103) (argE []) w (topK P [(ResultVar.tmp 0)] R) by kernel_rfl) h)
/-! ### moiety/flo.Proper -/
def F69 (a0 : Value) (w : World) (R : Ending → World → Prop) : Prop :=
bindV (pExtern P 91 [a0] w) fun v1 w2 =>
callE P 92 #[a0] w2 (fun v5 w6 =>
bindV (pExtern P 91 [v5] w6) fun v7 w8 =>
bindV (pBin P BinOp.eql 127 false v1 v7 w8) fun v9 w10 =>
R (.returned v9) w10) (fun c3 w4 => R (.panicked c3) w4)
theorem F69ok {w : World} {R : Ending → World → Prop} {a0 : Value} (h : F69 a0 w R) : Calls P 69 #[a0] w R :=
  calls_of_ev bodies mixed (c := bodyOf Tryz.f69) (nt := 9) (rs := [(ResultVar.tmp 2)]) (args := [a0]) (fn := Tryz.f69) (by kernel_rfl) (by kernel_rfl) (by kernel_rfl) (by kernel_rfl) (by kernel_rfl) (by simp)
    (eq_mp (show F69 a0 w R = ev P C (bodyOf Tryz.f69) (argE [a0]) w (topK P [(ResultVar.tmp 2)] R) by kernel_rfl) h)
/-! ### moiety/moietyref01.Less -/
def F89 (a0 : Value) (a1 : Value) (w : World) (R : Ending → World → Prop) : Prop :=
callE P 96 #[a0] w (fun v3 w4 =>
condE v3 (fun (K5 : KT) =>
K5 .ret (put (put (put (put (argE [a0, a1]) 4 (Value.bool false)) 5 a0) 6 v3) 4 (Value.bool false)) w4) (fun (K5 : KT) =>
K5 .normal (put (put (put (argE [a0, a1]) 4 (Value.bool false)) 5 a0) 6 v3) w4) (thenK (fun e6 w7 =>
callE P 96 #[(e6 1)] w7 (fun v10 w11 =>
condE v10 (fun (K12 : KT) =>
K12 .ret (put (put (put e6 7 (e6 1)) 8 v10) 4 (Value.bool true)) w11) (fun (K12 : KT) =>
K12 .normal (put (put e6 7 (e6 1)) 8 v10) w11) (thenK (fun e13 w14 =>
bindV (pBin P BinOp.eql 58 true (e13 0) (Value.float FloatKind.f64 0) w14) fun v15 w16 =>
grdE v15 true (fun (k17 : Value → World → Prop) => k17 (e13 1) w16) (fun v18 w19 =>
grdE v15 true (fun (k20 : Value → World → Prop) => bindV (pBin P BinOp.eql 58 true v18 (Value.float FloatKind.f64 0) w19) k20) (fun v21 w22 =>
pickE v15 v21 (Value.bool false) fun v23 =>
condE v23 (fun (K24 : KT) =>
callE P 102 #[(e13 0)] w22 (fun v27 w28 =>
grdE v27 true (fun (k29 : Value → World → Prop) => k29 (e13 1) w28) (fun v30 w31 =>
grdE v27 true (fun (k32 : Value → World → Prop) => callE P 102 #[v30] w31 k32 (fun c33 w34 => K24 (.panic c33) (put (put (put (put (put (put (put (put (put (put e13 9 (e13 0)) 10 v15) 11 v15) 12 v18) 13 v21) 14 v23) 15 (e13 0)) 16 v27) 17 v27) 18 v30) w34)) (fun v35 w36 =>
grdE v27 true (fun (k37 : Value → World → Prop) => bindV (pUn P UnOp.not v35 w36) k37) (fun v38 w39 =>
pickE v27 v38 (Value.bool false) fun v40 =>
K24 .ret (put (put (put (put (put (put (put (put (put (put (put (put (put (put e13 9 (e13 0)) 10 v15) 11 v15) 12 v18) 13 v21) 14 v23) 15 (e13 0)) 16 v27) 17 v27) 18 v30) 19 v35) 20 v38) 21 v40) 4 v40) w39) w36) w31) w28) (fun c25 w26 => K24 (.panic c25) (put (put (put (put (put (put (put e13 9 (e13 0)) 10 v15) 11 v15) 12 v18) 13 v21) 14 v23) 15 (e13 0)) w26)) (fun (K24 : KT) =>
K24 .normal (put (put (put (put (put (put e13 9 (e13 0)) 10 v15) 11 v15) 12 v18) 13 v21) 14 v23) w22) (thenK (fun e41 w42 =>
bindV (pBin P BinOp.lss 58 false (e41 0) (e41 1) w42) fun v43 w44 =>
R (.returned v43) w44) (topK P [(ResultVar.tmp 4)] R))) w19) w16) (topK P [(ResultVar.tmp 4)] R))) (fun c8 w9 => R (.panicked c8) w9)) (topK P [(ResultVar.tmp 4)] R))) (fun c1 w2 => R (.panicked c1) w2)
theorem F89ok {w : World} {R : Ending → World → Prop} {a0 : Value} {a1 : Value} (h : F89 a0 a1 w R) : Calls P 89 #[a0, a1] w R :=
  calls_of_ev bodies mixed (c := bodyOf Tryz.f89) (nt := 25) (rs := [(ResultVar.tmp 4)]) (args := [a0, a1]) (fn := Tryz.f89) (by kernel_rfl) (by kernel_rfl) (by kernel_rfl) (by kernel_rfl) (by kernel_rfl) (by simp)
    (eq_mp (show F89 a0 a1 w R = ev P C (bodyOf Tryz.f89) (argE [a0, a1]) w (topK P [(ResultVar.tmp 4)] R) by kernel_rfl) h)
/-! ### moiety/moietyref01.none -/
def F96 (a0 : Value) (w : World) (R : Ending → World → Prop) : Prop :=
bindV (pBin P BinOp.neq 58 false a0 a0 w) fun v1 w2 =>
R (.returned v1) w2
theorem F96ok {w : World} {R : Ending → World → Prop} {a0 : Value} (h : F96 a0 w R) : Calls P 96 #[a0] w R :=
  calls_of_ev bodies mixed (c := bodyOf Tryz.f96) (nt := 6) (rs := [(ResultVar.tmp 2)]) (args := [a0]) (fn := Tryz.f96) (by kernel_rfl) (by kernel_rfl) (by kernel_rfl) (by kernel_rfl) (by kernel_rfl) (by simp)
    (eq_mp (show F96 a0 w R = ev P C (bodyOf Tryz.f96) (argE [a0]) w (topK P [(ResultVar.tmp 2)] R) by kernel_rfl) h)
/-! ### moiety/flo.Key -/
def F98 (a0 : Value) (w : World) (R : Ending → World → Prop) : Prop :=
callE P 92 #[a0] w (fun v3 w4 =>
bindV (pExtern P 91 [v3] w4) fun v5 w6 =>
bindV (pBin P BinOp.and 127 true v5 (Value.int IntKind.u64 9223372036854775808) w6) fun v7 w8 =>
bindV (pBin P BinOp.neq 127 true v7 (Value.int IntKind.u64 0) w8) fun v9 w10 =>
condE v9 (fun (K11 : KT) =>
bindV (pUn P UnOp.xor v5 w10) fun v12 w13 =>
K11 .ret (put (put (put (put (put (put (put (put (put (put (put (argE [a0]) 2 (Value.int IntKind.u64 0)) 4 a0) 5 v3) 6 v5) 3 v5) 7 v5) 8 v7) 9 v9) 10 v5) 11 v12) 2 v12) w13) (fun (K11 : KT) =>
K11 .normal (put (put (put (put (put (put (put (put (argE [a0]) 2 (Value.int IntKind.u64 0)) 4 a0) 5 v3) 6 v5) 3 v5) 7 v5) 8 v7) 9 v9) w10) (thenK (fun e14 w15 =>
bindV (pBin P BinOp.or 127 true (e14 3) (Value.int IntKind.u64 9223372036854775808) w15) fun v16 w17 =>
R (.returned v16) w17) (topK P [(ResultVar.tmp 2)] R))) (fun c1 w2 => R (.panicked c1) w2)
theorem F98ok {w : World} {R : Ending → World → Prop} {a0 : Value} (h : F98 a0 w R) : Calls P 98 #[a0] w R :=
  calls_of_ev bodies mixed (c := bodyOf Tryz.f98) (nt := 14) (rs := [(ResultVar.tmp 2)]) (args := [a0]) (fn := Tryz.f98) (by kernel_rfl) (by kernel_rfl) (by kernel_rfl) (by kernel_rfl) (by kernel_rfl) (by simp)
    (eq_mp (show F98 a0 w R = ev P C (bodyOf Tryz.f98) (argE [a0]) w (topK P [(ResultVar.tmp 2)] R) by kernel_rfl) h)
/-! ### moiety/flo.Less -/
def F104 (a0 : Value) (a1 : Value) (w : World) (R : Ending → World → Prop) : Prop :=
callE P 98 #[a0] w (fun v3 w4 =>
callE P 98 #[a1] w4 (fun v7 w8 =>
bindV (pBin P BinOp.lss 127 false v3 v7 w8) fun v9 w10 =>
R (.returned v9) w10) (fun c5 w6 => R (.panicked c5) w6)) (fun c1 w2 => R (.panicked c1) w2)
theorem F104ok {w : World} {R : Ending → World → Prop} {a0 : Value} {a1 : Value} (h : F104 a0 a1 w R) : Calls P 104 #[a0, a1] w R :=
  calls_of_ev bodies mixed (c := bodyOf Tryz.f104) (nt := 10) (rs := [(ResultVar.tmp 4)]) (args := [a0, a1]) (fn := Tryz.f104) (by kernel_rfl) (by kernel_rfl) (by kernel_rfl) (by kernel_rfl) (by kernel_rfl) (by simp)
    (eq_mp (show F104 a0 a1 w R = ev P C (bodyOf Tryz.f104) (argE [a0, a1]) w (topK P [(ResultVar.tmp 4)] R) by kernel_rfl) h)
/-! ### moiety/flo.Canon -/
def F92 (a0 : Value) (w : World) (R : Ending → World → Prop) : Prop :=
bindV (pBin P BinOp.neq 58 false a0 a0 w) fun v1 w2 =>
condE v1 (fun (K3 : KT) =>
callE P 103 #[] w2 (fun v6 w7 =>
K3 .ret (put (put (put (put (put (put (argE [a0]) 2 (Value.float FloatKind.f64 0)) 3 a0) 4 a0) 5 v1) 6 v6) 2 v6) w7) (fun c4 w5 => K3 (.panic c4) (put (put (put (put (argE [a0]) 2 (Value.float FloatKind.f64 0)) 3 a0) 4 a0) 5 v1) w5)) (fun (K3 : KT) =>
K3 .normal (put (put (put (put (argE [a0]) 2 (Value.float FloatKind.f64 0)) 3 a0) 4 a0) 5 v1) w2) (thenK (fun e8 w9 =>
R (.returned (e8 0)) w9) (topK P [(ResultVar.tmp 2)] R))
theorem F92ok {w : World} {R : Ending → World → Prop} {a0 : Value} (h : F92 a0 w R) : Calls P 92 #[a0] w R :=
  calls_of_ev bodies mixed (c := bodyOf Tryz.f92) (nt := 8) (rs := [(ResultVar.tmp 2)]) (args := [a0]) (fn := Tryz.f92) (by kernel_rfl) (by kernel_rfl) (by kernel_rfl) (by kernel_rfl) (by kernel_rfl) (by simp)
    (eq_mp (show F92 a0 w R = ev P C (bodyOf Tryz.f92) (argE [a0]) w (topK P [(ResultVar.tmp 2)] R) by kernel_rfl) h)
/-! ### moiety/moietyref01.below -/
def F102 (a0 : Value) (w : World) (R : Ending → World → Prop) : Prop :=
bindV (pBin P BinOp.eql 58 true a0 (Value.float FloatKind.f64 0) w) fun v1 w2 =>
condE v1 (fun (K3 : KT) =>
bindV (pBin P BinOp.quo 58 true (Value.float FloatKind.f64 4607182418800017408) a0 w2) fun v4 w5 =>
bindV (pBin P BinOp.lss 58 true v4 (Value.float FloatKind.f64 0) w5) fun v6 w7 =>
K3 .ret (put (put (put (put (put (put (put (argE [a0]) 2 (Value.bool false)) 3 a0) 4 v1) 5 a0) 6 v4) 7 v6) 2 v6) w7) (fun (K3 : KT) =>
K3 .normal (put (put (put (argE [a0]) 2 (Value.bool false)) 3 a0) 4 v1) w2) (thenK (fun e8 w9 =>
bindV (pBin P BinOp.lss 58 true (e8 0) (Value.float FloatKind.f64 0) w9) fun v10 w11 =>
R (.returned v10) w11) (topK P [(ResultVar.tmp 2)] R))
theorem F102ok {w : World} {R : Ending → World → Prop} {a0 : Value} (h : F102 a0 w R) : Calls P 102 #[a0] w R :=
  calls_of_ev bodies mixed (c := bodyOf Tryz.f102) (nt := 10) (rs := [(ResultVar.tmp 2)]) (args := [a0]) (fn := Tryz.f102) (by kernel_rfl) (by kernel_rfl) (by kernel_rfl) (by kernel_rfl) (by kernel_rfl) (by simp)
    (eq_mp (show F102 a0 w R = ev P C (bodyOf Tryz.f102) (argE [a0]) w (topK P [(ResultVar.tmp 2)] R) by kernel_rfl) h)
/-! ### moiety/flo.Back -/
def F101 (a0 : Value) (w : World) (R : Ending → World → Prop) : Prop :=
bindV (pUn P UnOp.xor a0 w) fun v1 w2 =>
bindV (pBin P BinOp.and 127 true a0 (Value.int IntKind.u64 9223372036854775808) w2) fun v3 w4 =>
bindV (pBin P BinOp.neq 127 true v3 (Value.int IntKind.u64 0) w4) fun v5 w6 =>
condE v5 (fun (K7 : KT) =>
bindV (pBin P BinOp.andNot 127 true a0 (Value.int IntKind.u64 9223372036854775808) w6) fun v8 w9 =>
K7 .normal (put (put (put (put (put (put (put (put (put (put (put (argE [a0]) 2 (Value.float FloatKind.f64 0)) 3 (Value.bool false)) 6 a0) 7 v1) 4 v1) 8 a0) 9 v3) 10 v5) 11 a0) 12 v8) 4 v8) w9) (fun (K7 : KT) =>
K7 .normal (put (put (put (put (put (put (put (put (argE [a0]) 2 (Value.float FloatKind.f64 0)) 3 (Value.bool false)) 6 a0) 7 v1) 4 v1) 8 a0) 9 v3) 10 v5) w6) (thenK (fun e10 w11 =>
bindV (pExtern P 105 [(e10 4)] w11) fun v12 w13 =>
callE P 98 #[v12] w13 (fun v16 w17 =>
bindV (pBin P BinOp.neq 127 false v16 (e10 0) w17) fun v18 w19 =>
condE v18 (fun (K20 : KT) =>
K20 .ret (put (put (put (put (put (put (put (put (put e10 13 (e10 4)) 14 v12) 5 v12) 15 v12) 16 v16) 17 (e10 0)) 18 v18) 2 (Value.float FloatKind.f64 0)) 3 (Value.bool false)) w19) (fun (K20 : KT) =>
K20 .normal (put (put (put (put (put (put (put e10 13 (e10 4)) 14 v12) 5 v12) 15 v12) 16 v16) 17 (e10 0)) 18 v18) w19) (thenK (fun e21 w22 =>
R (.returned (.tuple #[(e21 5), (Value.bool true)])) w22) (topK P [(ResultVar.tmp 2), (ResultVar.tmp 3)] R))) (fun c14 w15 => R (.panicked c14) w15)) (topK P [(ResultVar.tmp 2), (ResultVar.tmp 3)] R))
theorem F101ok {w : World} {R : Ending → World → Prop} {a0 : Value} (h : F101 a0 w R) : Calls P 101 #[a0] w R :=
  calls_of_ev bodies mixed (c := bodyOf Tryz.f101) (nt := 20) (rs := [(ResultVar.tmp 2), (ResultVar.tmp 3)]) (args := [a0]) (fn := Tryz.f101) (by kernel_rfl) (by kernel_rfl) (by kernel_rfl) (by kernel_rfl) (by kernel_rfl) (by simp)
    (eq_mp (show F101 a0 w R = ev P C (bodyOf Tryz.f101) (argE [a0]) w (topK P [(ResultVar.tmp 2), (ResultVar.tmp 3)] R) by kernel_rfl) h)
end Go.Proofs.YtieejbkbdfccdaaGreat

set_option linter.unusedVariables false
set_option linter.unusedSimpArgs false
namespace Go.Proofs.YtieejbkbdfccdaaGreat
open Go Env
/-! ### (*moiety/pack.Writer).U -/
def F57B0 (e : Env) (w : World) (K : KT) : Prop :=
bindV (pBin P BinOp.geq 127 true (e 1) (Value.int IntKind.u64 128) w) fun v1 w2 =>
condE v1 (fun (K3 : KT) =>
K3 .normal (put (put e 4 (e 1)) 5 v1) w2) (fun (K3 : KT) =>
K3 (.exit 0) (put (put e 4 (e 1)) 5 v1) w2) (thenK (fun e4 w5 =>
nilE (e4 0) fun v6 =>
bindV (pFieldAddr P 115 v6 0 w5) fun v7 w8 =>
bindV (pLoad P 72 v7 w8) fun v9 w10 =>
bindV (pConv P 127 5 (e4 1) w10) fun v11 w12 =>
bindV (pBin P BinOp.or 5 true v11 (Value.int IntKind.u8 128) w12) fun v13 w14 =>
bindV (pBuildSlice P 72 1 [(0, v13)] w14) fun v15 w16 =>
bindV (pBuiltin P Builtin.append #[72, 72] 72 [v9, v15] w16) fun v17 w18 =>
nilE (e4 0) fun v19 =>
bindV (pFieldAddr P 115 v19 0 w18) fun v20 w21 =>
bindU (pStore P 72 v20 v17 w21) fun w22 =>
bindV (pBin P BinOp.shr 127 true (e4 1) (Value.int IntKind.u64 7) w22) fun v23 w24 =>
K .normal (put (put (put (put (put (put (put (put (put (put (put (put (put (put (put e4 6 (e4 0)) 7 (e4 0)) 8 v6) 9 v7) 10 v9) 11 (e4 1)) 12 v11) 13 v13) 14 v15) 15 v17) 16 v19) 17 v20) 18 (e4 1)) 19 v23) 1 v23) w24) K)
def F57 (a0 : Value) (a1 : Value) (w : World) (R : Ending → World → Prop) : Prop :=
loopE F57B0 (argE [a0, a1]) w (blockK 0 (thenK (fun e25 w26 =>
nilE (e25 0) fun v27 =>
bindV (pFieldAddr P 115 v27 0 w26) fun v28 w29 =>
bindV (pLoad P 72 v28 w29) fun v30 w31 =>
bindV (pConv P 127 5 (e25 1) w31) fun v32 w33 =>
bindV (pBuildSlice P 72 1 [(0, v32)] w33) fun v34 w35 =>
bindV (pBuiltin P Builtin.append #[72, 72] 72 [v30, v34] w35) fun v36 w37 =>
nilE (e25 0) fun v38 =>
bindV (pFieldAddr P 115 v38 0 w37) fun v39 w40 =>
bindU (pStore P 72 v39 v36 w40) fun w41 =>
R (.returned (.tuple #[])) w41) (topK P [] R)))
theorem F57ok {w : World} {R : Ending → World → Prop} {a0 : Value} {a1 : Value} (h : F57 a0 a1 w R) : Calls P 57 #[a0, a1] w R :=
  calls_of_ev bodies mixed (c := bodyOf Tryz.f57) (nt := 31) (rs := []) (args := [a0, a1]) (fn := Tryz.f57) (by kernel_rfl) (by kernel_rfl) (by kernel_rfl) (by kernel_rfl) (by kernel_rfl) (by simp)
    (eq_mp (show F57 a0 a1 w R = ev P C (bodyOf Tryz.f57) (argE [a0, a1]) w (topK P [] R) by kernel_rfl) h)
/-! ### (*moiety/pack.Writer).I -/
def F78 (a0 : Value) (a1 : Value) (w : World) (R : Ending → World → Prop) : Prop :=
bindV (pConv P 2 127 a1 w) fun v1 w2 =>
bindV (pBin P BinOp.shl 127 true v1 (Value.int IntKind.u64 1) w2) fun v3 w4 =>
bindV (pBin P BinOp.shr 2 true a1 (Value.int IntKind.u64 63) w4) fun v5 w6 =>
bindV (pConv P 2 127 v5 w6) fun v7 w8 =>
bindV (pBin P BinOp.xor 127 false v3 v7 w8) fun v9 w10 =>
callE P 57 #[a0, v9] w10 (fun v13 w14 =>
R (.returned (.tuple #[])) w14) (fun c11 w12 => R (.panicked c11) w12)
theorem F78ok {w : World} {R : Ending → World → Prop} {a0 : Value} {a1 : Value} (h : F78 a0 a1 w R) : Calls P 78 #[a0, a1] w R :=
  calls_of_ev bodies mixed (c := bodyOf Tryz.f78) (nt := 13) (rs := []) (args := [a0, a1]) (fn := Tryz.f78) (by kernel_rfl) (by kernel_rfl) (by kernel_rfl) (by kernel_rfl) (by kernel_rfl) (by simp)
    (eq_mp (show F78 a0 a1 w R = ev P C (bodyOf Tryz.f78) (argE [a0, a1]) w (topK P [] R) by kernel_rfl) h)
/-! ### (*moiety/pack.Writer).F -/
def F79B0 (e : Env) (w : World) (K : KT) : Prop :=
bindV (pBin P BinOp.geq 3 true (e 5) (Value.int IntKind.i64 0) w) fun v5 w6 =>
condE v5 (fun (K7 : KT) =>
K7 .normal (put (put e 8 (e 5)) 9 v5) w6) (fun (K7 : KT) =>
K7 (.exit 0) (put (put e 8 (e 5)) 9 v5) w6) (thenK (fun e8 w9 =>
takeE (fun w12 => some ((e8 0), w12)) (drew w9) fun v10 h11 =>
takeE (fun w15 => some ((e8 0), w15)) (drew w9) fun v13 h14 =>
takeE (fun w18 => qNil v13 w18) (drew w9) fun v16 h17 =>
takeE (fun w21 => pFieldAddr P 115 v16 0 w21) (drew w9) fun v19 h20 =>
takeE (fun w24 => pLoad P 72 v19 w24) (drew w9) fun v22 h23 =>
takeE (fun w27 => some ((e8 4), w27)) (drew w9) fun v25 h26 =>
takeE (fun w30 => some ((e8 5), w30)) (drew w9) fun v28 h29 =>
takeE (fun w33 => pBin P BinOp.shr 127 false v25 v28 w33) (drew w9) fun v31 h32 =>
takeE (fun w36 => pConv P 127 5 v31 w36) (drew w9) fun v34 h35 =>
bindV (pBuildSlice P 72 1 [(0, v34)] (drew w9)) fun v38 w39 =>
heldE [h23, h20, h17, h14, h11] w39 (bindV (pBuiltin P Builtin.append #[72, 72] 72 [v22, v38] w39) fun v41 w42 =>
heldE [h11] w42 (takeE (fun w45 => qNil v10 w45) w42 fun v43 h44 =>
takeE (fun w48 => pFieldAddr P 115 v43 0 w48) w42 fun v46 h47 =>
bindU (pStore P 72 v46 v41 w42) fun w50 =>
bindV (pBin P BinOp.sub 3 true (e8 5) (Value.int IntKind.i64 8) w50) fun v51 w52 =>
K .normal (put (put (put (put (put (put (put (put (put (put (put (put (put (put (put (put e8 12 v10) 13 v13) 14 v16) 15 v19) 16 v22) 17 v25) 18 v28) 19 v31) 20 v34) 21 v38) 22 v41) 23 v43) 24 v46) 10 (e8 5)) 11 v51) 5 v51) w52))) K)
def F79 (a0 : Value) (a1 : Value) (w : World) (R : Ending → World → Prop) : Prop :=
callE P 98 #[a1] w (fun v3 w4 =>
loopE F79B0 (put (put (put (put (argE [a0, a1]) 6 a1) 7 v3) 4 v3) 5 (Value.int IntKind.i64 56)) w4 (blockK 0 (topK P [] R))) (fun c1 w2 => R (.panicked c1) w2)
theorem F79ok {w : World} {R : Ending → World → Prop} {a0 : Value} {a1 : Value} (h : F79 a0 a1 w R) : Calls P 79 #[a0, a1] w R :=
  calls_of_ev bodies mixed (c := bodyOf Tryz.f79) (nt := 25) (rs := []) (args := [a0, a1]) (fn := Tryz.f79) (by kernel_rfl) (by kernel_rfl) (by kernel_rfl) (by kernel_rfl) (by kernel_rfl) (by simp)
    (eq_mp (show F79 a0 a1 w R = ev P C (bodyOf Tryz.f79) (argE [a0, a1]) w (topK P [] R) by kernel_rfl) h)
/-! ### (*moiety/pack.Writer).S -/
def F48 (a0 : Value) (a1 : Value) (w : World) (R : Ending → World → Prop) : Prop :=
bindV (pBuiltin P Builtin.len #[9] 3 [a1] w) fun v1 w2 =>
bindV (pConv P 3 127 v1 w2) fun v3 w4 =>
callE P 57 #[a0, v3] w4 (fun v7 w8 =>
nilE a0 fun v9 =>
bindV (pFieldAddr P 115 v9 0 w8) fun v10 w11 =>
bindV (pLoad P 72 v10 w11) fun v12 w13 =>
bindV (pBuiltin P Builtin.append #[72, 9] 72 [v12, a1] w13) fun v14 w15 =>
nilE a0 fun v16 =>
bindV (pFieldAddr P 115 v16 0 w15) fun v17 w18 =>
bindU (pStore P 72 v17 v14 w18) fun w19 =>
R (.returned (.tuple #[])) w19) (fun c5 w6 => R (.panicked c5) w6)
theorem F48ok {w : World} {R : Ending → World → Prop} {a0 : Value} {a1 : Value} (h : F48 a0 a1 w R) : Calls P 48 #[a0, a1] w R :=
  calls_of_ev bodies mixed (c := bodyOf Tryz.f48) (nt := 18) (rs := []) (args := [a0, a1]) (fn := Tryz.f48) (by kernel_rfl) (by kernel_rfl) (by kernel_rfl) (by kernel_rfl) (by kernel_rfl) (by simp)
    (eq_mp (show F48 a0 a1 w R = ev P C (bodyOf Tryz.f48) (argE [a0, a1]) w (topK P [] R) by kernel_rfl) h)
/-! ### (*moiety/pack.Writer).Bytes -/
def F50 (a0 : Value) (w : World) (R : Ending → World → Prop) : Prop :=
nilE a0 fun v1 =>
bindV (pFieldAddr P 115 v1 0 w) fun v2 w3 =>
bindV (pLoad P 72 v2 w3) fun v4 w5 =>
bindV (pBuiltin P Builtin.append #[72, 72] 72 [(Value.slice none 0 0), v4] w5) fun v6 w7 =>
R (.returned v6) w7
theorem F50ok {w : World} {R : Ending → World → Prop} {a0 : Value} (h : F50 a0 w R) : Calls P 50 #[a0] w R :=
  calls_of_ev bodies mixed (c := bodyOf Tryz.f50) (nt := 8) (rs := [(ResultVar.tmp 2)]) (args := [a0]) (fn := Tryz.f50) (by kernel_rfl) (by kernel_rfl) (by kernel_rfl) (by kernel_rfl) (by kernel_rfl) (by simp)
    (eq_mp (show F50 a0 w R = ev P C (bodyOf Tryz.f50) (argE [a0]) w (topK P [(ResultVar.tmp 2)] R) by kernel_rfl) h)
/-! ### moiety/pack.Read -/
def F59B0 (e : Env) (w : World) (K : KT) : Prop :=
bindV (pBin P BinOp.lss 3 false (e 15) (e 14) w) fun v11 w12 =>
condE v11 (fun (K13 : KT) =>
K13 .normal (put e 16 v11) w12) (fun (K13 : KT) =>
K13 (.exit 0) (put e 16 v11) w12) (thenK (fun e14 w15 =>
takeE (fun w18 => pLoad P 129 (e14 6) w18) (drew w15) fun v16 h17 =>
takeE (fun w21 => some ((e14 8), w21)) (drew w15) fun v19 h20 =>
takeE (fun w24 => some ((e14 1), w24)) (drew w15) fun v22 h23 =>
takeE (fun w27 => some ((e14 15), w27)) (drew w15) fun v25 h26 =>
takeE (fun w30 => pIndex P 9 v22 v25 w30) (drew w15) fun v28 h29 =>
takeE (fun w33 => some ((e14 2), w33)) (drew w15) fun v31 h32 =>
callE P 81 #[v19, v28, v31] (drew w15) (fun v37 w38 =>
heldE [h17] w38 (bindV (pBuildSlice P 129 1 [(0, v37)] w38) fun v40 w41 =>
heldE [h17] w41 (bindV (pBuiltin P Builtin.append #[129, 129] 129 [v16, v40] w41) fun v43 w44 =>
bindU (pStore P 129 (e14 6) v43 w44) fun w46 =>
bindV (pBin P BinOp.add 3 true (e14 15) (Value.int IntKind.i64 1) w46) fun v47 w48 =>
K .normal (put (put (put (put (put (put (put (put (put (put (put (put (put e14 17 (e14 15)) 9 (e14 15)) 18 v16) 19 v19) 20 v22) 21 v25) 22 v28) 23 v31) 24 v37) 25 v40) 26 v43) 27 v47) 15 v47) w48))) (fun c35 w36 => ∀ (e34 : Env), agreeOff [18, 19, 20, 21, 22, 23] (put (put (put (put (put (put (put (put e14 17 (e14 15)) 9 (e14 15)) 18 v16) 19 v19) 20 v22) 21 v25) 22 v28) 23 v31) e34 → K (.panic c35) e34 w36)) K)
def F59 (a0 : Value) (a1 : Value) (a2 : Value) (w : World) (R : Ending → World → Prop) : Prop :=
bindV (pAlloc P 129 w) fun v1 w2 =>
bindV (pAlloc P 131 w2) fun v3 w4 =>
callE P 62 #[a0] w4 (fun v7 w8 =>
bindV (pBuiltin P Builtin.len #[9] 3 [a1] w8) fun v9 w10 =>
loopE F59B0 (put (put (put (put (put (put (put (put (put (argE [a0, a1, a2]) 6 v1) 7 v3) 10 (Value.func (.func 80) #[] #[v1, v3])) 11 a0) 12 v7) 8 v7) 13 a1) 14 v9) 15 (Value.int IntKind.i64 0)) w10 (blockK 0 (thenK (fun e49 w50 =>
callE P 65 #[(e49 8)] w50 (fun v53 w54 =>
bindV (pLoad P 129 (e49 6) w54) fun v55 w56 =>
bindV (pBuild P 131 [] w56) fun v57 w58 =>
bindU (pStore P 129 (e49 6) v55 w58) fun w59 =>
bindU (pStore P 131 (e49 7) v57 w59) fun w60 =>
leaveE P 80 [v1, v3] [(ResultVar.cell 6 129), (ResultVar.cell 7 131)] R .returning (put (put (put (put e49 28 (e49 8)) 29 v53) 30 v55) 31 v57) w60) (fun c51 w52 => leaveE P 80 [v1, v3] [(ResultVar.cell 6 129), (ResultVar.cell 7 131)] R (.panicking c51) (put e49 28 (e49 8)) w52)) (topD P 80 [v1, v3] [(ResultVar.cell 6 129), (ResultVar.cell 7 131)] R)))) (fun c5 w6 => leaveE P 80 [v1, v3] [(ResultVar.cell 6 129), (ResultVar.cell 7 131)] R (.panicking c5) (put (put (put (put (argE [a0, a1, a2]) 6 v1) 7 v3) 10 (Value.func (.func 80) #[] #[v1, v3])) 11 a0) w6)
theorem F59ok {w : World} {R : Ending → World → Prop} {a0 : Value} {a1 : Value} {a2 : Value} (h : F59 a0 a1 a2 w R) : Calls P 59 #[a0, a1, a2] w R :=
  calls_of_evD bodies mixed (A := dA (bodyOf Tryz.f59)) (rest := dRest (bodyOf Tryz.f59)) (id := dId (bodyOf Tryz.f59)) (ops := dOps (bodyOf Tryz.f59)) (g := (dMk (opAt (dOps (bodyOf Tryz.f59)) 0)).1) (caps := (dMk (opAt (dOps (bodyOf Tryz.f59)) 0)).2) (t := 10) (nt := 32) (rs := [(ResultVar.cell 6 129), (ResultVar.cell 7 131)]) (args := [a0, a1, a2]) (fn := Tryz.f59)
    (by kernel_rfl) (by kernel_rfl) (by kernel_rfl) (by kernel_rfl) (by kernel_rfl) (by kernel_rfl) (by kernel_rfl) (by kernel_rfl) (by kernel_rfl) (by kernel_rfl) (by kernel_rfl) (by kernel_rfl) (by kernel_rfl) (by kernel_rfl) (by kernel_rfl) (by kernel_rfl) (by decide) (by simp)
    (eq_mp (show F59 a0 a1 a2 w R = ev P C (dA (bodyOf Tryz.f59)) (argE [a0, a1, a2]) w (thenD P C (dRest (bodyOf Tryz.f59)) 10 (dMk (opAt (dOps (bodyOf Tryz.f59)) 0)).1 (dMk (opAt (dOps (bodyOf Tryz.f59)) 0)).2 [(ResultVar.cell 6 129), (ResultVar.cell 7 131)] R) by kernel_rfl) h)
/-! ### moiety/pack.Read$1 -/
def F80 (a0 : Value) (a1 : Value) (u : FrameMode) (w : World) (R : Ending → FrameMode → World → Prop) : Prop :=
callE P 61 #[(recV u)] w (fun v3 w4 =>
bindV (pAlloc P 131 w4) fun v5 w6 =>
bindU (pStore P 131 v5 v3 w6) fun w7 =>
bindV (pFieldAddr P 131 v5 0 w7) fun v8 w9 =>
bindV (pLoad P 26 v8 w9) fun v10 w11 =>
bindV (pBin P BinOp.neq 26 true v10 (Value.int IntKind.i64 0) w11) fun v12 w13 =>
condE v12 (fun (K14 : KT) =>
takeE (fun w17 => pLoad P 131 v5 w17) (drew w13) fun v15 h16 =>
bindU (pStore P 129 a0 (Value.slice none 0 0) (drew w13)) fun w19 =>
heldE [h16] w19 (bindU (pStore P 131 a1 v15 w19) fun w21 =>
K14 .normal (put (put (put (put (put (put (put (argE [a0, a1]) 3 (recV u)) 4 v3) 2 v5) 5 v8) 6 v10) 7 v12) 8 v15) w21)) (fun (K14 : KT) =>
K14 .normal (put (put (put (put (put (put (argE [a0, a1]) 3 (recV u)) 4 v3) 2 v5) 5 v8) 6 v10) 7 v12) w13) (topK P [] (fun x w => R x (recM u) w))) (fun c1 w2 => R (.panicked c1) (recM u) w2)
theorem F80ok {u : FrameMode} {w : World} {R : Ending → FrameMode → World → Prop} {a0 : Value} {a1 : Value} (h : F80 a0 a1 u w R) : CallsD P 80 #[a0, a1] u w R :=
  callsD_of_ev bodies mixed (c := bodyOf Tryz.f80) (nt := 9) (rs := []) (args := [a0, a1]) (fn := Tryz.f80) (by kernel_rfl) (by kernel_rfl) (by kernel_rfl) (by kernel_rfl) (by kernel_rfl) (by kernel_rfl) (by kernel_rfl) (by kernel_rfl) (by simp)
    (eq_mp (show F80 a0 a1 u w R = evR P C (bodyOf Tryz.f80) [a0, a1] u w [] R by kernel_rfl) h)
/-! ### moiety/pack.Caught -/
def F61 (a0 : Value) (w : World) (R : Ending → World → Prop) : Prop :=
bindV (pAlloc P 131 w) fun v1 w2 =>
bindV (pBin P BinOp.eql 20 true a0 Value.nilIface w2) fun v3 w4 =>
condE v3 (fun (K5 : KT) =>
bindV (pBuild P 131 [] w4) fun v6 w7 =>
bindU (pStore P 131 v1 v6 w7) fun w8 =>
K5 .ret (put (put (put (put (argE [a0]) 2 v1) 5 a0) 6 v3) 7 v6) w8) (fun (K5 : KT) =>
K5 .normal (put (put (put (argE [a0]) 2 v1) 5 a0) 6 v3) w4) (thenK (fun e9 w10 =>
bindV (pAssert P (e9 0) 20 131 true w10) fun v11 w12 =>
bindV (pExtract P v11 0 w12) fun v13 w14 =>
bindV (pExtract P v11 1 w14) fun v15 w16 =>
bindV (pAlloc P 131 w16) fun v17 w18 =>
bindU (pStore P 131 v17 v13 w18) fun w19 =>
bindV (pUn P UnOp.not v15 w19) fun v20 w21 =>
condE v20 (fun (K22 : KT) =>
panicE P (e9 0) w21 fun c23 w24 =>
K22 (.panic c23) (put (put (put (put (put (put (put (put (put (put e9 9 (e9 0)) 10 v11) 8 v11) 11 v13) 12 v15) 3 v17) 4 v15) 13 v15) 14 v20) 15 (e9 0)) w24) (fun (K22 : KT) =>
K22 .normal (put (put (put (put (put (put (put (put (put e9 9 (e9 0)) 10 v11) 8 v11) 11 v13) 12 v15) 3 v17) 4 v15) 13 v15) 14 v20) w21) (thenK (fun e25 w26 =>
bindV (pLoad P 131 (e25 3) w26) fun v27 w28 =>
bindU (pStore P 131 (e25 2) v27 w28) fun w29 =>
topK P [(ResultVar.cell 2 131)] R .ret (put e25 16 v27) w29) (topK P [(ResultVar.cell 2 131)] R))) (topK P [(ResultVar.cell 2 131)] R))
theorem F61ok {w : World} {R : Ending → World → Prop} {a0 : Value} (h : F61 a0 w R) : Calls P 61 #[a0] w R :=
  calls_of_ev bodies mixed (c := bodyOf Tryz.f61) (nt := 17) (rs := [(ResultVar.cell 2 131)]) (args := [a0]) (fn := Tryz.f61) (by kernel_rfl) (by kernel_rfl) (by kernel_rfl) (by kernel_rfl) (by kernel_rfl) (by simp)
    (eq_mp (show F61 a0 w R = ev P C (bodyOf Tryz.f61) (argE [a0]) w (topK P [(ResultVar.cell 2 131)] R) by kernel_rfl) h)
/-! ### moiety/pack.New -/
def F62 (a0 : Value) (w : World) (R : Ending → World → Prop) : Prop :=
bindV (pBuild P 159 [(0, a0)] w) fun v1 w2 =>
bindV (pBox P 159 v1 w2) fun v3 w4 =>
R (.returned v3) w4
theorem F62ok {w : World} {R : Ending → World → Prop} {a0 : Value} (h : F62 a0 w R) : Calls P 62 #[a0] w R :=
  calls_of_ev bodies mixed (c := bodyOf Tryz.f62) (nt := 6) (rs := [(ResultVar.tmp 2)]) (args := [a0]) (fn := Tryz.f62) (by kernel_rfl) (by kernel_rfl) (by kernel_rfl) (by kernel_rfl) (by kernel_rfl) (by simp)
    (eq_mp (show F62 a0 w R = ev P C (bodyOf Tryz.f62) (argE [a0]) w (topK P [(ResultVar.tmp 2)] R) by kernel_rfl) h)
/-! ### (*moiety/pack.Reader).part -/
def F81 (a0 : Value) (a1 : Value) (a2 : Value) (w : World) (R : Ending → World → Prop) : Prop :=
bindV (pAlloc P 136 w) fun v1 w2 =>
bindV (pBuild P 136 [(0, a1)] w2) fun v3 w4 =>
bindV (pAlloc P 136 w4) fun v5 w6 =>
bindU (pStore P 136 v5 v3 w6) fun w7 =>
bindV (pBin P BinOp.eql 5 true a1 (Value.int IntKind.u8 117) w7) fun v8 w9 =>
condE v8 (fun (K10 : KT) =>
callE P 82 #[a0] w9 (fun v13 w14 =>
bindV (pFieldAddr P 136 v5 1 w14) fun v15 w16 =>
bindU (pStore P 127 v15 v13 w16) fun w17 =>
K10 .normal (put (put (put (put (put (put (put (put (put (put (argE [a0, a1, a2]) 6 v1) 8 a1) 9 v3) 7 v5) 10 a1) 14 v8) 13 v8) 15 a0) 16 v13) 17 v15) w17) (fun c11 w12 => K10 (.panic c11) (put (put (put (put (put (put (put (put (argE [a0, a1, a2]) 6 v1) 8 a1) 9 v3) 7 v5) 10 a1) 14 v8) 13 v8) 15 a0) w12)) (fun (K10 : KT) =>
bindV (pBin P BinOp.eql 5 true a1 (Value.int IntKind.u8 105) w9) fun v18 w19 =>
condE v18 (fun (K20 : KT) =>
callE P 87 #[a0] w19 (fun v23 w24 =>
bindV (pFieldAddr P 136 v5 2 w24) fun v25 w26 =>
bindU (pStore P 2 v25 v23 w26) fun w27 =>
K20 .normal (put (put (put (put (put (put (put (put (put (put (put (put (argE [a0, a1, a2]) 6 v1) 8 a1) 9 v3) 7 v5) 10 a1) 14 v8) 13 v8) 19 v18) 18 v18) 20 a0) 21 v23) 22 v25) w27) (fun c21 w22 => K20 (.panic c21) (put (put (put (put (put (put (put (put (put (put (argE [a0, a1, a2]) 6 v1) 8 a1) 9 v3) 7 v5) 10 a1) 14 v8) 13 v8) 19 v18) 18 v18) 20 a0) w22)) (fun (K20 : KT) =>
bindV (pBin P BinOp.eql 5 true a1 (Value.int IntKind.u8 102) w19) fun v28 w29 =>
condE v28 (fun (K30 : KT) =>
callE P 88 #[a0] w29 (fun v33 w34 =>
bindV (pFieldAddr P 136 v5 3 w34) fun v35 w36 =>
bindU (pStore P 58 v35 v33 w36) fun w37 =>
K30 .normal (put (put (put (put (put (put (put (put (put (put (put (put (put (put (argE [a0, a1, a2]) 6 v1) 8 a1) 9 v3) 7 v5) 10 a1) 14 v8) 13 v8) 19 v18) 18 v18) 24 v28) 23 v28) 25 a0) 26 v33) 27 v35) w37) (fun c31 w32 => K30 (.panic c31) (put (put (put (put (put (put (put (put (put (put (put (put (argE [a0, a1, a2]) 6 v1) 8 a1) 9 v3) 7 v5) 10 a1) 14 v8) 13 v8) 19 v18) 18 v18) 24 v28) 23 v28) 25 a0) w32)) (fun (K30 : KT) =>
bindV (pBin P BinOp.eql 5 true a1 (Value.int IntKind.u8 115) w29) fun v38 w39 =>
condE v38 (fun (K40 : KT) =>
callE P 63 #[a0, a2] w39 (fun v43 w44 =>
bindV (pFieldAddr P 136 v5 4 w44) fun v45 w46 =>
bindU (pStore P 9 v45 v43 w46) fun w47 =>
K40 .normal (put (put (put (put (put (put (put (put (put (put (put (put (put (put (put (put (put (argE [a0, a1, a2]) 6 v1) 8 a1) 9 v3) 7 v5) 10 a1) 14 v8) 13 v8) 19 v18) 18 v18) 24 v28) 23 v28) 29 v38) 28 v38) 30 a0) 31 a2) 32 v43) 33 v45) w47) (fun c41 w42 => K40 (.panic c41) (put (put (put (put (put (put (put (put (put (put (put (put (put (put (put (argE [a0, a1, a2]) 6 v1) 8 a1) 9 v3) 7 v5) 10 a1) 14 v8) 13 v8) 19 v18) 18 v18) 24 v28) 23 v28) 29 v38) 28 v38) 30 a0) 31 a2) w42)) (fun (K40 : KT) =>
bindV (pBin P BinOp.eql 5 true a1 (Value.int IntKind.u8 98) w39) fun v48 w49 =>
condE v48 (fun (K50 : KT) =>
callE P 99 #[a0] w49 (fun v53 w54 =>
bindV (pFieldAddr P 136 v5 5 w54) fun v55 w56 =>
bindU (pStore P 4 v55 v53 w56) fun w57 =>
K50 .normal (put (put (put (put (put (put (put (put (put (put (put (put (put (put (put (put (put (put (argE [a0, a1, a2]) 6 v1) 8 a1) 9 v3) 7 v5) 10 a1) 14 v8) 13 v8) 19 v18) 18 v18) 24 v28) 23 v28) 29 v38) 28 v38) 35 v48) 34 v48) 36 a0) 37 v53) 38 v55) w57) (fun c51 w52 => K50 (.panic c51) (put (put (put (put (put (put (put (put (put (put (put (put (put (put (put (put (argE [a0, a1, a2]) 6 v1) 8 a1) 9 v3) 7 v5) 10 a1) 14 v8) 13 v8) 19 v18) 18 v18) 24 v28) 23 v28) 29 v38) 28 v38) 35 v48) 34 v48) 36 a0) w52)) (fun (K50 : KT) =>
callE P 83 #[a0, (Value.int IntKind.i64 5)] w49 (fun v60 w61 =>
K50 .normal (put (put (put (put (put (put (put (put (put (put (put (put (put (put (put (put (put (argE [a0, a1, a2]) 6 v1) 8 a1) 9 v3) 7 v5) 10 a1) 14 v8) 13 v8) 19 v18) 18 v18) 24 v28) 23 v28) 29 v38) 28 v38) 35 v48) 34 v48) 11 a0) 12 v60) w61) (fun c58 w59 => K50 (.panic c58) (put (put (put (put (put (put (put (put (put (put (put (put (put (put (put (put (argE [a0, a1, a2]) 6 v1) 8 a1) 9 v3) 7 v5) 10 a1) 14 v8) 13 v8) 19 v18) 18 v18) 24 v28) 23 v28) 29 v38) 28 v38) 35 v48) 34 v48) 11 a0) w59)) K40) K30) K20) K10) (blockK 0 (thenK (fun e62 w63 =>
bindV (pLoad P 136 (e62 7) w63) fun v64 w65 =>
bindU (pStore P 136 (e62 6) v64 w65) fun w66 =>
topK P [(ResultVar.cell 6 136)] R .ret (put e62 39 v64) w66) (topK P [(ResultVar.cell 6 136)] R)))
theorem F81ok {w : World} {R : Ending → World → Prop} {a0 : Value} {a1 : Value} {a2 : Value} (h : F81 a0 a1 a2 w R) : Calls P 81 #[a0, a1, a2] w R :=
  calls_of_ev bodies mixed (c := bodyOf Tryz.f81) (nt := 40) (rs := [(ResultVar.cell 6 136)]) (args := [a0, a1, a2]) (fn := Tryz.f81) (by kernel_rfl) (by kernel_rfl) (by kernel_rfl) (by kernel_rfl) (by kernel_rfl) (by simp)
    (eq_mp (show F81 a0 a1 a2 w R = ev P C (bodyOf Tryz.f81) (argE [a0, a1, a2]) w (topK P [(ResultVar.cell 6 136)] R) by kernel_rfl) h)
/-! ### (*moiety/pack.Reader).End -/
def F65 (a0 : Value) (w : World) (R : Ending → World → Prop) : Prop :=
callE P 84 #[a0] w (fun v3 w4 =>
bindV (pBin P BinOp.gtr 3 true v3 (Value.int IntKind.i64 0) w4) fun v5 w6 =>
condE v5 (fun (K7 : KT) =>
callE P 83 #[a0, (Value.int IntKind.i64 3)] w6 (fun v10 w11 =>
K7 .normal (put (put (put (put (put (argE [a0]) 2 a0) 3 v3) 4 v5) 5 a0) 6 v10) w11) (fun c8 w9 => K7 (.panic c8) (put (put (put (put (argE [a0]) 2 a0) 3 v3) 4 v5) 5 a0) w9)) (fun (K7 : KT) =>
K7 .normal (put (put (put (argE [a0]) 2 a0) 3 v3) 4 v5) w6) (topK P [] R)) (fun c1 w2 => R (.panicked c1) w2)
theorem F65ok {w : World} {R : Ending → World → Prop} {a0 : Value} (h : F65 a0 w R) : Calls P 65 #[a0] w R :=
  calls_of_ev bodies mixed (c := bodyOf Tryz.f65) (nt := 7) (rs := []) (args := [a0]) (fn := Tryz.f65) (by kernel_rfl) (by kernel_rfl) (by kernel_rfl) (by kernel_rfl) (by kernel_rfl) (by simp)
    (eq_mp (show F65 a0 w R = ev P C (bodyOf Tryz.f65) (argE [a0]) w (topK P [] R) by kernel_rfl) h)
/-! ### (*moiety/pack.Reader).U -/
def F82B0 (e : Env) (w : World) (K : KT) : Prop :=
callE P 100 #[(e 0)] w (fun v3 w4 =>
letK (blockK 1 (thenK (fun e6 w7 =>
bindV (pBin P BinOp.add 3 true (e6 4) (Value.int IntKind.i64 7) w7) fun v8 w9 =>
K .normal (put (put (put e6 6 (e6 4)) 7 v8) 4 v8) w9) K)) fun (K5 : KT) =>
bindV (pBin P BinOp.eql 3 true (e 4) (Value.int IntKind.i64 63) w4) fun v10 w11 =>
grdE v10 true (fun (k12 : Value → World → Prop) => k12 v3 w11) (fun v13 w14 =>
grdE v10 true (fun (k15 : Value → World → Prop) => bindV (pBin P BinOp.gtr 5 true v13 (Value.int IntKind.u8 1) w14) k15) (fun v16 w17 =>
pickE v10 v16 (Value.bool false) fun v18 =>
condE v18 (fun (K19 : KT) =>
callE P 83 #[(e 0), (Value.int IntKind.i64 1)] w17 (fun v22 w23 =>
K19 .normal (put (put (put (put (put (put (put (put (put (put (put e 8 (e 0)) 9 v3) 5 v3) 10 (e 4)) 11 v10) 12 v10) 13 v13) 14 v16) 15 v18) 16 (e 0)) 17 v22) w23) (fun c20 w21 => K19 (.panic c20) (put (put (put (put (put (put (put (put (put (put e 8 (e 0)) 9 v3) 5 v3) 10 (e 4)) 11 v10) 12 v10) 13 v13) 14 v16) 15 v18) 16 (e 0)) w21)) (fun (K19 : KT) =>
K19 .normal (put (put (put (put (put (put (put (put (put e 8 (e 0)) 9 v3) 5 v3) 10 (e 4)) 11 v10) 12 v10) 13 v13) 14 v16) 15 v18) w17) (thenK (fun e24 w25 =>
bindV (pBin P BinOp.and 5 true (e24 5) (Value.int IntKind.u8 127) w25) fun v26 w27 =>
bindV (pConv P 5 127 v26 w27) fun v28 w29 =>
bindV (pBin P BinOp.shl 127 false v28 (e24 4) w29) fun v30 w31 =>
bindV (pBin P BinOp.or 127 false (e24 3) v30 w31) fun v32 w33 =>
bindV (pBin P BinOp.geq 5 true (e24 5) (Value.int IntKind.u8 128) w33) fun v34 w35 =>
condE v34 (fun (K36 : KT) =>
K36 (.exit 1) (put (put (put (put (put (put (put (put (put (put e24 18 (e24 3)) 19 (e24 5)) 20 v26) 21 v28) 22 (e24 4)) 23 v30) 24 v32) 3 v32) 25 (e24 5)) 26 v34) w35) (fun (K36 : KT) =>
K36 .normal (put (put (put (put (put (put (put (put (put (put e24 18 (e24 3)) 19 (e24 5)) 20 v26) 21 v28) 22 (e24 4)) 23 v30) 24 v32) 3 v32) 25 (e24 5)) 26 v34) w35) (thenK (fun e37 w38 =>
bindV (pBin P BinOp.eql 5 true (e37 5) (Value.int IntKind.u8 0) w38) fun v39 w40 =>
grdE v39 true (fun (k41 : Value → World → Prop) => k41 (e37 4) w40) (fun v42 w43 =>
grdE v39 true (fun (k44 : Value → World → Prop) => bindV (pBin P BinOp.gtr 3 true v42 (Value.int IntKind.i64 0) w43) k44) (fun v45 w46 =>
pickE v39 v45 (Value.bool false) fun v47 =>
condE v47 (fun (K48 : KT) =>
callE P 83 #[(e37 0), (Value.int IntKind.i64 4)] w46 (fun v51 w52 =>
K48 .normal (put (put (put (put (put (put (put (put e37 27 (e37 5)) 28 v39) 29 v39) 30 v42) 31 v45) 32 v47) 33 (e37 0)) 34 v51) w52) (fun c49 w50 => K48 (.panic c49) (put (put (put (put (put (put (put e37 27 (e37 5)) 28 v39) 29 v39) 30 v42) 31 v45) 32 v47) 33 (e37 0)) w50)) (fun (K48 : KT) =>
K48 .normal (put (put (put (put (put (put e37 27 (e37 5)) 28 v39) 29 v39) 30 v42) 31 v45) 32 v47) w46) (thenK (fun e53 w54 =>
K5 .ret (put (put e53 35 (e53 3)) 2 (e53 3)) w54) K5)) w43) w40) K5)) K5)) w14) w11) (fun c1 w2 => K (.panic c1) (put e 8 (e 0)) w2)
def F82 (a0 : Value) (w : World) (R : Ending → World → Prop) : Prop :=
loopE F82B0 (put (put (put (argE [a0]) 2 (Value.int IntKind.u64 0)) 3 (Value.int IntKind.u64 0)) 4 (Value.int IntKind.i64 0)) w (blockK 0 (topK P [(ResultVar.tmp 2)] R))
theorem F82ok {w : World} {R : Ending → World → Prop} {a0 : Value} (h : F82 a0 w R) : Calls P 82 #[a0] w R :=
  calls_of_ev bodies mixed (c := bodyOf Tryz.f82) (nt := 36) (rs := [(ResultVar.tmp 2)]) (args := [a0]) (fn := Tryz.f82) (by kernel_rfl) (by kernel_rfl) (by kernel_rfl) (by kernel_rfl) (by kernel_rfl) (by simp)
    (eq_mp (show F82 a0 w R = ev P C (bodyOf Tryz.f82) (argE [a0]) w (topK P [(ResultVar.tmp 2)] R) by kernel_rfl) h)
/-! ### (*moiety/pack.Reader).I -/
def F87 (a0 : Value) (w : World) (R : Ending → World → Prop) : Prop :=
callE P 82 #[a0] w (fun v3 w4 =>
bindV (pBin P BinOp.shr 127 true v3 (Value.int IntKind.u64 1) w4) fun v5 w6 =>
bindV (pConv P 127 2 v5 w6) fun v7 w8 =>
bindV (pBin P BinOp.and 127 true v3 (Value.int IntKind.u64 1) w8) fun v9 w10 =>
bindV (pConv P 127 2 v9 w10) fun v11 w12 =>
bindV (pUn P UnOp.neg v11 w12) fun v13 w14 =>
bindV (pBin P BinOp.xor 2 false v7 v13 w14) fun v15 w16 =>
R (.returned v15) w16) (fun c1 w2 => R (.panicked c1) w2)
theorem F87ok {w : World} {R : Ending → World → Prop} {a0 : Value} (h : F87 a0 w R) : Calls P 87 #[a0] w R :=
  calls_of_ev bodies mixed (c := bodyOf Tryz.f87) (nt := 14) (rs := [(ResultVar.tmp 2)]) (args := [a0]) (fn := Tryz.f87) (by kernel_rfl) (by kernel_rfl) (by kernel_rfl) (by kernel_rfl) (by kernel_rfl) (by simp)
    (eq_mp (show F87 a0 w R = ev P C (bodyOf Tryz.f87) (argE [a0]) w (topK P [(ResultVar.tmp 2)] R) by kernel_rfl) h)
/-! ### (*moiety/pack.Reader).F -/
def F88B0 (e : Env) (w : World) (K : KT) : Prop :=
bindV (pBin P BinOp.lss 3 true (e 6) (Value.int IntKind.i64 8) w) fun v1 w2 =>
condE v1 (fun (K3 : KT) =>
K3 .normal (put e 7 v1) w2) (fun (K3 : KT) =>
K3 (.exit 0) (put e 7 v1) w2) (thenK (fun e4 w5 =>
bindV (pBin P BinOp.shl 127 true (e4 3) (Value.int IntKind.u64 8) w5) fun v6 w7 =>
callE P 100 #[(e4 0)] w7 (fun v10 w11 =>
bindV (pConv P 5 127 v10 w11) fun v12 w13 =>
bindV (pBin P BinOp.or 127 false v6 v12 w13) fun v14 w15 =>
bindV (pBin P BinOp.add 3 true (e4 6) (Value.int IntKind.i64 1) w15) fun v16 w17 =>
K .normal (put (put (put (put (put (put (put (put (put e4 8 (e4 3)) 9 v6) 10 (e4 0)) 11 v10) 12 v12) 13 v14) 3 v14) 14 v16) 6 v16) w17) (fun c8 w9 => K (.panic c8) (put (put (put e4 8 (e4 3)) 9 v6) 10 (e4 0)) w9)) K)
def F88 (a0 : Value) (w : World) (R : Ending → World → Prop) : Prop :=
loopE F88B0 (put (put (put (argE [a0]) 2 (Value.float FloatKind.f64 0)) 3 (Value.int IntKind.u64 0)) 6 (Value.int IntKind.i64 0)) w (blockK 0 (thenK (fun e18 w19 =>
callE P 101 #[(e18 3)] w19 (fun v22 w23 =>
bindV (pExtract P v22 0 w23) fun v24 w25 =>
bindV (pExtract P v22 1 w25) fun v26 w27 =>
bindV (pUn P UnOp.not v26 w27) fun v28 w29 =>
condE v28 (fun (K30 : KT) =>
callE P 83 #[(e18 0), (Value.int IntKind.i64 4)] w29 (fun v33 w34 =>
K30 .normal (put (put (put (put (put (put (put (put (put (put (put e18 16 (e18 3)) 17 v22) 15 v22) 18 v24) 19 v26) 4 v24) 5 v26) 20 v26) 21 v28) 22 (e18 0)) 23 v33) w34) (fun c31 w32 => K30 (.panic c31) (put (put (put (put (put (put (put (put (put (put e18 16 (e18 3)) 17 v22) 15 v22) 18 v24) 19 v26) 4 v24) 5 v26) 20 v26) 21 v28) 22 (e18 0)) w32)) (fun (K30 : KT) =>
K30 .normal (put (put (put (put (put (put (put (put (put e18 16 (e18 3)) 17 v22) 15 v22) 18 v24) 19 v26) 4 v24) 5 v26) 20 v26) 21 v28) w29) (thenK (fun e35 w36 =>
R (.returned (e35 4)) w36) (topK P [(ResultVar.tmp 2)] R))) (fun c20 w21 => R (.panicked c20) w21)) (topK P [(ResultVar.tmp 2)] R)))
theorem F88ok {w : World} {R : Ending → World → Prop} {a0 : Value} (h : F88 a0 w R) : Calls P 88 #[a0] w R :=
  calls_of_ev bodies mixed (c := bodyOf Tryz.f88) (nt := 25) (rs := [(ResultVar.tmp 2)]) (args := [a0]) (fn := Tryz.f88) (by kernel_rfl) (by kernel_rfl) (by kernel_rfl) (by kernel_rfl) (by kernel_rfl) (by simp)
    (eq_mp (show F88 a0 w R = ev P C (bodyOf Tryz.f88) (argE [a0]) w (topK P [(ResultVar.tmp 2)] R) by kernel_rfl) h)
/-! ### (*moiety/pack.Reader).S -/
def F63 (a0 : Value) (a1 : Value) (w : World) (R : Ending → World → Prop) : Prop :=
callE P 82 #[a0] w (fun v3 w4 =>
bindV (pBuiltin P Builtin.max #[3, 3] 3 [a1, (Value.int IntKind.i64 0)] w4) fun v5 w6 =>
bindV (pConv P 3 127 v5 w6) fun v7 w8 =>
bindV (pBin P BinOp.gtr 127 false v3 v7 w8) fun v9 w10 =>
condE v9 (fun (K11 : KT) =>
callE P 83 #[a0, (Value.int IntKind.i64 3)] w10 (fun v14 w15 =>
K11 .normal (put (put (put (put (put (put (put (put (put (put (put (put (argE [a0, a1]) 4 (Value.string { data := #[] })) 6 a0) 7 v3) 5 v3) 9 v3) 10 a1) 11 v5) 12 v7) 13 v9) 8 v9) 14 a0) 15 v14) w15) (fun c12 w13 => K11 (.panic c12) (put (put (put (put (put (put (put (put (put (put (put (argE [a0, a1]) 4 (Value.string { data := #[] })) 6 a0) 7 v3) 5 v3) 9 v3) 10 a1) 11 v5) 12 v7) 13 v9) 8 v9) 14 a0) w13)) (fun (K11 : KT) =>
callE P 84 #[a0] w10 (fun v18 w19 =>
bindV (pConv P 3 127 v18 w19) fun v20 w21 =>
bindV (pBin P BinOp.gtr 127 false v3 v20 w21) fun v22 w23 =>
condE v22 (fun (K24 : KT) =>
callE P 83 #[a0, (Value.int IntKind.i64 2)] w23 (fun v27 w28 =>
K24 .normal (put (put (put (put (put (put (put (put (put (put (put (put (put (put (put (put (put (put (argE [a0, a1]) 4 (Value.string { data := #[] })) 6 a0) 7 v3) 5 v3) 9 v3) 10 a1) 11 v5) 12 v7) 13 v9) 8 v9) 17 v3) 18 a0) 19 v18) 20 v20) 21 v22) 16 v22) 22 a0) 23 v27) w28) (fun c25 w26 => K24 (.panic c25) (put (put (put (put (put (put (put (put (put (put (put (put (put (put (put (put (put (argE [a0, a1]) 4 (Value.string { data := #[] })) 6 a0) 7 v3) 5 v3) 9 v3) 10 a1) 11 v5) 12 v7) 13 v9) 8 v9) 17 v3) 18 a0) 19 v18) 20 v20) 21 v22) 16 v22) 22 a0) w26)) (fun (K24 : KT) =>
K24 .normal (put (put (put (put (put (put (put (put (put (put (put (put (put (put (put (put (argE [a0, a1]) 4 (Value.string { data := #[] })) 6 a0) 7 v3) 5 v3) 9 v3) 10 a1) 11 v5) 12 v7) 13 v9) 8 v9) 17 v3) 18 a0) 19 v18) 20 v20) 21 v22) 16 v22) w23) K11) (fun c16 w17 => K11 (.panic c16) (put (put (put (put (put (put (put (put (put (put (put (put (argE [a0, a1]) 4 (Value.string { data := #[] })) 6 a0) 7 v3) 5 v3) 9 v3) 10 a1) 11 v5) 12 v7) 13 v9) 8 v9) 17 v3) 18 a0) w17)) (blockK 0 (thenK (fun e29 w30 =>
nilE (e29 0) fun v31 =>
bindV (pFieldAddr P 159 v31 1 w30) fun v32 w33 =>
bindV (pLoad P 3 v32 w33) fun v34 w35 =>
bindV (pConv P 127 3 (e29 5) w35) fun v36 w37 =>
bindV (pBin P BinOp.add 3 false v34 v36 w37) fun v38 w39 =>
nilE (e29 0) fun v40 =>
bindV (pFieldAddr P 159 v40 1 w39) fun v41 w42 =>
bindU (pStore P 3 v41 v38 w42) fun w43 =>
takeE (fun w46 => some ((e29 0), w46)) (drew w43) fun v44 h45 =>
takeE (fun w49 => qNil v44 w49) (drew w43) fun v47 h48 =>
takeE (fun w52 => pFieldAddr P 159 v47 0 w52) (drew w43) fun v50 h51 =>
takeE (fun w55 => pLoad P 72 v50 w55) (drew w43) fun v53 h54 =>
takeE (fun w58 => some ((e29 0), w58)) (drew w43) fun v56 h57 =>
takeE (fun w61 => qNil v56 w61) (drew w43) fun v59 h60 =>
takeE (fun w64 => pFieldAddr P 159 v59 1 w64) (drew w43) fun v62 h63 =>
takeE (fun w67 => pLoad P 3 v62 w67) (drew w43) fun v65 h66 =>
takeE (fun w70 => some ((e29 5), w70)) (drew w43) fun v68 h69 =>
takeE (fun w73 => pConv P 127 3 v68 w73) (drew w43) fun v71 h72 =>
takeE (fun w76 => pBin P BinOp.sub 3 false v65 v71 w76) (drew w43) fun v74 h75 =>
takeE (fun w79 => some ((e29 0), w79)) (drew w43) fun v77 h78 =>
takeE (fun w82 => qNil v77 w82) (drew w43) fun v80 h81 =>
takeE (fun w85 => pFieldAddr P 159 v80 1 w85) (drew w43) fun v83 h84 =>
takeE (fun w88 => pLoad P 3 v83 w88) (drew w43) fun v86 h87 =>
takeE (fun w91 => pSlice P 72 v53 (some v74) (some v86) none w91) (drew w43) fun v89 h90 =>
takeE (fun w94 => pConv P 72 9 v89 w94) (drew w43) fun v92 h93 =>
R (.returned v92) (drew w43)) (topK P [(ResultVar.tmp 4)] R)))) (fun c1 w2 => R (.panicked c1) w2)
theorem F63ok {w : World} {R : Ending → World → Prop} {a0 : Value} {a1 : Value} (h : F63 a0 a1 w R) : Calls P 63 #[a0, a1] w R :=
  calls_of_ev bodies mixed (c := bodyOf Tryz.f63) (nt := 50) (rs := [(ResultVar.tmp 4)]) (args := [a0, a1]) (fn := Tryz.f63) (by kernel_rfl) (by kernel_rfl) (by kernel_rfl) (by kernel_rfl) (by kernel_rfl) (by simp)
    (eq_mp (show F63 a0 a1 w R = ev P C (bodyOf Tryz.f63) (argE [a0, a1]) w (topK P [(ResultVar.tmp 4)] R) by kernel_rfl) h)
/-! ### (*moiety/pack.Reader).Flag -/
def F99 (a0 : Value) (w : World) (R : Ending → World → Prop) : Prop :=
callE P 100 #[a0] w (fun v3 w4 =>
bindV (pBin P BinOp.gtr 5 true v3 (Value.int IntKind.u8 1) w4) fun v5 w6 =>
condE v5 (fun (K7 : KT) =>
callE P 83 #[a0, (Value.int IntKind.i64 4)] w6 (fun v10 w11 =>
K7 .normal (put (put (put (put (put (put (put (put (argE [a0]) 2 (Value.bool false)) 4 a0) 5 v3) 3 v3) 6 v3) 7 v5) 8 a0) 9 v10) w11) (fun c8 w9 => K7 (.panic c8) (put (put (put (put (put (put (put (argE [a0]) 2 (Value.bool false)) 4 a0) 5 v3) 3 v3) 6 v3) 7 v5) 8 a0) w9)) (fun (K7 : KT) =>
K7 .normal (put (put (put (put (put (put (argE [a0]) 2 (Value.bool false)) 4 a0) 5 v3) 3 v3) 6 v3) 7 v5) w6) (thenK (fun e12 w13 =>
bindV (pBin P BinOp.eql 5 true (e12 3) (Value.int IntKind.u8 1) w13) fun v14 w15 =>
R (.returned v14) w15) (topK P [(ResultVar.tmp 2)] R))) (fun c1 w2 => R (.panicked c1) w2)
theorem F99ok {w : World} {R : Ending → World → Prop} {a0 : Value} (h : F99 a0 w R) : Calls P 99 #[a0] w R :=
  calls_of_ev bodies mixed (c := bodyOf Tryz.f99) (nt := 12) (rs := [(ResultVar.tmp 2)]) (args := [a0]) (fn := Tryz.f99) (by kernel_rfl) (by kernel_rfl) (by kernel_rfl) (by kernel_rfl) (by kernel_rfl) (by simp)
    (eq_mp (show F99 a0 w R = ev P C (bodyOf Tryz.f99) (argE [a0]) w (topK P [(ResultVar.tmp 2)] R) by kernel_rfl) h)
/-! ### (*moiety/pack.Reader).fail -/
def F83 (a0 : Value) (a1 : Value) (w : World) (R : Ending → World → Prop) : Prop :=
nilE a0 fun v1 =>
bindV (pFieldAddr P 159 v1 1 w) fun v2 w3 =>
bindV (pLoad P 3 v2 w3) fun v4 w5 =>
bindV (pBuild P 131 [(0, a1), (1, v4)] w5) fun v6 w7 =>
bindV (pIface P 131 v6 w7) fun v8 w9 =>
panicE P v8 w9 fun c10 w11 =>
R (.panicked c10) w11
theorem F83ok {w : World} {R : Ending → World → Prop} {a0 : Value} {a1 : Value} (h : F83 a0 a1 w R) : Calls P 83 #[a0, a1] w R :=
  calls_of_ev bodies mixed (c := bodyOf Tryz.f83) (nt := 11) (rs := []) (args := [a0, a1]) (fn := Tryz.f83) (by kernel_rfl) (by kernel_rfl) (by kernel_rfl) (by kernel_rfl) (by kernel_rfl) (by simp)
    (eq_mp (show F83 a0 a1 w R = ev P C (bodyOf Tryz.f83) (argE [a0, a1]) w (topK P [] R) by kernel_rfl) h)
/-! ### (*moiety/pack.Reader).Left -/
def F84 (a0 : Value) (w : World) (R : Ending → World → Prop) : Prop :=
takeE (fun w3 => some (a0, w3)) (drew w) fun v1 h2 =>
takeE (fun w6 => qNil v1 w6) (drew w) fun v4 h5 =>
takeE (fun w9 => pFieldAddr P 159 v4 0 w9) (drew w) fun v7 h8 =>
takeE (fun w12 => pLoad P 72 v7 w12) (drew w) fun v10 h11 =>
takeE (fun w15 => pBuiltin P Builtin.len #[72] 3 [v10] w15) (drew w) fun v13 h14 =>
takeE (fun w18 => some (a0, w18)) (drew w) fun v16 h17 =>
takeE (fun w21 => qNil v16 w21) (drew w) fun v19 h20 =>
takeE (fun w24 => pFieldAddr P 159 v19 1 w24) (drew w) fun v22 h23 =>
takeE (fun w27 => pLoad P 3 v22 w27) (drew w) fun v25 h26 =>
takeE (fun w30 => pBin P BinOp.sub 3 false v13 v25 w30) (drew w) fun v28 h29 =>
R (.returned v28) (drew w)
theorem F84ok {w : World} {R : Ending → World → Prop} {a0 : Value} (h : F84 a0 w R) : Calls P 84 #[a0] w R :=
  calls_of_ev bodies mixed (c := bodyOf Tryz.f84) (nt := 13) (rs := [(ResultVar.tmp 2)]) (args := [a0]) (fn := Tryz.f84) (by kernel_rfl) (by kernel_rfl) (by kernel_rfl) (by kernel_rfl) (by kernel_rfl) (by simp)
    (eq_mp (show F84 a0 w R = ev P C (bodyOf Tryz.f84) (argE [a0]) w (topK P [(ResultVar.tmp 2)] R) by kernel_rfl) h)
/-! ### (*moiety/pack.Reader).one -/
def F100 (a0 : Value) (w : World) (R : Ending → World → Prop) : Prop :=
takeE (fun w3 => some (a0, w3)) (drew w) fun v1 h2 =>
takeE (fun w6 => qNil v1 w6) (drew w) fun v4 h5 =>
takeE (fun w9 => pFieldAddr P 159 v4 1 w9) (drew w) fun v7 h8 =>
takeE (fun w12 => pLoad P 3 v7 w12) (drew w) fun v10 h11 =>
takeE (fun w15 => some (a0, w15)) (drew w) fun v13 h14 =>
takeE (fun w18 => qNil v13 w18) (drew w) fun v16 h17 =>
takeE (fun w21 => pFieldAddr P 159 v16 0 w21) (drew w) fun v19 h20 =>
takeE (fun w24 => pLoad P 72 v19 w24) (drew w) fun v22 h23 =>
takeE (fun w27 => pBuiltin P Builtin.len #[72] 3 [v22] w27) (drew w) fun v25 h26 =>
takeE (fun w30 => pBin P BinOp.geq 3 false v10 v25 w30) (drew w) fun v28 h29 =>
condE v28 (fun (K31 : KT) =>
callE P 83 #[a0, (Value.int IntKind.i64 2)] (drew w) (fun v34 w35 =>
K31 .normal (put (put (put (put (put (put (put (put (put (put (put (put (put (argE [a0]) 2 (Value.int IntKind.u8 0)) 3 v1) 4 v4) 5 v7) 6 v10) 7 v13) 8 v16) 9 v19) 10 v22) 11 v25) 12 v28) 13 a0) 14 v34) w35) (fun c32 w33 => K31 (.panic c32) (put (put (put (put (put (put (put (put (put (put (put (put (argE [a0]) 2 (Value.int IntKind.u8 0)) 3 v1) 4 v4) 5 v7) 6 v10) 7 v13) 8 v16) 9 v19) 10 v22) 11 v25) 12 v28) 13 a0) w33)) (fun (K31 : KT) =>
K31 .normal (put (put (put (put (put (put (put (put (put (put (put (argE [a0]) 2 (Value.int IntKind.u8 0)) 3 v1) 4 v4) 5 v7) 6 v10) 7 v13) 8 v16) 9 v19) 10 v22) 11 v25) 12 v28) (drew w)) (thenK (fun e36 w37 =>
nilE (e36 0) fun v38 =>
bindV (pFieldAddr P 159 v38 1 w37) fun v39 w40 =>
bindV (pLoad P 3 v39 w40) fun v41 w42 =>
bindV (pBin P BinOp.add 3 true v41 (Value.int IntKind.i64 1) w42) fun v43 w44 =>
nilE (e36 0) fun v45 =>
bindV (pFieldAddr P 159 v45 1 w44) fun v46 w47 =>
bindU (pStore P 3 v46 v43 w47) fun w48 =>
takeE (fun w51 => some ((e36 0), w51)) (drew w48) fun v49 h50 =>
takeE (fun w54 => qNil v49 w54) (drew w48) fun v52 h53 =>
takeE (fun w57 => pFieldAddr P 159 v52 0 w57) (drew w48) fun v55 h56 =>
takeE (fun w60 => pLoad P 72 v55 w60) (drew w48) fun v58 h59 =>
takeE (fun w63 => some ((e36 0), w63)) (drew w48) fun v61 h62 =>
takeE (fun w66 => qNil v61 w66) (drew w48) fun v64 h65 =>
takeE (fun w69 => pFieldAddr P 159 v64 1 w69) (drew w48) fun v67 h68 =>
takeE (fun w72 => pLoad P 3 v67 w72) (drew w48) fun v70 h71 =>
takeE (fun w75 => pBin P BinOp.sub 3 true v70 (Value.int IntKind.i64 1) w75) (drew w48) fun v73 h74 =>
takeE (fun w78 => pIndexAddr P 72 v58 v73 w78) (drew w48) fun v76 h77 =>
takeE (fun w81 => pLoad P 5 v76 w81) (drew w48) fun v79 h80 =>
R (.returned v79) (drew w48)) (topK P [(ResultVar.tmp 2)] R))
theorem F100ok {w : World} {R : Ending → World → Prop} {a0 : Value} (h : F100 a0 w R) : Calls P 100 #[a0] w R :=
  calls_of_ev bodies mixed (c := bodyOf Tryz.f100) (nt := 33) (rs := [(ResultVar.tmp 2)]) (args := [a0]) (fn := Tryz.f100) (by kernel_rfl) (by kernel_rfl) (by kernel_rfl) (by kernel_rfl) (by kernel_rfl) (by simp)
    (eq_mp (show F100 a0 w R = ev P C (bodyOf Tryz.f100) (argE [a0]) w (topK P [(ResultVar.tmp 2)] R) by kernel_rfl) h)
/-! ### (*moiety/pack.Reader).Upto -/
def F85 (a0 : Value) (a1 : Value) (w : World) (R : Ending → World → Prop) : Prop :=
callE P 82 #[a0] w (fun v3 w4 =>
bindV (pBuiltin P Builtin.max #[3, 3] 3 [a1, (Value.int IntKind.i64 0)] w4) fun v5 w6 =>
bindV (pConv P 3 127 v5 w6) fun v7 w8 =>
bindV (pBin P BinOp.gtr 127 false v3 v7 w8) fun v9 w10 =>
condE v9 (fun (K11 : KT) =>
callE P 83 #[a0, (Value.int IntKind.i64 1)] w10 (fun v14 w15 =>
K11 .normal (put (put (put (put (put (put (put (put (put (put (put (argE [a0, a1]) 4 (Value.int IntKind.i64 0)) 6 a0) 7 v3) 5 v3) 8 v3) 9 a1) 10 v5) 11 v7) 12 v9) 13 a0) 14 v14) w15) (fun c12 w13 => K11 (.panic c12) (put (put (put (put (put (put (put (put (put (put (argE [a0, a1]) 4 (Value.int IntKind.i64 0)) 6 a0) 7 v3) 5 v3) 8 v3) 9 a1) 10 v5) 11 v7) 12 v9) 13 a0) w13)) (fun (K11 : KT) =>
K11 .normal (put (put (put (put (put (put (put (put (put (argE [a0, a1]) 4 (Value.int IntKind.i64 0)) 6 a0) 7 v3) 5 v3) 8 v3) 9 a1) 10 v5) 11 v7) 12 v9) w10) (thenK (fun e16 w17 =>
bindV (pConv P 127 3 (e16 5) w17) fun v18 w19 =>
R (.returned v18) w19) (topK P [(ResultVar.tmp 4)] R))) (fun c1 w2 => R (.panicked c1) w2)
theorem F85ok {w : World} {R : Ending → World → Prop} {a0 : Value} {a1 : Value} (h : F85 a0 a1 w R) : Calls P 85 #[a0, a1] w R :=
  calls_of_ev bodies mixed (c := bodyOf Tryz.f85) (nt := 17) (rs := [(ResultVar.tmp 4)]) (args := [a0, a1]) (fn := Tryz.f85) (by kernel_rfl) (by kernel_rfl) (by kernel_rfl) (by kernel_rfl) (by kernel_rfl) (by simp)
    (eq_mp (show F85 a0 a1 w R = ev P C (bodyOf Tryz.f85) (argE [a0, a1]) w (topK P [(ResultVar.tmp 4)] R) by kernel_rfl) h)
/-! ### (*moiety/pack.Reader).Fail -/
end Go.Proofs.YtieejbkbdfccdaaGreat
