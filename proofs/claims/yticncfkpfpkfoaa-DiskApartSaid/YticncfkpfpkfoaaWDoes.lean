/- The functions' residual programs, printed by gen.py. -/
import Derived.Test.YticncfkpfpkfoaaBase
namespace Go.Proofs.Yticncfkpfpkfoaa
open Go
/-! ### moiety/moietylaw17.DiskDoes -/
def F7B0 (e : Env) (w : World) (K : KT) : Prop :=
bindV (pBin P BinOp.lss 3 false (e 49) (e 48) w) fun v50n81 w82 =>
condE v50n81 (fun (K83 : KT) =>
K83 .normal (Env.put e 50 v50n81) w82) (fun (K83 : KT) =>
K83 (.exit 0) (Env.put e 50 v50n81) w82) (thenK (fun e84 w85 =>
bindV (pIndexAddr P 42 (e84 47) (e84 49) w85) fun v51n86 w87 =>
bindV (pLoad P 46 v51n86 w87) fun v52n88 w89 =>
bindV (pAlloc P 46 w89) fun v9n90 w91 =>
bindU (pStore P 46 v9n90 v52n88 w91) fun w92 =>
bindV (pLoad P 46 v9n90 w92) fun v55n93 w94 =>
callE P 38 #[(e84 5), (e84 7), v55n93] w94 (fun v56n97 w98 =>
bindV (pUn P UnOp.not v56n97 w98) fun v57n99 w100 =>
grdE v57n99 false (fun (k101 : Value → World → Prop) => k101 (e84 5) w100) (fun v59n102 w103 =>
grdE v57n99 false (fun (k104 : Value → World → Prop) => k104 (e84 7) w103) (fun v60n105 w106 =>
grdE v57n99 false (fun (k107 : Value → World → Prop) => callE P 39 #[v59n102, v60n105] w106 k107 (fun c108 w109 => K (.panic c108) (Env.put (Env.put (Env.put (Env.put (Env.put (Env.put (Env.put (Env.put (Env.put (Env.put (Env.put e84 51 v51n86) 52 v52n88) 9 v9n90) 53 (e84 5)) 54 (e84 7)) 55 v55n93) 56 v56n97) 57 v57n99) 58 v57n99) 59 v59n102) 60 v60n105) w109)) (fun v61n110 w111 =>
grdE v57n99 false (fun (k112 : Value → World → Prop) => bindV (pUn P UnOp.not v61n110 w111) k112) (fun v62n113 w114 =>
pickE v57n99 (Value.bool true) v62n113 fun v63n115 =>
condE v63n115 (fun (K116 : KT) =>
K116 .ret (Env.put (Env.put (Env.put (Env.put (Env.put (Env.put (Env.put (Env.put (Env.put (Env.put (Env.put (Env.put (Env.put (Env.put (Env.put e84 51 v51n86) 52 v52n88) 9 v9n90) 53 (e84 5)) 54 (e84 7)) 55 v55n93) 56 v56n97) 57 v57n99) 58 v57n99) 59 v59n102) 60 v60n105) 61 v61n110) 62 v62n113) 63 v63n115) 4 (Value.bool false)) w114) (fun (K116 : KT) =>
K116 .normal (Env.put (Env.put (Env.put (Env.put (Env.put (Env.put (Env.put (Env.put (Env.put (Env.put (Env.put (Env.put (Env.put (Env.put e84 51 v51n86) 52 v52n88) 9 v9n90) 53 (e84 5)) 54 (e84 7)) 55 v55n93) 56 v56n97) 57 v57n99) 58 v57n99) 59 v59n102) 60 v60n105) 61 v61n110) 62 v62n113) 63 v63n115) w114) (blockK 1 (thenK (fun e117 w118 =>
bindV (pBin P BinOp.add 3 true (e117 49) (Value.int IntKind.i64 1) w118) fun v64n119 w120 =>
K .normal (Env.put (Env.put e117 64 v64n119) 49 v64n119) w120) K))) w111) w106) w103) w100) (fun c95 w96 => K (.panic c95) (Env.put (Env.put (Env.put (Env.put (Env.put (Env.put e84 51 v51n86) 52 v52n88) 9 v9n90) 53 (e84 5)) 54 (e84 7)) 55 v55n93) w96)) K)
def F7 (a0 : Value) (a1 : Value) (w : World) (R : Ending → World → Prop) : Prop :=
callE P 26 #[] w (fun v10n3 w4 =>
bindV (pUn P UnOp.not v10n3 w4) fun v11n5 w6 =>
condE v11n5 (fun (K7 : KT) =>
K7 .ret (Env.put (Env.put (Env.put (Env.put (argE [a0, a1]) 4 (Value.bool false)) 10 v10n3) 11 v11n5) 4 (Value.bool false)) w6) (fun (K7 : KT) =>
K7 .normal (Env.put (Env.put (Env.put (argE [a0, a1]) 4 (Value.bool false)) 10 v10n3) 11 v11n5) w6) (thenK (fun e8 w9 =>
callE P 32 #[(e8 1)] w9 (fun v13n12 w13 =>
condE v13n12 (fun (K14 : KT) =>
K14 .ret (Env.put (Env.put (Env.put e8 12 (e8 1)) 13 v13n12) 4 (Value.bool true)) w13) (fun (K14 : KT) =>
K14 .normal (Env.put (Env.put e8 12 (e8 1)) 13 v13n12) w13) (thenK (fun e15 w16 =>
callE P 27 #[(e15 0)] w16 (fun v16n19 w20 =>
bindV (pExtract P v16n19 0 w20) fun v17n21 w22 =>
bindV (pExtract P v16n19 1 w22) fun v18n23 w24 =>
bindV (pBin P BinOp.lss 3 true (e15 0) (Value.int IntKind.i64 1) w24) fun v20n25 w26 =>
grdE v20n25 false (fun (k27 : Value → World → Prop) => k27 (e15 0) w26) (fun v22n28 w29 =>
grdE v20n25 false (fun (k30 : Value → World → Prop) => bindV (pBin P BinOp.gtr 3 true v22n28 (Value.int IntKind.i64 4096) w29) k30) (fun v23n31 w32 =>
pickE v20n25 (Value.bool true) v23n31 fun v24n33 =>
condE v24n33 (fun (K34 : KT) =>
bindV (pBin P BinOp.eql 34 true v17n21 (Value.pointer none) w32) fun v26n35 w36 =>
grdE v26n35 true (fun (k37 : Value → World → Prop) => k37 v18n23 w36) (fun v28n38 w39 =>
grdE v26n35 true (fun (k40 : Value → World → Prop) => bindV (pBin P BinOp.eql 26 true v28n38 (Value.int IntKind.i64 1) w39) k40) (fun v29n41 w42 =>
pickE v26n35 v29n41 (Value.bool false) fun v30n43 =>
K34 .ret (Env.put (Env.put (Env.put (Env.put (Env.put (Env.put (Env.put (Env.put (Env.put (Env.put (Env.put (Env.put (Env.put (Env.put (Env.put (Env.put (Env.put (Env.put (Env.put (Env.put e15 15 (e15 0)) 16 v16n19) 14 v16n19) 17 v17n21) 18 v18n23) 5 v17n21) 6 v18n23) 19 (e15 0)) 20 v20n25) 21 v20n25) 22 v22n28) 23 v23n31) 24 v24n33) 25 v17n21) 26 v26n35) 27 v26n35) 28 v28n38) 29 v29n41) 30 v30n43) 4 v30n43) w42) w39) w36) (fun (K34 : KT) =>
K34 .normal (Env.put (Env.put (Env.put (Env.put (Env.put (Env.put (Env.put (Env.put (Env.put (Env.put (Env.put (Env.put (Env.put e15 15 (e15 0)) 16 v16n19) 14 v16n19) 17 v17n21) 18 v18n23) 5 v17n21) 6 v18n23) 19 (e15 0)) 20 v20n25) 21 v20n25) 22 v22n28) 23 v23n31) 24 v24n33) w32) (thenK (fun e44 w45 =>
bindV (pBin P BinOp.gtr 3 true (e44 0) (Value.int IntKind.i64 64) w45) fun v32n46 w47 =>
condE v32n46 (fun (K48 : KT) =>
bindV (pBin P BinOp.eql 26 true (e44 6) (Value.int IntKind.i64 0) w47) fun v34n49 w50 =>
grdE v34n49 true (fun (k51 : Value → World → Prop) => k51 (e44 5) w50) (fun v36n52 w53 =>
grdE v34n49 true (fun (k54 : Value → World → Prop) => bindV (pBin P BinOp.neq 34 true v36n52 (Value.pointer none) w53) k54) (fun v37n55 w56 =>
pickE v34n49 v37n55 (Value.bool false) fun v38n57 =>
grdE v38n57 true (fun (k58 : Value → World → Prop) => k58 (e44 5) w56) (fun v40n59 w60 =>
grdE v38n57 true (fun (k61 : Value → World → Prop) => callE P 36 #[v40n59] w60 k61 (fun c62 w63 => K48 (.panic c62) (Env.put (Env.put (Env.put (Env.put (Env.put (Env.put (Env.put (Env.put (Env.put (Env.put e44 31 (e44 0)) 32 v32n46) 33 (e44 6)) 34 v34n49) 35 v34n49) 36 v36n52) 37 v37n55) 38 v38n57) 39 v38n57) 40 v40n59) w63)) (fun v41n64 w65 =>
grdE v38n57 true (fun (k66 : Value → World → Prop) => k66 (e44 0) w65) (fun v42n67 w68 =>
grdE v38n57 true (fun (k69 : Value → World → Prop) => bindV (pBin P BinOp.eql 3 false v41n64 v42n67 w68) k69) (fun v43n70 w71 =>
pickE v38n57 v43n70 (Value.bool false) fun v44n72 =>
K48 .ret (Env.put (Env.put (Env.put (Env.put (Env.put (Env.put (Env.put (Env.put (Env.put (Env.put (Env.put (Env.put (Env.put (Env.put (Env.put e44 31 (e44 0)) 32 v32n46) 33 (e44 6)) 34 v34n49) 35 v34n49) 36 v36n52) 37 v37n55) 38 v38n57) 39 v38n57) 40 v40n59) 41 v41n64) 42 v42n67) 43 v43n70) 44 v44n72) 4 v44n72) w71) w68) w65) w60) w56) w53) w50) (fun (K48 : KT) =>
K48 .normal (Env.put (Env.put e44 31 (e44 0)) 32 v32n46) w47) (thenK (fun e73 w74 =>
callE P 37 #[(e73 0)] w74 (fun v46n77 w78 =>
bindV (pBuiltin P Builtin.len #[42] 3 [(e73 1)] w78) fun v48n79 w80 =>
loopE F7B0 (Env.put (Env.put (Env.put (Env.put (Env.put (Env.put e73 45 (e73 0)) 46 v46n77) 7 v46n77) 47 (e73 1)) 48 v48n79) 49 (Value.int IntKind.i64 0)) w80 (blockK 0 (thenK (fun e121 w122 =>
bindV (pBin P BinOp.eql 26 true (e121 6) (Value.int IntKind.i64 0) w122) fun v66n123 w124 =>
R (.returned v66n123) w124) (topK P [(ResultVar.tmp 4)] R)))) (fun c75 w76 => R (.panicked c75) w76)) (topK P [(ResultVar.tmp 4)] R))) (topK P [(ResultVar.tmp 4)] R))) w29) w26) (fun c17 w18 => R (.panicked c17) w18)) (topK P [(ResultVar.tmp 4)] R))) (fun c10 w11 => R (.panicked c10) w11)) (topK P [(ResultVar.tmp 4)] R))) (fun c1 w2 => R (.panicked c1) w2)
theorem F7ok {w : World} {R : Ending → World → Prop} {a0 : Value} {a1 : Value} (h : F7 a0 a1 w R) : Calls P 7 #[a0, a1] w R :=
  calls_of_ev bodies mixed (c := bodyOf Try.f7) (nt := 67) (rs := [(ResultVar.tmp 4)]) (args := [a0, a1]) (fn := Try.f7) (by kernel_rfl) (by kernel_rfl) (by kernel_rfl) (by kernel_rfl) (by kernel_rfl) (by simp)
    (eq_mp (show F7 a0 a1 w R = ev P C (bodyOf Try.f7) (argE [a0, a1]) w (topK P [(ResultVar.tmp 4)] R) by kernel_rfl) h)

/-! ### moiety/moietylaw17.DiskApart -/
def F8B2 (e : Env) (w : World) (K : KT) : Prop :=
bindV (pBin P BinOp.lss 3 false (e 60) (e 59) w) fun v61n105 w106 =>
condE v61n105 (fun (K107 : KT) =>
K107 .normal (Env.put e 61 v61n105) w106) (fun (K107 : KT) =>
K107 (.exit 4) (Env.put e 61 v61n105) w106) (thenK (fun e108 w109 =>
bindV (pIndexAddr P 42 (e108 58) (e108 60) w109) fun v62n110 w111 =>
bindV (pLoad P 46 v62n110 w111) fun v63n112 w113 =>
bindV (pAlloc P 46 w113) fun v15n114 w115 =>
bindU (pStore P 46 v15n114 v63n112 w115) fun w116 =>
bindV (pLoad P 46 v15n114 w116) fun v66n117 w118 =>
callE P 38 #[(e108 10), (e108 7), v66n117] w118 (fun v67n121 w122 =>
bindV (pUn P UnOp.not v67n121 w122) fun v68n123 w124 =>
condE v68n123 (fun (K125 : KT) =>
K125 .ret (Env.put (Env.put (Env.put (Env.put (Env.put (Env.put (Env.put (Env.put (Env.put e108 62 v62n110) 63 v63n112) 15 v15n114) 64 (e108 10)) 65 (e108 7)) 66 v66n117) 67 v67n121) 68 v68n123) 4 (Value.bool false)) w124) (fun (K125 : KT) =>
K125 .normal (Env.put (Env.put (Env.put (Env.put (Env.put (Env.put (Env.put (Env.put e108 62 v62n110) 63 v63n112) 15 v15n114) 64 (e108 10)) 65 (e108 7)) 66 v66n117) 67 v67n121) 68 v68n123) w124) (blockK 5 (thenK (fun e126 w127 =>
bindV (pBin P BinOp.add 3 true (e126 60) (Value.int IntKind.i64 1) w127) fun v69n128 w129 =>
K .normal (Env.put (Env.put e126 69 v69n128) 60 v69n128) w129) K))) (fun c119 w120 => K (.panic c119) (Env.put (Env.put (Env.put (Env.put (Env.put (Env.put e108 62 v62n110) 63 v63n112) 15 v15n114) 64 (e108 10)) 65 (e108 7)) 66 v66n117) w120)) K)
def F8B1 (e : Env) (w : World) (K : KT) : Prop :=
bindV (pBin P BinOp.lss 3 false (e 45) (e 44) w) fun v46n72 w73 =>
condE v46n72 (fun (K74 : KT) =>
K74 .normal (Env.put e 46 v46n72) w73) (fun (K74 : KT) =>
K74 (.exit 2) (Env.put e 46 v46n72) w73) (thenK (fun e75 w76 =>
bindV (pIndexAddr P 42 (e75 43) (e75 45) w76) fun v47n77 w78 =>
bindV (pLoad P 46 v47n77 w78) fun v48n79 w80 =>
bindV (pAlloc P 46 w80) fun v13n81 w82 =>
bindU (pStore P 46 v13n81 v48n79 w82) fun w83 =>
bindV (pLoad P 46 v13n81 w83) fun v51n84 w85 =>
callE P 38 #[(e75 5), (e75 11), v51n84] w85 (fun v52n88 w89 =>
bindV (pBin P BinOp.add 3 true (e75 45) (Value.int IntKind.i64 1) w89) fun v53n90 w91 =>
K .normal (Env.put (Env.put (Env.put (Env.put (Env.put (Env.put (Env.put (Env.put (Env.put e75 47 v47n77) 48 v48n79) 13 v13n81) 49 (e75 5)) 50 (e75 11)) 51 v51n84) 52 v52n88) 53 v53n90) 45 v53n90) w91) (fun c86 w87 => K (.panic c86) (Env.put (Env.put (Env.put (Env.put (Env.put (Env.put e75 47 v47n77) 48 v48n79) 13 v13n81) 49 (e75 5)) 50 (e75 11)) 51 v51n84) w87)) K)
def F8B0 (e : Env) (w : World) (K : KT) : Prop :=
bindV (pBin P BinOp.lss 3 false (e 31) (e 30) w) fun v32n40 w41 =>
condE v32n40 (fun (K42 : KT) =>
K42 .normal (Env.put e 32 v32n40) w41) (fun (K42 : KT) =>
K42 (.exit 0) (Env.put e 32 v32n40) w41) (thenK (fun e43 w44 =>
bindV (pIndexAddr P 42 (e43 29) (e43 31) w44) fun v33n45 w46 =>
bindV (pLoad P 46 v33n45 w46) fun v34n47 w48 =>
bindV (pAlloc P 46 w48) fun v9n49 w50 =>
bindU (pStore P 46 v9n49 v34n47 w50) fun w51 =>
bindV (pLoad P 46 v9n49 w51) fun v37n52 w53 =>
callE P 38 #[(e43 5), (e43 7), v37n52] w53 (fun v38n56 w57 =>
bindV (pBin P BinOp.add 3 true (e43 31) (Value.int IntKind.i64 1) w57) fun v39n58 w59 =>
K .normal (Env.put (Env.put (Env.put (Env.put (Env.put (Env.put (Env.put (Env.put (Env.put e43 33 v33n45) 34 v34n47) 9 v9n49) 35 (e43 5)) 36 (e43 7)) 37 v37n52) 38 v38n56) 39 v39n58) 31 v39n58) w59) (fun c54 w55 => K (.panic c54) (Env.put (Env.put (Env.put (Env.put (Env.put (Env.put e43 33 v33n45) 34 v34n47) 9 v9n49) 35 (e43 5)) 36 (e43 7)) 37 v37n52) w55)) K)
def F8 (a0 : Value) (a1 : Value) (w : World) (R : Ending → World → Prop) : Prop :=
callE P 26 #[] w (fun v16n3 w4 =>
bindV (pUn P UnOp.not v16n3 w4) fun v17n5 w6 =>
condE v17n5 (fun (K7 : KT) =>
K7 .ret (Env.put (Env.put (Env.put (Env.put (argE [a0, a1]) 4 (Value.bool false)) 16 v16n3) 17 v17n5) 4 (Value.bool false)) w6) (fun (K7 : KT) =>
K7 .normal (Env.put (Env.put (Env.put (argE [a0, a1]) 4 (Value.bool false)) 16 v16n3) 17 v17n5) w6) (thenK (fun e8 w9 =>
callE P 32 #[(e8 0)] w9 (fun v19n12 w13 =>
grdE v19n12 false (fun (k14 : Value → World → Prop) => k14 (e8 1) w13) (fun v21n15 w16 =>
grdE v19n12 false (fun (k17 : Value → World → Prop) => callE P 32 #[v21n15] w16 k17 (fun c18 w19 => R (.panicked c18) w19)) (fun v22n20 w21 =>
pickE v19n12 (Value.bool true) v22n20 fun v23n22 =>
condE v23n22 (fun (K23 : KT) =>
K23 .ret (Env.put (Env.put (Env.put (Env.put (Env.put (Env.put (Env.put e8 18 (e8 0)) 19 v19n12) 20 v19n12) 21 v21n15) 22 v22n20) 23 v23n22) 4 (Value.bool true)) w21) (fun (K23 : KT) =>
K23 .normal (Env.put (Env.put (Env.put (Env.put (Env.put (Env.put e8 18 (e8 0)) 19 v19n12) 20 v19n12) 21 v21n15) 22 v22n20) 23 v23n22) w21) (thenK (fun e24 w25 =>
callE P 27 #[(Value.int IntKind.i64 8)] w25 (fun v25n28 w29 =>
bindV (pExtract P v25n28 0 w29) fun v26n30 w31 =>
bindV (pExtract P v25n28 1 w31) fun v27n32 w33 =>
callE P 37 #[(Value.int IntKind.i64 8)] w33 (fun v28n36 w37 =>
bindV (pBuiltin P Builtin.len #[42] 3 [(e24 0)] w37) fun v30n38 w39 =>
loopE F8B0 (Env.put (Env.put (Env.put (Env.put (Env.put (Env.put (Env.put (Env.put (Env.put (Env.put (Env.put e24 25 v25n28) 24 v25n28) 26 v26n30) 27 v27n32) 5 v26n30) 6 v27n32) 28 v28n36) 7 v28n36) 29 (e24 0)) 30 v30n38) 31 (Value.int IntKind.i64 0)) w39 (blockK 0 (thenK (fun e60 w61 =>
callE P 40 #[(e60 5)] w61 (fun v41n64 w65 =>
callE P 37 #[(Value.int IntKind.i64 8)] w65 (fun v42n68 w69 =>
bindV (pBuiltin P Builtin.len #[42] 3 [(e60 1)] w69) fun v44n70 w71 =>
loopE F8B1 (Env.put (Env.put (Env.put (Env.put (Env.put (Env.put (Env.put (Env.put e60 40 (e60 5)) 41 v41n64) 10 v41n64) 42 v42n68) 11 v42n68) 43 (e60 1)) 44 v44n70) 45 (Value.int IntKind.i64 0)) w71 (blockK 2 (thenK (fun e92 w93 =>
callE P 39 #[(e92 10), (e92 7)] w93 (fun v56n96 w97 =>
bindV (pUn P UnOp.not v56n96 w97) fun v57n98 w99 =>
condE v57n98 (fun (K100 : KT) =>
K100 .ret (Env.put (Env.put (Env.put (Env.put (Env.put e92 54 (e92 10)) 55 (e92 7)) 56 v56n96) 57 v57n98) 4 (Value.bool false)) w99) (fun (K100 : KT) =>
K100 .normal (Env.put (Env.put (Env.put (Env.put e92 54 (e92 10)) 55 (e92 7)) 56 v56n96) 57 v57n98) w99) (thenK (fun e101 w102 =>
bindV (pBuiltin P Builtin.len #[42] 3 [(e101 1)] w102) fun v59n103 w104 =>
loopE F8B2 (Env.put (Env.put (Env.put e101 58 (e101 1)) 59 v59n103) 60 (Value.int IntKind.i64 0)) w104 (blockK 4 (thenK (fun e130 w131 =>
callE P 39 #[(e130 10), (e130 7)] w131 (fun v72n134 w135 =>
grdE v72n134 true (fun (k136 : Value → World → Prop) => k136 (e130 5) w135) (fun v74n137 w138 =>
grdE v72n134 true (fun (k139 : Value → World → Prop) => k139 (e130 7) w138) (fun v75n140 w141 =>
grdE v72n134 true (fun (k142 : Value → World → Prop) => callE P 39 #[v74n137, v75n140] w141 k142 (fun c143 w144 => R (.panicked c143) w144)) (fun v76n145 w146 =>
pickE v72n134 v76n145 (Value.bool false) fun v77n147 =>
R (.returned v77n147) w146) w141) w138) w135) (fun c132 w133 => R (.panicked c132) w133)) (topK P [(ResultVar.tmp 4)] R)))) (topK P [(ResultVar.tmp 4)] R))) (fun c94 w95 => R (.panicked c94) w95)) (topK P [(ResultVar.tmp 4)] R)))) (fun c66 w67 => R (.panicked c66) w67)) (fun c62 w63 => R (.panicked c62) w63)) (topK P [(ResultVar.tmp 4)] R)))) (fun c34 w35 => R (.panicked c34) w35)) (fun c26 w27 => R (.panicked c26) w27)) (topK P [(ResultVar.tmp 4)] R))) w16) w13) (fun c10 w11 => R (.panicked c10) w11)) (topK P [(ResultVar.tmp 4)] R))) (fun c1 w2 => R (.panicked c1) w2)
theorem F8ok {w : World} {R : Ending → World → Prop} {a0 : Value} {a1 : Value} (h : F8 a0 a1 w R) : Calls P 8 #[a0, a1] w R :=
  calls_of_ev bodies mixed (c := bodyOf Try.f8) (nt := 78) (rs := [(ResultVar.tmp 4)]) (args := [a0, a1]) (fn := Try.f8) (by kernel_rfl) (by kernel_rfl) (by kernel_rfl) (by kernel_rfl) (by kernel_rfl) (by simp)
    (eq_mp (show F8 a0 a1 w R = ev P C (bodyOf Try.f8) (argE [a0, a1]) w (topK P [(ResultVar.tmp 4)] R) by kernel_rfl) h)

/-! ### moiety/moietyref17.New -/
def F37 (a0 : Value) (w : World) (R : Ending → World → Prop) : Prop :=
drawE (fun (k1 : Env → World → Prop) (kp2 : List PanicEntry → Env → World → Prop) =>
takeE (fun w5 => some (a0, w5)) (drew w) fun v3n3 h4 =>
takeE (fun w8 => some (a0, w8)) (drew w) fun v5n6 h7 =>
(bindV (pMake P 76 v3n3 v3n3 (drew w)) fun v4n10 w11 =>
heldE [h7] w11 (bindV (pMake P 76 v5n6 v5n6 w11) fun v6n13 w14 =>
bindV (pBuild P 113 [(0, v4n10), (1, v6n13)] w14) fun v7n16 w17 =>
bindV (pBox P 113 v7n16 w17) fun v8n19 w20 =>
k1 (Env.put (Env.put (Env.put (Env.put (Env.put (Env.put (Env.put (Env.put (argE [a0]) 2 (Value.pointer none)) 3 v3n3) 5 v5n6) 4 v4n10) 6 v6n13) 7 v7n16) 8 v8n19) 2 v8n19) w20)) ∧
(bindV (pMake P 76 v5n6 v5n6 (drew w)) fun v6n23 w24 =>
heldE [h4] w24 (bindV (pMake P 76 v3n3 v3n3 w24) fun v4n26 w27 =>
bindV (pBuild P 113 [(0, v4n26), (1, v6n23)] w27) fun v7n29 w30 =>
bindV (pBox P 113 v7n29 w30) fun v8n32 w33 =>
k1 (Env.put (Env.put (Env.put (Env.put (Env.put (Env.put (Env.put (Env.put (argE [a0]) 2 (Value.pointer none)) 3 v3n3) 5 v5n6) 6 v6n23) 4 v4n26) 7 v7n29) 8 v8n32) 2 v8n32) w33))) (fun e35 w36 =>
R (.returned (e35 2)) w36) (fun c37 e38 w39 => R (.panicked c37) w39)
theorem F37ok {w : World} {R : Ending → World → Prop} {a0 : Value} (h : F37 a0 w R) : Calls P 37 #[a0] w R :=
  calls_of_ev bodies mixed (c := bodyOf Try.f37) (nt := 9) (rs := [(ResultVar.tmp 2)]) (args := [a0]) (fn := Try.f37) (by kernel_rfl) (by kernel_rfl) (by kernel_rfl) (by kernel_rfl) (by kernel_rfl) (by simp)
    (eq_mp (show F37 a0 w R = ev P C (bodyOf Try.f37) (argE [a0]) w (topK P [(ResultVar.tmp 2)] R) by kernel_rfl) h)

/-! ### moiety/moietylaw17.do -/
def F38 (a0 : Value) (a1 : Value) (a2 : Value) (w : World) (R : Ending → World → Prop) : Prop :=
bindV (pBox P 46 a2 w) fun v5n1 w2 =>
bindV (pFieldAddr P 46 v5n1 0 w2) fun v11n3 w4 =>
bindV (pLoad P 3 v11n3 w4) fun v12n5 w6 =>
bindV (pBin P BinOp.eql 3 true v12n5 (Value.int IntKind.i64 0) w6) fun v14n7 w8 =>
condE v14n7 (fun (K9 : KT) =>
takeE (fun w12 => some (a0, w12)) (drew w8) fun v15n10 h11 =>
takeE (fun w15 => pFieldAddr P 46 v5n1 1 w15) (drew w8) fun v16n13 h14 =>
takeE (fun w18 => pLoad P 3 v16n13 w18) (drew w8) fun v17n16 h17 =>
takeE (fun w21 => pFieldAddr P 46 v5n1 2 w21) (drew w8) fun v18n19 h20 =>
takeE (fun w24 => pLoad P 5 v18n19 w24) (drew w8) fun v19n22 h23 =>
takeE (fun w27 => some (a1, w27)) (drew w8) fun v22n25 h26 =>
takeE (fun w30 => pFieldAddr P 46 v5n1 1 w30) (drew w8) fun v23n28 h29 =>
takeE (fun w33 => pLoad P 3 v23n28 w33) (drew w8) fun v24n31 h32 =>
takeE (fun w36 => pFieldAddr P 46 v5n1 2 w36) (drew w8) fun v25n34 h35 =>
takeE (fun w39 => pLoad P 5 v25n34 w39) (drew w8) fun v26n37 h38 =>
callE P 33 #[v19n22] (drew w8) (fun v20n43 w44 =>
heldE [h38, h35, h32, h29, h26, h17, h14, h11] w44 (callE P 28 #[v15n10, v17n16, v20n43] w44 (fun v21n48 w49 =>
heldE [h38, h35, h32, h29, h26] w49 (callE P 33 #[v26n37] w49 (fun v27n53 w54 =>
heldE [h32, h29, h26] w54 (callE P 67 #[v22n25, v24n31, v27n53] w54 (fun v28n58 w59 =>
takeE (fun w62 => pBin P BinOp.eql 3 false v21n48 v28n58 w62) w59 fun v29n60 h61 =>
K9 .ret (Env.put (Env.put (Env.put (Env.put (Env.put (Env.put (Env.put (Env.put (Env.put (Env.put (Env.put (Env.put (Env.put (Env.put (Env.put (Env.put (Env.put (Env.put (Env.put (Env.put (Env.put (Env.put (argE [a0, a1, a2]) 5 v5n1) 6 (Value.bool false)) 11 v11n3) 12 v12n5) 14 v14n7) 13 v14n7) 15 v15n10) 16 v16n13) 17 v17n16) 18 v18n19) 19 v19n22) 22 v22n25) 23 v23n28) 24 v24n31) 25 v25n34) 26 v26n37) 20 v20n43) 21 v21n48) 27 v27n53) 28 v28n58) 29 v29n60) 6 v29n60) w59) (fun c56 w57 => ∀ (e55 : Env), K9 (.panic c56) e55 w57))) (fun c51 w52 => ∀ (e50 : Env), K9 (.panic c51) e50 w52))) (fun c46 w47 => ∀ (e45 : Env), K9 (.panic c46) e45 w47))) (fun c41 w42 => ∀ (e40 : Env), K9 (.panic c41) e40 w42)) (fun (K9 : KT) =>
bindV (pBin P BinOp.eql 3 true v12n5 (Value.int IntKind.i64 1) w8) fun v31n64 w65 =>
condE v31n64 (fun (K66 : KT) =>
callE P 29 #[a0] w65 (fun v33n69 w70 =>
callE P 68 #[a1] w70 (fun v35n73 w74 =>
bindV (pBin P BinOp.eql 3 false v33n69 v35n73 w74) fun v36n75 w76 =>
K66 .ret (Env.put (Env.put (Env.put (Env.put (Env.put (Env.put (Env.put (Env.put (Env.put (Env.put (Env.put (Env.put (Env.put (Env.put (argE [a0, a1, a2]) 5 v5n1) 6 (Value.bool false)) 11 v11n3) 12 v12n5) 14 v14n7) 13 v14n7) 31 v31n64) 30 v31n64) 32 a0) 33 v33n69) 34 a1) 35 v35n73) 36 v36n75) 6 v36n75) w76) (fun c71 w72 => K66 (.panic c71) (Env.put (Env.put (Env.put (Env.put (Env.put (Env.put (Env.put (Env.put (Env.put (Env.put (Env.put (argE [a0, a1, a2]) 5 v5n1) 6 (Value.bool false)) 11 v11n3) 12 v12n5) 14 v14n7) 13 v14n7) 31 v31n64) 30 v31n64) 32 a0) 33 v33n69) 34 a1) w72)) (fun c67 w68 => K66 (.panic c67) (Env.put (Env.put (Env.put (Env.put (Env.put (Env.put (Env.put (Env.put (Env.put (argE [a0, a1, a2]) 5 v5n1) 6 (Value.bool false)) 11 v11n3) 12 v12n5) 14 v14n7) 13 v14n7) 31 v31n64) 30 v31n64) 32 a0) w68)) (fun (K66 : KT) =>
bindV (pBin P BinOp.eql 3 true v12n5 (Value.int IntKind.i64 2) w65) fun v38n77 w78 =>
condE v38n77 (fun (K79 : KT) =>
bindV (pFieldAddr P 46 v5n1 1 w78) fun v40n80 w81 =>
bindV (pLoad P 3 v40n80 w81) fun v41n82 w83 =>
callE P 41 #[a0, v41n82] w83 (fun v42n86 w87 =>
bindV (pFieldAddr P 46 v5n1 1 w87) fun v44n88 w89 =>
bindV (pLoad P 3 v44n88 w89) fun v45n90 w91 =>
callE P 69 #[a1, v45n90] w91 (fun v46n94 w95 =>
K79 .normal (Env.put (Env.put (Env.put (Env.put (Env.put (Env.put (Env.put (Env.put (Env.put (Env.put (Env.put (Env.put (Env.put (Env.put (Env.put (Env.put (Env.put (Env.put (argE [a0, a1, a2]) 5 v5n1) 6 (Value.bool false)) 11 v11n3) 12 v12n5) 14 v14n7) 13 v14n7) 31 v31n64) 30 v31n64) 38 v38n77) 37 v38n77) 39 a0) 40 v40n80) 41 v41n82) 42 v42n86) 43 a1) 44 v44n88) 45 v45n90) 46 v46n94) w95) (fun c92 w93 => K79 (.panic c92) (Env.put (Env.put (Env.put (Env.put (Env.put (Env.put (Env.put (Env.put (Env.put (Env.put (Env.put (Env.put (Env.put (Env.put (Env.put (Env.put (Env.put (argE [a0, a1, a2]) 5 v5n1) 6 (Value.bool false)) 11 v11n3) 12 v12n5) 14 v14n7) 13 v14n7) 31 v31n64) 30 v31n64) 38 v38n77) 37 v38n77) 39 a0) 40 v40n80) 41 v41n82) 42 v42n86) 43 a1) 44 v44n88) 45 v45n90) w93)) (fun c84 w85 => K79 (.panic c84) (Env.put (Env.put (Env.put (Env.put (Env.put (Env.put (Env.put (Env.put (Env.put (Env.put (Env.put (Env.put (Env.put (argE [a0, a1, a2]) 5 v5n1) 6 (Value.bool false)) 11 v11n3) 12 v12n5) 14 v14n7) 13 v14n7) 31 v31n64) 30 v31n64) 38 v38n77) 37 v38n77) 39 a0) 40 v40n80) 41 v41n82) w85)) (fun (K79 : KT) =>
bindV (pBin P BinOp.eql 3 true v12n5 (Value.int IntKind.i64 3) w78) fun v48n96 w97 =>
condE v48n96 (fun (K98 : KT) =>
bindV (pFieldAddr P 46 v5n1 3 w97) fun v50n99 w100 =>
bindV (pLoad P 43 v50n99 w100) fun v51n101 w102 =>
callE P 30 #[a0, v51n101] w102 (fun v52n105 w106 =>
bindV (pFieldAddr P 46 v5n1 3 w106) fun v54n107 w108 =>
bindV (pLoad P 43 v54n107 w108) fun v55n109 w110 =>
callE P 70 #[a1, v55n109] w110 (fun v56n113 w114 =>
K98 .normal (Env.put (Env.put (Env.put (Env.put (Env.put (Env.put (Env.put (Env.put (Env.put (Env.put (Env.put (Env.put (Env.put (Env.put (Env.put (Env.put (Env.put (Env.put (Env.put (Env.put (argE [a0, a1, a2]) 5 v5n1) 6 (Value.bool false)) 11 v11n3) 12 v12n5) 14 v14n7) 13 v14n7) 31 v31n64) 30 v31n64) 38 v38n77) 37 v38n77) 48 v48n96) 47 v48n96) 49 a0) 50 v50n99) 51 v51n101) 52 v52n105) 53 a1) 54 v54n107) 55 v55n109) 56 v56n113) w114) (fun c111 w112 => K98 (.panic c111) (Env.put (Env.put (Env.put (Env.put (Env.put (Env.put (Env.put (Env.put (Env.put (Env.put (Env.put (Env.put (Env.put (Env.put (Env.put (Env.put (Env.put (Env.put (Env.put (argE [a0, a1, a2]) 5 v5n1) 6 (Value.bool false)) 11 v11n3) 12 v12n5) 14 v14n7) 13 v14n7) 31 v31n64) 30 v31n64) 38 v38n77) 37 v38n77) 48 v48n96) 47 v48n96) 49 a0) 50 v50n99) 51 v51n101) 52 v52n105) 53 a1) 54 v54n107) 55 v55n109) w112)) (fun c103 w104 => K98 (.panic c103) (Env.put (Env.put (Env.put (Env.put (Env.put (Env.put (Env.put (Env.put (Env.put (Env.put (Env.put (Env.put (Env.put (Env.put (Env.put (argE [a0, a1, a2]) 5 v5n1) 6 (Value.bool false)) 11 v11n3) 12 v12n5) 14 v14n7) 13 v14n7) 31 v31n64) 30 v31n64) 38 v38n77) 37 v38n77) 48 v48n96) 47 v48n96) 49 a0) 50 v50n99) 51 v51n101) w104)) (fun (K98 : KT) =>
bindV (pBin P BinOp.eql 3 true v12n5 (Value.int IntKind.i64 4) w97) fun v58n115 w116 =>
condE v58n115 (fun (K117 : KT) =>
bindV (pFieldAddr P 46 v5n1 1 w116) fun v61n118 w119 =>
bindV (pLoad P 3 v61n118 w119) fun v62n120 w121 =>
callE P 31 #[a0, v62n120] w121 (fun v63n124 w125 =>
bindV (pExtract P v63n124 0 w125) fun v64n126 w127 =>
bindV (pExtract P v63n124 1 w127) fun v65n128 w129 =>
bindV (pAlloc P 25 w129) fun v7n130 w131 =>
bindU (pStore P 25 v7n130 v64n126 w131) fun w132 =>
bindV (pFieldAddr P 46 v5n1 1 w132) fun v68n133 w134 =>
bindV (pLoad P 3 v68n133 w134) fun v69n135 w136 =>
callE P 71 #[a1, v69n135] w136 (fun v70n139 w140 =>
bindV (pExtract P v70n139 0 w140) fun v71n141 w142 =>
bindV (pExtract P v70n139 1 w142) fun v72n143 w144 =>
bindV (pAlloc P 25 w144) fun v9n145 w146 =>
bindU (pStore P 25 v9n145 v71n141 w146) fun w147 =>
bindV (pBin P BinOp.eql 3 false v65n128 v72n143 w147) fun v75n148 w149 =>
grdE v75n148 true (fun (k150 : Value → World → Prop) => bindV (pLoad P 25 v7n130 w149) k150) (fun v77n151 w152 =>
grdE v75n148 true (fun (k153 : Value → World → Prop) => bindV (pLoad P 25 v9n145 w152) k153) (fun v78n154 w155 =>
grdE v75n148 true (fun (k156 : Value → World → Prop) => bindV (pBin P BinOp.eql 25 false v77n151 v78n154 w155) k156) (fun v79n157 w158 =>
pickE v75n148 v79n157 (Value.bool false) fun v80n159 =>
K117 .ret (Env.put (Env.put (Env.put (Env.put (Env.put (Env.put (Env.put (Env.put (Env.put (Env.put (Env.put (Env.put (Env.put (Env.put (Env.put (Env.put (Env.put (Env.put (Env.put (Env.put (Env.put (Env.put (Env.put (Env.put (Env.put (Env.put (Env.put (Env.put (Env.put (Env.put (Env.put (Env.put (Env.put (Env.put (Env.put (Env.put (Env.put (Env.put (Env.put (Env.put (Env.put (argE [a0, a1, a2]) 5 v5n1) 6 (Value.bool false)) 11 v11n3) 12 v12n5) 14 v14n7) 13 v14n7) 31 v31n64) 30 v31n64) 38 v38n77) 37 v38n77) 48 v48n96) 47 v48n96) 58 v58n115) 57 v58n115) 60 a0) 61 v61n118) 62 v62n120) 63 v63n124) 59 v63n124) 64 v64n126) 65 v65n128) 7 v7n130) 8 v65n128) 67 a1) 68 v68n133) 69 v69n135) 70 v70n139) 66 v70n139) 71 v71n141) 72 v72n143) 9 v9n145) 10 v72n143) 73 v65n128) 74 v72n143) 75 v75n148) 76 v75n148) 77 v77n151) 78 v78n154) 79 v79n157) 80 v80n159) 6 v80n159) w158) w155) w152) w149) (fun c137 w138 => K117 (.panic c137) (Env.put (Env.put (Env.put (Env.put (Env.put (Env.put (Env.put (Env.put (Env.put (Env.put (Env.put (Env.put (Env.put (Env.put (Env.put (Env.put (Env.put (Env.put (Env.put (Env.put (Env.put (Env.put (Env.put (Env.put (Env.put (Env.put (argE [a0, a1, a2]) 5 v5n1) 6 (Value.bool false)) 11 v11n3) 12 v12n5) 14 v14n7) 13 v14n7) 31 v31n64) 30 v31n64) 38 v38n77) 37 v38n77) 48 v48n96) 47 v48n96) 58 v58n115) 57 v58n115) 60 a0) 61 v61n118) 62 v62n120) 63 v63n124) 59 v63n124) 64 v64n126) 65 v65n128) 7 v7n130) 8 v65n128) 67 a1) 68 v68n133) 69 v69n135) w138)) (fun c122 w123 => K117 (.panic c122) (Env.put (Env.put (Env.put (Env.put (Env.put (Env.put (Env.put (Env.put (Env.put (Env.put (Env.put (Env.put (Env.put (Env.put (Env.put (Env.put (Env.put (argE [a0, a1, a2]) 5 v5n1) 6 (Value.bool false)) 11 v11n3) 12 v12n5) 14 v14n7) 13 v14n7) 31 v31n64) 30 v31n64) 38 v38n77) 37 v38n77) 48 v48n96) 47 v48n96) 58 v58n115) 57 v58n115) 60 a0) 61 v61n118) 62 v62n120) w123)) (fun (K117 : KT) =>
K117 .normal (Env.put (Env.put (Env.put (Env.put (Env.put (Env.put (Env.put (Env.put (Env.put (Env.put (Env.put (Env.put (Env.put (Env.put (argE [a0, a1, a2]) 5 v5n1) 6 (Value.bool false)) 11 v11n3) 12 v12n5) 14 v14n7) 13 v14n7) 31 v31n64) 30 v31n64) 38 v38n77) 37 v38n77) 48 v48n96) 47 v48n96) 58 v58n115) 57 v58n115) w116) K98) K79) K66) K9) (blockK 0 (thenK (fun e160 w161 =>
R (.returned (Value.bool true)) w161) (topK P [(ResultVar.tmp 6)] R)))
theorem F38ok {w : World} {R : Ending → World → Prop} {a0 : Value} {a1 : Value} {a2 : Value} (h : F38 a0 a1 a2 w R) : Calls P 38 #[a0, a1, a2] w R :=
  calls_of_ev bodies mixed (c := bodyOf Try.f38) (nt := 81) (rs := [(ResultVar.tmp 6)]) (args := [a0, a1, a2]) (fn := Try.f38) (by kernel_rfl) (by kernel_rfl) (by kernel_rfl) (by kernel_rfl) (by kernel_rfl) (by simp)
    (eq_mp (show F38 a0 a1 a2 w R = ev P C (bodyOf Try.f38) (argE [a0, a1, a2]) w (topK P [(ResultVar.tmp 6)] R) by kernel_rfl) h)

/-! ### moiety/moietylaw17.same -/
def F39B0 (e : Env) (w : World) (K : KT) : Prop :=
bindV (pBin P BinOp.lss 3 false (e 48) (e 47) w) fun v49n127 w128 =>
condE v49n127 (fun (K129 : KT) =>
K129 .normal (Env.put e 49 v49n127) w128) (fun (K129 : KT) =>
K129 (.exit 0) (Env.put e 49 v49n127) w128) (thenK (fun e130 w131 =>
callE P 31 #[(e130 0), (e130 48)] w131 (fun v54n134 w135 =>
bindV (pExtract P v54n134 0 w135) fun v55n136 w137 =>
bindV (pExtract P v54n134 1 w137) fun v56n138 w139 =>
bindV (pAlloc P 25 w139) fun v6n140 w141 =>
bindU (pStore P 25 v6n140 v55n136 w141) fun w142 =>
callE P 71 #[(e130 1), (e130 48)] w142 (fun v60n145 w146 =>
bindV (pExtract P v60n145 0 w146) fun v61n147 w148 =>
bindV (pExtract P v60n145 1 w148) fun v62n149 w150 =>
bindV (pAlloc P 25 w150) fun v8n151 w152 =>
bindU (pStore P 25 v8n151 v61n147 w152) fun w153 =>
bindV (pBin P BinOp.neq 3 false v56n138 v62n149 w153) fun v65n154 w155 =>
grdE v65n154 false (fun (k156 : Value → World → Prop) => bindV (pLoad P 25 v6n140 w155) k156) (fun v67n157 w158 =>
grdE v65n154 false (fun (k159 : Value → World → Prop) => bindV (pLoad P 25 v8n151 w158) k159) (fun v68n160 w161 =>
grdE v65n154 false (fun (k162 : Value → World → Prop) => bindV (pBin P BinOp.neq 25 false v67n157 v68n160 w161) k162) (fun v69n163 w164 =>
pickE v65n154 (Value.bool true) v69n163 fun v70n165 =>
condE v70n165 (fun (K166 : KT) =>
K166 .ret (Env.put (Env.put (Env.put (Env.put (Env.put (Env.put (Env.put (Env.put (Env.put (Env.put (Env.put (Env.put (Env.put (Env.put (Env.put (Env.put (Env.put (Env.put (Env.put (Env.put (Env.put (Env.put (Env.put (Env.put (Env.put (Env.put (Env.put e130 50 (e130 48)) 5 (e130 48)) 52 (e130 0)) 53 (e130 48)) 54 v54n134) 51 v54n134) 55 v55n136) 56 v56n138) 6 v6n140) 7 v56n138) 58 (e130 1)) 59 (e130 48)) 60 v60n145) 57 v60n145) 61 v61n147) 62 v62n149) 8 v8n151) 9 v62n149) 63 v56n138) 64 v62n149) 65 v65n154) 66 v65n154) 67 v67n157) 68 v68n160) 69 v69n163) 70 v70n165) 4 (Value.bool false)) w164) (fun (K166 : KT) =>
K166 .normal (Env.put (Env.put (Env.put (Env.put (Env.put (Env.put (Env.put (Env.put (Env.put (Env.put (Env.put (Env.put (Env.put (Env.put (Env.put (Env.put (Env.put (Env.put (Env.put (Env.put (Env.put (Env.put (Env.put (Env.put (Env.put (Env.put e130 50 (e130 48)) 5 (e130 48)) 52 (e130 0)) 53 (e130 48)) 54 v54n134) 51 v54n134) 55 v55n136) 56 v56n138) 6 v6n140) 7 v56n138) 58 (e130 1)) 59 (e130 48)) 60 v60n145) 57 v60n145) 61 v61n147) 62 v62n149) 8 v8n151) 9 v62n149) 63 v56n138) 64 v62n149) 65 v65n154) 66 v65n154) 67 v67n157) 68 v68n160) 69 v69n163) 70 v70n165) w164) (blockK 1 (thenK (fun e167 w168 =>
bindV (pBin P BinOp.add 3 true (e167 48) (Value.int IntKind.i64 1) w168) fun v71n169 w170 =>
K .normal (Env.put (Env.put e167 71 v71n169) 48 v71n169) w170) K))) w161) w158) w155) (fun c143 w144 => K (.panic c143) (Env.put (Env.put (Env.put (Env.put (Env.put (Env.put (Env.put (Env.put (Env.put (Env.put (Env.put (Env.put e130 50 (e130 48)) 5 (e130 48)) 52 (e130 0)) 53 (e130 48)) 54 v54n134) 51 v54n134) 55 v55n136) 56 v56n138) 6 v6n140) 7 v56n138) 58 (e130 1)) 59 (e130 48)) w144)) (fun c132 w133 => K (.panic c132) (Env.put (Env.put (Env.put (Env.put e130 50 (e130 48)) 5 (e130 48)) 52 (e130 0)) 53 (e130 48)) w133)) K)
def F39 (a0 : Value) (a1 : Value) (w : World) (R : Ending → World → Prop) : Prop :=
takeE (fun w3 => some (a0, w3)) (drew w) fun v10n1 h2 =>
takeE (fun w6 => some (a1, w6)) (drew w) fun v12n4 h5 =>
takeE (fun w9 => qNil v12n4 w9) (drew w) fun v13n7 h8 =>
takeE (fun w12 => pFieldAddr P 113 v13n7 1 w12) (drew w) fun v14n10 h11 =>
takeE (fun w15 => pLoad P 76 v14n10 w15) (drew w) fun v15n13 h14 =>
takeE (fun w18 => pBuiltin P Builtin.len #[76] 3 [v15n13] w18) (drew w) fun v16n16 h17 =>
callE P 36 #[v10n1] (drew w) (fun v11n22 w23 =>
heldE [h17, h14, h11, h8, h5] w23 (takeE (fun w26 => pBin P BinOp.neq 3 false v11n22 v16n16 w26) w23 fun v17n24 h25 =>
takeE (fun w29 => some (v17n24, w29)) w23 fun v18n27 h28 =>
takeE (fun w32 => qGrd v18n27 false (fun w32 => some (a0, w32)) w32) w23 fun v19n30 h31 =>
takeE (fun w35 => qGrd v18n27 false (fun w35 => some (a1, w35)) w35) w23 fun v21n33 h34 =>
takeE (fun w38 => qGrd v18n27 false (fun w38 => qNil v21n33 w38) w38) w23 fun v22n36 h37 =>
takeE (fun w41 => qGrd v18n27 false (fun w41 => pFieldAddr P 113 v22n36 2 w41) w41) w23 fun v23n39 h40 =>
takeE (fun w44 => qGrd v18n27 false (fun w44 => pLoad P 43 v23n39 w44) w44) w23 fun v24n42 h43 =>
takeE (fun w47 => qGrd v18n27 false (fun w47 => pBuiltin P Builtin.len #[43] 3 [v24n42] w47) w47) w23 fun v25n45 h46 =>
grdE v18n27 false (fun (k49 : Value → World → Prop) => callE P 35 #[v19n30] w23 k49 (fun c50 w51 => ∀ (e48 : Env), R (.panicked c50) w51)) (fun v20n52 w53 =>
heldE [h46, h43, h40, h37, h34] w53 (takeE (fun w56 => qGrd v18n27 false (fun w56 => pBin P BinOp.neq 3 false v20n52 v25n45 w56) w56) w53 fun v26n54 h55 =>
takeE (fun w59 => qPick v18n27 (Value.bool true) v26n54 w59) w53 fun v27n57 h58 =>
takeE (fun w62 => some (v27n57, w62)) w53 fun v28n60 h61 =>
takeE (fun w65 => qGrd v28n60 false (fun w65 => some (a0, w65)) w65) w53 fun v29n63 h64 =>
takeE (fun w68 => qGrd v28n60 false (fun w68 => some (a1, w68)) w68) w53 fun v31n66 h67 =>
takeE (fun w71 => qGrd v28n60 false (fun w71 => qNil v31n66 w71) w71) w53 fun v32n69 h70 =>
takeE (fun w74 => qGrd v28n60 false (fun w74 => pFieldAddr P 113 v32n69 6 w74) w74) w53 fun v33n72 h73 =>
takeE (fun w77 => qGrd v28n60 false (fun w77 => pLoad P 3 v33n72 w77) w77) w53 fun v34n75 h76 =>
grdE v28n60 false (fun (k79 : Value → World → Prop) => callE P 43 #[v29n63] w53 k79 (fun c80 w81 => ∀ (e78 : Env), R (.panicked c80) w81)) (fun v30n82 w83 =>
heldE [h76, h73, h70, h67] w83 (takeE (fun w86 => qGrd v28n60 false (fun w86 => pBin P BinOp.neq 3 false v30n82 v34n75 w86) w86) w83 fun v35n84 h85 =>
takeE (fun w89 => qPick v28n60 (Value.bool true) v35n84 w89) w83 fun v36n87 h88 =>
takeE (fun w92 => some (v36n87, w92)) w83 fun v37n90 h91 =>
takeE (fun w95 => qGrd v37n90 false (fun w95 => some (a0, w95)) w95) w83 fun v38n93 h94 =>
takeE (fun w98 => qGrd v37n90 false (fun w98 => some (a1, w98)) w98) w83 fun v40n96 h97 =>
takeE (fun w101 => qGrd v37n90 false (fun w101 => qNil v40n96 w101) w101) w83 fun v41n99 h100 =>
takeE (fun w104 => qGrd v37n90 false (fun w104 => pFieldAddr P 113 v41n99 5 w104) w104) w83 fun v42n102 h103 =>
takeE (fun w107 => qGrd v37n90 false (fun w107 => pLoad P 4 v42n102 w107) w107) w83 fun v43n105 h106 =>
grdE v37n90 false (fun (k109 : Value → World → Prop) => callE P 34 #[v38n93] w83 k109 (fun c110 w111 => ∀ (e108 : Env), R (.panicked c110) w111)) (fun v39n112 w113 =>
heldE [h106, h103, h100, h97] w113 (takeE (fun w116 => qGrd v37n90 false (fun w116 => pBin P BinOp.neq 4 false v39n112 v43n105 w116) w116) w113 fun v44n114 h115 =>
takeE (fun w119 => qPick v37n90 (Value.bool true) v44n114 w119) w113 fun v45n117 h118 =>
condE v45n117 (fun (K120 : KT) =>
K120 .ret (Env.put (Env.put (Env.put (Env.put (Env.put (Env.put (Env.put (Env.put (Env.put (Env.put (Env.put (Env.put (Env.put (Env.put (Env.put (Env.put (Env.put (Env.put (Env.put (Env.put (Env.put (Env.put (Env.put (Env.put (Env.put (Env.put (Env.put (Env.put (Env.put (Env.put (Env.put (Env.put (Env.put (Env.put (Env.put (Env.put (Env.put (Env.put (argE [a0, a1]) 4 (Value.bool false)) 10 v10n1) 12 v12n4) 13 v13n7) 14 v14n10) 15 v15n13) 16 v16n16) 11 v11n22) 17 v17n24) 18 v18n27) 19 v19n30) 21 v21n33) 22 v22n36) 23 v23n39) 24 v24n42) 25 v25n45) 20 v20n52) 26 v26n54) 27 v27n57) 28 v28n60) 29 v29n63) 31 v31n66) 32 v32n69) 33 v33n72) 34 v34n75) 30 v30n82) 35 v35n84) 36 v36n87) 37 v37n90) 38 v38n93) 40 v40n96) 41 v41n99) 42 v42n102) 43 v43n105) 39 v39n112) 44 v44n114) 45 v45n117) 4 (Value.bool false)) w113) (fun (K120 : KT) =>
K120 .normal (Env.put (Env.put (Env.put (Env.put (Env.put (Env.put (Env.put (Env.put (Env.put (Env.put (Env.put (Env.put (Env.put (Env.put (Env.put (Env.put (Env.put (Env.put (Env.put (Env.put (Env.put (Env.put (Env.put (Env.put (Env.put (Env.put (Env.put (Env.put (Env.put (Env.put (Env.put (Env.put (Env.put (Env.put (Env.put (Env.put (Env.put (argE [a0, a1]) 4 (Value.bool false)) 10 v10n1) 12 v12n4) 13 v13n7) 14 v14n10) 15 v15n13) 16 v16n16) 11 v11n22) 17 v17n24) 18 v18n27) 19 v19n30) 21 v21n33) 22 v22n36) 23 v23n39) 24 v24n42) 25 v25n45) 20 v20n52) 26 v26n54) 27 v27n57) 28 v28n60) 29 v29n63) 31 v31n66) 32 v32n69) 33 v33n72) 34 v34n75) 30 v30n82) 35 v35n84) 36 v36n87) 37 v37n90) 38 v38n93) 40 v40n96) 41 v41n99) 42 v42n102) 43 v43n105) 39 v39n112) 44 v44n114) 45 v45n117) w113) (thenK (fun e121 w122 =>
callE P 36 #[(e121 0)] w122 (fun v47n125 w126 =>
loopE F39B0 (Env.put (Env.put (Env.put e121 46 (e121 0)) 47 v47n125) 48 (Value.int IntKind.i64 0)) w126 (blockK 0 (thenK (fun e171 w172 =>
R (.returned (Value.bool true)) w172) (topK P [(ResultVar.tmp 4)] R)))) (fun c123 w124 => R (.panicked c123) w124)) (topK P [(ResultVar.tmp 4)] R)))) w83)) w53)) w23)) (fun c20 w21 => ∀ (e19 : Env), R (.panicked c20) w21)
theorem F39ok {w : World} {R : Ending → World → Prop} {a0 : Value} {a1 : Value} (h : F39 a0 a1 w R) : Calls P 39 #[a0, a1] w R :=
  calls_of_ev bodies mixed (c := bodyOf Try.f39) (nt := 72) (rs := [(ResultVar.tmp 4)]) (args := [a0, a1]) (fn := Try.f39) (by kernel_rfl) (by kernel_rfl) (by kernel_rfl) (by kernel_rfl) (by kernel_rfl) (by simp)
    (eq_mp (show F39 a0 a1 w R = ev P C (bodyOf Try.f39) (argE [a0, a1]) w (topK P [(ResultVar.tmp 4)] R) by kernel_rfl) h)

/-! ### (*moiety/moietyref17.Disk).Write -/
def F67 (a0 : Value) (a1 : Value) (a2 : Value) (w : World) (R : Ending → World → Prop) : Prop :=
bindV (pBox P 25 a2 w) fun v5n1 w2 =>
callE P 71 #[a0, a1] w2 (fun v12n5 w6 =>
bindV (pExtract P v12n5 0 w6) fun v13n7 w8 =>
bindV (pExtract P v12n5 1 w8) fun v14n9 w10 =>
bindV (pAlloc P 25 w10) fun v7n11 w12 =>
bindU (pStore P 25 v7n11 v13n7 w12) fun w13 =>
bindV (pBin P BinOp.neq 3 true v14n9 (Value.int IntKind.i64 0) w13) fun v16n14 w15 =>
condE v16n14 (fun (K16 : KT) =>
K16 .ret (Env.put (Env.put (Env.put (Env.put (Env.put (Env.put (Env.put (Env.put (Env.put (Env.put (Env.put (Env.put (Env.put (Env.put (argE [a0, a1, a2]) 5 v5n1) 6 (Value.int IntKind.i64 0)) 10 a0) 11 a1) 12 v12n5) 9 v12n5) 13 v13n7) 14 v14n9) 7 v7n11) 8 v14n9) 15 v14n9) 16 v16n14) 17 v14n9) 6 v14n9) w15) (fun (K16 : KT) =>
K16 .normal (Env.put (Env.put (Env.put (Env.put (Env.put (Env.put (Env.put (Env.put (Env.put (Env.put (Env.put (Env.put (argE [a0, a1, a2]) 5 v5n1) 6 (Value.int IntKind.i64 0)) 10 a0) 11 a1) 12 v12n5) 9 v12n5) 13 v13n7) 14 v14n9) 7 v7n11) 8 v14n9) 15 v14n9) 16 v16n14) w15) (thenK (fun e17 w18 =>
takeE (fun w21 => some ((e17 0), w21)) (drew w18) fun v18n19 h20 =>
takeE (fun w24 => qNil v18n19 w24) (drew w18) fun v19n22 h23 =>
takeE (fun w27 => pFieldAddr P 113 v19n22 1 w27) (drew w18) fun v20n25 h26 =>
takeE (fun w30 => pLoad P 76 v20n25 w30) (drew w18) fun v21n28 h29 =>
takeE (fun w33 => some ((e17 1), w33)) (drew w18) fun v22n31 h32 =>
takeE (fun w36 => pLoad P 25 (e17 5) w36) (drew w18) fun v23n34 h35 =>
takeE (fun w39 => pIndexAddr P 76 v21n28 v22n31 w39) (drew w18) fun v24n37 h38 =>
bindU (pStore P 25 v24n37 v23n34 (drew w18)) fun w41 =>
nilE (e17 0) fun v27n42 =>
bindV (pFieldAddr P 113 v27n42 2 w41) fun v28n43 w44 =>
bindV (pLoad P 43 v28n43 w44) fun v29n45 w46 =>
bindV (pBuildSlice P 43 1 [(0, (e17 1))] w46) fun v31n47 w48 =>
bindV (pBuiltin P Builtin.append #[43, 43] 43 [v29n45, v31n47] w48) fun v32n49 w50 =>
nilE (e17 0) fun v33n51 =>
bindV (pFieldAddr P 113 v33n51 2 w50) fun v34n52 w53 =>
bindU (pStore P 43 v34n52 v32n49 w53) fun w54 =>
takeE (fun w57 => some ((e17 0), w57)) (drew w54) fun v35n55 h56 =>
takeE (fun w60 => some ((e17 0), w60)) (drew w54) fun v36n58 h59 =>
takeE (fun w63 => qNil v36n58 w63) (drew w54) fun v37n61 h62 =>
takeE (fun w66 => pFieldAddr P 113 v37n61 3 w66) (drew w54) fun v38n64 h65 =>
takeE (fun w69 => pLoad P 76 v38n64 w69) (drew w54) fun v39n67 h68 =>
takeE (fun w72 => pLoad P 25 (e17 5) w72) (drew w54) fun v40n70 h71 =>
bindV (pBuildSlice P 76 1 [(0, v40n70)] (drew w54)) fun v41n74 w75 =>
heldE [h68, h65, h62, h59, h56] w75 (bindV (pBuiltin P Builtin.append #[76, 76] 76 [v39n67, v41n74] w75) fun v42n77 w78 =>
heldE [h56] w78 (takeE (fun w81 => qNil v35n55 w81) w78 fun v43n79 h80 =>
takeE (fun w84 => pFieldAddr P 113 v43n79 3 w84) w78 fun v44n82 h83 =>
bindU (pStore P 76 v44n82 v42n77 w78) fun w86 =>
nilE (e17 0) fun v46n87 =>
bindV (pFieldAddr P 113 v46n87 6 w86) fun v47n88 w89 =>
bindV (pLoad P 3 v47n88 w89) fun v48n90 w91 =>
bindV (pBin P BinOp.add 3 true v48n90 (Value.int IntKind.i64 1) w91) fun v49n92 w93 =>
nilE (e17 0) fun v50n94 =>
bindV (pFieldAddr P 113 v50n94 6 w93) fun v51n95 w96 =>
bindU (pStore P 3 v51n95 v49n92 w96) fun w97 =>
nilE (e17 0) fun v53n98 =>
bindV (pFieldAddr P 113 v53n98 4 w97) fun v54n99 w100 =>
bindV (pLoad P 3 v54n99 w100) fun v55n101 w102 =>
bindV (pBin P BinOp.eql 3 true v55n101 (Value.int IntKind.i64 1) w102) fun v56n103 w104 =>
condE v56n103 (fun (K105 : KT) =>
nilE (e17 0) fun v58n106 =>
bindV (pFieldAddr P 113 v58n106 5 w104) fun v59n107 w108 =>
bindU (pStore P 4 v59n107 (Value.bool true) w108) fun w109 =>
K105 .normal (Env.put (Env.put (Env.put (Env.put (Env.put (Env.put (Env.put (Env.put (Env.put (Env.put (Env.put (Env.put (Env.put (Env.put (Env.put (Env.put (Env.put (Env.put (Env.put (Env.put (Env.put (Env.put (Env.put (Env.put (Env.put (Env.put (Env.put (Env.put (Env.put (Env.put (Env.put (Env.put (Env.put (Env.put (Env.put (Env.put (Env.put (Env.put (Env.put (Env.put (Env.put (Env.put e17 18 v18n19) 19 v19n22) 20 v20n25) 21 v21n28) 22 v22n31) 23 v23n34) 24 v24n37) 25 (e17 0)) 26 (e17 0)) 27 v27n42) 28 v28n43) 29 v29n45) 30 (e17 1)) 31 v31n47) 32 v32n49) 33 v33n51) 34 v34n52) 35 v35n55) 36 v36n58) 37 v37n61) 38 v38n64) 39 v39n67) 40 v40n70) 41 v41n74) 42 v42n77) 43 v43n79) 44 v44n82) 45 (e17 0)) 46 v46n87) 47 v47n88) 48 v48n90) 49 v49n92) 50 v50n94) 51 v51n95) 52 (e17 0)) 53 v53n98) 54 v54n99) 55 v55n101) 56 v56n103) 57 (e17 0)) 58 v58n106) 59 v59n107) w109) (fun (K105 : KT) =>
K105 .normal (Env.put (Env.put (Env.put (Env.put (Env.put (Env.put (Env.put (Env.put (Env.put (Env.put (Env.put (Env.put (Env.put (Env.put (Env.put (Env.put (Env.put (Env.put (Env.put (Env.put (Env.put (Env.put (Env.put (Env.put (Env.put (Env.put (Env.put (Env.put (Env.put (Env.put (Env.put (Env.put (Env.put (Env.put (Env.put (Env.put (Env.put (Env.put (Env.put e17 18 v18n19) 19 v19n22) 20 v20n25) 21 v21n28) 22 v22n31) 23 v23n34) 24 v24n37) 25 (e17 0)) 26 (e17 0)) 27 v27n42) 28 v28n43) 29 v29n45) 30 (e17 1)) 31 v31n47) 32 v32n49) 33 v33n51) 34 v34n52) 35 v35n55) 36 v36n58) 37 v37n61) 38 v38n64) 39 v39n67) 40 v40n70) 41 v41n74) 42 v42n77) 43 v43n79) 44 v44n82) 45 (e17 0)) 46 v46n87) 47 v47n88) 48 v48n90) 49 v49n92) 50 v50n94) 51 v51n95) 52 (e17 0)) 53 v53n98) 54 v54n99) 55 v55n101) 56 v56n103) w104) (thenK (fun e110 w111 =>
nilE (e110 0) fun v61n112 =>
bindV (pFieldAddr P 113 v61n112 4 w111) fun v62n113 w114 =>
bindV (pLoad P 3 v62n113 w114) fun v63n115 w116 =>
bindV (pBin P BinOp.gtr 3 true v63n115 (Value.int IntKind.i64 0) w116) fun v64n117 w118 =>
condE v64n117 (fun (K119 : KT) =>
nilE (e110 0) fun v66n120 =>
bindV (pFieldAddr P 113 v66n120 4 w118) fun v67n121 w122 =>
bindV (pLoad P 3 v67n121 w122) fun v68n123 w124 =>
bindV (pBin P BinOp.sub 3 true v68n123 (Value.int IntKind.i64 1) w124) fun v69n125 w126 =>
nilE (e110 0) fun v70n127 =>
bindV (pFieldAddr P 113 v70n127 4 w126) fun v71n128 w129 =>
bindU (pStore P 3 v71n128 v69n125 w129) fun w130 =>
K119 .normal (Env.put (Env.put (Env.put (Env.put (Env.put (Env.put (Env.put (Env.put (Env.put (Env.put (Env.put (Env.put e110 60 (e110 0)) 61 v61n112) 62 v62n113) 63 v63n115) 64 v64n117) 65 (e110 0)) 66 v66n120) 67 v67n121) 68 v68n123) 69 v69n125) 70 v70n127) 71 v71n128) w130) (fun (K119 : KT) =>
K119 .normal (Env.put (Env.put (Env.put (Env.put (Env.put e110 60 (e110 0)) 61 v61n112) 62 v62n113) 63 v63n115) 64 v64n117) w118) (thenK (fun e131 w132 =>
nilE (e131 0) fun v73n133 =>
bindV (pFieldAddr P 113 v73n133 5 w132) fun v74n134 w135 =>
bindV (pLoad P 4 v74n134 w135) fun v75n136 w137 =>
condE v75n136 (fun (K138 : KT) =>
K138 .ret (Env.put (Env.put (Env.put (Env.put (Env.put e131 72 (e131 0)) 73 v73n133) 74 v74n134) 75 v75n136) 6 (Value.int IntKind.i64 14)) w137) (fun (K138 : KT) =>
K138 .normal (Env.put (Env.put (Env.put (Env.put e131 72 (e131 0)) 73 v73n133) 74 v74n134) 75 v75n136) w137) (thenK (fun e139 w140 =>
R (.returned (Value.int IntKind.i64 0)) w140) (topK P [(ResultVar.tmp 6)] R))) (topK P [(ResultVar.tmp 6)] R))) (topK P [(ResultVar.tmp 6)] R))))) (topK P [(ResultVar.tmp 6)] R))) (fun c3 w4 => R (.panicked c3) w4)
theorem F67ok {w : World} {R : Ending → World → Prop} {a0 : Value} {a1 : Value} {a2 : Value} (h : F67 a0 a1 a2 w R) : Calls P 67 #[a0, a1, a2] w R :=
  calls_of_ev bodies mixed (c := bodyOf Try.f67) (nt := 76) (rs := [(ResultVar.tmp 6)]) (args := [a0, a1, a2]) (fn := Try.f67) (by kernel_rfl) (by kernel_rfl) (by kernel_rfl) (by kernel_rfl) (by kernel_rfl) (by simp)
    (eq_mp (show F67 a0 a1 a2 w R = ev P C (bodyOf Try.f67) (argE [a0, a1, a2]) w (topK P [(ResultVar.tmp 6)] R) by kernel_rfl) h)

/-! ### (*moiety/moietyref17.Disk).Sync -/
def F68B0 (e : Env) (w : World) (K : KT) : Prop :=
nilE (e 0) fun v10n9 =>
bindV (pFieldAddr P 113 v10n9 1 w) fun v11n10 w11 =>
bindV (pLoad P 76 v11n10 w11) fun v12n12 w13 =>
bindV (pBuiltin P Builtin.len #[76] 3 [v12n12] w13) fun v13n14 w15 =>
bindV (pBin P BinOp.lss 3 false (e 3) v13n14 w15) fun v14n16 w17 =>
condE v14n16 (fun (K18 : KT) =>
K18 .normal (Env.put (Env.put (Env.put (Env.put (Env.put (Env.put (Env.put e 8 (e 3)) 9 (e 0)) 10 v10n9) 11 v11n10) 12 v12n12) 13 v13n14) 14 v14n16) w17) (fun (K18 : KT) =>
K18 (.exit 0) (Env.put (Env.put (Env.put (Env.put (Env.put (Env.put (Env.put e 8 (e 3)) 9 (e 0)) 10 v10n9) 11 v11n10) 12 v12n12) 13 v13n14) 14 v14n16) w17) (thenK (fun e19 w20 =>
takeE (fun w23 => some ((e19 0), w23)) (drew w20) fun v17n21 h22 =>
takeE (fun w26 => qNil v17n21 w26) (drew w20) fun v18n24 h25 =>
takeE (fun w29 => pFieldAddr P 113 v18n24 0 w29) (drew w20) fun v19n27 h28 =>
takeE (fun w32 => pLoad P 76 v19n27 w32) (drew w20) fun v20n30 h31 =>
takeE (fun w35 => some ((e19 3), w35)) (drew w20) fun v21n33 h34 =>
takeE (fun w38 => some ((e19 0), w38)) (drew w20) fun v22n36 h37 =>
takeE (fun w41 => qNil v22n36 w41) (drew w20) fun v23n39 h40 =>
takeE (fun w44 => pFieldAddr P 113 v23n39 1 w44) (drew w20) fun v24n42 h43 =>
takeE (fun w47 => pLoad P 76 v24n42 w47) (drew w20) fun v25n45 h46 =>
takeE (fun w50 => some ((e19 3), w50)) (drew w20) fun v26n48 h49 =>
takeE (fun w53 => pIndexAddr P 76 v25n45 v26n48 w53) (drew w20) fun v27n51 h52 =>
takeE (fun w56 => pLoad P 25 v27n51 w56) (drew w20) fun v28n54 h55 =>
takeE (fun w59 => pIndexAddr P 76 v20n30 v21n33 w59) (drew w20) fun v29n57 h58 =>
bindU (pStore P 25 v29n57 v28n54 (drew w20)) fun w61 =>
bindV (pBin P BinOp.add 3 true (e19 3) (Value.int IntKind.i64 1) w61) fun v16n62 w63 =>
K .normal (Env.put (Env.put (Env.put (Env.put (Env.put (Env.put (Env.put (Env.put (Env.put (Env.put (Env.put (Env.put (Env.put (Env.put (Env.put (Env.put e19 17 v17n21) 18 v18n24) 19 v19n27) 20 v20n30) 21 v21n33) 22 v22n36) 23 v23n39) 24 v24n42) 25 v25n45) 26 v26n48) 27 v27n51) 28 v28n54) 29 v29n57) 15 (e19 3)) 16 v16n62) 3 v16n62) w63) K)
def F68 (a0 : Value) (w : World) (R : Ending → World → Prop) : Prop :=
nilE a0 fun v5n1 =>
bindV (pFieldAddr P 113 v5n1 5 w) fun v6n2 w3 =>
bindV (pLoad P 4 v6n2 w3) fun v7n4 w5 =>
condE v7n4 (fun (K6 : KT) =>
K6 .ret (Env.put (Env.put (Env.put (Env.put (Env.put (Env.put (argE [a0]) 2 (Value.int IntKind.i64 0)) 4 a0) 5 v5n1) 6 v6n2) 7 v7n4) 2 (Value.int IntKind.i64 14)) w5) (fun (K6 : KT) =>
K6 .normal (Env.put (Env.put (Env.put (Env.put (Env.put (argE [a0]) 2 (Value.int IntKind.i64 0)) 4 a0) 5 v5n1) 6 v6n2) 7 v7n4) w5) (thenK (fun e7 w8 =>
loopE F68B0 (Env.put e7 3 (Value.int IntKind.i64 0)) w8 (blockK 0 (thenK (fun e64 w65 =>
nilE (e64 0) fun v31n66 =>
bindV (pFieldAddr P 113 v31n66 2 w65) fun v32n67 w68 =>
bindU (pStore P 43 v32n67 (Value.slice none 0 0) w68) fun w69 =>
nilE (e64 0) fun v34n70 =>
bindV (pFieldAddr P 113 v34n70 3 w69) fun v35n71 w72 =>
bindU (pStore P 76 v35n71 (Value.slice none 0 0) w72) fun w73 =>
R (.returned (Value.int IntKind.i64 0)) w73) (topK P [(ResultVar.tmp 2)] R)))) (topK P [(ResultVar.tmp 2)] R))
theorem F68ok {w : World} {R : Ending → World → Prop} {a0 : Value} (h : F68 a0 w R) : Calls P 68 #[a0] w R :=
  calls_of_ev bodies mixed (c := bodyOf Try.f68) (nt := 36) (rs := [(ResultVar.tmp 2)]) (args := [a0]) (fn := Try.f68) (by kernel_rfl) (by kernel_rfl) (by kernel_rfl) (by kernel_rfl) (by kernel_rfl) (by simp)
    (eq_mp (show F68 a0 w R = ev P C (bodyOf Try.f68) (argE [a0]) w (topK P [(ResultVar.tmp 2)] R) by kernel_rfl) h)

/-! ### (*moiety/moietyref17.Disk).Break -/
def F69 (a0 : Value) (a1 : Value) (w : World) (R : Ending → World → Prop) : Prop :=
nilE a0 fun v6n1 =>
bindV (pFieldAddr P 113 v6n1 4 w) fun v7n2 w3 =>
bindU (pStore P 3 v7n2 a1 w3) fun w4 =>
bindV (pBin P BinOp.lss 3 true a1 (Value.int IntKind.i64 0) w4) fun v9n5 w6 =>
condE v9n5 (fun (K7 : KT) =>
nilE a0 fun v11n8 =>
bindV (pFieldAddr P 113 v11n8 4 w6) fun v12n9 w10 =>
bindU (pStore P 3 v12n9 (Value.int IntKind.i64 0) w10) fun w11 =>
K7 .normal (Env.put (Env.put (Env.put (Env.put (Env.put (Env.put (Env.put (Env.put (Env.put (argE [a0, a1]) 4 a0) 5 a1) 6 v6n1) 7 v7n2) 8 a1) 9 v9n5) 10 a0) 11 v11n8) 12 v12n9) w11) (fun (K7 : KT) =>
K7 .normal (Env.put (Env.put (Env.put (Env.put (Env.put (Env.put (argE [a0, a1]) 4 a0) 5 a1) 6 v6n1) 7 v7n2) 8 a1) 9 v9n5) w6) (topK P [] R)
theorem F69ok {w : World} {R : Ending → World → Prop} {a0 : Value} {a1 : Value} (h : F69 a0 a1 w R) : Calls P 69 #[a0, a1] w R :=
  calls_of_ev bodies mixed (c := bodyOf Try.f69) (nt := 13) (rs := []) (args := [a0, a1]) (fn := Try.f69) (by kernel_rfl) (by kernel_rfl) (by kernel_rfl) (by kernel_rfl) (by kernel_rfl) (by simp)
    (eq_mp (show F69 a0 a1 w R = ev P C (bodyOf Try.f69) (argE [a0, a1]) w (topK P [] R) by kernel_rfl) h)

/-! ### (*moiety/moietyref17.Disk).Crash -/
def F70B2 (e : Env) (w : World) (K : KT) : Prop :=
nilE (e 0) fun v57n123 =>
bindV (pFieldAddr P 113 v57n123 1 w) fun v58n124 w125 =>
bindV (pLoad P 76 v58n124 w125) fun v59n126 w127 =>
bindV (pBuiltin P Builtin.len #[76] 3 [v59n126] w127) fun v60n128 w129 =>
bindV (pBin P BinOp.lss 3 false (e 6) v60n128 w129) fun v61n130 w131 =>
condE v61n130 (fun (K132 : KT) =>
K132 .normal (Env.put (Env.put (Env.put (Env.put (Env.put (Env.put (Env.put e 55 (e 6)) 56 (e 0)) 57 v57n123) 58 v58n124) 59 v59n126) 60 v60n128) 61 v61n130) w131) (fun (K132 : KT) =>
K132 (.exit 4) (Env.put (Env.put (Env.put (Env.put (Env.put (Env.put (Env.put e 55 (e 6)) 56 (e 0)) 57 v57n123) 58 v58n124) 59 v59n126) 60 v60n128) 61 v61n130) w131) (thenK (fun e133 w134 =>
takeE (fun w137 => some ((e133 0), w137)) (drew w134) fun v64n135 h136 =>
takeE (fun w140 => qNil v64n135 w140) (drew w134) fun v65n138 h139 =>
takeE (fun w143 => pFieldAddr P 113 v65n138 1 w143) (drew w134) fun v66n141 h142 =>
takeE (fun w146 => pLoad P 76 v66n141 w146) (drew w134) fun v67n144 h145 =>
takeE (fun w149 => some ((e133 6), w149)) (drew w134) fun v68n147 h148 =>
takeE (fun w152 => some ((e133 0), w152)) (drew w134) fun v69n150 h151 =>
takeE (fun w155 => qNil v69n150 w155) (drew w134) fun v70n153 h154 =>
takeE (fun w158 => pFieldAddr P 113 v70n153 0 w158) (drew w134) fun v71n156 h157 =>
takeE (fun w161 => pLoad P 76 v71n156 w161) (drew w134) fun v72n159 h160 =>
takeE (fun w164 => some ((e133 6), w164)) (drew w134) fun v73n162 h163 =>
takeE (fun w167 => pIndexAddr P 76 v72n159 v73n162 w167) (drew w134) fun v74n165 h166 =>
takeE (fun w170 => pLoad P 25 v74n165 w170) (drew w134) fun v75n168 h169 =>
takeE (fun w173 => pIndexAddr P 76 v67n144 v68n147 w173) (drew w134) fun v76n171 h172 =>
bindU (pStore P 25 v76n171 v75n168 (drew w134)) fun w175 =>
bindV (pBin P BinOp.add 3 true (e133 6) (Value.int IntKind.i64 1) w175) fun v63n176 w177 =>
K .normal (Env.put (Env.put (Env.put (Env.put (Env.put (Env.put (Env.put (Env.put (Env.put (Env.put (Env.put (Env.put (Env.put (Env.put (Env.put (Env.put e133 64 v64n135) 65 v65n138) 66 v66n141) 67 v67n144) 68 v68n147) 69 v69n150) 70 v70n153) 71 v71n156) 72 v72n159) 73 v73n162) 74 v74n165) 75 v75n168) 76 v76n171) 62 (e133 6)) 63 v63n176) 6 v63n176) w177) K)
def F70B1 (e : Env) (w : World) (K : KT) : Prop :=
bindV (pBin P BinOp.lss 3 true (e 5) (Value.int IntKind.i64 64) w) fun v17n13 w14 =>
condE v17n13 (fun (K15 : KT) =>
K15 .normal (Env.put (Env.put e 16 (e 5)) 17 v17n13) w14) (fun (K15 : KT) =>
K15 (.exit 2) (Env.put (Env.put e 16 (e 5)) 17 v17n13) w14) (thenK (fun e16 w17 =>
bindV (pBuiltin P Builtin.len #[43] 3 [(e16 1)] w17) fun v22n18 w19 =>
bindV (pBin P BinOp.lss 3 false (e16 4) v22n18 w19) fun v23n20 w21 =>
grdE v23n20 true (fun (k22 : Value → World → Prop) => k22 (e16 5) w21) (fun v25n23 w24 =>
grdE v23n20 true (fun (k25 : Value → World → Prop) => k25 (e16 1) w24) (fun v26n26 w27 =>
grdE v23n20 true (fun (k28 : Value → World → Prop) => k28 (e16 4) w27) (fun v27n29 w30 =>
grdE v23n20 true (fun (k31 : Value → World → Prop) => bindV (pIndexAddr P 43 v26n26 v27n29 w30) k31) (fun v28n32 w33 =>
grdE v23n20 true (fun (k34 : Value → World → Prop) => bindV (pLoad P 3 v28n32 w33) k34) (fun v29n35 w36 =>
grdE v23n20 true (fun (k37 : Value → World → Prop) => bindV (pBin P BinOp.lss 3 false v25n23 v29n35 w36) k37) (fun v30n38 w39 =>
pickE v23n20 v30n38 (Value.bool false) fun v31n40 =>
condE v31n40 (fun (K41 : KT) =>
takeE (fun w44 => some ((e16 0), w44)) (drew w39) fun v32n42 h43 =>
takeE (fun w47 => qNil v32n42 w47) (drew w39) fun v33n45 h46 =>
takeE (fun w50 => pFieldAddr P 113 v33n45 0 w50) (drew w39) fun v34n48 h49 =>
takeE (fun w53 => pLoad P 76 v34n48 w53) (drew w39) fun v35n51 h52 =>
takeE (fun w56 => some ((e16 0), w56)) (drew w39) fun v36n54 h55 =>
takeE (fun w59 => qNil v36n54 w59) (drew w39) fun v37n57 h58 =>
takeE (fun w62 => pFieldAddr P 113 v37n57 2 w62) (drew w39) fun v38n60 h61 =>
takeE (fun w65 => pLoad P 43 v38n60 w65) (drew w39) fun v39n63 h64 =>
takeE (fun w68 => some ((e16 4), w68)) (drew w39) fun v40n66 h67 =>
takeE (fun w71 => pIndexAddr P 43 v39n63 v40n66 w71) (drew w39) fun v41n69 h70 =>
takeE (fun w74 => pLoad P 3 v41n69 w74) (drew w39) fun v42n72 h73 =>
takeE (fun w77 => some ((e16 5), w77)) (drew w39) fun v43n75 h76 =>
takeE (fun w80 => some ((e16 0), w80)) (drew w39) fun v44n78 h79 =>
takeE (fun w83 => qNil v44n78 w83) (drew w39) fun v45n81 h82 =>
takeE (fun w86 => pFieldAddr P 113 v45n81 3 w86) (drew w39) fun v46n84 h85 =>
takeE (fun w89 => pLoad P 76 v46n84 w89) (drew w39) fun v47n87 h88 =>
takeE (fun w92 => some ((e16 4), w92)) (drew w39) fun v48n90 h91 =>
takeE (fun w95 => some ((e16 5), w95)) (drew w39) fun v49n93 h94 =>
takeE (fun w98 => pIndexAddr P 76 v47n87 v48n90 w98) (drew w39) fun v50n96 h97 =>
takeE (fun w101 => pIndexAddr P 25 v50n96 v49n93 w101) (drew w39) fun v51n99 h100 =>
takeE (fun w104 => pLoad P 5 v51n99 w104) (drew w39) fun v52n102 h103 =>
takeE (fun w107 => pIndexAddr P 76 v35n51 v42n72 w107) (drew w39) fun v53n105 h106 =>
takeE (fun w110 => pIndexAddr P 25 v53n105 v43n75 w110) (drew w39) fun v54n108 h109 =>
bindU (pStore P 5 v54n108 v52n102 (drew w39)) fun w112 =>
K41 .normal (Env.put (Env.put (Env.put (Env.put (Env.put (Env.put (Env.put (Env.put (Env.put (Env.put (Env.put (Env.put (Env.put (Env.put (Env.put (Env.put (Env.put (Env.put (Env.put (Env.put (Env.put (Env.put (Env.put (Env.put (Env.put (Env.put (Env.put (Env.put (Env.put (Env.put (Env.put (Env.put (Env.put (Env.put (Env.put e16 20 (e16 4)) 21 (e16 1)) 22 v22n18) 23 v23n20) 24 v23n20) 25 v25n23) 26 v26n26) 27 v27n29) 28 v28n32) 29 v29n35) 30 v30n38) 31 v31n40) 32 v32n42) 33 v33n45) 34 v34n48) 35 v35n51) 36 v36n54) 37 v37n57) 38 v38n60) 39 v39n63) 40 v40n66) 41 v41n69) 42 v42n72) 43 v43n75) 44 v44n78) 45 v45n81) 46 v46n84) 47 v47n87) 48 v48n90) 49 v49n93) 50 v50n96) 51 v51n99) 52 v52n102) 53 v53n105) 54 v54n108) w112) (fun (K41 : KT) =>
K41 .normal (Env.put (Env.put (Env.put (Env.put (Env.put (Env.put (Env.put (Env.put (Env.put (Env.put (Env.put (Env.put e16 20 (e16 4)) 21 (e16 1)) 22 v22n18) 23 v23n20) 24 v23n20) 25 v25n23) 26 v26n26) 27 v27n29) 28 v28n32) 29 v29n35) 30 v30n38) 31 v31n40) w39) (blockK 3 (thenK (fun e113 w114 =>
bindV (pBin P BinOp.add 3 true (e113 5) (Value.int IntKind.i64 1) w114) fun v19n115 w116 =>
K .normal (Env.put (Env.put (Env.put e113 18 (e113 5)) 19 v19n115) 5 v19n115) w116) K))) w36) w33) w30) w27) w24) w21) K)
def F70B0 (e : Env) (w : World) (K : KT) : Prop :=
nilE (e 0) fun v9n1 =>
bindV (pFieldAddr P 113 v9n1 2 w) fun v10n2 w3 =>
bindV (pLoad P 43 v10n2 w3) fun v11n4 w5 =>
bindV (pBuiltin P Builtin.len #[43] 3 [v11n4] w5) fun v12n6 w7 =>
bindV (pBin P BinOp.lss 3 false (e 4) v12n6 w7) fun v13n8 w9 =>
condE v13n8 (fun (K10 : KT) =>
K10 .normal (Env.put (Env.put (Env.put (Env.put (Env.put (Env.put (Env.put e 7 (e 4)) 8 (e 0)) 9 v9n1) 10 v10n2) 11 v11n4) 12 v12n6) 13 v13n8) w9) (fun (K10 : KT) =>
K10 (.exit 0) (Env.put (Env.put (Env.put (Env.put (Env.put (Env.put (Env.put e 7 (e 4)) 8 (e 0)) 9 v9n1) 10 v10n2) 11 v11n4) 12 v12n6) 13 v13n8) w9) (thenK (fun e11 w12 =>
loopE F70B1 (Env.put e11 5 (Value.int IntKind.i64 0)) w12 (blockK 2 (blockK 1 (thenK (fun e117 w118 =>
bindV (pBin P BinOp.add 3 true (e117 4) (Value.int IntKind.i64 1) w118) fun v15n119 w120 =>
K .normal (Env.put (Env.put (Env.put e117 14 (e117 4)) 15 v15n119) 4 v15n119) w120) K)))) K)
def F70 (a0 : Value) (a1 : Value) (w : World) (R : Ending → World → Prop) : Prop :=
loopE F70B0 (Env.put (argE [a0, a1]) 4 (Value.int IntKind.i64 0)) w (blockK 0 (thenK (fun e121 w122 =>
loopE F70B2 (Env.put e121 6 (Value.int IntKind.i64 0)) w122 (blockK 4 (thenK (fun e178 w179 =>
nilE (e178 0) fun v78n180 =>
bindV (pFieldAddr P 113 v78n180 2 w179) fun v79n181 w182 =>
bindU (pStore P 43 v79n181 (Value.slice none 0 0) w182) fun w183 =>
nilE (e178 0) fun v81n184 =>
bindV (pFieldAddr P 113 v81n184 3 w183) fun v82n185 w186 =>
bindU (pStore P 76 v82n185 (Value.slice none 0 0) w186) fun w187 =>
nilE (e178 0) fun v84n188 =>
bindV (pFieldAddr P 113 v84n188 4 w187) fun v85n189 w190 =>
bindU (pStore P 3 v85n189 (Value.int IntKind.i64 0) w190) fun w191 =>
nilE (e178 0) fun v87n192 =>
bindV (pFieldAddr P 113 v87n192 5 w191) fun v88n193 w194 =>
bindU (pStore P 4 v88n193 (Value.bool false) w194) fun w195 =>
R (.returned (.tuple #[])) w195) (topK P [] R)))) (topK P [] R)))
theorem F70ok {w : World} {R : Ending → World → Prop} {a0 : Value} {a1 : Value} (h : F70 a0 a1 w R) : Calls P 70 #[a0, a1] w R :=
  calls_of_ev bodies mixed (c := bodyOf Try.f70) (nt := 89) (rs := []) (args := [a0, a1]) (fn := Try.f70) (by kernel_rfl) (by kernel_rfl) (by kernel_rfl) (by kernel_rfl) (by kernel_rfl) (by simp)
    (eq_mp (show F70 a0 a1 w R = ev P C (bodyOf Try.f70) (argE [a0, a1]) w (topK P [] R) by kernel_rfl) h)

/-! ### (*moiety/moietyref17.Disk).Read -/
def F71 (a0 : Value) (a1 : Value) (w : World) (R : Ending → World → Prop) : Prop :=
bindV (pAlloc P 25 w) fun v4n1 w2 =>
nilE a0 fun v7n3 =>
bindV (pFieldAddr P 113 v7n3 5 w2) fun v8n4 w5 =>
bindV (pLoad P 4 v8n4 w5) fun v9n6 w7 =>
condE v9n6 (fun (K8 : KT) =>
bindV (pBuild P 25 [] w7) fun v10n9 w10 =>
bindU (pStore P 25 v4n1 v10n9 w10) fun w11 =>
K8 .ret (Env.put (Env.put (Env.put (Env.put (Env.put (Env.put (Env.put (Env.put (argE [a0, a1]) 4 v4n1) 5 (Value.int IntKind.i64 0)) 6 a0) 7 v7n3) 8 v8n4) 9 v9n6) 10 v10n9) 5 (Value.int IntKind.i64 14)) w11) (fun (K8 : KT) =>
K8 .normal (Env.put (Env.put (Env.put (Env.put (Env.put (Env.put (argE [a0, a1]) 4 v4n1) 5 (Value.int IntKind.i64 0)) 6 a0) 7 v7n3) 8 v8n4) 9 v9n6) w7) (thenK (fun e12 w13 =>
bindV (pBin P BinOp.lss 3 true (e12 1) (Value.int IntKind.i64 0) w13) fun v12n14 w15 =>
grdE v12n14 false (fun (k16 : Value → World → Prop) => k16 (e12 1) w15) (fun v14n17 w18 =>
grdE v12n14 false (fun (k19 : Value → World → Prop) => k19 (e12 0) w18) (fun v15n20 w21 =>
grdE v12n14 false (fun (k22 : Value → World → Prop) => nilE v15n20 fun v16n23 =>
k22 v16n23 w21) (fun v16n24 w25 =>
grdE v12n14 false (fun (k26 : Value → World → Prop) => bindV (pFieldAddr P 113 v16n24 1 w25) k26) (fun v17n27 w28 =>
grdE v12n14 false (fun (k29 : Value → World → Prop) => bindV (pLoad P 76 v17n27 w28) k29) (fun v18n30 w31 =>
grdE v12n14 false (fun (k32 : Value → World → Prop) => bindV (pBuiltin P Builtin.len #[76] 3 [v18n30] w31) k32) (fun v19n33 w34 =>
grdE v12n14 false (fun (k35 : Value → World → Prop) => bindV (pBin P BinOp.geq 3 false v14n17 v19n33 w34) k35) (fun v20n36 w37 =>
pickE v12n14 (Value.bool true) v20n36 fun v21n38 =>
condE v21n38 (fun (K39 : KT) =>
bindV (pBuild P 25 [] w37) fun v22n40 w41 =>
bindU (pStore P 25 (e12 4) v22n40 w41) fun w42 =>
K39 .ret (Env.put (Env.put (Env.put (Env.put (Env.put (Env.put (Env.put (Env.put (Env.put (Env.put (Env.put (Env.put (Env.put e12 11 (e12 1)) 12 v12n14) 13 v12n14) 14 v14n17) 15 v15n20) 16 v16n24) 17 v17n27) 18 v18n30) 19 v19n33) 20 v20n36) 21 v21n38) 22 v22n40) 5 (Value.int IntKind.i64 1)) w42) (fun (K39 : KT) =>
K39 .normal (Env.put (Env.put (Env.put (Env.put (Env.put (Env.put (Env.put (Env.put (Env.put (Env.put (Env.put e12 11 (e12 1)) 12 v12n14) 13 v12n14) 14 v14n17) 15 v15n20) 16 v16n24) 17 v17n27) 18 v18n30) 19 v19n33) 20 v20n36) 21 v21n38) w37) (thenK (fun e43 w44 =>
nilE (e43 0) fun v24n45 =>
bindV (pFieldAddr P 113 v24n45 1 w44) fun v25n46 w47 =>
bindV (pLoad P 76 v25n46 w47) fun v26n48 w49 =>
bindV (pIndexAddr P 76 v26n48 (e43 1) w49) fun v28n50 w51 =>
bindV (pLoad P 25 v28n50 w51) fun v29n52 w53 =>
bindU (pStore P 25 (e43 4) v29n52 w53) fun w54 =>
topK P [(ResultVar.cell 4 25), (ResultVar.tmp 5)] R .ret (Env.put (Env.put (Env.put (Env.put (Env.put (Env.put (Env.put (Env.put e43 23 (e43 0)) 24 v24n45) 25 v25n46) 26 v26n48) 27 (e43 1)) 28 v28n50) 29 v29n52) 5 (Value.int IntKind.i64 0)) w54) (topK P [(ResultVar.cell 4 25), (ResultVar.tmp 5)] R))) w34) w31) w28) w25) w21) w18) w15) (topK P [(ResultVar.cell 4 25), (ResultVar.tmp 5)] R))
theorem F71ok {w : World} {R : Ending → World → Prop} {a0 : Value} {a1 : Value} (h : F71 a0 a1 w R) : Calls P 71 #[a0, a1] w R :=
  calls_of_ev bodies mixed (c := bodyOf Try.f71) (nt := 30) (rs := [(ResultVar.cell 4 25), (ResultVar.tmp 5)]) (args := [a0, a1]) (fn := Try.f71) (by kernel_rfl) (by kernel_rfl) (by kernel_rfl) (by kernel_rfl) (by kernel_rfl) (by simp)
    (eq_mp (show F71 a0 a1 w R = ev P C (bodyOf Try.f71) (argE [a0, a1]) w (topK P [(ResultVar.cell 4 25), (ResultVar.tmp 5)] R) by kernel_rfl) h)

end Go.Proofs.Yticncfkpfpkfoaa
