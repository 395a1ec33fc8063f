/- The functions' residual programs, printed by gen.py. -/
import Derived.Test.YticncfkpfpkfoaaBase
namespace Go.Proofs.Yticncfkpfpkfoaa
open Go
/-! ### moiety/moietylaw18.SealTorn -/
def F9 (a0 : Value) (a1 : Value) (w : World) (R : Ending → World → Prop) : Prop :=
callE P 20 #[] w (fun v17n3 w4 =>
bindV (pUn P UnOp.not v17n3 w4) fun v18n5 w6 =>
condE v18n5 (fun (K7 : KT) =>
K7 .ret (Env.put (Env.put (Env.put (Env.put (argE [a0, a1]) 4 (Value.bool false)) 17 v17n3) 18 v18n5) 4 (Value.bool false)) w6) (fun (K7 : KT) =>
K7 .normal (Env.put (Env.put (Env.put (argE [a0, a1]) 4 (Value.bool false)) 17 v17n3) 18 v18n5) w6) (thenK (fun e8 w9 =>
callE P 21 #[(e8 0)] w9 (fun v21n12 w13 =>
bindV (pExtract P v21n12 0 w13) fun v22n14 w15 =>
bindV (pExtract P v21n12 1 w15) fun v23n16 w17 =>
bindV (pAlloc P 25 w17) fun v5n18 w19 =>
bindU (pStore P 25 v5n18 v22n14 w19) fun w20 =>
bindV (pBin P BinOp.neq 26 true v23n16 (Value.int IntKind.i64 0) w20) fun v25n21 w22 =>
condE v25n21 (fun (K23 : KT) =>
K23 .ret (Env.put (Env.put (Env.put (Env.put (Env.put (Env.put (Env.put (Env.put (Env.put (Env.put e8 20 (e8 0)) 21 v21n12) 19 v21n12) 22 v22n14) 23 v23n16) 5 v5n18) 6 v23n16) 24 v23n16) 25 v25n21) 4 (Value.bool true)) w22) (fun (K23 : KT) =>
K23 .normal (Env.put (Env.put (Env.put (Env.put (Env.put (Env.put (Env.put (Env.put (Env.put e8 20 (e8 0)) 21 v21n12) 19 v21n12) 22 v22n14) 23 v23n16) 5 v5n18) 6 v23n16) 24 v23n16) 25 v25n21) w22) (thenK (fun e24 w25 =>
callE P 27 #[(Value.int IntKind.i64 2)] w25 (fun v27n28 w29 =>
bindV (pExtract P v27n28 0 w29) fun v28n30 w31 =>
bindV (pExtract P v27n28 1 w31) fun v29n32 w33 =>
bindV (pLoad P 25 (e24 5) w33) fun v31n34 w35 =>
callE P 28 #[v28n30, (Value.int IntKind.i64 0), v31n34] w35 (fun v32n38 w39 =>
callE P 29 #[v28n30] w39 (fun v34n42 w43 =>
bindV (pBuild P 25 [] w43) fun v36n44 w45 =>
callE P 28 #[v28n30, (Value.int IntKind.i64 0), v36n44] w45 (fun v37n48 w49 =>
bindV (pLoad P 25 (e24 5) w49) fun v39n50 w51 =>
callE P 28 #[v28n30, (Value.int IntKind.i64 1), v39n50] w51 (fun v40n54 w55 =>
bindV (pBuildSlice P 43 2 [(0, (e24 1)), (1, (e24 1))] w55) fun v44n56 w57 =>
callE P 30 #[v28n30, v44n56] w57 (fun v45n60 w61 =>
callE P 31 #[v28n30, (Value.int IntKind.i64 0)] w61 (fun v48n64 w65 =>
bindV (pExtract P v48n64 0 w65) fun v49n66 w67 =>
bindV (pExtract P v48n64 1 w67) fun v50n68 w69 =>
bindV (pAlloc P 25 w69) fun v9n70 w71 =>
bindU (pStore P 25 v9n70 v49n66 w71) fun w72 =>
callE P 31 #[v28n30, (Value.int IntKind.i64 1)] w72 (fun v53n75 w76 =>
bindV (pExtract P v53n75 0 w76) fun v54n77 w78 =>
bindV (pExtract P v53n75 1 w78) fun v55n79 w80 =>
bindV (pAlloc P 25 w80) fun v11n81 w82 =>
bindU (pStore P 25 v11n81 v54n77 w82) fun w83 =>
bindV (pLoad P 25 v9n70 w83) fun v57n84 w85 =>
callE P 23 #[v57n84] w85 (fun v58n88 w89 =>
bindV (pExtract P v58n88 0 w89) fun v59n90 w91 =>
bindV (pExtract P v58n88 1 w91) fun v60n92 w93 =>
bindV (pLoad P 25 v11n81 w93) fun v62n94 w95 =>
callE P 23 #[v62n94] w95 (fun v63n98 w99 =>
bindV (pExtract P v63n98 0 w99) fun v64n100 w101 =>
bindV (pExtract P v63n98 1 w101) fun v65n102 w103 =>
bindV (pBin P BinOp.lss 3 true (e24 1) (Value.int IntKind.i64 1) w103) fun v68n104 w105 =>
bindV (pBin P BinOp.eql 4 false v60n92 v68n104 w105) fun v69n106 w107 =>
grdE v69n106 true (fun (k108 : Value → World → Prop) => k108 v65n102 w107) (fun v71n109 w110 =>
grdE v69n106 true (fun (k111 : Value → World → Prop) => k111 (e24 1) w110) (fun v72n112 w113 =>
grdE v69n106 true (fun (k114 : Value → World → Prop) => bindV (pBin P BinOp.gtr 3 true v72n112 (Value.int IntKind.i64 63) w113) k114) (fun v73n115 w116 =>
grdE v69n106 true (fun (k117 : Value → World → Prop) => bindV (pBin P BinOp.eql 4 false v71n109 v73n115 w116) k117) (fun v74n118 w119 =>
pickE v69n106 v74n118 (Value.bool false) fun v75n120 =>
R (.returned v75n120) w119) w116) w113) w110) w107) (fun c96 w97 => R (.panicked c96) w97)) (fun c86 w87 => R (.panicked c86) w87)) (fun c73 w74 => R (.panicked c73) w74)) (fun c62 w63 => R (.panicked c62) w63)) (fun c58 w59 => R (.panicked c58) w59)) (fun c52 w53 => R (.panicked c52) w53)) (fun c46 w47 => R (.panicked c46) w47)) (fun c40 w41 => R (.panicked c40) w41)) (fun c36 w37 => R (.panicked c36) w37)) (fun c26 w27 => R (.panicked c26) w27)) (topK P [(ResultVar.tmp 4)] R))) (fun c10 w11 => R (.panicked c10) w11)) (topK P [(ResultVar.tmp 4)] R))) (fun c1 w2 => R (.panicked c1) w2)
theorem F9ok {w : World} {R : Ending → World → Prop} {a0 : Value} {a1 : Value} (h : F9 a0 a1 w R) : Calls P 9 #[a0, a1] w R :=
  calls_of_ev bodies mixed (c := bodyOf Try.f9) (nt := 76) (rs := [(ResultVar.tmp 4)]) (args := [a0, a1]) (fn := Try.f9) (by kernel_rfl) (by kernel_rfl) (by kernel_rfl) (by kernel_rfl) (by kernel_rfl) (by simp)
    (eq_mp (show F9 a0 a1 w R = ev P C (bodyOf Try.f9) (argE [a0, a1]) w (topK P [(ResultVar.tmp 4)] R) by kernel_rfl) h)

/-! ### moiety/moietylaw18.SealBreaks -/
def F10B0 (e : Env) (w : World) (K : KT) : Prop :=
bindV (pBin P BinOp.lss 3 false (e 26) (e 25) w) fun v27n30 w31 =>
condE v27n30 (fun (K32 : KT) =>
K32 .normal (Env.put e 27 v27n30) w31) (fun (K32 : KT) =>
K32 (.exit 0) (Env.put e 27 v27n30) w31) (thenK (fun e33 w34 =>
bindV (pBuild P 25 [(9, (Value.int IntKind.u8 1))] w34) fun v31n35 w36 =>
callE P 28 #[(e33 7), (e33 26), v31n35] w36 (fun v32n39 w40 =>
bindV (pBin P BinOp.add 3 true (e33 26) (Value.int IntKind.i64 1) w40) fun v33n41 w42 =>
K .normal (Env.put (Env.put (Env.put (Env.put (Env.put (Env.put (Env.put (Env.put e33 28 (e33 26)) 9 (e33 26)) 29 (e33 7)) 30 (e33 26)) 31 v31n35) 32 v32n39) 33 v33n41) 26 v33n41) w42) (fun c37 w38 => K (.panic c37) (Env.put (Env.put (Env.put (Env.put (Env.put e33 28 (e33 26)) 9 (e33 26)) 29 (e33 7)) 30 (e33 26)) 31 v31n35) w38)) K)
def F10 (a0 : Value) (a1 : Value) (w : World) (R : Ending → World → Prop) : Prop :=
callE P 20 #[] w (fun v11n3 w4 =>
bindV (pUn P UnOp.not v11n3 w4) fun v12n5 w6 =>
condE v12n5 (fun (K7 : KT) =>
K7 .ret (Env.put (Env.put (Env.put (Env.put (argE [a0, a1]) 4 (Value.bool false)) 11 v11n3) 12 v12n5) 4 (Value.bool false)) w6) (fun (K7 : KT) =>
K7 .normal (Env.put (Env.put (Env.put (argE [a0, a1]) 4 (Value.bool false)) 11 v11n3) 12 v12n5) w6) (thenK (fun e8 w9 =>
bindV (pConv P 5 3 (e8 0) w9) fun v14n10 w11 =>
bindV (pBin P BinOp.rem 3 true v14n10 (Value.int IntKind.i64 15) w11) fun v15n12 w13 =>
bindV (pBin P BinOp.add 3 true (Value.int IntKind.i64 1) v15n12 w13) fun v16n14 w15 =>
bindV (pConv P 5 3 (e8 1) w15) fun v18n16 w17 =>
bindV (pBin P BinOp.rem 3 true v18n16 (Value.int IntKind.i64 20) w17) fun v19n18 w19 =>
bindV (pBin P BinOp.add 3 true (Value.int IntKind.i64 1) v19n18 w19) fun v20n20 w21 =>
callE P 27 #[(Value.int IntKind.i64 16)] w21 (fun v22n24 w25 =>
bindV (pExtract P v22n24 0 w25) fun v23n26 w27 =>
bindV (pExtract P v22n24 1 w27) fun v24n28 w29 =>
loopE F10B0 (Env.put (Env.put (Env.put (Env.put (Env.put (Env.put (Env.put (Env.put (Env.put (Env.put (Env.put (Env.put (Env.put (Env.put (Env.put (Env.put (Env.put (Env.put e8 13 (e8 0)) 14 v14n10) 15 v15n12) 16 v16n14) 17 (e8 1)) 18 v18n16) 19 v19n18) 20 v20n20) 5 v16n14) 6 v20n20) 22 v22n24) 21 v22n24) 23 v23n26) 24 v24n28) 7 v23n26) 8 v24n28) 25 v16n14) 26 (Value.int IntKind.i64 0)) w29 (blockK 0 (thenK (fun e43 w44 =>
callE P 29 #[(e43 7)] w44 (fun v35n47 w48 =>
callE P 41 #[(e43 7), (e43 6)] w48 (fun v38n51 w52 =>
callE P 42 #[(e43 7), (Value.int IntKind.i64 0), (Value.int IntKind.i64 16)] w52 (fun v40n55 w56 =>
bindV (pBin P BinOp.eql 26 true v40n55 (Value.int IntKind.i64 14) w56) fun v42n57 w58 =>
bindV (pBin P BinOp.leq 3 false (e43 6) (e43 5) w58) fun v45n59 w60 =>
bindV (pBin P BinOp.eql 4 false v42n57 v45n59 w60) fun v46n61 w62 =>
grdE v46n61 true (fun (k63 : Value → World → Prop) => k63 v40n55 w62) (fun v48n64 w65 =>
grdE v46n61 true (fun (k66 : Value → World → Prop) => bindV (pBin P BinOp.eql 26 true v48n64 (Value.int IntKind.i64 0) w65) k66) (fun v49n67 w68 =>
grdE v46n61 true (fun (k69 : Value → World → Prop) => k69 (e43 6) w68) (fun v50n70 w71 =>
grdE v46n61 true (fun (k72 : Value → World → Prop) => k72 (e43 5) w71) (fun v51n73 w74 =>
grdE v46n61 true (fun (k75 : Value → World → Prop) => bindV (pBin P BinOp.gtr 3 false v50n70 v51n73 w74) k75) (fun v52n76 w77 =>
grdE v46n61 true (fun (k78 : Value → World → Prop) => bindV (pBin P BinOp.eql 4 false v49n67 v52n76 w77) k78) (fun v53n79 w80 =>
pickE v46n61 v53n79 (Value.bool false) fun v54n81 =>
grdE v54n81 true (fun (k82 : Value → World → Prop) => k82 (e43 7) w80) (fun v56n83 w84 =>
grdE v54n81 true (fun (k85 : Value → World → Prop) => callE P 34 #[v56n83] w84 k85 (fun c86 w87 => R (.panicked c86) w87)) (fun v57n88 w89 =>
grdE v54n81 true (fun (k90 : Value → World → Prop) => k90 (e43 6) w89) (fun v58n91 w92 =>
grdE v54n81 true (fun (k93 : Value → World → Prop) => k93 (e43 5) w92) (fun v59n94 w95 =>
grdE v54n81 true (fun (k96 : Value → World → Prop) => bindV (pBin P BinOp.leq 3 false v58n91 v59n94 w95) k96) (fun v60n97 w98 =>
grdE v54n81 true (fun (k99 : Value → World → Prop) => bindV (pBin P BinOp.eql 4 false v57n88 v60n97 w98) k99) (fun v61n100 w101 =>
pickE v54n81 v61n100 (Value.bool false) fun v62n102 =>
R (.returned v62n102) w101) w98) w95) w92) w89) w84) w80) w77) w74) w71) w68) w65) w62) (fun c53 w54 => R (.panicked c53) w54)) (fun c49 w50 => R (.panicked c49) w50)) (fun c45 w46 => R (.panicked c45) w46)) (topK P [(ResultVar.tmp 4)] R)))) (fun c22 w23 => R (.panicked c22) w23)) (topK P [(ResultVar.tmp 4)] R))) (fun c1 w2 => R (.panicked c1) w2)
theorem F10ok {w : World} {R : Ending → World → Prop} {a0 : Value} {a1 : Value} (h : F10 a0 a1 w R) : Calls P 10 #[a0, a1] w R :=
  calls_of_ev bodies mixed (c := bodyOf Try.f10) (nt := 63) (rs := [(ResultVar.tmp 4)]) (args := [a0, a1]) (fn := Try.f10) (by kernel_rfl) (by kernel_rfl) (by kernel_rfl) (by kernel_rfl) (by kernel_rfl) (by simp)
    (eq_mp (show F10 a0 a1 w R = ev P C (bodyOf Try.f10) (argE [a0, a1]) w (topK P [(ResultVar.tmp 4)] R) by kernel_rfl) h)

/-! ### moiety/seal.Wipe -/
def F42B0 (e : Env) (w : World) (K : KT) : Prop :=
bindV (pBin P BinOp.lss 3 false (e 15) (e 14) w) fun v16n3 w4 =>
condE v16n3 (fun (K5 : KT) =>
K5 .normal (Env.put e 16 v16n3) w4) (fun (K5 : KT) =>
K5 (.exit 0) (Env.put e 16 v16n3) w4) (thenK (fun e6 w7 =>
bindV (pBin P BinOp.add 3 false (e6 1) (e6 15) w7) fun v20n8 w9 =>
callE P 31 #[(e6 0), v20n8] w9 (fun v24n12 w13 =>
bindV (pExtract P v24n12 0 w13) fun v25n14 w15 =>
bindV (pExtract P v24n12 1 w15) fun v26n16 w17 =>
bindV (pAlloc P 25 w17) fun v10n18 w19 =>
bindU (pStore P 25 v10n18 v25n14 w19) fun w20 =>
letK (blockK 1 (thenK (fun e22 w23 =>
bindV (pBin P BinOp.add 3 true (e22 15) (Value.int IntKind.i64 1) w23) fun v39n24 w25 =>
K .normal (Env.put (Env.put e22 39 v39n24) 15 v39n24) w25) K)) fun (K21 : KT) =>
bindV (pBin P BinOp.neq 26 true v26n16 (Value.int IntKind.i64 0) w20) fun v28n26 w27 =>
condE v28n26 (fun (K28 : KT) =>
K28 .ret (Env.put (Env.put (Env.put (Env.put (Env.put (Env.put (Env.put (Env.put (Env.put (Env.put (Env.put (Env.put (Env.put (Env.put (Env.put (Env.put (Env.put (Env.put e6 17 (e6 15)) 8 (e6 15)) 18 (e6 1)) 19 (e6 15)) 20 v20n8) 9 v20n8) 22 (e6 0)) 23 v20n8) 24 v24n12) 21 v24n12) 25 v25n14) 26 v26n16) 10 v10n18) 11 v26n16) 27 v26n16) 28 v28n26) 29 v26n16) 6 v26n16) w27) (fun (K28 : KT) =>
K28 .normal (Env.put (Env.put (Env.put (Env.put (Env.put (Env.put (Env.put (Env.put (Env.put (Env.put (Env.put (Env.put (Env.put (Env.put (Env.put (Env.put e6 17 (e6 15)) 8 (e6 15)) 18 (e6 1)) 19 (e6 15)) 20 v20n8) 9 v20n8) 22 (e6 0)) 23 v20n8) 24 v24n12) 21 v24n12) 25 v25n14) 26 v26n16) 10 v10n18) 11 v26n16) 27 v26n16) 28 v28n26) w27) (thenK (fun e29 w30 =>
bindV (pLoad P 25 (e29 10) w30) fun v30n31 w32 =>
callE P 22 #[v30n31] w32 (fun v31n35 w36 =>
condE v31n35 (fun (K37 : KT) =>
K37 (.exit 1) (Env.put (Env.put e29 30 v30n31) 31 v31n35) w36) (fun (K37 : KT) =>
K37 .normal (Env.put (Env.put e29 30 v30n31) 31 v31n35) w36) (thenK (fun e38 w39 =>
bindV (pBuild P 25 [] w39) fun v34n40 w41 =>
callE P 28 #[(e38 0), (e38 9), v34n40] w41 (fun v35n44 w45 =>
bindV (pBin P BinOp.neq 26 true v35n44 (Value.int IntKind.i64 0) w45) fun v37n46 w47 =>
condE v37n46 (fun (K48 : KT) =>
K48 .ret (Env.put (Env.put (Env.put (Env.put (Env.put (Env.put (Env.put (Env.put (Env.put (Env.put e38 7 (Value.bool true)) 32 (e38 0)) 33 (e38 9)) 34 v34n40) 35 v35n44) 12 v35n44) 36 v35n44) 37 v37n46) 38 v35n44) 6 v35n44) w47) (fun (K48 : KT) =>
K48 .normal (Env.put (Env.put (Env.put (Env.put (Env.put (Env.put (Env.put (Env.put e38 7 (Value.bool true)) 32 (e38 0)) 33 (e38 9)) 34 v34n40) 35 v35n44) 12 v35n44) 36 v35n44) 37 v37n46) w47) K21) (fun c42 w43 => K21 (.panic c42) (Env.put (Env.put (Env.put (Env.put e38 7 (Value.bool true)) 32 (e38 0)) 33 (e38 9)) 34 v34n40) w43)) K21)) (fun c33 w34 => K21 (.panic c33) (Env.put e29 30 v30n31) w34)) K21)) (fun c10 w11 => K (.panic c10) (Env.put (Env.put (Env.put (Env.put (Env.put (Env.put (Env.put (Env.put e6 17 (e6 15)) 8 (e6 15)) 18 (e6 1)) 19 (e6 15)) 20 v20n8) 9 v20n8) 22 (e6 0)) 23 v20n8) w11)) K)
def F42 (a0 : Value) (a1 : Value) (a2 : Value) (w : World) (R : Ending → World → Prop) : Prop :=
bindV (pBuiltin P Builtin.max #[3, 3] 3 [a2, (Value.int IntKind.i64 0)] w) fun v14n1 w2 =>
loopE F42B0 (Env.put (Env.put (Env.put (Env.put (Env.put (argE [a0, a1, a2]) 6 (Value.int IntKind.i64 0)) 7 (Value.bool false)) 13 a2) 14 v14n1) 15 (Value.int IntKind.i64 0)) w2 (blockK 0 (thenK (fun e49 w50 =>
bindV (pUn P UnOp.not (e49 7) w50) fun v41n51 w52 =>
condE v41n51 (fun (K53 : KT) =>
K53 .ret (Env.put (Env.put (Env.put e49 40 (e49 7)) 41 v41n51) 6 (Value.int IntKind.i64 0)) w52) (fun (K53 : KT) =>
K53 .normal (Env.put (Env.put e49 40 (e49 7)) 41 v41n51) w52) (thenK (fun e54 w55 =>
callE P 29 #[(e54 0)] w55 (fun v43n58 w59 =>
R (.returned v43n58) w59) (fun c56 w57 => R (.panicked c56) w57)) (topK P [(ResultVar.tmp 6)] R))) (topK P [(ResultVar.tmp 6)] R)))
theorem F42ok {w : World} {R : Ending → World → Prop} {a0 : Value} {a1 : Value} {a2 : Value} (h : F42 a0 a1 a2 w R) : Calls P 42 #[a0, a1, a2] w R :=
  calls_of_ev bodies mixed (c := bodyOf Try.f42) (nt := 44) (rs := [(ResultVar.tmp 6)]) (args := [a0, a1, a2]) (fn := Try.f42) (by kernel_rfl) (by kernel_rfl) (by kernel_rfl) (by kernel_rfl) (by kernel_rfl) (by simp)
    (eq_mp (show F42 a0 a1 a2 w R = ev P C (bodyOf Try.f42) (argE [a0, a1, a2]) w (topK P [(ResultVar.tmp 6)] R) by kernel_rfl) h)

/-! ### moiety/moietylaw18.SealWipes -/
def F11B1 (e : Env) (w : World) (K : KT) : Prop :=
bindV (pBin P BinOp.lss 3 true (e 75) (Value.int IntKind.i64 16) w) fun v76n114 w115 =>
condE v76n114 (fun (K116 : KT) =>
K116 .normal (Env.put e 76 v76n114) w115) (fun (K116 : KT) =>
K116 (.exit 2) (Env.put e 76 v76n114) w115) (thenK (fun e117 w118 =>
callE P 31 #[(e117 7), (e117 75)] w118 (fun v81n121 w122 =>
bindV (pExtract P v81n121 0 w122) fun v82n123 w124 =>
bindV (pExtract P v81n121 1 w124) fun v83n125 w126 =>
bindV (pAlloc P 25 w126) fun v15n127 w128 =>
bindU (pStore P 25 v15n127 v82n123 w128) fun w129 =>
bindV (pBuild P 25 [] w129) fun v84n130 w131 =>
bindV (pAlloc P 25 w131) fun v17n132 w133 =>
bindU (pStore P 25 v17n132 v84n130 w133) fun w134 =>
letK (blockK 3 (thenK (fun e136 w137 =>
bindV (pBin P BinOp.add 3 true (e136 75) (Value.int IntKind.i64 1) w137) fun v131n138 w139 =>
K .normal (Env.put (Env.put e136 131 v131n138) 75 v131n138) w139) K)) fun (K135 : KT) =>
bindV (pBuiltin P Builtin.len #[22] 3 [(e117 0)] w134) fun v87n140 w141 =>
bindV (pBin P BinOp.lss 3 false (e117 75) v87n140 w141) fun v88n142 w143 =>
condE v88n142 (fun (K144 : KT) =>
bindV (pIndexAddr P 22 (e117 0) (e117 75) w143) fun v91n145 w146 =>
bindV (pLoad P 5 v91n145 w146) fun v92n147 w148 =>
bindV (pIndexAddr P 25 v17n132 (Value.int IntKind.i64 5) w148) fun v93n149 w150 =>
bindU (pStore P 5 v93n149 v92n147 w150) fun w151 =>
K144 .normal (Env.put (Env.put (Env.put (Env.put (Env.put (Env.put (Env.put (Env.put (Env.put (Env.put (Env.put (Env.put (Env.put (Env.put (Env.put (Env.put (Env.put (Env.put (Env.put (Env.put (Env.put e117 77 (e117 75)) 14 (e117 75)) 79 (e117 7)) 80 (e117 75)) 81 v81n121) 78 v81n121) 82 v82n123) 83 v83n125) 15 v15n127) 16 v83n125) 84 v84n130) 17 v17n132) 85 (e117 75)) 86 (e117 0)) 87 v87n140) 88 v88n142) 89 (e117 0)) 90 (e117 75)) 91 v91n145) 92 v92n147) 93 v93n149) w151) (fun (K144 : KT) =>
K144 .normal (Env.put (Env.put (Env.put (Env.put (Env.put (Env.put (Env.put (Env.put (Env.put (Env.put (Env.put (Env.put (Env.put (Env.put (Env.put (Env.put e117 77 (e117 75)) 14 (e117 75)) 79 (e117 7)) 80 (e117 75)) 81 v81n121) 78 v81n121) 82 v82n123) 83 v83n125) 15 v15n127) 16 v83n125) 84 v84n130) 17 v17n132) 85 (e117 75)) 86 (e117 0)) 87 v87n140) 88 v88n142) w143) (thenK (fun e152 w153 =>
bindV (pBin P BinOp.gtr 3 true (e152 2) (Value.int IntKind.i64 0) w153) fun v95n154 w155 =>
grdE v95n154 true (fun (k156 : Value → World → Prop) => k156 (e152 14) w155) (fun v97n157 w158 =>
grdE v95n154 true (fun (k159 : Value → World → Prop) => k159 (e152 1) w158) (fun v98n160 w161 =>
grdE v95n154 true (fun (k162 : Value → World → Prop) => bindV (pBin P BinOp.geq 3 false v97n157 v98n160 w161) k162) (fun v99n163 w164 =>
pickE v95n154 v99n163 (Value.bool false) fun v100n165 =>
grdE v100n165 true (fun (k166 : Value → World → Prop) => k166 (e152 14) w164) (fun v102n167 w168 =>
grdE v100n165 true (fun (k169 : Value → World → Prop) => k169 (e152 1) w168) (fun v103n170 w171 =>
grdE v100n165 true (fun (k172 : Value → World → Prop) => k172 (e152 2) w171) (fun v104n173 w174 =>
grdE v100n165 true (fun (k175 : Value → World → Prop) => bindV (pBin P BinOp.add 3 false v103n170 v104n173 w174) k175) (fun v105n176 w177 =>
grdE v100n165 true (fun (k178 : Value → World → Prop) => bindV (pBin P BinOp.lss 3 false v102n167 v105n176 w177) k178) (fun v106n179 w180 =>
pickE v100n165 v106n179 (Value.bool false) fun v107n181 =>
grdE v107n181 true (fun (k182 : Value → World → Prop) => bindV (pLoad P 25 (e152 17) w180) k182) (fun v110n183 w184 =>
grdE v107n181 true (fun (k185 : Value → World → Prop) => callE P 22 #[v110n183] w184 k185 (fun c186 w187 => K135 (.panic c186) (Env.put (Env.put (Env.put (Env.put (Env.put (Env.put (Env.put (Env.put (Env.put (Env.put (Env.put (Env.put (Env.put (Env.put (Env.put (Env.put (Env.put (Env.put e152 94 (e152 2)) 95 v95n154) 96 v95n154) 97 v97n157) 98 v98n160) 99 v99n163) 100 v100n165) 101 v100n165) 102 v102n167) 103 v103n170) 104 v104n173) 105 v105n176) 106 v106n179) 107 v107n181) 18 v107n181) 108 v107n181) 109 v107n181) 110 v110n183) w187)) (fun v111n188 w189 =>
grdE v107n181 true (fun (k190 : Value → World → Prop) => bindV (pUn P UnOp.not v111n188 w189) k190) (fun v112n191 w192 =>
pickE v107n181 v112n191 (Value.bool false) fun v113n193 =>
condE v113n193 (fun (K194 : KT) =>
bindV (pBin P BinOp.add 3 true (e152 13) (Value.int IntKind.i64 1) w192) fun v115n195 w196 =>
K194 .normal (Env.put (Env.put (Env.put (Env.put (Env.put (Env.put (Env.put (Env.put (Env.put (Env.put (Env.put (Env.put (Env.put (Env.put (Env.put (Env.put (Env.put (Env.put (Env.put (Env.put (Env.put (Env.put (Env.put (Env.put e152 94 (e152 2)) 95 v95n154) 96 v95n154) 97 v97n157) 98 v98n160) 99 v99n163) 100 v100n165) 101 v100n165) 102 v102n167) 103 v103n170) 104 v104n173) 105 v105n176) 106 v106n179) 107 v107n181) 18 v107n181) 108 v107n181) 109 v107n181) 110 v110n183) 111 v111n188) 112 v112n191) 113 v113n193) 114 (e152 13)) 115 v115n195) 13 v115n195) w196) (fun (K194 : KT) =>
K194 .normal (Env.put (Env.put (Env.put (Env.put (Env.put (Env.put (Env.put (Env.put (Env.put (Env.put (Env.put (Env.put (Env.put (Env.put (Env.put (Env.put (Env.put (Env.put (Env.put (Env.put (Env.put e152 94 (e152 2)) 95 v95n154) 96 v95n154) 97 v97n157) 98 v98n160) 99 v99n163) 100 v100n165) 101 v100n165) 102 v102n167) 103 v103n170) 104 v104n173) 105 v105n176) 106 v106n179) 107 v107n181) 18 v107n181) 108 v107n181) 109 v107n181) 110 v110n183) 111 v111n188) 112 v112n191) 113 v113n193) w192) (thenK (fun e197 w198 =>
grdE (e197 18) true (fun (k199 : Value → World → Prop) => bindV (pLoad P 25 (e197 15) w198) k199) (fun v118n200 w201 =>
grdE (e197 18) true (fun (k202 : Value → World → Prop) => callE P 22 #[v118n200] w201 k202 (fun c203 w204 => K135 (.panic c203) (Env.put (Env.put (Env.put e197 116 (e197 18)) 117 (e197 18)) 118 v118n200) w204)) (fun v119n205 w206 =>
grdE (e197 18) true (fun (k207 : Value → World → Prop) => bindV (pUn P UnOp.not v119n205 w206) k207) (fun v120n208 w209 =>
pickE (e197 18) v120n208 (Value.bool false) fun v121n210 =>
grdE v121n210 false (fun (k211 : Value → World → Prop) => k211 (e197 18) w209) (fun v123n212 w213 =>
grdE v121n210 false (fun (k214 : Value → World → Prop) => bindV (pUn P UnOp.not v123n212 w213) k214) (fun v124n215 w216 =>
grdE v121n210 false (fun (k217 : Value → World → Prop) => k217 v124n215 w216) (fun v125n218 w219 =>
grdE v125n218 true (fun (k220 : Value → World → Prop) => bindV (pLoad P 25 (e197 15) w219) k220) (fun v126n221 w222 =>
grdE v125n218 true (fun (k223 : Value → World → Prop) => bindV (pLoad P 25 (e197 17) w222) k223) (fun v127n224 w225 =>
grdE v125n218 true (fun (k226 : Value → World → Prop) => bindV (pBin P BinOp.neq 25 false v126n221 v127n224 w225) k226) (fun v128n227 w228 =>
grdE v121n210 false (fun (k229 : Value → World → Prop) => pickE v125n218 v128n227 (Value.bool false) fun v129n230 =>
k229 v129n230 w228) (fun v129n231 w232 =>
pickE v121n210 (Value.bool true) v129n231 fun v130n233 =>
condE v130n233 (fun (K234 : KT) =>
K234 .ret (Env.put (Env.put (Env.put (Env.put (Env.put (Env.put (Env.put (Env.put (Env.put (Env.put (Env.put (Env.put (Env.put (Env.put (Env.put (Env.put e197 116 (e197 18)) 117 (e197 18)) 118 v118n200) 119 v119n205) 120 v120n208) 121 v121n210) 122 v121n210) 123 v123n212) 124 v124n215) 125 v125n218) 126 v126n221) 127 v127n224) 128 v128n227) 129 v129n231) 130 v130n233) 6 (Value.bool false)) w232) (fun (K234 : KT) =>
K234 .normal (Env.put (Env.put (Env.put (Env.put (Env.put (Env.put (Env.put (Env.put (Env.put (Env.put (Env.put (Env.put (Env.put (Env.put (Env.put e197 116 (e197 18)) 117 (e197 18)) 118 v118n200) 119 v119n205) 120 v120n208) 121 v121n210) 122 v121n210) 123 v123n212) 124 v124n215) 125 v125n218) 126 v126n221) 127 v127n224) 128 v128n227) 129 v129n231) 130 v130n233) w232) K135) w228) w225) w222) w219) w216) w213) w209) w206) w201) w198) K135)) w189) w184) w180) w177) w174) w171) w168) w164) w161) w158) w155) K135)) (fun c119 w120 => K (.panic c119) (Env.put (Env.put (Env.put (Env.put e117 77 (e117 75)) 14 (e117 75)) 79 (e117 7)) 80 (e117 75)) w120)) K)
def F11B0 (e : Env) (w : World) (K : KT) : Prop :=
bindV (pBin P BinOp.lss 3 false (e 38) (e 37) w) fun v39n41 w42 =>
condE v39n41 (fun (K43 : KT) =>
K43 .normal (Env.put e 39 v39n41) w42) (fun (K43 : KT) =>
K43 (.exit 0) (Env.put e 39 v39n41) w42) (thenK (fun e44 w45 =>
bindV (pIndexAddr P 22 (e44 36) (e44 38) w45) fun v41n46 w47 =>
bindV (pLoad P 5 v41n46 w47) fun v42n48 w49 =>
bindV (pBin P BinOp.gtr 5 true v42n48 (Value.int IntKind.u8 0) w49) fun v44n50 w51 =>
condE v44n50 (fun (K52 : KT) =>
bindV (pBuild P 25 [(5, v42n48)] w51) fun v48n53 w54 =>
callE P 28 #[(e44 7), (e44 38), v48n53] w54 (fun v49n57 w58 =>
K52 .normal (Env.put (Env.put (Env.put (Env.put (Env.put (Env.put (Env.put (Env.put (Env.put (Env.put (Env.put (Env.put e44 40 (e44 38)) 41 v41n46) 42 v42n48) 9 (e44 38)) 10 v42n48) 43 v42n48) 44 v44n50) 45 (e44 7)) 46 (e44 38)) 47 v42n48) 48 v48n53) 49 v49n57) w58) (fun c55 w56 => K52 (.panic c55) (Env.put (Env.put (Env.put (Env.put (Env.put (Env.put (Env.put (Env.put (Env.put (Env.put (Env.put e44 40 (e44 38)) 41 v41n46) 42 v42n48) 9 (e44 38)) 10 v42n48) 43 v42n48) 44 v44n50) 45 (e44 7)) 46 (e44 38)) 47 v42n48) 48 v48n53) w56)) (fun (K52 : KT) =>
K52 .normal (Env.put (Env.put (Env.put (Env.put (Env.put (Env.put (Env.put e44 40 (e44 38)) 41 v41n46) 42 v42n48) 9 (e44 38)) 10 v42n48) 43 v42n48) 44 v44n50) w51) (blockK 1 (thenK (fun e59 w60 =>
bindV (pBin P BinOp.add 3 true (e59 38) (Value.int IntKind.i64 1) w60) fun v50n61 w62 =>
K .normal (Env.put (Env.put e59 50 v50n61) 38 v50n61) w62) K))) K)
def F11 (a0 : Value) (a1 : Value) (a2 : Value) (w : World) (R : Ending → World → Prop) : Prop :=
callE P 20 #[] w (fun v19n3 w4 =>
bindV (pUn P UnOp.not v19n3 w4) fun v20n5 w6 =>
condE v20n5 (fun (K7 : KT) =>
K7 .ret (Env.put (Env.put (Env.put (Env.put (argE [a0, a1, a2]) 6 (Value.bool false)) 19 v19n3) 20 v20n5) 6 (Value.bool false)) w6) (fun (K7 : KT) =>
K7 .normal (Env.put (Env.put (Env.put (argE [a0, a1, a2]) 6 (Value.bool false)) 19 v19n3) 20 v20n5) w6) (thenK (fun e8 w9 =>
bindV (pBuiltin P Builtin.len #[22] 3 [(e8 0)] w9) fun v22n10 w11 =>
bindV (pBin P BinOp.gtr 3 true v22n10 (Value.int IntKind.i64 16) w11) fun v23n12 w13 =>
grdE v23n12 false (fun (k14 : Value → World → Prop) => k14 (e8 2) w13) (fun v25n15 w16 =>
grdE v23n12 false (fun (k17 : Value → World → Prop) => bindV (pBin P BinOp.gtr 3 true v25n15 (Value.int IntKind.i64 100) w16) k17) (fun v26n18 w19 =>
pickE v23n12 (Value.bool true) v26n18 fun v27n20 =>
grdE v27n20 false (fun (k21 : Value → World → Prop) => k21 (e8 2) w19) (fun v29n22 w23 =>
grdE v27n20 false (fun (k24 : Value → World → Prop) => bindV (pBin P BinOp.lss 3 true v29n22 (Value.int IntKind.i64 0) w23) k24) (fun v30n25 w26 =>
pickE v27n20 (Value.bool true) v30n25 fun v31n27 =>
condE v31n27 (fun (K28 : KT) =>
K28 .ret (Env.put (Env.put (Env.put (Env.put (Env.put (Env.put (Env.put (Env.put (Env.put (Env.put (Env.put (Env.put e8 21 (e8 0)) 22 v22n10) 23 v23n12) 24 v23n12) 25 v25n15) 26 v26n18) 27 v27n20) 28 v27n20) 29 v29n22) 30 v30n25) 31 v31n27) 6 (Value.bool true)) w26) (fun (K28 : KT) =>
K28 .normal (Env.put (Env.put (Env.put (Env.put (Env.put (Env.put (Env.put (Env.put (Env.put (Env.put (Env.put e8 21 (e8 0)) 22 v22n10) 23 v23n12) 24 v23n12) 25 v25n15) 26 v26n18) 27 v27n20) 28 v27n20) 29 v29n22) 30 v30n25) 31 v31n27) w26) (thenK (fun e29 w30 =>
callE P 27 #[(Value.int IntKind.i64 16)] w30 (fun v33n33 w34 =>
bindV (pExtract P v33n33 0 w34) fun v34n35 w36 =>
bindV (pExtract P v33n33 1 w36) fun v35n37 w38 =>
bindV (pBuiltin P Builtin.len #[22] 3 [(e29 0)] w38) fun v37n39 w40 =>
loopE F11B0 (Env.put (Env.put (Env.put (Env.put (Env.put (Env.put (Env.put (Env.put (Env.put e29 33 v33n33) 32 v33n33) 34 v34n35) 35 v35n37) 7 v34n35) 8 v35n37) 36 (e29 0)) 37 v37n39) 38 (Value.int IntKind.i64 0)) w40 (blockK 0 (thenK (fun e63 w64 =>
callE P 29 #[(e63 7)] w64 (fun v52n67 w68 =>
callE P 43 #[(e63 7)] w68 (fun v54n71 w72 =>
callE P 42 #[(e63 7), (e63 1), (e63 2)] w72 (fun v58n75 w76 =>
bindV (pBin P BinOp.gtr 3 true (e63 2) (Value.int IntKind.i64 0) w76) fun v60n77 w78 =>
grdE v60n77 true (fun (k79 : Value → World → Prop) => k79 (e63 1) w78) (fun v62n80 w81 =>
grdE v60n77 true (fun (k82 : Value → World → Prop) => bindV (pBin P BinOp.lss 3 true v62n80 (Value.int IntKind.i64 0) w81) k82) (fun v63n83 w84 =>
grdE v60n77 true (fun (k85 : Value → World → Prop) => k85 v63n83 w84) (fun v64n86 w87 =>
grdE v64n86 false (fun (k88 : Value → World → Prop) => k88 (e63 1) w87) (fun v65n89 w90 =>
grdE v64n86 false (fun (k91 : Value → World → Prop) => k91 (e63 2) w90) (fun v66n92 w93 =>
grdE v64n86 false (fun (k94 : Value → World → Prop) => bindV (pBin P BinOp.sub 3 true (Value.int IntKind.i64 16) v66n92 w93) k94) (fun v67n95 w96 =>
grdE v64n86 false (fun (k97 : Value → World → Prop) => bindV (pBin P BinOp.gtr 3 false v65n89 v67n95 w96) k97) (fun v68n98 w99 =>
grdE v60n77 true (fun (k100 : Value → World → Prop) => pickE v64n86 (Value.bool true) v68n98 fun v69n101 =>
k100 v69n101 w99) (fun v69n102 w103 =>
pickE v60n77 v69n102 (Value.bool false) fun v70n104 =>
condE v70n104 (fun (K105 : KT) =>
bindV (pBin P BinOp.eql 26 true v58n75 (Value.int IntKind.i64 1) w103) fun v72n106 w107 =>
K105 .ret (Env.put (Env.put (Env.put (Env.put (Env.put (Env.put (Env.put (Env.put (Env.put (Env.put (Env.put (Env.put (Env.put (Env.put (Env.put (Env.put (Env.put (Env.put (Env.put (Env.put (Env.put (Env.put (Env.put (Env.put (Env.put e63 51 (e63 7)) 52 v52n67) 53 (e63 7)) 54 v54n71) 11 v54n71) 55 (e63 7)) 56 (e63 1)) 57 (e63 2)) 58 v58n75) 12 v58n75) 59 (e63 2)) 60 v60n77) 61 v60n77) 62 v62n80) 63 v63n83) 64 v64n86) 65 v65n89) 66 v66n92) 67 v67n95) 68 v68n98) 69 v69n102) 70 v70n104) 71 v58n75) 72 v72n106) 6 v72n106) w107) (fun (K105 : KT) =>
K105 .normal (Env.put (Env.put (Env.put (Env.put (Env.put (Env.put (Env.put (Env.put (Env.put (Env.put (Env.put (Env.put (Env.put (Env.put (Env.put (Env.put (Env.put (Env.put (Env.put (Env.put (Env.put (Env.put e63 51 (e63 7)) 52 v52n67) 53 (e63 7)) 54 v54n71) 11 v54n71) 55 (e63 7)) 56 (e63 1)) 57 (e63 2)) 58 v58n75) 12 v58n75) 59 (e63 2)) 60 v60n77) 61 v60n77) 62 v62n80) 63 v63n83) 64 v64n86) 65 v65n89) 66 v66n92) 67 v67n95) 68 v68n98) 69 v69n102) 70 v70n104) w103) (thenK (fun e108 w109 =>
callE P 30 #[(e108 7), (Value.slice none 0 0)] w109 (fun v74n112 w113 =>
loopE F11B1 (Env.put (Env.put (Env.put (Env.put e108 73 (e108 7)) 74 v74n112) 13 (Value.int IntKind.i64 0)) 75 (Value.int IntKind.i64 0)) w113 (blockK 2 (thenK (fun e235 w236 =>
bindV (pBin P BinOp.eql 26 true (e235 12) (Value.int IntKind.i64 0) w236) fun v133n237 w238 =>
grdE v133n237 true (fun (k239 : Value → World → Prop) => k239 (e235 7) w238) (fun v135n240 w241 =>
grdE v133n237 true (fun (k242 : Value → World → Prop) => callE P 43 #[v135n240] w241 k242 (fun c243 w244 => R (.panicked c243) w244)) (fun v136n245 w246 =>
grdE v133n237 true (fun (k247 : Value → World → Prop) => k247 (e235 11) w246) (fun v137n248 w249 =>
grdE v133n237 true (fun (k250 : Value → World → Prop) => k250 (e235 13) w249) (fun v138n251 w252 =>
grdE v133n237 true (fun (k253 : Value → World → Prop) => bindV (pBin P BinOp.add 3 false v137n248 v138n251 w252) k253) (fun v139n254 w255 =>
grdE v133n237 true (fun (k256 : Value → World → Prop) => bindV (pBin P BinOp.eql 3 false v136n245 v139n254 w255) k256) (fun v140n257 w258 =>
pickE v133n237 v140n257 (Value.bool false) fun v141n259 =>
R (.returned v141n259) w258) w255) w252) w249) w246) w241) w238) (topK P [(ResultVar.tmp 6)] R)))) (fun c110 w111 => R (.panicked c110) w111)) (topK P [(ResultVar.tmp 6)] R))) w99) w96) w93) w90) w87) w84) w81) w78) (fun c73 w74 => R (.panicked c73) w74)) (fun c69 w70 => R (.panicked c69) w70)) (fun c65 w66 => R (.panicked c65) w66)) (topK P [(ResultVar.tmp 6)] R)))) (fun c31 w32 => R (.panicked c31) w32)) (topK P [(ResultVar.tmp 6)] R))) w23) w19) w16) w13) (topK P [(ResultVar.tmp 6)] R))) (fun c1 w2 => R (.panicked c1) w2)
theorem F11ok {w : World} {R : Ending → World → Prop} {a0 : Value} {a1 : Value} {a2 : Value} (h : F11 a0 a1 a2 w R) : Calls P 11 #[a0, a1, a2] w R :=
  calls_of_ev bodies mixed (c := bodyOf Try.f11) (nt := 142) (rs := [(ResultVar.tmp 6)]) (args := [a0, a1, a2]) (fn := Try.f11) (by kernel_rfl) (by kernel_rfl) (by kernel_rfl) (by kernel_rfl) (by kernel_rfl) (by simp)
    (eq_mp (show F11 a0 a1 a2 w R = ev P C (bodyOf Try.f11) (argE [a0, a1, a2]) w (topK P [(ResultVar.tmp 6)] R) by kernel_rfl) h)

end Go.Proofs.Yticncfkpfpkfoaa
