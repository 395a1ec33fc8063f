/- The functions' residual programs, printed by gen.py. -/
import Derived.Test.YticncfkpfpkfoaaBaseD
namespace Go.Proofs.Yticncfkpfpkfoaa
open Go
/-! ### moiety/roll.Open -/
def F45 (a0 : Value) (a1 : Value) (w : World) (R : Ending → World → Prop) : Prop :=
bindV (pBox P 65 a1 w) fun v3n1 w2 =>
bindV (pLoad P 65 v3n1 w2) fun v13n3 w4 =>
callE P 48 #[a0, v13n3] w4 (fun v14n7 w8 =>
bindV (pExtract P v14n7 0 w8) fun v15n9 w10 =>
bindV (pExtract P v14n7 1 w10) fun v16n11 w12 =>
bindV (pExtract P v14n7 2 w12) fun v17n13 w14 =>
bindV (pBin P BinOp.neq 26 true v17n13 (Value.int IntKind.i64 0) w14) fun v19n15 w16 =>
condE v19n15 (fun (K17 : KT) =>
K17 .ret (Env.put (Env.put (Env.put (Env.put (Env.put (Env.put (Env.put (Env.put (Env.put (Env.put (Env.put (Env.put (Env.put (Env.put (Env.put (Env.put (Env.put (Env.put (Env.put (Env.put (argE [a0, a1]) 3 v3n1) 4 (Value.pointer none)) 5 (Value.slice none 0 0)) 6 (Value.int IntKind.i64 0)) 12 a0) 13 v13n3) 14 v14n7) 11 v14n7) 15 v15n9) 16 v16n11) 17 v17n13) 7 v15n9) 8 v16n11) 9 v17n13) 18 v17n13) 19 v19n15) 20 v17n13) 4 (Value.pointer none)) 5 (Value.slice none 0 0)) 6 v17n13) w16) (fun (K17 : KT) =>
K17 .normal (Env.put (Env.put (Env.put (Env.put (Env.put (Env.put (Env.put (Env.put (Env.put (Env.put (Env.put (Env.put (Env.put (Env.put (Env.put (Env.put (argE [a0, a1]) 3 v3n1) 4 (Value.pointer none)) 5 (Value.slice none 0 0)) 6 (Value.int IntKind.i64 0)) 12 a0) 13 v13n3) 14 v14n7) 11 v14n7) 15 v15n9) 16 v16n11) 17 v17n13) 7 v15n9) 8 v16n11) 9 v17n13) 18 v17n13) 19 v19n15) w16) (thenK (fun e18 w19 =>
bindV (pFieldAddr P 65 (e18 3) 0 w19) fun v22n20 w21 =>
bindV (pLoad P 3 v22n20 w21) fun v23n22 w23 =>
bindV (pBin P BinOp.add 3 false v23n22 (e18 8) w23) fun v25n24 w25 =>
bindV (pFieldAddr P 65 (e18 3) 1 w25) fun v26n26 w27 =>
bindV (pLoad P 3 v26n26 w27) fun v27n28 w29 =>
bindV (pBin P BinOp.sub 3 false v27n28 (e18 8) w29) fun v29n30 w31 =>
callE P 42 #[(e18 0), v25n24, v29n30] w31 (fun v30n34 w35 =>
bindV (pBin P BinOp.neq 26 true v30n34 (Value.int IntKind.i64 0) w35) fun v32n36 w37 =>
condE v32n36 (fun (K38 : KT) =>
K38 .ret (Env.put (Env.put (Env.put (Env.put (Env.put (Env.put (Env.put (Env.put (Env.put (Env.put (Env.put (Env.put (Env.put (Env.put (Env.put (Env.put (Env.put e18 21 (e18 0)) 22 v22n20) 23 v23n22) 24 (e18 8)) 25 v25n24) 26 v26n26) 27 v27n28) 28 (e18 8)) 29 v29n30) 30 v30n34) 10 v30n34) 31 v30n34) 32 v32n36) 33 v30n34) 4 (Value.pointer none)) 5 (Value.slice none 0 0)) 6 v30n34) w37) (fun (K38 : KT) =>
K38 .normal (Env.put (Env.put (Env.put (Env.put (Env.put (Env.put (Env.put (Env.put (Env.put (Env.put (Env.put (Env.put (Env.put e18 21 (e18 0)) 22 v22n20) 23 v23n22) 24 (e18 8)) 25 v25n24) 26 v26n26) 27 v27n28) 28 (e18 8)) 29 v29n30) 30 v30n34) 10 v30n34) 31 v30n34) 32 v32n36) w37) (thenK (fun e39 w40 =>
bindV (pLoad P 65 (e39 3) w40) fun v35n41 w42 =>
bindV (pBuild P 119 [(0, (e39 0)), (1, v35n41), (2, (e39 8))] w42) fun v37n43 w44 =>
bindV (pBox P 119 v37n43 w44) fun v38n45 w46 =>
R (.returned (.tuple #[v38n45, (e39 7), (Value.int IntKind.i64 0)])) w46) (topK P [(ResultVar.tmp 4), (ResultVar.tmp 5), (ResultVar.tmp 6)] R))) (fun c32 w33 => R (.panicked c32) w33)) (topK P [(ResultVar.tmp 4), (ResultVar.tmp 5), (ResultVar.tmp 6)] R))) (fun c5 w6 => R (.panicked c5) w6)
theorem F45ok {w : World} {R : Ending → World → Prop} {a0 : Value} {a1 : Value} (h : F45 a0 a1 w R) : Calls P 45 #[a0, a1] w R :=
  calls_of_ev bodies mixed (c := bodyOf Try.f45) (nt := 40) (rs := [(ResultVar.tmp 4), (ResultVar.tmp 5), (ResultVar.tmp 6)]) (args := [a0, a1]) (fn := Try.f45) (by kernel_rfl) (by kernel_rfl) (by kernel_rfl) (by kernel_rfl) (by kernel_rfl) (by simp)
    (eq_mp (show F45 a0 a1 w R = ev P C (bodyOf Try.f45) (argE [a0, a1]) w (topK P [(ResultVar.tmp 4), (ResultVar.tmp 5), (ResultVar.tmp 6)] R) by kernel_rfl) h)

/-! ### moiety/moietyref19.Need -/
def F46B0 (e : Env) (w : World) (K : KT) : Prop :=
bindV (pBin P BinOp.mul 3 true (e 3) (Value.int IntKind.i64 60) w) fun v5n1 w2 =>
bindV (pBin P BinOp.lss 3 false v5n1 (e 0) w2) fun v7n3 w4 =>
condE v7n3 (fun (K5 : KT) =>
K5 .normal (Env.put (Env.put (Env.put (Env.put e 4 (e 3)) 5 v5n1) 6 (e 0)) 7 v7n3) w4) (fun (K5 : KT) =>
K5 (.exit 0) (Env.put (Env.put (Env.put (Env.put e 4 (e 3)) 5 v5n1) 6 (e 0)) 7 v7n3) w4) (thenK (fun e6 w7 =>
bindV (pBin P BinOp.add 3 true (e6 3) (Value.int IntKind.i64 1) w7) fun v9n8 w9 =>
K .normal (Env.put (Env.put (Env.put e6 8 (e6 3)) 9 v9n8) 3 v9n8) w9) K)
def F46 (a0 : Value) (w : World) (R : Ending → World → Prop) : Prop :=
loopE F46B0 (Env.put (Env.put (argE [a0]) 2 (Value.int IntKind.i64 0)) 3 (Value.int IntKind.i64 1)) w (blockK 0 (thenK (fun e10 w11 =>
R (.returned (e10 3)) w11) (topK P [(ResultVar.tmp 2)] R)))
theorem F46ok {w : World} {R : Ending → World → Prop} {a0 : Value} (h : F46 a0 w R) : Calls P 46 #[a0] w R :=
  calls_of_ev bodies mixed (c := bodyOf Try.f46) (nt := 11) (rs := [(ResultVar.tmp 2)]) (args := [a0]) (fn := Try.f46) (by kernel_rfl) (by kernel_rfl) (by kernel_rfl) (by kernel_rfl) (by kernel_rfl) (by simp)
    (eq_mp (show F46 a0 w R = ev P C (bodyOf Try.f46) (argE [a0]) w (topK P [(ResultVar.tmp 2)] R) by kernel_rfl) h)

/-! ### (*moiety/roll.Roll).Append -/
def F47B0 (e : Env) (w : World) (K : KT) : Prop :=
bindV (pBin P BinOp.lss 3 false (e 32) (e 31) w) fun v33n37 w38 =>
condE v33n37 (fun (K39 : KT) =>
K39 .normal (Env.put e 33 v33n37) w38) (fun (K39 : KT) =>
K39 (.exit 1) (Env.put e 33 v33n37) w38) (thenK (fun e40 w41 =>
bindV (pBin P BinOp.mul 3 true (e40 32) (Value.int IntKind.i64 60) w41) fun v37n42 w43 =>
bindV (pBuiltin P Builtin.len #[22] 3 [(e40 1)] w43) fun v39n44 w45 =>
bindV (pBuiltin P Builtin.min #[3, 3] 3 [v37n42, v39n44] w45) fun v40n46 w47 =>
bindV (pBin P BinOp.add 3 true (e40 32) (Value.int IntKind.i64 1) w47) fun v42n48 w49 =>
bindV (pBin P BinOp.mul 3 true v42n48 (Value.int IntKind.i64 60) w49) fun v43n50 w51 =>
bindV (pBuiltin P Builtin.len #[22] 3 [(e40 1)] w51) fun v45n52 w53 =>
bindV (pBuiltin P Builtin.min #[3, 3] 3 [v43n50, v45n52] w53) fun v46n54 w55 =>
bindV (pSlice P 22 (e40 1) (some v40n46) (some v46n54) none w55) fun v47n56 w57 =>
bindV (pBin P BinOp.sub 3 true (e40 5) (Value.int IntKind.i64 1) w57) fun v50n58 w59 =>
bindV (pBin P BinOp.sub 3 false v50n58 (e40 32) w59) fun v52n60 w61 =>
bindV (pConv P 3 5 v52n60 w61) fun v53n62 w63 =>
bindV (pBuildSlice P 22 1 [(0, v53n62)] w63) fun v54n64 w65 =>
bindV (pBuiltin P Builtin.append #[22, 22] 22 [v54n64, v47n56] w65) fun v56n66 w67 =>
callE P 21 #[v56n66] w67 (fun v57n70 w71 =>
bindV (pExtract P v57n70 0 w71) fun v58n72 w73 =>
bindV (pExtract P v57n70 1 w73) fun v59n74 w75 =>
bindV (pAlloc P 25 w75) fun v8n76 w77 =>
bindU (pStore P 25 v8n76 v58n72 w77) fun w78 =>
takeE (fun w81 => some ((e40 0), w81)) (drew w78) fun v60n79 h80 =>
takeE (fun w84 => qNil v60n79 w84) (drew w78) fun v61n82 h83 =>
takeE (fun w87 => pFieldAddr P 119 v61n82 0 w87) (drew w78) fun v62n85 h86 =>
takeE (fun w90 => pLoad P 34 v62n85 w90) (drew w78) fun v63n88 h89 =>
takeE (fun w93 => some ((e40 0), w93)) (drew w78) fun v64n91 h92 =>
takeE (fun w96 => qNil v64n91 w96) (drew w78) fun v65n94 h95 =>
takeE (fun w99 => pFieldAddr P 119 v65n94 1 w99) (drew w78) fun v66n97 h98 =>
takeE (fun w102 => pFieldAddr P 65 v66n97 0 w102) (drew w78) fun v67n100 h101 =>
takeE (fun w105 => pLoad P 3 v67n100 w105) (drew w78) fun v68n103 h104 =>
takeE (fun w108 => some ((e40 0), w108)) (drew w78) fun v69n106 h107 =>
takeE (fun w111 => qNil v69n106 w111) (drew w78) fun v70n109 h110 =>
takeE (fun w114 => pFieldAddr P 119 v70n109 2 w114) (drew w78) fun v71n112 h113 =>
takeE (fun w117 => pLoad P 3 v71n112 w117) (drew w78) fun v72n115 h116 =>
takeE (fun w120 => pBin P BinOp.add 3 false v68n103 v72n115 w120) (drew w78) fun v73n118 h119 =>
takeE (fun w123 => some ((e40 32), w123)) (drew w78) fun v74n121 h122 =>
takeE (fun w126 => pBin P BinOp.add 3 false v73n118 v74n121 w126) (drew w78) fun v75n124 h125 =>
takeE (fun w129 => pLoad P 25 v8n76 w129) (drew w78) fun v76n127 h128 =>
callE P 28 #[v63n88, v75n124, v76n127] (drew w78) (fun v77n133 w134 =>
bindV (pBin P BinOp.neq 26 true v77n133 (Value.int IntKind.i64 0) w134) fun v79n136 w137 =>
condE v79n136 (fun (K138 : KT) =>
K138 .ret (Env.put (Env.put (Env.put (Env.put (Env.put (Env.put (Env.put (Env.put (Env.put (Env.put (Env.put (Env.put (Env.put (Env.put (Env.put (Env.put (Env.put (Env.put (Env.put (Env.put (Env.put (Env.put (Env.put (Env.put (Env.put (Env.put (Env.put (Env.put (Env.put (Env.put (Env.put (Env.put (Env.put (Env.put (Env.put (Env.put (Env.put (Env.put (Env.put (Env.put (Env.put (Env.put (Env.put (Env.put (Env.put (Env.put (Env.put (Env.put (Env.put (Env.put (Env.put (Env.put (Env.put e40 34 (e40 32)) 6 (e40 32)) 35 (e40 1)) 36 (e40 32)) 37 v37n42) 38 (e40 1)) 39 v39n44) 40 v40n46) 41 (e40 32)) 42 v42n48) 43 v43n50) 44 (e40 1)) 45 v45n52) 46 v46n54) 47 v47n56) 7 v47n56) 49 (e40 5)) 50 v50n58) 51 (e40 32)) 52 v52n60) 53 v53n62) 54 v54n64) 55 v47n56) 56 v56n66) 57 v57n70) 48 v57n70) 58 v58n72) 59 v59n74) 8 v8n76) 9 v59n74) 60 v60n79) 61 v61n82) 62 v62n85) 63 v63n88) 64 v64n91) 65 v65n94) 66 v66n97) 67 v67n100) 68 v68n103) 69 v69n106) 70 v70n109) 71 v71n112) 72 v72n115) 73 v73n118) 74 v74n121) 75 v75n124) 76 v76n127) 77 v77n133) 10 v77n133) 78 v77n133) 79 v79n136) 80 v77n133) 4 v77n133) w137) (fun (K138 : KT) =>
K138 .normal (Env.put (Env.put (Env.put (Env.put (Env.put (Env.put (Env.put (Env.put (Env.put (Env.put (Env.put (Env.put (Env.put (Env.put (Env.put (Env.put (Env.put (Env.put (Env.put (Env.put (Env.put (Env.put (Env.put (Env.put (Env.put (Env.put (Env.put (Env.put (Env.put (Env.put (Env.put (Env.put (Env.put (Env.put (Env.put (Env.put (Env.put (Env.put (Env.put (Env.put (Env.put (Env.put (Env.put (Env.put (Env.put (Env.put (Env.put (Env.put (Env.put (Env.put (Env.put e40 34 (e40 32)) 6 (e40 32)) 35 (e40 1)) 36 (e40 32)) 37 v37n42) 38 (e40 1)) 39 v39n44) 40 v40n46) 41 (e40 32)) 42 v42n48) 43 v43n50) 44 (e40 1)) 45 v45n52) 46 v46n54) 47 v47n56) 7 v47n56) 49 (e40 5)) 50 v50n58) 51 (e40 32)) 52 v52n60) 53 v53n62) 54 v54n64) 55 v47n56) 56 v56n66) 57 v57n70) 48 v57n70) 58 v58n72) 59 v59n74) 8 v8n76) 9 v59n74) 60 v60n79) 61 v61n82) 62 v62n85) 63 v63n88) 64 v64n91) 65 v65n94) 66 v66n97) 67 v67n100) 68 v68n103) 69 v69n106) 70 v70n109) 71 v71n112) 72 v72n115) 73 v73n118) 74 v74n121) 75 v75n124) 76 v76n127) 77 v77n133) 10 v77n133) 78 v77n133) 79 v79n136) w137) (blockK 2 (thenK (fun e139 w140 =>
bindV (pBin P BinOp.add 3 true (e139 32) (Value.int IntKind.i64 1) w140) fun v81n141 w142 =>
K .normal (Env.put (Env.put e139 81 v81n141) 32 v81n141) w142) K))) (fun c131 w132 => ∀ (e130 : Env), agreeOff [60, 61, 62, 63, 64, 65, 66, 67, 68, 69, 70, 71, 72, 73, 74, 75, 76] (Env.put (Env.put (Env.put (Env.put (Env.put (Env.put (Env.put (Env.put (Env.put (Env.put (Env.put (Env.put (Env.put (Env.put (Env.put (Env.put (Env.put (Env.put (Env.put (Env.put (Env.put (Env.put (Env.put (Env.put (Env.put (Env.put (Env.put (Env.put (Env.put (Env.put (Env.put (Env.put (Env.put (Env.put (Env.put (Env.put (Env.put (Env.put (Env.put (Env.put (Env.put (Env.put (Env.put (Env.put (Env.put (Env.put (Env.put e40 34 (e40 32)) 6 (e40 32)) 35 (e40 1)) 36 (e40 32)) 37 v37n42) 38 (e40 1)) 39 v39n44) 40 v40n46) 41 (e40 32)) 42 v42n48) 43 v43n50) 44 (e40 1)) 45 v45n52) 46 v46n54) 47 v47n56) 7 v47n56) 49 (e40 5)) 50 v50n58) 51 (e40 32)) 52 v52n60) 53 v53n62) 54 v54n64) 55 v47n56) 56 v56n66) 57 v57n70) 48 v57n70) 58 v58n72) 59 v59n74) 8 v8n76) 9 v59n74) 60 v60n79) 61 v61n82) 62 v62n85) 63 v63n88) 64 v64n91) 65 v65n94) 66 v66n97) 67 v67n100) 68 v68n103) 69 v69n106) 70 v70n109) 71 v71n112) 72 v72n115) 73 v73n118) 74 v74n121) 75 v75n124) 76 v76n127) e130 → K (.panic c131) e130 w132)) (fun c68 w69 => K (.panic c68) (Env.put (Env.put (Env.put (Env.put (Env.put (Env.put (Env.put (Env.put (Env.put (Env.put (Env.put (Env.put (Env.put (Env.put (Env.put (Env.put (Env.put (Env.put (Env.put (Env.put (Env.put (Env.put (Env.put (Env.put e40 34 (e40 32)) 6 (e40 32)) 35 (e40 1)) 36 (e40 32)) 37 v37n42) 38 (e40 1)) 39 v39n44) 40 v40n46) 41 (e40 32)) 42 v42n48) 43 v43n50) 44 (e40 1)) 45 v45n52) 46 v46n54) 47 v47n56) 7 v47n56) 49 (e40 5)) 50 v50n58) 51 (e40 32)) 52 v52n60) 53 v53n62) 54 v54n64) 55 v47n56) 56 v56n66) w69)) K)
def F47 (a0 : Value) (a1 : Value) (w : World) (R : Ending → World → Prop) : Prop :=
nilE a0 fun v13n1 =>
bindV (pFieldAddr P 119 v13n1 0 w) fun v14n2 w3 =>
bindV (pLoad P 34 v14n2 w3) fun v15n4 w5 =>
callE P 34 #[v15n4] w5 (fun v16n8 w9 =>
condE v16n8 (fun (K10 : KT) =>
K10 .ret (Env.put (Env.put (Env.put (Env.put (Env.put (Env.put (Env.put (Env.put (argE [a0, a1]) 4 (Value.int IntKind.i64 0)) 12 a0) 13 v13n1) 14 v14n2) 15 v15n4) 16 v16n8) 11 v16n8) 4 (Value.int IntKind.i64 14)) w9) (fun (K10 : KT) =>
bindV (pBuiltin P Builtin.len #[22] 3 [a1] w9) fun v19n11 w12 =>
bindV (pBin P BinOp.gtr 3 true v19n11 (Value.int IntKind.i64 3840) w12) fun v20n13 w14 =>
condE v20n13 (fun (K15 : KT) =>
K15 .ret (Env.put (Env.put (Env.put (Env.put (Env.put (Env.put (Env.put (Env.put (Env.put (Env.put (Env.put (Env.put (argE [a0, a1]) 4 (Value.int IntKind.i64 0)) 12 a0) 13 v13n1) 14 v14n2) 15 v15n4) 16 v16n8) 11 v16n8) 18 a1) 19 v19n11) 20 v20n13) 17 v20n13) 4 (Value.int IntKind.i64 3)) w14) (fun (K15 : KT) =>
bindV (pBuiltin P Builtin.len #[22] 3 [a1] w14) fun v23n16 w17 =>
callE P 56 #[v23n16] w17 (fun v24n20 w21 =>
callE P 53 #[a0] w21 (fun v26n24 w25 =>
bindV (pBin P BinOp.gtr 3 false v24n20 v26n24 w25) fun v27n26 w27 =>
condE v27n26 (fun (K28 : KT) =>
K28 .ret (Env.put (Env.put (Env.put (Env.put (Env.put (Env.put (Env.put (Env.put (Env.put (Env.put (Env.put (Env.put (Env.put (Env.put (Env.put (Env.put (Env.put (Env.put (Env.put (argE [a0, a1]) 4 (Value.int IntKind.i64 0)) 12 a0) 13 v13n1) 14 v14n2) 15 v15n4) 16 v16n8) 11 v16n8) 18 a1) 19 v19n11) 20 v20n13) 17 v20n13) 22 a1) 23 v23n16) 24 v24n20) 25 a0) 26 v26n24) 27 v27n26) 21 v27n26) 4 (Value.int IntKind.i64 8)) w27) (fun (K28 : KT) =>
K28 .normal (Env.put (Env.put (Env.put (Env.put (Env.put (Env.put (Env.put (Env.put (Env.put (Env.put (Env.put (Env.put (Env.put (Env.put (Env.put (Env.put (Env.put (Env.put (argE [a0, a1]) 4 (Value.int IntKind.i64 0)) 12 a0) 13 v13n1) 14 v14n2) 15 v15n4) 16 v16n8) 11 v16n8) 18 a1) 19 v19n11) 20 v20n13) 17 v20n13) 22 a1) 23 v23n16) 24 v24n20) 25 a0) 26 v26n24) 27 v27n26) 21 v27n26) w27) K15) (fun c22 w23 => K15 (.panic c22) (Env.put (Env.put (Env.put (Env.put (Env.put (Env.put (Env.put (Env.put (Env.put (Env.put (Env.put (Env.put (Env.put (Env.put (Env.put (argE [a0, a1]) 4 (Value.int IntKind.i64 0)) 12 a0) 13 v13n1) 14 v14n2) 15 v15n4) 16 v16n8) 11 v16n8) 18 a1) 19 v19n11) 20 v20n13) 17 v20n13) 22 a1) 23 v23n16) 24 v24n20) 25 a0) w23)) (fun c18 w19 => K15 (.panic c18) (Env.put (Env.put (Env.put (Env.put (Env.put (Env.put (Env.put (Env.put (Env.put (Env.put (Env.put (Env.put (Env.put (argE [a0, a1]) 4 (Value.int IntKind.i64 0)) 12 a0) 13 v13n1) 14 v14n2) 15 v15n4) 16 v16n8) 11 v16n8) 18 a1) 19 v19n11) 20 v20n13) 17 v20n13) 22 a1) 23 v23n16) w19)) K10) (blockK 0 (thenK (fun e29 w30 =>
bindV (pBuiltin P Builtin.len #[22] 3 [(e29 1)] w30) fun v29n31 w32 =>
callE P 56 #[v29n31] w32 (fun v30n35 w36 =>
loopE F47B0 (Env.put (Env.put (Env.put (Env.put (Env.put (Env.put e29 28 (e29 1)) 29 v29n31) 30 v30n35) 5 v30n35) 31 v30n35) 32 (Value.int IntKind.i64 0)) w36 (blockK 1 (thenK (fun e143 w144 =>
nilE (e143 0) fun v83n145 =>
bindV (pFieldAddr P 119 v83n145 2 w144) fun v84n146 w147 =>
bindV (pLoad P 3 v84n146 w147) fun v85n148 w149 =>
bindV (pBin P BinOp.add 3 false v85n148 (e143 5) w149) fun v87n150 w151 =>
nilE (e143 0) fun v88n152 =>
bindV (pFieldAddr P 119 v88n152 2 w151) fun v89n153 w154 =>
bindU (pStore P 3 v89n153 v87n150 w154) fun w155 =>
R (.returned (Value.int IntKind.i64 0)) w155) (topK P [(ResultVar.tmp 4)] R)))) (fun c33 w34 => R (.panicked c33) w34)) (topK P [(ResultVar.tmp 4)] R)))) (fun c6 w7 => R (.panicked c6) w7)
theorem F47ok {w : World} {R : Ending → World → Prop} {a0 : Value} {a1 : Value} (h : F47 a0 a1 w R) : Calls P 47 #[a0, a1] w R :=
  calls_of_ev bodies mixed (c := bodyOf Try.f47) (nt := 90) (rs := [(ResultVar.tmp 4)]) (args := [a0, a1]) (fn := Try.f47) (by kernel_rfl) (by kernel_rfl) (by kernel_rfl) (by kernel_rfl) (by kernel_rfl) (by simp)
    (eq_mp (show F47 a0 a1 w R = ev P C (bodyOf Try.f47) (argE [a0, a1]) w (topK P [(ResultVar.tmp 4)] R) by kernel_rfl) h)

/-! ### moiety/roll.Scan -/
def F48B0 (e : Env) (w : World) (K : KT) : Prop :=
bindV (pLoad P 65 (e 3) w) fun v20n21 w22 =>
callE P 73 #[(e 0), v20n21, (e 8)] w22 (fun v22n25 w26 =>
bindV (pExtract P v22n25 0 w26) fun v23n27 w28 =>
bindV (pExtract P v22n25 1 w28) fun v24n29 w30 =>
bindV (pExtract P v22n25 2 w30) fun v25n31 w32 =>
letK (blockK 1 K) fun (K33 : KT) =>
bindV (pBin P BinOp.neq 26 true v25n31 (Value.int IntKind.i64 0) w32) fun v27n34 w35 =>
grdE v27n34 false (fun (k36 : Value → World → Prop) => k36 v24n29 w35) (fun v29n37 w38 =>
grdE v27n34 false (fun (k39 : Value → World → Prop) => bindV (pBin P BinOp.eql 3 true v29n37 (Value.int IntKind.i64 0) w38) k39) (fun v30n40 w41 =>
pickE v27n34 (Value.bool true) v30n40 fun v31n42 =>
condE v31n42 (fun (K43 : KT) =>
K43 .ret (Env.put (Env.put (Env.put (Env.put (Env.put (Env.put (Env.put (Env.put (Env.put (Env.put (Env.put (Env.put (Env.put (Env.put (Env.put (Env.put (Env.put (Env.put (Env.put (Env.put (Env.put (Env.put (Env.put e 19 (e 0)) 20 v20n21) 21 (e 8)) 22 v22n25) 18 v22n25) 23 v23n27) 24 v24n29) 25 v25n31) 9 v23n27) 10 v24n29) 11 v25n31) 26 v25n31) 27 v27n34) 28 v27n34) 29 v29n37) 30 v30n40) 31 v31n42) 32 (e 7)) 33 (e 8)) 34 v25n31) 4 (e 7)) 5 (e 8)) 6 v25n31) w41) (fun (K43 : KT) =>
K43 .normal (Env.put (Env.put (Env.put (Env.put (Env.put (Env.put (Env.put (Env.put (Env.put (Env.put (Env.put (Env.put (Env.put (Env.put (Env.put (Env.put (Env.put e 19 (e 0)) 20 v20n21) 21 (e 8)) 22 v22n25) 18 v22n25) 23 v23n27) 24 v24n29) 25 v25n31) 9 v23n27) 10 v24n29) 11 v25n31) 26 v25n31) 27 v27n34) 28 v27n34) 29 v29n37) 30 v30n40) 31 v31n42) w41) (thenK (fun e44 w45 =>
bindV (pBuildSlice P 67 1 [(0, (e44 9))] w45) fun v37n46 w47 =>
bindV (pBuiltin P Builtin.append #[67, 67] 67 [(e44 7), v37n46] w47) fun v38n48 w49 =>
bindV (pBin P BinOp.add 3 false (e44 8) (e44 10) w49) fun v41n50 w51 =>
K33 .normal (Env.put (Env.put (Env.put (Env.put (Env.put (Env.put (Env.put (Env.put (Env.put e44 35 (e44 7)) 36 (e44 9)) 37 v37n46) 38 v38n48) 7 v38n48) 39 (e44 8)) 40 (e44 10)) 41 v41n50) 8 v41n50) w51) K33)) w38) w35) (fun c23 w24 => K (.panic c23) (Env.put (Env.put (Env.put e 19 (e 0)) 20 v20n21) 21 (e 8)) w24)
def F48 (a0 : Value) (a1 : Value) (w : World) (R : Ending → World → Prop) : Prop :=
bindV (pBox P 65 a1 w) fun v3n1 w2 =>
callE P 34 #[a0] w2 (fun v13n5 w6 =>
condE v13n5 (fun (K7 : KT) =>
K7 .ret (Env.put (Env.put (Env.put (Env.put (Env.put (Env.put (Env.put (Env.put (Env.put (argE [a0, a1]) 3 v3n1) 4 (Value.slice none 0 0)) 5 (Value.int IntKind.i64 0)) 6 (Value.int IntKind.i64 0)) 12 a0) 13 v13n5) 4 (Value.slice none 0 0)) 5 (Value.int IntKind.i64 0)) 6 (Value.int IntKind.i64 14)) w6) (fun (K7 : KT) =>
K7 .normal (Env.put (Env.put (Env.put (Env.put (Env.put (Env.put (argE [a0, a1]) 3 v3n1) 4 (Value.slice none 0 0)) 5 (Value.int IntKind.i64 0)) 6 (Value.int IntKind.i64 0)) 12 a0) 13 v13n5) w6) (thenK (fun e8 w9 =>
bindV (pLoad P 65 (e8 3) w9) fun v15n10 w11 =>
callE P 72 #[(e8 0), v15n10] w11 (fun v16n14 w15 =>
bindV (pUn P UnOp.not v16n14 w15) fun v17n16 w17 =>
condE v17n16 (fun (K18 : KT) =>
K18 .ret (Env.put (Env.put (Env.put (Env.put (Env.put (Env.put (Env.put e8 14 (e8 0)) 15 v15n10) 16 v16n14) 17 v17n16) 4 (Value.slice none 0 0)) 5 (Value.int IntKind.i64 0)) 6 (Value.int IntKind.i64 1)) w17) (fun (K18 : KT) =>
K18 .normal (Env.put (Env.put (Env.put (Env.put e8 14 (e8 0)) 15 v15n10) 16 v16n14) 17 v17n16) w17) (thenK (fun e19 w20 =>
loopE F48B0 (Env.put (Env.put e19 7 (Value.slice none 0 0)) 8 (Value.int IntKind.i64 0)) w20 (blockK 0 (topK P [(ResultVar.tmp 4), (ResultVar.tmp 5), (ResultVar.tmp 6)] R))) (topK P [(ResultVar.tmp 4), (ResultVar.tmp 5), (ResultVar.tmp 6)] R))) (fun c12 w13 => R (.panicked c12) w13)) (topK P [(ResultVar.tmp 4), (ResultVar.tmp 5), (ResultVar.tmp 6)] R))) (fun c3 w4 => R (.panicked c3) w4)
theorem F48ok {w : World} {R : Ending → World → Prop} {a0 : Value} {a1 : Value} (h : F48 a0 a1 w R) : Calls P 48 #[a0, a1] w R :=
  calls_of_ev bodies mixed (c := bodyOf Try.f48) (nt := 42) (rs := [(ResultVar.tmp 4), (ResultVar.tmp 5), (ResultVar.tmp 6)]) (args := [a0, a1]) (fn := Try.f48) (by kernel_rfl) (by kernel_rfl) (by kernel_rfl) (by kernel_rfl) (by kernel_rfl) (by simp)
    (eq_mp (show F48 a0 a1 w R = ev P C (bodyOf Try.f48) (argE [a0, a1]) w (topK P [(ResultVar.tmp 4), (ResultVar.tmp 5), (ResultVar.tmp 6)] R) by kernel_rfl) h)

/-! ### (*moiety/roll.Roll).Sync -/
def F49 (a0 : Value) (w : World) (R : Ending → World → Prop) : Prop :=
nilE a0 fun v4n1 =>
bindV (pFieldAddr P 119 v4n1 0 w) fun v5n2 w3 =>
bindV (pLoad P 34 v5n2 w3) fun v6n4 w5 =>
callE P 29 #[v6n4] w5 (fun v7n8 w9 =>
R (.returned v7n8) w9) (fun c6 w7 => R (.panicked c6) w7)
theorem F49ok {w : World} {R : Ending → World → Prop} {a0 : Value} (h : F49 a0 w R) : Calls P 49 #[a0] w R :=
  calls_of_ev bodies mixed (c := bodyOf Try.f49) (nt := 8) (rs := [(ResultVar.tmp 2)]) (args := [a0]) (fn := Try.f49) (by kernel_rfl) (by kernel_rfl) (by kernel_rfl) (by kernel_rfl) (by kernel_rfl) (by simp)
    (eq_mp (show F49 a0 w R = ev P C (bodyOf Try.f49) (argE [a0]) w (topK P [(ResultVar.tmp 2)] R) by kernel_rfl) h)

/-! ### moiety/roll.Clear -/
def F50 (a0 : Value) (a1 : Value) (w : World) (R : Ending → World → Prop) : Prop :=
bindV (pBox P 65 a1 w) fun v3n1 w2 =>
callE P 34 #[a0] w2 (fun v6n5 w6 =>
condE v6n5 (fun (K7 : KT) =>
K7 .ret (Env.put (Env.put (Env.put (Env.put (Env.put (argE [a0, a1]) 3 v3n1) 4 (Value.int IntKind.i64 0)) 5 a0) 6 v6n5) 4 (Value.int IntKind.i64 14)) w6) (fun (K7 : KT) =>
K7 .normal (Env.put (Env.put (Env.put (Env.put (argE [a0, a1]) 3 v3n1) 4 (Value.int IntKind.i64 0)) 5 a0) 6 v6n5) w6) (thenK (fun e8 w9 =>
bindV (pLoad P 65 (e8 3) w9) fun v8n10 w11 =>
callE P 72 #[(e8 0), v8n10] w11 (fun v9n14 w15 =>
bindV (pUn P UnOp.not v9n14 w15) fun v10n16 w17 =>
condE v10n16 (fun (K18 : KT) =>
K18 .ret (Env.put (Env.put (Env.put (Env.put (Env.put e8 7 (e8 0)) 8 v8n10) 9 v9n14) 10 v10n16) 4 (Value.int IntKind.i64 1)) w17) (fun (K18 : KT) =>
K18 .normal (Env.put (Env.put (Env.put (Env.put e8 7 (e8 0)) 8 v8n10) 9 v9n14) 10 v10n16) w17) (thenK (fun e19 w20 =>
bindV (pFieldAddr P 65 (e19 3) 0 w20) fun v12n21 w22 =>
bindV (pLoad P 3 v12n21 w22) fun v13n23 w24 =>
bindV (pFieldAddr P 65 (e19 3) 1 w24) fun v14n25 w26 =>
bindV (pLoad P 3 v14n25 w26) fun v15n27 w28 =>
callE P 42 #[(e19 0), v13n23, v15n27] w28 (fun v16n31 w32 =>
R (.returned v16n31) w32) (fun c29 w30 => R (.panicked c29) w30)) (topK P [(ResultVar.tmp 4)] R))) (fun c12 w13 => R (.panicked c12) w13)) (topK P [(ResultVar.tmp 4)] R))) (fun c3 w4 => R (.panicked c3) w4)
theorem F50ok {w : World} {R : Ending → World → Prop} {a0 : Value} {a1 : Value} (h : F50 a0 a1 w R) : Calls P 50 #[a0, a1] w R :=
  calls_of_ev bodies mixed (c := bodyOf Try.f50) (nt := 17) (rs := [(ResultVar.tmp 4)]) (args := [a0, a1]) (fn := Try.f50) (by kernel_rfl) (by kernel_rfl) (by kernel_rfl) (by kernel_rfl) (by kernel_rfl) (by simp)
    (eq_mp (show F50 a0 a1 w R = ev P C (bodyOf Try.f50) (argE [a0, a1]) w (topK P [(ResultVar.tmp 4)] R) by kernel_rfl) h)

/-! ### moiety/moietyref19.Scan -/
def F51B0 (e : Env) (w : World) (K : KT) : Prop :=
bindV (pBuiltin P Builtin.len #[76] 3 [(e 0)] w) fun v11n3 w4 =>
bindV (pBin P BinOp.lss 3 false (e 5) v11n3 w4) fun v12n5 w6 =>
condE v12n5 (fun (K7 : KT) =>
K7 .normal (Env.put (Env.put (Env.put (Env.put e 9 (e 5)) 10 (e 0)) 11 v11n3) 12 v12n5) w6) (fun (K7 : KT) =>
K7 (.exit 0) (Env.put (Env.put (Env.put (Env.put e 9 (e 5)) 10 (e 0)) 11 v11n3) 12 v12n5) w6) (thenK (fun e8 w9 =>
bindV (pSlice P 76 (e8 0) (some (e8 5)) none none w9) fun v16n10 w11 =>
callE P 74 #[v16n10] w11 (fun v17n14 w15 =>
bindV (pExtract P v17n14 0 w15) fun v18n16 w17 =>
bindV (pExtract P v17n14 1 w17) fun v19n18 w19 =>
letK (blockK 1 K) fun (K20 : KT) =>
bindV (pBin P BinOp.eql 3 true v19n18 (Value.int IntKind.i64 0) w19) fun v21n21 w22 =>
condE v21n21 (fun (K23 : KT) =>
K23 .ret (Env.put (Env.put (Env.put (Env.put (Env.put (Env.put (Env.put (Env.put (Env.put (Env.put (Env.put (Env.put (Env.put (Env.put (Env.put e8 14 (e8 0)) 15 (e8 5)) 16 v16n10) 17 v17n14) 13 v17n14) 18 v18n16) 19 v19n18) 6 v18n16) 7 v19n18) 20 v19n18) 21 v21n21) 22 (e8 4)) 23 (e8 5)) 2 (e8 4)) 3 (e8 5)) w22) (fun (K23 : KT) =>
K23 .normal (Env.put (Env.put (Env.put (Env.put (Env.put (Env.put (Env.put (Env.put (Env.put (Env.put (Env.put e8 14 (e8 0)) 15 (e8 5)) 16 v16n10) 17 v17n14) 13 v17n14) 18 v18n16) 19 v19n18) 6 v18n16) 7 v19n18) 20 v19n18) 21 v21n21) w22) (thenK (fun e24 w25 =>
bindV (pBuildSlice P 67 1 [(0, (e24 6))] w25) fun v26n26 w27 =>
bindV (pBuiltin P Builtin.append #[67, 67] 67 [(e24 4), v26n26] w27) fun v27n28 w29 =>
bindV (pBin P BinOp.add 3 false (e24 5) (e24 7) w29) fun v30n30 w31 =>
K20 .normal (Env.put (Env.put (Env.put (Env.put (Env.put (Env.put (Env.put (Env.put (Env.put e24 24 (e24 4)) 25 (e24 6)) 26 v26n26) 27 v27n28) 4 v27n28) 28 (e24 5)) 29 (e24 7)) 30 v30n30) 5 v30n30) w31) K20)) (fun c12 w13 => K (.panic c12) (Env.put (Env.put (Env.put e8 14 (e8 0)) 15 (e8 5)) 16 v16n10) w13)) K)
def F51 (a0 : Value) (w : World) (R : Ending → World → Prop) : Prop :=
bindV (pBuildSlice P 67 0 [] w) fun v8n1 w2 =>
loopE F51B0 (Env.put (Env.put (Env.put (Env.put (Env.put (argE [a0]) 2 (Value.slice none 0 0)) 3 (Value.int IntKind.i64 0)) 8 v8n1) 4 v8n1) 5 (Value.int IntKind.i64 0)) w2 (blockK 0 (thenK (fun e32 w33 =>
R (.returned (.tuple #[(e32 4), (e32 5)])) w33) (topK P [(ResultVar.tmp 2), (ResultVar.tmp 3)] R)))
theorem F51ok {w : World} {R : Ending → World → Prop} {a0 : Value} (h : F51 a0 w R) : Calls P 51 #[a0] w R :=
  calls_of_ev bodies mixed (c := bodyOf Try.f51) (nt := 33) (rs := [(ResultVar.tmp 2), (ResultVar.tmp 3)]) (args := [a0]) (fn := Try.f51) (by kernel_rfl) (by kernel_rfl) (by kernel_rfl) (by kernel_rfl) (by kernel_rfl) (by simp)
    (eq_mp (show F51 a0 w R = ev P C (bodyOf Try.f51) (argE [a0]) w (topK P [(ResultVar.tmp 2), (ResultVar.tmp 3)] R) by kernel_rfl) h)

/-! ### moiety/moietylaw19.same -/
def F52B0 (e : Env) (w : World) (K : KT) : Prop :=
bindV (pBin P BinOp.lss 3 false (e 8) (e 7) w) fun v9n3 w4 =>
condE v9n3 (fun (K5 : KT) =>
K5 .normal (Env.put e 9 v9n3) w4) (fun (K5 : KT) =>
K5 (.exit 0) (Env.put e 9 v9n3) w4) (thenK (fun e6 w7 =>
takeE (fun w10 => some ((e6 8), w10)) (drew w7) fun v11n8 h9 =>
takeE (fun w13 => some ((e6 1), w13)) (drew w7) fun v12n11 h12 =>
takeE (fun w16 => pBuiltin P Builtin.len #[67] 3 [v12n11] w16) (drew w7) fun v13n14 h15 =>
takeE (fun w19 => pBin P BinOp.geq 3 false v11n8 v13n14 w19) (drew w7) fun v14n17 h18 =>
takeE (fun w22 => some (v14n17, w22)) (drew w7) fun v15n20 h21 =>
takeE (fun w25 => qGrd v15n20 false (fun w25 => some ((e6 0), w25)) w25) (drew w7) fun v16n23 h24 =>
takeE (fun w28 => qGrd v15n20 false (fun w28 => some ((e6 8), w28)) w28) (drew w7) fun v17n26 h27 =>
takeE (fun w31 => qGrd v15n20 false (fun w31 => pIndexAddr P 67 v16n23 v17n26 w31) w31) (drew w7) fun v18n29 h30 =>
takeE (fun w34 => qGrd v15n20 false (fun w34 => pLoad P 22 v18n29 w34) w34) (drew w7) fun v19n32 h33 =>
takeE (fun w37 => qGrd v15n20 false (fun w37 => pConv P 22 9 v19n32 w37) w37) (drew w7) fun v20n35 h36 =>
takeE (fun w40 => qGrd v15n20 false (fun w40 => some ((e6 1), w40)) w40) (drew w7) fun v21n38 h39 =>
takeE (fun w43 => qGrd v15n20 false (fun w43 => some ((e6 8), w43)) w43) (drew w7) fun v22n41 h42 =>
takeE (fun w46 => qGrd v15n20 false (fun w46 => pIndexAddr P 67 v21n38 v22n41 w46) w46) (drew w7) fun v23n44 h45 =>
takeE (fun w49 => qGrd v15n20 false (fun w49 => pLoad P 22 v23n44 w49) w49) (drew w7) fun v24n47 h48 =>
takeE (fun w52 => qGrd v15n20 false (fun w52 => pConv P 22 9 v24n47 w52) w52) (drew w7) fun v25n50 h51 =>
takeE (fun w55 => qGrd v15n20 false (fun w55 => pBin P BinOp.neq 9 false v20n35 v25n50 w55) w55) (drew w7) fun v26n53 h54 =>
takeE (fun w58 => qPick v15n20 (Value.bool true) v26n53 w58) (drew w7) fun v27n56 h57 =>
condE v27n56 (fun (K59 : KT) =>
K59 .ret (Env.put (Env.put (Env.put (Env.put (Env.put (Env.put (Env.put (Env.put (Env.put (Env.put (Env.put (Env.put (Env.put (Env.put (Env.put (Env.put (Env.put (Env.put (Env.put (Env.put e6 10 (e6 8)) 5 (e6 8)) 11 v11n8) 12 v12n11) 13 v13n14) 14 v14n17) 15 v15n20) 16 v16n23) 17 v17n26) 18 v18n29) 19 v19n32) 20 v20n35) 21 v21n38) 22 v22n41) 23 v23n44) 24 v24n47) 25 v25n50) 26 v26n53) 27 v27n56) 4 (Value.bool false)) (drew w7)) (fun (K59 : KT) =>
K59 .normal (Env.put (Env.put (Env.put (Env.put (Env.put (Env.put (Env.put (Env.put (Env.put (Env.put (Env.put (Env.put (Env.put (Env.put (Env.put (Env.put (Env.put (Env.put (Env.put e6 10 (e6 8)) 5 (e6 8)) 11 v11n8) 12 v12n11) 13 v13n14) 14 v14n17) 15 v15n20) 16 v16n23) 17 v17n26) 18 v18n29) 19 v19n32) 20 v20n35) 21 v21n38) 22 v22n41) 23 v23n44) 24 v24n47) 25 v25n50) 26 v26n53) 27 v27n56) (drew w7)) (blockK 1 (thenK (fun e60 w61 =>
bindV (pBin P BinOp.add 3 true (e60 8) (Value.int IntKind.i64 1) w61) fun v28n62 w63 =>
K .normal (Env.put (Env.put e60 28 v28n62) 8 v28n62) w63) K))) K)
def F52 (a0 : Value) (a1 : Value) (w : World) (R : Ending → World → Prop) : Prop :=
bindV (pBuiltin P Builtin.len #[67] 3 [a0] w) fun v7n1 w2 =>
loopE F52B0 (Env.put (Env.put (Env.put (Env.put (argE [a0, a1]) 4 (Value.bool false)) 6 a0) 7 v7n1) 8 (Value.int IntKind.i64 0)) w2 (blockK 0 (thenK (fun e64 w65 =>
bindV (pBuiltin P Builtin.len #[67] 3 [(e64 0)] w65) fun v30n66 w67 =>
bindV (pBuiltin P Builtin.len #[67] 3 [(e64 1)] w67) fun v32n68 w69 =>
bindV (pBin P BinOp.eql 3 false v30n66 v32n68 w69) fun v33n70 w71 =>
R (.returned v33n70) w71) (topK P [(ResultVar.tmp 4)] R)))
theorem F52ok {w : World} {R : Ending → World → Prop} {a0 : Value} {a1 : Value} (h : F52 a0 a1 w R) : Calls P 52 #[a0, a1] w R :=
  calls_of_ev bodies mixed (c := bodyOf Try.f52) (nt := 34) (rs := [(ResultVar.tmp 4)]) (args := [a0, a1]) (fn := Try.f52) (by kernel_rfl) (by kernel_rfl) (by kernel_rfl) (by kernel_rfl) (by kernel_rfl) (by simp)
    (eq_mp (show F52 a0 a1 w R = ev P C (bodyOf Try.f52) (argE [a0, a1]) w (topK P [(ResultVar.tmp 4)] R) by kernel_rfl) h)

/-! ### (*moiety/roll.Roll).Left -/
def F53 (a0 : Value) (w : World) (R : Ending → World → Prop) : Prop :=
takeE (fun w3 => some (a0, w3)) (drew w) fun v3n1 h2 =>
takeE (fun w6 => qNil v3n1 w6) (drew w) fun v4n4 h5 =>
takeE (fun w9 => pFieldAddr P 119 v4n4 1 w9) (drew w) fun v5n7 h8 =>
takeE (fun w12 => pFieldAddr P 65 v5n7 1 w12) (drew w) fun v6n10 h11 =>
takeE (fun w15 => pLoad P 3 v6n10 w15) (drew w) fun v7n13 h14 =>
takeE (fun w18 => some (a0, w18)) (drew w) fun v8n16 h17 =>
takeE (fun w21 => qNil v8n16 w21) (drew w) fun v9n19 h20 =>
takeE (fun w24 => pFieldAddr P 119 v9n19 2 w24) (drew w) fun v10n22 h23 =>
takeE (fun w27 => pLoad P 3 v10n22 w27) (drew w) fun v11n25 h26 =>
takeE (fun w30 => pBin P BinOp.sub 3 false v7n13 v11n25 w30) (drew w) fun v12n28 h29 =>
R (.returned v12n28) (drew w)
theorem F53ok {w : World} {R : Ending → World → Prop} {a0 : Value} (h : F53 a0 w R) : Calls P 53 #[a0] w R :=
  calls_of_ev bodies mixed (c := bodyOf Try.f53) (nt := 13) (rs := [(ResultVar.tmp 2)]) (args := [a0]) (fn := Try.f53) (by kernel_rfl) (by kernel_rfl) (by kernel_rfl) (by kernel_rfl) (by kernel_rfl) (by simp)
    (eq_mp (show F53 a0 w R = ev P C (bodyOf Try.f53) (argE [a0]) w (topK P [(ResultVar.tmp 2)] R) by kernel_rfl) h)

/-! ### moiety/moietylaw19.big -/
def F54B0 (e : Env) (w : World) (K : KT) : Prop :=
bindV (pBin P BinOp.lss 3 false (e 10) (e 9) w) fun v11n10 w11 =>
condE v11n10 (fun (K12 : KT) =>
K12 .normal (Env.put e 11 v11n10) w11) (fun (K12 : KT) =>
K12 (.exit 0) (Env.put e 11 v11n10) w11) (thenK (fun e13 w14 =>
bindV (pIndexAddr P 67 (e13 8) (e13 10) w14) fun v12n15 w16 =>
bindV (pLoad P 22 v12n15 w16) fun v13n17 w18 =>
bindV (pBuiltin P Builtin.len #[22] 3 [v13n17] w18) fun v15n19 w20 =>
bindV (pBin P BinOp.gtr 3 true v15n19 (Value.int IntKind.i64 5000) w20) fun v16n21 w22 =>
condE v16n21 (fun (K23 : KT) =>
K23 .ret (Env.put (Env.put (Env.put (Env.put (Env.put (Env.put (Env.put e13 12 v12n15) 13 v13n17) 4 v13n17) 14 v13n17) 15 v15n19) 16 v16n21) 2 (Value.bool true)) w22) (fun (K23 : KT) =>
K23 .normal (Env.put (Env.put (Env.put (Env.put (Env.put (Env.put e13 12 v12n15) 13 v13n17) 4 v13n17) 14 v13n17) 15 v15n19) 16 v16n21) w22) (blockK 1 (thenK (fun e24 w25 =>
bindV (pBin P BinOp.add 3 true (e24 10) (Value.int IntKind.i64 1) w25) fun v17n26 w27 =>
K .normal (Env.put (Env.put e24 17 v17n26) 10 v17n26) w27) K))) K)
def F54 (a0 : Value) (w : World) (R : Ending → World → Prop) : Prop :=
bindV (pBuiltin P Builtin.len #[67] 3 [a0] w) fun v6n1 w2 =>
bindV (pBin P BinOp.gtr 3 true v6n1 (Value.int IntKind.i64 20) w2) fun v7n3 w4 =>
condE v7n3 (fun (K5 : KT) =>
K5 .ret (Env.put (Env.put (Env.put (Env.put (Env.put (argE [a0]) 2 (Value.bool false)) 5 a0) 6 v6n1) 7 v7n3) 2 (Value.bool true)) w4) (fun (K5 : KT) =>
K5 .normal (Env.put (Env.put (Env.put (Env.put (argE [a0]) 2 (Value.bool false)) 5 a0) 6 v6n1) 7 v7n3) w4) (thenK (fun e6 w7 =>
bindV (pBuiltin P Builtin.len #[67] 3 [(e6 0)] w7) fun v9n8 w9 =>
loopE F54B0 (Env.put (Env.put (Env.put e6 8 (e6 0)) 9 v9n8) 10 (Value.int IntKind.i64 0)) w9 (blockK 0 (thenK (fun e28 w29 =>
R (.returned (Value.bool false)) w29) (topK P [(ResultVar.tmp 2)] R)))) (topK P [(ResultVar.tmp 2)] R))
theorem F54ok {w : World} {R : Ending → World → Prop} {a0 : Value} (h : F54 a0 w R) : Calls P 54 #[a0] w R :=
  calls_of_ev bodies mixed (c := bodyOf Try.f54) (nt := 18) (rs := [(ResultVar.tmp 2)]) (args := [a0]) (fn := Try.f54) (by kernel_rfl) (by kernel_rfl) (by kernel_rfl) (by kernel_rfl) (by kernel_rfl) (by simp)
    (eq_mp (show F54 a0 w R = ev P C (bodyOf Try.f54) (argE [a0]) w (topK P [(ResultVar.tmp 2)] R) by kernel_rfl) h)

/-! ### moiety/moietyref19.Sectors -/
def F55B1 (e : Env) (w : World) (K : KT) : Prop :=
bindV (pBin P BinOp.mul 3 true (Value.int IntKind.i64 60) (e 5) w) fun v27n29 w30 =>
bindV (pBin P BinOp.add 3 true v27n29 (Value.int IntKind.i64 60) w30) fun v28n31 w32 =>
bindV (pBin P BinOp.lss 3 false (e 7) v28n31 w32) fun v29n33 w34 =>
grdE v29n33 true (fun (k35 : Value → World → Prop) => k35 (e 7) w34) (fun v31n36 w37 =>
grdE v29n33 true (fun (k38 : Value → World → Prop) => k38 (e 0) w37) (fun v32n39 w40 =>
grdE v29n33 true (fun (k41 : Value → World → Prop) => bindV (pBuiltin P Builtin.len #[22] 3 [v32n39] w40) k41) (fun v33n42 w43 =>
grdE v29n33 true (fun (k44 : Value → World → Prop) => bindV (pBin P BinOp.lss 3 false v31n36 v33n42 w43) k44) (fun v34n45 w46 =>
pickE v29n33 v34n45 (Value.bool false) fun v35n47 =>
condE v35n47 (fun (K48 : KT) =>
K48 .normal (Env.put (Env.put (Env.put (Env.put (Env.put (Env.put (Env.put (Env.put (Env.put (Env.put (Env.put e 25 (e 7)) 26 (e 5)) 27 v27n29) 28 v28n31) 29 v29n33) 30 v29n33) 31 v31n36) 32 v32n39) 33 v33n42) 34 v34n45) 35 v35n47) w46) (fun (K48 : KT) =>
K48 (.exit 2) (Env.put (Env.put (Env.put (Env.put (Env.put (Env.put (Env.put (Env.put (Env.put (Env.put (Env.put e 25 (e 7)) 26 (e 5)) 27 v27n29) 28 v28n31) 29 v29n33) 30 v29n33) 31 v31n36) 32 v32n39) 33 v33n42) 34 v34n45) 35 v35n47) w46) (thenK (fun e49 w50 =>
bindV (pIndexAddr P 22 (e49 0) (e49 7) w50) fun v41n51 w52 =>
bindV (pLoad P 5 v41n51 w52) fun v42n53 w54 =>
bindV (pBuildSlice P 22 1 [(0, v42n53)] w54) fun v43n55 w56 =>
bindV (pBuiltin P Builtin.append #[22, 22] 22 [(e49 6), v43n55] w56) fun v44n57 w58 =>
bindV (pBin P BinOp.add 3 true (e49 7) (Value.int IntKind.i64 1) w58) fun v37n59 w60 =>
K .normal (Env.put (Env.put (Env.put (Env.put (Env.put (Env.put (Env.put (Env.put (Env.put (Env.put (Env.put e49 38 (e49 6)) 39 (e49 0)) 40 (e49 7)) 41 v41n51) 42 v42n53) 43 v43n55) 44 v44n57) 6 v44n57) 36 (e49 7)) 37 v37n59) 7 v37n59) w60) K)) w43) w40) w37) w34
def F55B0 (e : Env) (w : World) (K : KT) : Prop :=
bindV (pBin P BinOp.lss 3 false (e 5) (e 4) w) fun v14n9 w10 =>
condE v14n9 (fun (K11 : KT) =>
K11 .normal (Env.put (Env.put (Env.put e 12 (e 5)) 13 (e 4)) 14 v14n9) w10) (fun (K11 : KT) =>
K11 (.exit 0) (Env.put (Env.put (Env.put e 12 (e 5)) 13 (e 4)) 14 v14n9) w10) (thenK (fun e12 w13 =>
bindV (pBin P BinOp.sub 3 true (e12 4) (Value.int IntKind.i64 1) w13) fun v18n14 w15 =>
bindV (pBin P BinOp.sub 3 false v18n14 (e12 5) w15) fun v20n16 w17 =>
bindV (pConv P 3 5 v20n16 w17) fun v21n18 w19 =>
bindV (pBuildSlice P 22 1 [(0, v21n18)] w19) fun v22n20 w21 =>
letK (blockK 1 (thenK (fun e23 w24 =>
bindV (pBin P BinOp.add 3 true (e23 5) (Value.int IntKind.i64 1) w24) fun v16n25 w26 =>
K .normal (Env.put (Env.put (Env.put e23 15 (e23 5)) 16 v16n25) 5 v16n25) w26) K)) fun (K22 : KT) =>
bindV (pBin P BinOp.mul 3 true (Value.int IntKind.i64 60) (e12 5) w21) fun v24n27 w28 =>
loopE F55B1 (Env.put (Env.put (Env.put (Env.put (Env.put (Env.put (Env.put (Env.put (Env.put (Env.put e12 17 (e12 4)) 18 v18n14) 19 (e12 5)) 20 v20n16) 21 v21n18) 22 v22n20) 6 v22n20) 23 (e12 5)) 24 v24n27) 7 v24n27) w28 (blockK 2 (thenK (fun e61 w62 =>
callE P 24 #[(e61 6)] w62 (fun v47n65 w66 =>
bindV (pBuildSlice P 76 1 [(0, v47n65)] w66) fun v48n67 w68 =>
bindV (pBuiltin P Builtin.append #[76, 76] 76 [(e61 3), v48n67] w68) fun v49n69 w70 =>
K22 .normal (Env.put (Env.put (Env.put (Env.put (Env.put (Env.put e61 45 (e61 3)) 46 (e61 6)) 47 v47n65) 48 v48n67) 49 v49n69) 3 v49n69) w70) (fun c63 w64 => K22 (.panic c63) (Env.put (Env.put e61 45 (e61 3)) 46 (e61 6)) w64)) K22))) K)
def F55 (a0 : Value) (w : World) (R : Ending → World → Prop) : Prop :=
bindV (pBuildSlice P 76 0 [] w) fun v8n1 w2 =>
bindV (pBuiltin P Builtin.len #[22] 3 [a0] w2) fun v10n3 w4 =>
callE P 46 #[v10n3] w4 (fun v11n7 w8 =>
loopE F55B0 (Env.put (Env.put (Env.put (Env.put (Env.put (Env.put (Env.put (Env.put (argE [a0]) 2 (Value.slice none 0 0)) 8 v8n1) 3 v8n1) 9 a0) 10 v10n3) 11 v11n7) 4 v11n7) 5 (Value.int IntKind.i64 0)) w8 (blockK 0 (thenK (fun e71 w72 =>
R (.returned (e71 3)) w72) (topK P [(ResultVar.tmp 2)] R)))) (fun c5 w6 => R (.panicked c5) w6)
theorem F55ok {w : World} {R : Ending → World → Prop} {a0 : Value} (h : F55 a0 w R) : Calls P 55 #[a0] w R :=
  calls_of_ev bodies mixed (c := bodyOf Try.f55) (nt := 51) (rs := [(ResultVar.tmp 2)]) (args := [a0]) (fn := Try.f55) (by kernel_rfl) (by kernel_rfl) (by kernel_rfl) (by kernel_rfl) (by kernel_rfl) (by simp)
    (eq_mp (show F55 a0 w R = ev P C (bodyOf Try.f55) (argE [a0]) w (topK P [(ResultVar.tmp 2)] R) by kernel_rfl) h)

/-! ### moiety/roll.Need -/
def F56 (a0 : Value) (w : World) (R : Ending → World → Prop) : Prop :=
bindV (pBin P BinOp.add 3 true a0 (Value.int IntKind.i64 60) w) fun v4n1 w2 =>
bindV (pBin P BinOp.sub 3 true v4n1 (Value.int IntKind.i64 1) w2) fun v5n3 w4 =>
bindV (pBin P BinOp.quo 3 true v5n3 (Value.int IntKind.i64 60) w4) fun v6n5 w6 =>
bindV (pBuiltin P Builtin.max #[3, 3] 3 [v6n5, (Value.int IntKind.i64 1)] w6) fun v7n7 w8 =>
R (.returned v7n7) w8
theorem F56ok {w : World} {R : Ending → World → Prop} {a0 : Value} (h : F56 a0 w R) : Calls P 56 #[a0] w R :=
  calls_of_ev bodies mixed (c := bodyOf Try.f56) (nt := 8) (rs := [(ResultVar.tmp 2)]) (args := [a0]) (fn := Try.f56) (by kernel_rfl) (by kernel_rfl) (by kernel_rfl) (by kernel_rfl) (by kernel_rfl) (by simp)
    (eq_mp (show F56 a0 w R = ev P C (bodyOf Try.f56) (argE [a0]) w (topK P [(ResultVar.tmp 2)] R) by kernel_rfl) h)

/-! ### moiety/roll.fits -/
def F72 (a0 : Value) (a1 : Value) (w : World) (R : Ending → World → Prop) : Prop :=
bindV (pBox P 65 a1 w) fun v3n1 w2 =>
takeE (fun w5 => pFieldAddr P 65 v3n1 0 w5) (drew w2) fun v5n3 h4 =>
takeE (fun w8 => pLoad P 3 v5n3 w8) (drew w2) fun v6n6 h7 =>
takeE (fun w11 => pBin P BinOp.geq 3 true v6n6 (Value.int IntKind.i64 0) w11) (drew w2) fun v7n9 h10 =>
takeE (fun w14 => some (v7n9, w14)) (drew w2) fun v8n12 h13 =>
takeE (fun w17 => qGrd v8n12 true (fun w17 => pFieldAddr P 65 v3n1 1 w17) w17) (drew w2) fun v9n15 h16 =>
takeE (fun w20 => qGrd v8n12 true (fun w20 => pLoad P 3 v9n15 w20) w20) (drew w2) fun v10n18 h19 =>
takeE (fun w23 => qGrd v8n12 true (fun w23 => pBin P BinOp.geq 3 true v10n18 (Value.int IntKind.i64 1) w23) w23) (drew w2) fun v11n21 h22 =>
takeE (fun w26 => qPick v8n12 v11n21 (Value.bool false) w26) (drew w2) fun v12n24 h25 =>
takeE (fun w29 => some (v12n24, w29)) (drew w2) fun v13n27 h28 =>
takeE (fun w32 => qGrd v13n27 true (fun w32 => pFieldAddr P 65 v3n1 0 w32) w32) (drew w2) fun v14n30 h31 =>
takeE (fun w35 => qGrd v13n27 true (fun w35 => pLoad P 3 v14n30 w35) w35) (drew w2) fun v15n33 h34 =>
takeE (fun w38 => qGrd v13n27 true (fun w38 => some (a0, w38)) w38) (drew w2) fun v16n36 h37 =>
grdE v13n27 true (fun (k40 : Value → World → Prop) => callE P 36 #[v16n36] (drew w2) k40 (fun c41 w42 => ∀ (e39 : Env), agreeOff [5, 6, 7, 8, 9, 10, 11, 12, 13, 14, 15, 16] (Env.put (Env.put (Env.put (Env.put (Env.put (Env.put (Env.put (Env.put (Env.put (Env.put (Env.put (Env.put (Env.put (Env.put (argE [a0, a1]) 3 v3n1) 4 (Value.bool false)) 5 v5n3) 6 v6n6) 7 v7n9) 8 v8n12) 9 v9n15) 10 v10n18) 11 v11n21) 12 v12n24) 13 v13n27) 14 v14n30) 15 v15n33) 16 v16n36) e39 → R (.panicked c41) w42)) (fun v17n43 w44 =>
heldE [h34, h31] w44 (takeE (fun w47 => qGrd v13n27 true (fun w47 => pBin P BinOp.lss 3 false v15n33 v17n43 w47) w47) w44 fun v18n45 h46 =>
takeE (fun w50 => qPick v13n27 v18n45 (Value.bool false) w50) w44 fun v19n48 h49 =>
takeE (fun w53 => some (v19n48, w53)) w44 fun v20n51 h52 =>
takeE (fun w56 => qGrd v20n51 true (fun w56 => pFieldAddr P 65 v3n1 1 w56) w56) w44 fun v21n54 h55 =>
takeE (fun w59 => qGrd v20n51 true (fun w59 => pLoad P 3 v21n54 w59) w59) w44 fun v22n57 h58 =>
takeE (fun w62 => qGrd v20n51 true (fun w62 => some (a0, w62)) w62) w44 fun v23n60 h61 =>
takeE (fun w65 => qGrd v20n51 true (fun w65 => pFieldAddr P 65 v3n1 0 w65) w65) w44 fun v25n63 h64 =>
takeE (fun w68 => qGrd v20n51 true (fun w68 => pLoad P 3 v25n63 w68) w68) w44 fun v26n66 h67 =>
grdE v20n51 true (fun (k70 : Value → World → Prop) => callE P 36 #[v23n60] w44 k70 (fun c71 w72 => ∀ (e69 : Env), agreeOff [5, 6, 7, 8, 9, 10, 11, 12, 13, 14, 15, 16, 17, 18, 19, 20, 21, 22, 23, 25, 26] (Env.put (Env.put (Env.put (Env.put (Env.put (Env.put (Env.put (Env.put (Env.put (Env.put (Env.put (Env.put (Env.put (Env.put (Env.put (Env.put (Env.put (Env.put (Env.put (Env.put (Env.put (Env.put (Env.put (argE [a0, a1]) 3 v3n1) 4 (Value.bool false)) 5 v5n3) 6 v6n6) 7 v7n9) 8 v8n12) 9 v9n15) 10 v10n18) 11 v11n21) 12 v12n24) 13 v13n27) 14 v14n30) 15 v15n33) 16 v16n36) 17 v17n43) 18 v18n45) 19 v19n48) 20 v20n51) 21 v21n54) 22 v22n57) 23 v23n60) 25 v25n63) 26 v26n66) e69 → R (.panicked c71) w72)) (fun v24n73 w74 =>
heldE [h67, h64, h58, h55] w74 (takeE (fun w77 => qGrd v20n51 true (fun w77 => pBin P BinOp.sub 3 false v24n73 v26n66 w77) w77) w74 fun v27n75 h76 =>
takeE (fun w80 => qGrd v20n51 true (fun w80 => pBin P BinOp.leq 3 false v22n57 v27n75 w80) w80) w74 fun v28n78 h79 =>
takeE (fun w83 => qPick v20n51 v28n78 (Value.bool false) w83) w74 fun v29n81 h82 =>
R (.returned v29n81) w74)) w44)) (drew w2)
theorem F72ok {w : World} {R : Ending → World → Prop} {a0 : Value} {a1 : Value} (h : F72 a0 a1 w R) : Calls P 72 #[a0, a1] w R :=
  calls_of_ev bodies mixed (c := bodyOf Try.f72) (nt := 30) (rs := [(ResultVar.tmp 4)]) (args := [a0, a1]) (fn := Try.f72) (by kernel_rfl) (by kernel_rfl) (by kernel_rfl) (by kernel_rfl) (by kernel_rfl) (by simp)
    (eq_mp (show F72 a0 a1 w R = ev P C (bodyOf Try.f72) (argE [a0, a1]) w (topK P [(ResultVar.tmp 4)] R) by kernel_rfl) h)

/-! ### moiety/roll.one -/
def F73B0 (e : Env) (w : World) (K : KT) : Prop :=
bindV (pBin P BinOp.add 3 false (e 2) (e 11) w) fun v19n3 w4 =>
bindV (pFieldAddr P 65 (e 4) 1 w4) fun v20n5 w6 =>
bindV (pLoad P 3 v20n5 w6) fun v21n7 w8 =>
bindV (pBin P BinOp.lss 3 false v19n3 v21n7 w8) fun v22n9 w10 =>
condE v22n9 (fun (K11 : KT) =>
K11 .normal (Env.put (Env.put (Env.put (Env.put (Env.put (Env.put e 17 (e 2)) 18 (e 11)) 19 v19n3) 20 v20n5) 21 v21n7) 22 v22n9) w10) (fun (K11 : KT) =>
K11 (.exit 0) (Env.put (Env.put (Env.put (Env.put (Env.put (Env.put e 17 (e 2)) 18 (e 11)) 19 v19n3) 20 v20n5) 21 v21n7) 22 v22n9) w10) (thenK (fun e12 w13 =>
bindV (pFieldAddr P 65 (e12 4) 0 w13) fun v27n14 w15 =>
bindV (pLoad P 3 v27n14 w15) fun v28n16 w17 =>
bindV (pBin P BinOp.add 3 false v28n16 (e12 2) w17) fun v30n18 w19 =>
bindV (pBin P BinOp.add 3 false v30n18 (e12 11) w19) fun v32n20 w21 =>
callE P 31 #[(e12 0), v32n20] w21 (fun v33n24 w25 =>
bindV (pExtract P v33n24 0 w25) fun v34n26 w27 =>
bindV (pExtract P v33n24 1 w27) fun v35n28 w29 =>
bindV (pAlloc P 25 w29) fun v12n30 w31 =>
bindU (pStore P 25 v12n30 v34n26 w31) fun w32 =>
letK (blockK 1 (thenK (fun e34 w35 =>
bindV (pBin P BinOp.add 3 true (e34 11) (Value.int IntKind.i64 1) w35) fun v24n36 w37 =>
K .normal (Env.put (Env.put (Env.put e34 23 (e34 11)) 24 v24n36) 11 v24n36) w37) K)) fun (K33 : KT) =>
bindV (pBin P BinOp.neq 26 true v35n28 (Value.int IntKind.i64 0) w32) fun v37n38 w39 =>
condE v37n38 (fun (K40 : KT) =>
K40 .ret (Env.put (Env.put (Env.put (Env.put (Env.put (Env.put (Env.put (Env.put (Env.put (Env.put (Env.put (Env.put (Env.put (Env.put (Env.put (Env.put (Env.put (Env.put (Env.put e12 26 (e12 0)) 27 v27n14) 28 v28n16) 29 (e12 2)) 30 v30n18) 31 (e12 11)) 32 v32n20) 33 v33n24) 25 v33n24) 34 v34n26) 35 v35n28) 12 v12n30) 13 v35n28) 36 v35n28) 37 v37n38) 38 v35n28) 6 (Value.slice none 0 0)) 7 (Value.int IntKind.i64 0)) 8 v35n28) w39) (fun (K40 : KT) =>
K40 .normal (Env.put (Env.put (Env.put (Env.put (Env.put (Env.put (Env.put (Env.put (Env.put (Env.put (Env.put (Env.put (Env.put (Env.put (Env.put e12 26 (e12 0)) 27 v27n14) 28 v28n16) 29 (e12 2)) 30 v30n18) 31 (e12 11)) 32 v32n20) 33 v33n24) 25 v33n24) 34 v34n26) 35 v35n28) 12 v12n30) 13 v35n28) 36 v35n28) 37 v37n38) w39) (thenK (fun e41 w42 =>
bindV (pLoad P 25 (e41 12) w42) fun v40n43 w44 =>
callE P 23 #[v40n43] w44 (fun v41n47 w48 =>
bindV (pExtract P v41n47 0 w48) fun v42n49 w50 =>
bindV (pExtract P v41n47 1 w50) fun v43n51 w52 =>
bindV (pUn P UnOp.not v43n51 w52) fun v45n53 w54 =>
grdE v45n53 false (fun (k55 : Value → World → Prop) => k55 v42n49 w54) (fun v47n56 w57 =>
grdE v45n53 false (fun (k58 : Value → World → Prop) => bindV (pBuiltin P Builtin.len #[22] 3 [v47n56] w57) k58) (fun v48n59 w60 =>
grdE v45n53 false (fun (k61 : Value → World → Prop) => bindV (pBin P BinOp.lss 3 true v48n59 (Value.int IntKind.i64 1) w60) k61) (fun v49n62 w63 =>
pickE v45n53 (Value.bool true) v49n62 fun v50n64 =>
condE v50n64 (fun (K65 : KT) =>
K65 .ret (Env.put (Env.put (Env.put (Env.put (Env.put (Env.put (Env.put (Env.put (Env.put (Env.put (Env.put (Env.put (Env.put (Env.put (Env.put (Env.put (Env.put e41 40 v40n43) 41 v41n47) 39 v41n47) 42 v42n49) 43 v43n51) 14 v42n49) 15 v43n51) 44 v43n51) 45 v45n53) 46 v45n53) 47 v47n56) 48 v48n59) 49 v49n62) 50 v50n64) 6 (Value.slice none 0 0)) 7 (Value.int IntKind.i64 0)) 8 (Value.int IntKind.i64 0)) w63) (fun (K65 : KT) =>
K65 .normal (Env.put (Env.put (Env.put (Env.put (Env.put (Env.put (Env.put (Env.put (Env.put (Env.put (Env.put (Env.put (Env.put (Env.put e41 40 v40n43) 41 v41n47) 39 v41n47) 42 v42n49) 43 v43n51) 14 v42n49) 15 v43n51) 44 v43n51) 45 v45n53) 46 v45n53) 47 v47n56) 48 v48n59) 49 v49n62) 50 v50n64) w63) (thenK (fun e66 w67 =>
bindV (pIndexAddr P 22 (e66 14) (Value.int IntKind.i64 0) w67) fun v52n68 w69 =>
bindV (pLoad P 5 v52n68 w69) fun v53n70 w71 =>
bindV (pConv P 5 3 v53n70 w71) fun v54n72 w73 =>
bindV (pBin P BinOp.eql 3 true (e66 11) (Value.int IntKind.i64 0) w73) fun v56n74 w75 =>
condE v56n74 (fun (K76 : KT) =>
K76 .normal (Env.put (Env.put (Env.put (Env.put (Env.put (Env.put (Env.put (Env.put (Env.put e66 51 (e66 14)) 52 v52n68) 53 v53n70) 54 v54n72) 16 v54n72) 55 (e66 11)) 56 v56n74) 57 v54n72) 10 v54n72) w75) (fun (K76 : KT) =>
K76 .normal (Env.put (Env.put (Env.put (Env.put (Env.put (Env.put (Env.put e66 51 (e66 14)) 52 v52n68) 53 v53n70) 54 v54n72) 16 v54n72) 55 (e66 11)) 56 v56n74) w75) (thenK (fun e77 w78 =>
bindV (pBin P BinOp.sub 3 false (e77 10) (e77 11) w78) fun v61n79 w80 =>
bindV (pBin P BinOp.neq 3 false (e77 16) v61n79 w80) fun v62n81 w82 =>
grdE v62n81 false (fun (k83 : Value → World → Prop) => k83 (e77 16) w82) (fun v64n84 w85 =>
grdE v62n81 false (fun (k86 : Value → World → Prop) => bindV (pBin P BinOp.gtr 3 true v64n84 (Value.int IntKind.i64 63) w85) k86) (fun v65n87 w88 =>
pickE v62n81 (Value.bool true) v65n87 fun v66n89 =>
grdE v66n89 false (fun (k90 : Value → World → Prop) => k90 (e77 16) w88) (fun v68n91 w92 =>
grdE v66n89 false (fun (k93 : Value → World → Prop) => bindV (pBin P BinOp.gtr 3 true v68n91 (Value.int IntKind.i64 0) w92) k93) (fun v69n94 w95 =>
grdE v66n89 false (fun (k96 : Value → World → Prop) => k96 v69n94 w95) (fun v70n97 w98 =>
grdE v70n97 true (fun (k99 : Value → World → Prop) => k99 (e77 14) w98) (fun v71n100 w101 =>
grdE v70n97 true (fun (k102 : Value → World → Prop) => bindV (pBuiltin P Builtin.len #[22] 3 [v71n100] w101) k102) (fun v72n103 w104 =>
grdE v70n97 true (fun (k105 : Value → World → Prop) => bindV (pBin P BinOp.neq 3 true v72n103 (Value.int IntKind.i64 61) w104) k105) (fun v73n106 w107 =>
grdE v66n89 false (fun (k108 : Value → World → Prop) => pickE v70n97 v73n106 (Value.bool false) fun v74n109 =>
k108 v74n109 w107) (fun v74n110 w111 =>
pickE v66n89 (Value.bool true) v74n110 fun v75n112 =>
grdE v75n112 false (fun (k113 : Value → World → Prop) => k113 (e77 11) w111) (fun v77n114 w115 =>
grdE v75n112 false (fun (k116 : Value → World → Prop) => bindV (pBin P BinOp.gtr 3 true v77n114 (Value.int IntKind.i64 0) w115) k116) (fun v78n117 w118 =>
grdE v75n112 false (fun (k119 : Value → World → Prop) => k119 v78n117 w118) (fun v79n120 w121 =>
grdE v79n120 true (fun (k122 : Value → World → Prop) => k122 (e77 16) w121) (fun v80n123 w124 =>
grdE v79n120 true (fun (k125 : Value → World → Prop) => bindV (pBin P BinOp.eql 3 true v80n123 (Value.int IntKind.i64 0) w124) k125) (fun v81n126 w127 =>
grdE v75n112 false (fun (k128 : Value → World → Prop) => pickE v79n120 v81n126 (Value.bool false) fun v82n129 =>
k128 v82n129 w127) (fun v82n130 w131 =>
grdE v75n112 false (fun (k132 : Value → World → Prop) => k132 v82n130 w131) (fun v83n133 w134 =>
grdE v83n133 true (fun (k135 : Value → World → Prop) => k135 (e77 14) w134) (fun v84n136 w137 =>
grdE v83n133 true (fun (k138 : Value → World → Prop) => bindV (pBuiltin P Builtin.len #[22] 3 [v84n136] w137) k138) (fun v85n139 w140 =>
grdE v83n133 true (fun (k141 : Value → World → Prop) => bindV (pBin P BinOp.eql 3 true v85n139 (Value.int IntKind.i64 1) w140) k141) (fun v86n142 w143 =>
grdE v75n112 false (fun (k144 : Value → World → Prop) => pickE v83n133 v86n142 (Value.bool false) fun v87n145 =>
k144 v87n145 w143) (fun v87n146 w147 =>
pickE v75n112 (Value.bool true) v87n146 fun v88n148 =>
condE v88n148 (fun (K149 : KT) =>
K149 .ret (Env.put (Env.put (Env.put (Env.put (Env.put (Env.put (Env.put (Env.put (Env.put (Env.put (Env.put (Env.put (Env.put (Env.put (Env.put (Env.put (Env.put (Env.put (Env.put (Env.put (Env.put (Env.put (Env.put (Env.put (Env.put (Env.put (Env.put (Env.put (Env.put (Env.put (Env.put (Env.put (Env.put (Env.put e77 58 (e77 16)) 59 (e77 10)) 60 (e77 11)) 61 v61n79) 62 v62n81) 63 v62n81) 64 v64n84) 65 v65n87) 66 v66n89) 67 v66n89) 68 v68n91) 69 v69n94) 70 v70n97) 71 v71n100) 72 v72n103) 73 v73n106) 74 v74n110) 75 v75n112) 76 v75n112) 77 v77n114) 78 v78n117) 79 v79n120) 80 v80n123) 81 v81n126) 82 v82n130) 83 v83n133) 84 v84n136) 85 v85n139) 86 v86n142) 87 v87n146) 88 v88n148) 6 (Value.slice none 0 0)) 7 (Value.int IntKind.i64 0)) 8 (Value.int IntKind.i64 0)) w147) (fun (K149 : KT) =>
K149 .normal (Env.put (Env.put (Env.put (Env.put (Env.put (Env.put (Env.put (Env.put (Env.put (Env.put (Env.put (Env.put (Env.put (Env.put (Env.put (Env.put (Env.put (Env.put (Env.put (Env.put (Env.put (Env.put (Env.put (Env.put (Env.put (Env.put (Env.put (Env.put (Env.put (Env.put (Env.put e77 58 (e77 16)) 59 (e77 10)) 60 (e77 11)) 61 v61n79) 62 v62n81) 63 v62n81) 64 v64n84) 65 v65n87) 66 v66n89) 67 v66n89) 68 v68n91) 69 v69n94) 70 v70n97) 71 v71n100) 72 v72n103) 73 v73n106) 74 v74n110) 75 v75n112) 76 v75n112) 77 v77n114) 78 v78n117) 79 v79n120) 80 v80n123) 81 v81n126) 82 v82n130) 83 v83n133) 84 v84n136) 85 v85n139) 86 v86n142) 87 v87n146) 88 v88n148) w147) (thenK (fun e150 w151 =>
bindV (pSlice P 22 (e150 14) (some (Value.int IntKind.i64 1)) none none w151) fun v91n152 w153 =>
bindV (pBuiltin P Builtin.append #[22, 22] 22 [(e150 9), v91n152] w153) fun v92n154 w155 =>
bindV (pBin P BinOp.eql 3 true (e150 16) (Value.int IntKind.i64 0) w155) fun v94n156 w157 =>
condE v94n156 (fun (K158 : KT) =>
bindV (pBin P BinOp.add 3 true (e150 11) (Value.int IntKind.i64 1) w157) fun v97n159 w160 =>
K158 .ret (Env.put (Env.put (Env.put (Env.put (Env.put (Env.put (Env.put (Env.put (Env.put (Env.put (Env.put (Env.put (Env.put e150 89 (e150 9)) 90 (e150 14)) 91 v91n152) 92 v92n154) 9 v92n154) 93 (e150 16)) 94 v94n156) 95 v92n154) 96 (e150 11)) 97 v97n159) 6 v92n154) 7 v97n159) 8 (Value.int IntKind.i64 0)) w160) (fun (K158 : KT) =>
K158 .normal (Env.put (Env.put (Env.put (Env.put (Env.put (Env.put (Env.put e150 89 (e150 9)) 90 (e150 14)) 91 v91n152) 92 v92n154) 9 v92n154) 93 (e150 16)) 94 v94n156) w157) K33) K33)) w143) w140) w137) w134) w131) w127) w124) w121) w118) w115) w111) w107) w104) w101) w98) w95) w92) w88) w85) w82) K33)) K33)) w60) w57) w54) (fun c45 w46 => K33 (.panic c45) (Env.put e41 40 v40n43) w46)) K33)) (fun c22 w23 => K (.panic c22) (Env.put (Env.put (Env.put (Env.put (Env.put (Env.put (Env.put e12 26 (e12 0)) 27 v27n14) 28 v28n16) 29 (e12 2)) 30 v30n18) 31 (e12 11)) 32 v32n20) w23)) K)
def F73 (a0 : Value) (a1 : Value) (a2 : Value) (w : World) (R : Ending → World → Prop) : Prop :=
bindV (pBox P 65 a1 w) fun v4n1 w2 =>
loopE F73B0 (Env.put (Env.put (Env.put (Env.put (Env.put (Env.put (Env.put (argE [a0, a1, a2]) 4 v4n1) 6 (Value.slice none 0 0)) 7 (Value.int IntKind.i64 0)) 8 (Value.int IntKind.i64 0)) 9 (Value.slice none 0 0)) 10 (Value.int IntKind.i64 0)) 11 (Value.int IntKind.i64 0)) w2 (blockK 0 (thenK (fun e161 w162 =>
R (.returned (.tuple #[(Value.slice none 0 0), (Value.int IntKind.i64 0), (Value.int IntKind.i64 0)])) w162) (topK P [(ResultVar.tmp 6), (ResultVar.tmp 7), (ResultVar.tmp 8)] R)))
theorem F73ok {w : World} {R : Ending → World → Prop} {a0 : Value} {a1 : Value} {a2 : Value} (h : F73 a0 a1 a2 w R) : Calls P 73 #[a0, a1, a2] w R :=
  calls_of_ev bodies mixed (c := bodyOf Try.f73) (nt := 98) (rs := [(ResultVar.tmp 6), (ResultVar.tmp 7), (ResultVar.tmp 8)]) (args := [a0, a1, a2]) (fn := Try.f73) (by kernel_rfl) (by kernel_rfl) (by kernel_rfl) (by kernel_rfl) (by kernel_rfl) (by simp)
    (eq_mp (show F73 a0 a1 a2 w R = ev P C (bodyOf Try.f73) (argE [a0, a1, a2]) w (topK P [(ResultVar.tmp 6), (ResultVar.tmp 7), (ResultVar.tmp 8)] R) by kernel_rfl) h)

/-! ### moiety/moietyref19.one -/
def F74B1 (e : Env) (w : World) (K : KT) : Prop :=
bindV (pBin P BinOp.lss 3 false (e 12) (e 6) w) fun v84n137 w138 =>
condE v84n137 (fun (K139 : KT) =>
K139 .normal (Env.put (Env.put (Env.put e 82 (e 12)) 83 (e 6)) 84 v84n137) w138) (fun (K139 : KT) =>
K139 (.exit 2) (Env.put (Env.put (Env.put e 82 (e 12)) 83 (e 6)) 84 v84n137) w138) (thenK (fun e140 w141 =>
takeE (fun w144 => some ((e140 11), w144)) (drew w141) fun v87n142 h143 =>
takeE (fun w147 => some ((e140 12), w147)) (drew w141) fun v88n145 h146 =>
takeE (fun w150 => pIndexAddr P 76 v87n142 v88n145 w150) (drew w141) fun v89n148 h149 =>
takeE (fun w153 => pLoad P 25 v89n148 w153) (drew w141) fun v90n151 h152 =>
takeE (fun w156 => some ((e140 0), w156)) (drew w141) fun v91n154 h155 =>
takeE (fun w159 => some ((e140 12), w159)) (drew w141) fun v92n157 h158 =>
takeE (fun w162 => pIndexAddr P 76 v91n154 v92n157 w162) (drew w141) fun v93n160 h161 =>
takeE (fun w165 => pLoad P 25 v93n160 w165) (drew w141) fun v94n163 h164 =>
takeE (fun w168 => pBin P BinOp.neq 25 false v90n151 v94n163 w168) (drew w141) fun v95n166 h167 =>
condE v95n166 (fun (K169 : KT) =>
K169 .ret (Env.put (Env.put (Env.put (Env.put (Env.put (Env.put (Env.put (Env.put (Env.put (Env.put (Env.put e140 87 v87n142) 88 v88n145) 89 v89n148) 90 v90n151) 91 v91n154) 92 v92n157) 93 v93n160) 94 v94n163) 95 v95n166) 2 (Value.slice none 0 0)) 3 (Value.int IntKind.i64 0)) (drew w141)) (fun (K169 : KT) =>
K169 .normal (Env.put (Env.put (Env.put (Env.put (Env.put (Env.put (Env.put (Env.put (Env.put e140 87 v87n142) 88 v88n145) 89 v89n148) 90 v90n151) 91 v91n154) 92 v92n157) 93 v93n160) 94 v94n163) 95 v95n166) (drew w141)) (blockK 3 (thenK (fun e170 w171 =>
bindV (pBin P BinOp.add 3 true (e170 12) (Value.int IntKind.i64 1) w171) fun v86n172 w173 =>
K .normal (Env.put (Env.put (Env.put e170 85 (e170 12)) 86 v86n172) 12 v86n172) w173) K))) K)
def F74B0 (e : Env) (w : World) (K : KT) : Prop :=
bindV (pBin P BinOp.lss 3 false (e 8) (e 6) w) fun v54n83 w84 =>
condE v54n83 (fun (K85 : KT) =>
K85 .normal (Env.put (Env.put (Env.put e 52 (e 8)) 53 (e 6)) 54 v54n83) w84) (fun (K85 : KT) =>
K85 (.exit 0) (Env.put (Env.put (Env.put e 52 (e 8)) 53 (e 6)) 54 v54n83) w84) (thenK (fun e86 w87 =>
bindV (pIndexAddr P 76 (e86 0) (e86 8) w87) fun v60n88 w89 =>
bindV (pLoad P 25 v60n88 w89) fun v61n90 w91 =>
callE P 25 #[v61n90] w91 (fun v62n94 w95 =>
bindV (pExtract P v62n94 0 w95) fun v63n96 w97 =>
bindV (pExtract P v62n94 1 w97) fun v64n98 w99 =>
letK (blockK 1 (thenK (fun e101 w102 =>
bindV (pBin P BinOp.add 3 true (e101 8) (Value.int IntKind.i64 1) w102) fun v56n103 w104 =>
K .normal (Env.put (Env.put (Env.put e101 55 (e101 8)) 56 v56n103) 8 v56n103) w104) K)) fun (K100 : KT) =>
bindV (pUn P UnOp.not v64n98 w99) fun v66n105 w106 =>
grdE v66n105 false (fun (k107 : Value → World → Prop) => k107 v63n96 w106) (fun v68n108 w109 =>
grdE v66n105 false (fun (k110 : Value → World → Prop) => bindV (pBuiltin P Builtin.len #[22] 3 [v68n108] w109) k110) (fun v69n111 w112 =>
grdE v66n105 false (fun (k113 : Value → World → Prop) => bindV (pBin P BinOp.lss 3 true v69n111 (Value.int IntKind.i64 1) w112) k113) (fun v70n114 w115 =>
pickE v66n105 (Value.bool true) v70n114 fun v71n116 =>
condE v71n116 (fun (K117 : KT) =>
K117 .ret (Env.put (Env.put (Env.put (Env.put (Env.put (Env.put (Env.put (Env.put (Env.put (Env.put (Env.put (Env.put (Env.put (Env.put (Env.put (Env.put (Env.put (Env.put (Env.put e86 58 (e86 0)) 59 (e86 8)) 60 v60n88) 61 v61n90) 62 v62n94) 57 v62n94) 63 v63n96) 64 v64n98) 9 v63n96) 10 v64n98) 65 v64n98) 66 v66n105) 67 v66n105) 68 v68n108) 69 v69n111) 70 v70n114) 71 v71n116) 2 (Value.slice none 0 0)) 3 (Value.int IntKind.i64 0)) w115) (fun (K117 : KT) =>
K117 .normal (Env.put (Env.put (Env.put (Env.put (Env.put (Env.put (Env.put (Env.put (Env.put (Env.put (Env.put (Env.put (Env.put (Env.put (Env.put (Env.put (Env.put e86 58 (e86 0)) 59 (e86 8)) 60 v60n88) 61 v61n90) 62 v62n94) 57 v62n94) 63 v63n96) 64 v64n98) 9 v63n96) 10 v64n98) 65 v64n98) 66 v66n105) 67 v66n105) 68 v68n108) 69 v69n111) 70 v70n114) 71 v71n116) w115) (thenK (fun e118 w119 =>
bindV (pSlice P 22 (e118 9) (some (Value.int IntKind.i64 1)) none none w119) fun v74n120 w121 =>
bindV (pBuiltin P Builtin.append #[22, 22] 22 [(e118 7), v74n120] w121) fun v75n122 w123 =>
K100 .normal (Env.put (Env.put (Env.put (Env.put (Env.put e118 72 (e118 7)) 73 (e118 9)) 74 v74n120) 75 v75n122) 7 v75n122) w123) K100)) w112) w109) w106) (fun c92 w93 => K (.panic c92) (Env.put (Env.put (Env.put (Env.put e86 58 (e86 0)) 59 (e86 8)) 60 v60n88) 61 v61n90) w93)) K)
def F74 (a0 : Value) (w : World) (R : Ending → World → Prop) : Prop :=
bindV (pBuiltin P Builtin.len #[76] 3 [a0] w) fun v14n1 w2 =>
bindV (pBin P BinOp.eql 3 true v14n1 (Value.int IntKind.i64 0) w2) fun v15n3 w4 =>
condE v15n3 (fun (K5 : KT) =>
K5 .ret (Env.put (Env.put (Env.put (Env.put (Env.put (Env.put (Env.put (argE [a0]) 2 (Value.slice none 0 0)) 3 (Value.int IntKind.i64 0)) 13 a0) 14 v14n1) 15 v15n3) 2 (Value.slice none 0 0)) 3 (Value.int IntKind.i64 0)) w4) (fun (K5 : KT) =>
K5 .normal (Env.put (Env.put (Env.put (Env.put (Env.put (argE [a0]) 2 (Value.slice none 0 0)) 3 (Value.int IntKind.i64 0)) 13 a0) 14 v14n1) 15 v15n3) w4) (thenK (fun e6 w7 =>
bindV (pIndexAddr P 76 (e6 0) (Value.int IntKind.i64 0) w7) fun v18n8 w9 =>
bindV (pLoad P 25 v18n8 w9) fun v19n10 w11 =>
callE P 25 #[v19n10] w11 (fun v20n14 w15 =>
bindV (pExtract P v20n14 0 w15) fun v21n16 w17 =>
bindV (pExtract P v20n14 1 w17) fun v22n18 w19 =>
bindV (pUn P UnOp.not v22n18 w19) fun v24n20 w21 =>
grdE v24n20 false (fun (k22 : Value → World → Prop) => k22 v21n16 w21) (fun v26n23 w24 =>
grdE v24n20 false (fun (k25 : Value → World → Prop) => bindV (pBuiltin P Builtin.len #[22] 3 [v26n23] w24) k25) (fun v27n26 w27 =>
grdE v24n20 false (fun (k28 : Value → World → Prop) => bindV (pBin P BinOp.lss 3 true v27n26 (Value.int IntKind.i64 1) w27) k28) (fun v28n29 w30 =>
pickE v24n20 (Value.bool true) v28n29 fun v29n31 =>
grdE v29n31 false (fun (k32 : Value → World → Prop) => k32 v21n16 w30) (fun v31n33 w34 =>
grdE v29n31 false (fun (k35 : Value → World → Prop) => bindV (pIndexAddr P 22 v31n33 (Value.int IntKind.i64 0) w34) k35) (fun v32n36 w37 =>
grdE v29n31 false (fun (k38 : Value → World → Prop) => bindV (pLoad P 5 v32n36 w37) k38) (fun v33n39 w40 =>
grdE v29n31 false (fun (k41 : Value → World → Prop) => bindV (pBin P BinOp.gtr 5 true v33n39 (Value.int IntKind.u8 63) w40) k41) (fun v34n42 w43 =>
pickE v29n31 (Value.bool true) v34n42 fun v35n44 =>
grdE v35n44 false (fun (k45 : Value → World → Prop) => k45 v21n16 w43) (fun v37n46 w47 =>
grdE v35n44 false (fun (k48 : Value → World → Prop) => bindV (pIndexAddr P 22 v37n46 (Value.int IntKind.i64 0) w47) k48) (fun v38n49 w50 =>
grdE v35n44 false (fun (k51 : Value → World → Prop) => bindV (pLoad P 5 v38n49 w50) k51) (fun v39n52 w53 =>
grdE v35n44 false (fun (k54 : Value → World → Prop) => bindV (pConv P 5 3 v39n52 w53) k54) (fun v40n55 w56 =>
grdE v35n44 false (fun (k57 : Value → World → Prop) => bindV (pBin P BinOp.add 3 true v40n55 (Value.int IntKind.i64 1) w56) k57) (fun v41n58 w59 =>
grdE v35n44 false (fun (k60 : Value → World → Prop) => k60 (e6 0) w59) (fun v42n61 w62 =>
grdE v35n44 false (fun (k63 : Value → World → Prop) => bindV (pBuiltin P Builtin.len #[76] 3 [v42n61] w62) k63) (fun v43n64 w65 =>
grdE v35n44 false (fun (k66 : Value → World → Prop) => bindV (pBin P BinOp.gtr 3 false v41n58 v43n64 w65) k66) (fun v44n67 w68 =>
pickE v35n44 (Value.bool true) v44n67 fun v45n69 =>
condE v45n69 (fun (K70 : KT) =>
K70 .ret (Env.put (Env.put (Env.put (Env.put (Env.put (Env.put (Env.put (Env.put (Env.put (Env.put (Env.put (Env.put (Env.put (Env.put (Env.put (Env.put (Env.put (Env.put (Env.put (Env.put (Env.put (Env.put (Env.put (Env.put (Env.put (Env.put (Env.put (Env.put (Env.put (Env.put (Env.put (Env.put (Env.put (Env.put e6 17 (e6 0)) 18 v18n8) 19 v19n10) 20 v20n14) 16 v20n14) 21 v21n16) 22 v22n18) 4 v21n16) 5 v22n18) 23 v22n18) 24 v24n20) 25 v24n20) 26 v26n23) 27 v27n26) 28 v28n29) 29 v29n31) 30 v29n31) 31 v31n33) 32 v32n36) 33 v33n39) 34 v34n42) 35 v35n44) 36 v35n44) 37 v37n46) 38 v38n49) 39 v39n52) 40 v40n55) 41 v41n58) 42 v42n61) 43 v43n64) 44 v44n67) 45 v45n69) 2 (Value.slice none 0 0)) 3 (Value.int IntKind.i64 0)) w68) (fun (K70 : KT) =>
K70 .normal (Env.put (Env.put (Env.put (Env.put (Env.put (Env.put (Env.put (Env.put (Env.put (Env.put (Env.put (Env.put (Env.put (Env.put (Env.put (Env.put (Env.put (Env.put (Env.put (Env.put (Env.put (Env.put (Env.put (Env.put (Env.put (Env.put (Env.put (Env.put (Env.put (Env.put (Env.put (Env.put e6 17 (e6 0)) 18 v18n8) 19 v19n10) 20 v20n14) 16 v20n14) 21 v21n16) 22 v22n18) 4 v21n16) 5 v22n18) 23 v22n18) 24 v24n20) 25 v24n20) 26 v26n23) 27 v27n26) 28 v28n29) 29 v29n31) 30 v29n31) 31 v31n33) 32 v32n36) 33 v33n39) 34 v34n42) 35 v35n44) 36 v35n44) 37 v37n46) 38 v38n49) 39 v39n52) 40 v40n55) 41 v41n58) 42 v42n61) 43 v43n64) 44 v44n67) 45 v45n69) w68) (thenK (fun e71 w72 =>
bindV (pIndexAddr P 22 (e71 4) (Value.int IntKind.i64 0) w72) fun v47n73 w74 =>
bindV (pLoad P 5 v47n73 w74) fun v48n75 w76 =>
bindV (pConv P 5 3 v48n75 w76) fun v49n77 w78 =>
bindV (pBin P BinOp.add 3 true v49n77 (Value.int IntKind.i64 1) w78) fun v50n79 w80 =>
bindV (pBuildSlice P 22 0 [] w80) fun v51n81 w82 =>
loopE F74B0 (Env.put (Env.put (Env.put (Env.put (Env.put (Env.put (Env.put (Env.put (Env.put e71 46 (e71 4)) 47 v47n73) 48 v48n75) 49 v49n77) 50 v50n79) 6 v50n79) 51 v51n81) 7 v51n81) 8 (Value.int IntKind.i64 0)) w82 (blockK 0 (thenK (fun e124 w125 =>
callE P 55 #[(e124 7)] w125 (fun v77n128 w129 =>
bindV (pBuiltin P Builtin.len #[76] 3 [v77n128] w129) fun v79n130 w131 =>
bindV (pBin P BinOp.neq 3 false v79n130 (e124 6) w131) fun v81n132 w133 =>
condE v81n132 (fun (K134 : KT) =>
K134 .ret (Env.put (Env.put (Env.put (Env.put (Env.put (Env.put (Env.put (Env.put (Env.put e124 76 (e124 7)) 77 v77n128) 11 v77n128) 78 v77n128) 79 v79n130) 80 (e124 6)) 81 v81n132) 2 (Value.slice none 0 0)) 3 (Value.int IntKind.i64 0)) w133) (fun (K134 : KT) =>
K134 .normal (Env.put (Env.put (Env.put (Env.put (Env.put (Env.put (Env.put e124 76 (e124 7)) 77 v77n128) 11 v77n128) 78 v77n128) 79 v79n130) 80 (e124 6)) 81 v81n132) w133) (thenK (fun e135 w136 =>
loopE F74B1 (Env.put e135 12 (Value.int IntKind.i64 0)) w136 (blockK 2 (thenK (fun e174 w175 =>
R (.returned (.tuple #[(e174 7), (e174 6)])) w175) (topK P [(ResultVar.tmp 2), (ResultVar.tmp 3)] R)))) (topK P [(ResultVar.tmp 2), (ResultVar.tmp 3)] R))) (fun c126 w127 => R (.panicked c126) w127)) (topK P [(ResultVar.tmp 2), (ResultVar.tmp 3)] R)))) (topK P [(ResultVar.tmp 2), (ResultVar.tmp 3)] R))) w65) w62) w59) w56) w53) w50) w47) w43) w40) w37) w34) w30) w27) w24) w21) (fun c12 w13 => R (.panicked c12) w13)) (topK P [(ResultVar.tmp 2), (ResultVar.tmp 3)] R))
theorem F74ok {w : World} {R : Ending → World → Prop} {a0 : Value} (h : F74 a0 w R) : Calls P 74 #[a0] w R :=
  calls_of_ev bodies mixed (c := bodyOf Try.f74) (nt := 98) (rs := [(ResultVar.tmp 2), (ResultVar.tmp 3)]) (args := [a0]) (fn := Try.f74) (by kernel_rfl) (by kernel_rfl) (by kernel_rfl) (by kernel_rfl) (by kernel_rfl) (by simp)
    (eq_mp (show F74 a0 w R = ev P C (bodyOf Try.f74) (argE [a0]) w (topK P [(ResultVar.tmp 2), (ResultVar.tmp 3)] R) by kernel_rfl) h)

end Go.Proofs.Yticncfkpfpkfoaa
