/- The functions' residual programs, printed by gen.py. -/
import Derived.Test.YtfmcplkijjndlaaBaseD
namespace Go.Proofs.Ytfmcplkijjndlaa
open Go
/-! ### moiety/moietylaw02.speaks -/
def F39 (w : World) (R : Ending → World → Prop) : Prop :=
bindV (pBuild P 60 [(0, (Value.int IntKind.u8 117)), (1, (Value.int IntKind.u64 300))] w) fun v7n1 w2 =>
bindV (pBuild P 60 [(0, (Value.int IntKind.u8 105)), (2, (Value.int IntKind.i64 (-2)))] w2) fun v8n3 w4 =>
bindV (pBuild P 60 [(0, (Value.int IntKind.u8 115)), (4, (Value.string { data := #[97, 98] }))] w4) fun v9n5 w6 =>
bindV (pBuild P 60 [(0, (Value.int IntKind.u8 98)), (5, (Value.bool true))] w6) fun v10n7 w8 =>
bindV (pBuildSlice P 37 4 [(0, v7n1), (1, v8n3), (2, v9n5), (3, v10n7)] w8) fun v11n9 w10 =>
callE P 41 #[v11n9] w10 (fun v12n13 w14 =>
callE P 42 #[v12n13, (Value.string { data := #[117, 105, 115, 98] }), (Value.int IntKind.i64 5)] w14 (fun v15n17 w18 =>
bindV (pExtract P v15n17 0 w18) fun v16n19 w20 =>
bindV (pExtract P v15n17 1 w20) fun v17n21 w22 =>
bindV (pAlloc P 44 w22) fun v3n23 w24 =>
bindU (pStore P 44 v3n23 v17n21 w24) fun w25 =>
bindV (pBuildSlice P 40 2 [(0, (Value.int IntKind.u8 128)), (1, (Value.int IntKind.u8 0))] w25) fun v19n26 w27 =>
callE P 42 #[v19n26, (Value.string { data := #[117] }), (Value.int IntKind.i64 5)] w27 (fun v20n30 w31 =>
bindV (pExtract P v20n30 0 w31) fun v21n32 w33 =>
bindV (pExtract P v20n30 1 w33) fun v22n34 w35 =>
bindV (pAlloc P 44 w35) fun v5n36 w37 =>
bindU (pStore P 44 v5n36 v22n34 w37) fun w38 =>
bindV (pAlloc P 58 w38) fun v6n39 w40 =>
callE P 49 #[v6n39, (Value.float FloatKind.f64 0)] w40 (fun v23n43 w44 =>
bindV (pConv P 40 9 v12n13 w44) fun v25n45 w46 =>
bindV (pBin P BinOp.eql 9 true v25n45 (Value.string { data := #[172, 2, 3, 2, 97, 98, 1] }) w46) fun v26n47 w48 =>
grdE v26n47 true (fun (k49 : Value → World → Prop) => bindV (pLoad P 44 v3n23 w48) k49) (fun v28n50 w51 =>
grdE v26n47 true (fun (k52 : Value → World → Prop) => bindV (pBuild P 44 [] w51) k52) (fun v29n53 w54 =>
grdE v26n47 true (fun (k55 : Value → World → Prop) => bindV (pBin P BinOp.eql 44 false v28n50 v29n53 w54) k55) (fun v30n56 w57 =>
pickE v26n47 v30n56 (Value.bool false) fun v31n58 =>
grdE v31n58 true (fun (k59 : Value → World → Prop) => k59 v16n19 w57) (fun v33n60 w61 =>
grdE v31n58 true (fun (k62 : Value → World → Prop) => bindV (pBuiltin P Builtin.len #[37] 3 [v33n60] w61) k62) (fun v34n63 w64 =>
grdE v31n58 true (fun (k65 : Value → World → Prop) => bindV (pBin P BinOp.eql 3 true v34n63 (Value.int IntKind.i64 4) w64) k65) (fun v35n66 w67 =>
pickE v31n58 v35n66 (Value.bool false) fun v36n68 =>
grdE v36n68 true (fun (k69 : Value → World → Prop) => k69 v16n19 w67) (fun v38n70 w71 =>
grdE v36n68 true (fun (k72 : Value → World → Prop) => bindV (pIndexAddr P 37 v38n70 (Value.int IntKind.i64 0) w71) k72) (fun v39n73 w74 =>
grdE v36n68 true (fun (k75 : Value → World → Prop) => bindV (pFieldAddr P 60 v39n73 1 w74) k75) (fun v40n76 w77 =>
grdE v36n68 true (fun (k78 : Value → World → Prop) => bindV (pLoad P 25 v40n76 w77) k78) (fun v41n79 w80 =>
grdE v36n68 true (fun (k81 : Value → World → Prop) => bindV (pBin P BinOp.eql 25 true v41n79 (Value.int IntKind.u64 300) w80) k81) (fun v42n82 w83 =>
pickE v36n68 v42n82 (Value.bool false) fun v43n84 =>
grdE v43n84 true (fun (k85 : Value → World → Prop) => k85 v16n19 w83) (fun v45n86 w87 =>
grdE v43n84 true (fun (k88 : Value → World → Prop) => bindV (pIndexAddr P 37 v45n86 (Value.int IntKind.i64 1) w87) k88) (fun v46n89 w90 =>
grdE v43n84 true (fun (k91 : Value → World → Prop) => bindV (pFieldAddr P 60 v46n89 2 w90) k91) (fun v47n92 w93 =>
grdE v43n84 true (fun (k94 : Value → World → Prop) => bindV (pLoad P 2 v47n92 w93) k94) (fun v48n95 w96 =>
grdE v43n84 true (fun (k97 : Value → World → Prop) => bindV (pBin P BinOp.eql 2 true v48n95 (Value.int IntKind.i64 (-2)) w96) k97) (fun v49n98 w99 =>
pickE v43n84 v49n98 (Value.bool false) fun v50n100 =>
grdE v50n100 true (fun (k101 : Value → World → Prop) => k101 v16n19 w99) (fun v52n102 w103 =>
grdE v50n100 true (fun (k104 : Value → World → Prop) => bindV (pIndexAddr P 37 v52n102 (Value.int IntKind.i64 2) w103) k104) (fun v53n105 w106 =>
grdE v50n100 true (fun (k107 : Value → World → Prop) => bindV (pFieldAddr P 60 v53n105 4 w106) k107) (fun v54n108 w109 =>
grdE v50n100 true (fun (k110 : Value → World → Prop) => bindV (pLoad P 9 v54n108 w109) k110) (fun v55n111 w112 =>
grdE v50n100 true (fun (k113 : Value → World → Prop) => bindV (pBin P BinOp.eql 9 true v55n111 (Value.string { data := #[97, 98] }) w112) k113) (fun v56n114 w115 =>
pickE v50n100 v56n114 (Value.bool false) fun v57n116 =>
grdE v57n116 true (fun (k117 : Value → World → Prop) => k117 v16n19 w115) (fun v59n118 w119 =>
grdE v57n116 true (fun (k120 : Value → World → Prop) => bindV (pIndexAddr P 37 v59n118 (Value.int IntKind.i64 3) w119) k120) (fun v60n121 w122 =>
grdE v57n116 true (fun (k123 : Value → World → Prop) => bindV (pFieldAddr P 60 v60n121 5 w122) k123) (fun v61n124 w125 =>
grdE v57n116 true (fun (k126 : Value → World → Prop) => bindV (pLoad P 4 v61n124 w125) k126) (fun v62n127 w128 =>
pickE v57n116 v62n127 (Value.bool false) fun v63n129 =>
grdE v63n129 true (fun (k130 : Value → World → Prop) => bindV (pLoad P 44 v5n36 w128) k130) (fun v65n131 w132 =>
grdE v63n129 true (fun (k133 : Value → World → Prop) => bindV (pBuild P 44 [(0, (Value.int IntKind.i64 4)), (1, (Value.int IntKind.i64 2))] w132) k133) (fun v66n134 w135 =>
grdE v63n129 true (fun (k136 : Value → World → Prop) => bindV (pBin P BinOp.eql 44 false v65n131 v66n134 w135) k136) (fun v67n137 w138 =>
pickE v63n129 v67n137 (Value.bool false) fun v68n139 =>
grdE v68n139 true (fun (k140 : Value → World → Prop) => callE P 53 #[v6n39] w138 k140 (fun c141 w142 => R (.panicked c141) w142)) (fun v70n143 w144 =>
grdE v68n139 true (fun (k145 : Value → World → Prop) => bindV (pBin P BinOp.eql 3 true v70n143 (Value.int IntKind.i64 8) w144) k145) (fun v71n146 w147 =>
pickE v68n139 v71n146 (Value.bool false) fun v72n148 =>
grdE v72n148 true (fun (k149 : Value → World → Prop) => callE P 52 #[v6n39] w147 k149 (fun c150 w151 => R (.panicked c150) w151)) (fun v74n152 w153 =>
grdE v72n148 true (fun (k154 : Value → World → Prop) => bindV (pIndexAddr P 40 v74n152 (Value.int IntKind.i64 0) w153) k154) (fun v75n155 w156 =>
grdE v72n148 true (fun (k157 : Value → World → Prop) => bindV (pLoad P 5 v75n155 w156) k157) (fun v76n158 w159 =>
grdE v72n148 true (fun (k160 : Value → World → Prop) => bindV (pBin P BinOp.eql 5 true v76n158 (Value.int IntKind.u8 128) w159) k160) (fun v77n161 w162 =>
pickE v72n148 v77n161 (Value.bool false) fun v78n163 =>
R (.returned v78n163) w162) w159) w156) w153) w147) w144) w138) w135) w132) w128) w125) w122) w119) w115) w112) w109) w106) w103) w99) w96) w93) w90) w87) w83) w80) w77) w74) w71) w67) w64) w61) w57) w54) w51) w48) (fun c41 w42 => R (.panicked c41) w42)) (fun c28 w29 => R (.panicked c28) w29)) (fun c15 w16 => R (.panicked c15) w16)) (fun c11 w12 => R (.panicked c11) w12)
theorem F39ok {w : World} {R : Ending → World → Prop} (h : F39  w R) : Calls P 39 #[] w R :=
  calls_of_ev bodies mixed (c := bodyOf Try.f39) (nt := 79) (rs := [(ResultVar.tmp 0)]) (args := []) (fn := Try.f39) (by kernel_rfl) (by kernel_rfl) (by kernel_rfl) (by kernel_rfl) (by kernel_rfl) (by simp)
    (eq_mp (show F39  w R = ev P C (bodyOf Try.f39) (argE []) w (topK P [(ResultVar.tmp 0)] R) by kernel_rfl) h)

/-! ### moiety/moietylaw02.kinds -/
def F40B0 (e : Env) (w : World) (K : KT) : Prop :=
bindV (pBin P BinOp.lss 3 false (e 12) (e 11) w) fun v13n10 w11 =>
condE v13n10 (fun (K12 : KT) =>
K12 .normal (Env.put e 13 v13n10) w11) (fun (K12 : KT) =>
K12 (.exit 0) (Env.put e 13 v13n10) w11) (thenK (fun e13 w14 =>
bindV (pIndexAddr P 37 (e13 10) (e13 12) w14) fun v14n15 w16 =>
bindV (pLoad P 60 v14n15 w16) fun v15n17 w18 =>
bindV (pAlloc P 60 w18) fun v6n19 w20 =>
bindU (pStore P 60 v6n19 v15n17 w20) fun w21 =>
letK (blockK 1 (thenK (fun e23 w24 =>
bindV (pBin P BinOp.add 3 true (e23 12) (Value.int IntKind.i64 1) w24) fun v34n25 w26 =>
K .normal (Env.put (Env.put e23 34 v34n25) 12 v34n25) w26) K)) fun (K22 : KT) =>
bindV (pFieldAddr P 60 v6n19 0 w21) fun v16n27 w28 =>
bindV (pLoad P 5 v16n27 w28) fun v17n29 w30 =>
letK (blockK 2 (thenK (fun e32 w33 =>
bindV (pFieldAddr P 60 (e32 6) 4 w33) fun v30n34 w35 =>
bindV (pLoad P 9 v30n34 w35) fun v31n36 w37 =>
bindV (pBuiltin P Builtin.len #[9] 3 [v31n36] w37) fun v32n38 w39 =>
bindV (pBin P BinOp.gtr 3 true v32n38 (Value.int IntKind.i64 1000) w39) fun v33n40 w41 =>
condE v33n40 (fun (K42 : KT) =>
K42 .ret (Env.put (Env.put (Env.put (Env.put (Env.put (Env.put e32 30 v30n34) 31 v31n36) 32 v32n38) 33 v33n40) 2 (Value.string { data := #[] })) 3 (Value.bool false)) w41) (fun (K42 : KT) =>
K42 .normal (Env.put (Env.put (Env.put (Env.put e32 30 v30n34) 31 v31n36) 32 v32n38) 33 v33n40) w41) K22) K22)) fun (K31 : KT) =>
bindV (pBin P BinOp.eql 5 true v17n29 (Value.int IntKind.u8 117) w30) fun v19n43 w44 =>
condE v19n43 (fun (K45 : KT) =>
K45 .normal (Env.put (Env.put (Env.put (Env.put (Env.put (Env.put (Env.put e13 14 v14n15) 15 v15n17) 6 v6n19) 16 v16n27) 17 v17n29) 19 v19n43) 18 v19n43) w44) (fun (K45 : KT) =>
bindV (pBin P BinOp.eql 5 true v17n29 (Value.int IntKind.u8 105) w44) fun v20n46 w47 =>
condE v20n46 (fun (K48 : KT) =>
K48 .normal (Env.put (Env.put (Env.put (Env.put (Env.put (Env.put (Env.put (Env.put (Env.put e13 14 v14n15) 15 v15n17) 6 v6n19) 16 v16n27) 17 v17n29) 19 v19n43) 18 v19n43) 20 v20n46) 18 v20n46) w47) (fun (K48 : KT) =>
bindV (pBin P BinOp.eql 5 true v17n29 (Value.int IntKind.u8 102) w47) fun v21n49 w50 =>
condE v21n49 (fun (K51 : KT) =>
K51 .normal (Env.put (Env.put (Env.put (Env.put (Env.put (Env.put (Env.put (Env.put (Env.put (Env.put (Env.put e13 14 v14n15) 15 v15n17) 6 v6n19) 16 v16n27) 17 v17n29) 19 v19n43) 18 v19n43) 20 v20n46) 18 v20n46) 21 v21n49) 18 v21n49) w50) (fun (K51 : KT) =>
bindV (pBin P BinOp.eql 5 true v17n29 (Value.int IntKind.u8 115) w50) fun v22n52 w53 =>
condE v22n52 (fun (K54 : KT) =>
K54 .normal (Env.put (Env.put (Env.put (Env.put (Env.put (Env.put (Env.put (Env.put (Env.put (Env.put (Env.put (Env.put (Env.put e13 14 v14n15) 15 v15n17) 6 v6n19) 16 v16n27) 17 v17n29) 19 v19n43) 18 v19n43) 20 v20n46) 18 v20n46) 21 v21n49) 18 v21n49) 22 v22n52) 18 v22n52) w53) (fun (K54 : KT) =>
bindV (pBin P BinOp.eql 5 true v17n29 (Value.int IntKind.u8 98) w53) fun v23n55 w56 =>
K54 .normal (Env.put (Env.put (Env.put (Env.put (Env.put (Env.put (Env.put (Env.put (Env.put (Env.put (Env.put (Env.put (Env.put (Env.put (Env.put e13 14 v14n15) 15 v15n17) 6 v6n19) 16 v16n27) 17 v17n29) 19 v19n43) 18 v19n43) 20 v20n46) 18 v20n46) 21 v21n49) 18 v21n49) 22 v22n52) 18 v22n52) 23 v23n55) 18 v23n55) w56) K51) K48) K45) (thenK (fun e57 w58 =>
condE (e57 18) (fun (K59 : KT) =>
bindV (pFieldAddr P 60 (e57 6) 0 w58) fun v25n60 w61 =>
bindV (pLoad P 5 v25n60 w61) fun v26n62 w63 =>
bindV (pConv P 5 21 v26n62 w63) fun v27n64 w65 =>
bindV (pConv P 21 9 v27n64 w65) fun v28n66 w67 =>
bindV (pBin P BinOp.add 9 false (e57 4) v28n66 w67) fun v29n68 w69 =>
K59 .normal (Env.put (Env.put (Env.put (Env.put (Env.put (Env.put (Env.put e57 24 (e57 4)) 25 v25n60) 26 v26n62) 27 v27n64) 28 v28n66) 29 v29n68) 4 v29n68) w69) (fun (K59 : KT) =>
K59 .ret (Env.put (Env.put e57 2 (Value.string { data := #[] })) 3 (Value.bool false)) w58) K31) K31)) K)
def F40 (a0 : Value) (w : World) (R : Ending → World → Prop) : Prop :=
bindV (pBuiltin P Builtin.len #[37] 3 [a0] w) fun v8n1 w2 =>
bindV (pBin P BinOp.gtr 3 true v8n1 (Value.int IntKind.i64 40) w2) fun v9n3 w4 =>
condE v9n3 (fun (K5 : KT) =>
K5 .ret (Env.put (Env.put (Env.put (Env.put (Env.put (Env.put (Env.put (Env.put (argE [a0]) 2 (Value.string { data := #[] })) 3 (Value.bool false)) 4 (Value.string { data := #[] })) 7 a0) 8 v8n1) 9 v9n3) 2 (Value.string { data := #[] })) 3 (Value.bool false)) w4) (fun (K5 : KT) =>
K5 .normal (Env.put (Env.put (Env.put (Env.put (Env.put (Env.put (argE [a0]) 2 (Value.string { data := #[] })) 3 (Value.bool false)) 4 (Value.string { data := #[] })) 7 a0) 8 v8n1) 9 v9n3) w4) (thenK (fun e6 w7 =>
bindV (pBuiltin P Builtin.len #[37] 3 [(e6 0)] w7) fun v11n8 w9 =>
loopE F40B0 (Env.put (Env.put (Env.put e6 10 (e6 0)) 11 v11n8) 12 (Value.int IntKind.i64 0)) w9 (blockK 0 (thenK (fun e70 w71 =>
R (.returned (.tuple #[(e70 4), (Value.bool true)])) w71) (topK P [(ResultVar.tmp 2), (ResultVar.tmp 3)] R)))) (topK P [(ResultVar.tmp 2), (ResultVar.tmp 3)] R))
theorem F40ok {w : World} {R : Ending → World → Prop} {a0 : Value} (h : F40 a0 w R) : Calls P 40 #[a0] w R :=
  calls_of_ev bodies mixed (c := bodyOf Try.f40) (nt := 36) (rs := [(ResultVar.tmp 2), (ResultVar.tmp 3)]) (args := [a0]) (fn := Try.f40) (by kernel_rfl) (by kernel_rfl) (by kernel_rfl) (by kernel_rfl) (by kernel_rfl) (by simp)
    (eq_mp (show F40 a0 w R = ev P C (bodyOf Try.f40) (argE [a0]) w (topK P [(ResultVar.tmp 2), (ResultVar.tmp 3)] R) by kernel_rfl) h)

/-! ### moiety/moietylaw02.plain -/
def F44B0 (e : Env) (w : World) (K : KT) : Prop :=
bindV (pBin P BinOp.lss 3 false (e 9) (e 8) w) fun v10n3 w4 =>
condE v10n3 (fun (K5 : KT) =>
K5 .normal (Env.put e 10 v10n3) w4) (fun (K5 : KT) =>
K5 (.exit 0) (Env.put e 10 v10n3) w4) (thenK (fun e6 w7 =>
bindV (pIndexAddr P 37 (e6 7) (e6 9) w7) fun v11n8 w9 =>
bindV (pLoad P 60 v11n8 w9) fun v12n10 w11 =>
bindV (pAlloc P 60 w11) fun v5n12 w13 =>
bindU (pStore P 60 v5n12 v12n10 w13) fun w14 =>
bindV (pFieldAddr P 60 v5n12 0 w14) fun v13n15 w16 =>
bindV (pLoad P 5 v13n15 w16) fun v14n17 w18 =>
bindV (pBuild P 75 [(0, v14n17)] w18) fun v15n19 w20 =>
bindV (pAlloc P 75 w20) fun v6n21 w22 =>
bindU (pStore P 75 v6n21 v15n19 w22) fun w23 =>
letK (blockK 1 (thenK (fun e25 w26 =>
bindV (pBin P BinOp.add 3 true (e25 9) (Value.int IntKind.i64 1) w26) fun v48n27 w28 =>
K .normal (Env.put (Env.put e25 48 v48n27) 9 v48n27) w28) K)) fun (K24 : KT) =>
bindV (pFieldAddr P 60 v5n12 0 w23) fun v16n29 w30 =>
bindV (pLoad P 5 v16n29 w30) fun v17n31 w32 =>
bindV (pBin P BinOp.eql 5 true v17n31 (Value.int IntKind.u8 117) w32) fun v19n33 w34 =>
condE v19n33 (fun (K35 : KT) =>
bindV (pFieldAddr P 60 v5n12 1 w34) fun v20n36 w37 =>
bindV (pLoad P 25 v20n36 w37) fun v21n38 w39 =>
bindV (pFieldAddr P 75 v6n21 1 w39) fun v22n40 w41 =>
bindU (pStore P 25 v22n40 v21n38 w41) fun w42 =>
K35 .normal (Env.put (Env.put (Env.put (Env.put (Env.put (Env.put (Env.put (Env.put (Env.put (Env.put (Env.put (Env.put (Env.put (Env.put e6 11 v11n8) 12 v12n10) 5 v5n12) 13 v13n15) 14 v14n17) 15 v15n19) 6 v6n21) 16 v16n29) 17 v17n31) 19 v19n33) 18 v19n33) 20 v20n36) 21 v21n38) 22 v22n40) w42) (fun (K35 : KT) =>
bindV (pBin P BinOp.eql 5 true v17n31 (Value.int IntKind.u8 105) w34) fun v24n43 w44 =>
condE v24n43 (fun (K45 : KT) =>
bindV (pFieldAddr P 60 v5n12 2 w44) fun v25n46 w47 =>
bindV (pLoad P 2 v25n46 w47) fun v26n48 w49 =>
bindV (pFieldAddr P 75 v6n21 2 w49) fun v27n50 w51 =>
bindU (pStore P 2 v27n50 v26n48 w51) fun w52 =>
K45 .normal (Env.put (Env.put (Env.put (Env.put (Env.put (Env.put (Env.put (Env.put (Env.put (Env.put (Env.put (Env.put (Env.put (Env.put (Env.put (Env.put e6 11 v11n8) 12 v12n10) 5 v5n12) 13 v13n15) 14 v14n17) 15 v15n19) 6 v6n21) 16 v16n29) 17 v17n31) 19 v19n33) 18 v19n33) 24 v24n43) 23 v24n43) 25 v25n46) 26 v26n48) 27 v27n50) w52) (fun (K45 : KT) =>
bindV (pBin P BinOp.eql 5 true v17n31 (Value.int IntKind.u8 102) w44) fun v29n53 w54 =>
condE v29n53 (fun (K55 : KT) =>
bindV (pFieldAddr P 60 v5n12 3 w54) fun v30n56 w57 =>
bindV (pLoad P 22 v30n56 w57) fun v31n58 w59 =>
callE P 23 #[v31n58] w59 (fun v32n62 w63 =>
bindV (pFieldAddr P 75 v6n21 3 w63) fun v33n64 w65 =>
bindU (pStore P 25 v33n64 v32n62 w65) fun w66 =>
K55 .normal (Env.put (Env.put (Env.put (Env.put (Env.put (Env.put (Env.put (Env.put (Env.put (Env.put (Env.put (Env.put (Env.put (Env.put (Env.put (Env.put (Env.put (Env.put (Env.put e6 11 v11n8) 12 v12n10) 5 v5n12) 13 v13n15) 14 v14n17) 15 v15n19) 6 v6n21) 16 v16n29) 17 v17n31) 19 v19n33) 18 v19n33) 24 v24n43) 23 v24n43) 29 v29n53) 28 v29n53) 30 v30n56) 31 v31n58) 32 v32n62) 33 v33n64) w66) (fun c60 w61 => K55 (.panic c60) (Env.put (Env.put (Env.put (Env.put (Env.put (Env.put (Env.put (Env.put (Env.put (Env.put (Env.put (Env.put (Env.put (Env.put (Env.put (Env.put (Env.put e6 11 v11n8) 12 v12n10) 5 v5n12) 13 v13n15) 14 v14n17) 15 v15n19) 6 v6n21) 16 v16n29) 17 v17n31) 19 v19n33) 18 v19n33) 24 v24n43) 23 v24n43) 29 v29n53) 28 v29n53) 30 v30n56) 31 v31n58) w61)) (fun (K55 : KT) =>
bindV (pBin P BinOp.eql 5 true v17n31 (Value.int IntKind.u8 115) w54) fun v35n67 w68 =>
condE v35n67 (fun (K69 : KT) =>
bindV (pFieldAddr P 60 v5n12 4 w68) fun v36n70 w71 =>
bindV (pLoad P 9 v36n70 w71) fun v37n72 w73 =>
bindV (pFieldAddr P 75 v6n21 4 w73) fun v38n74 w75 =>
bindU (pStore P 9 v38n74 v37n72 w75) fun w76 =>
K69 .normal (Env.put (Env.put (Env.put (Env.put (Env.put (Env.put (Env.put (Env.put (Env.put (Env.put (Env.put (Env.put (Env.put (Env.put (Env.put (Env.put (Env.put (Env.put (Env.put (Env.put e6 11 v11n8) 12 v12n10) 5 v5n12) 13 v13n15) 14 v14n17) 15 v15n19) 6 v6n21) 16 v16n29) 17 v17n31) 19 v19n33) 18 v19n33) 24 v24n43) 23 v24n43) 29 v29n53) 28 v29n53) 35 v35n67) 34 v35n67) 36 v36n70) 37 v37n72) 38 v38n74) w76) (fun (K69 : KT) =>
bindV (pBin P BinOp.eql 5 true v17n31 (Value.int IntKind.u8 98) w68) fun v40n77 w78 =>
condE v40n77 (fun (K79 : KT) =>
bindV (pFieldAddr P 60 v5n12 5 w78) fun v41n80 w81 =>
bindV (pLoad P 4 v41n80 w81) fun v42n82 w83 =>
bindV (pFieldAddr P 75 v6n21 5 w83) fun v43n84 w85 =>
bindU (pStore P 4 v43n84 v42n82 w85) fun w86 =>
K79 .normal (Env.put (Env.put (Env.put (Env.put (Env.put (Env.put (Env.put (Env.put (Env.put (Env.put (Env.put (Env.put (Env.put (Env.put (Env.put (Env.put (Env.put (Env.put (Env.put (Env.put (Env.put (Env.put e6 11 v11n8) 12 v12n10) 5 v5n12) 13 v13n15) 14 v14n17) 15 v15n19) 6 v6n21) 16 v16n29) 17 v17n31) 19 v19n33) 18 v19n33) 24 v24n43) 23 v24n43) 29 v29n53) 28 v29n53) 35 v35n67) 34 v35n67) 40 v40n77) 39 v40n77) 41 v41n80) 42 v42n82) 43 v43n84) w86) (fun (K79 : KT) =>
K79 .normal (Env.put (Env.put (Env.put (Env.put (Env.put (Env.put (Env.put (Env.put (Env.put (Env.put (Env.put (Env.put (Env.put (Env.put (Env.put (Env.put (Env.put (Env.put (Env.put e6 11 v11n8) 12 v12n10) 5 v5n12) 13 v13n15) 14 v14n17) 15 v15n19) 6 v6n21) 16 v16n29) 17 v17n31) 19 v19n33) 18 v19n33) 24 v24n43) 23 v24n43) 29 v29n53) 28 v29n53) 35 v35n67) 34 v35n67) 40 v40n77) 39 v40n77) w78) K69) K55) K45) K35) (blockK 2 (thenK (fun e87 w88 =>
bindV (pLoad P 75 (e87 6) w88) fun v45n89 w90 =>
bindV (pBuildSlice P 48 1 [(0, v45n89)] w90) fun v46n91 w92 =>
bindV (pBuiltin P Builtin.append #[48, 48] 48 [(e87 3), v46n91] w92) fun v47n93 w94 =>
K24 .normal (Env.put (Env.put (Env.put (Env.put (Env.put e87 44 (e87 3)) 45 v45n89) 46 v46n91) 47 v47n93) 3 v47n93) w94) K24))) K)
def F44 (a0 : Value) (w : World) (R : Ending → World → Prop) : Prop :=
bindV (pBuiltin P Builtin.len #[37] 3 [a0] w) fun v8n1 w2 =>
loopE F44B0 (Env.put (Env.put (Env.put (Env.put (Env.put (argE [a0]) 2 (Value.slice none 0 0)) 3 (Value.slice none 0 0)) 7 a0) 8 v8n1) 9 (Value.int IntKind.i64 0)) w2 (blockK 0 (thenK (fun e95 w96 =>
R (.returned (e95 3)) w96) (topK P [(ResultVar.tmp 2)] R)))
theorem F44ok {w : World} {R : Ending → World → Prop} {a0 : Value} (h : F44 a0 w R) : Calls P 44 #[a0] w R :=
  calls_of_ev bodies mixed (c := bodyOf Try.f44) (nt := 50) (rs := [(ResultVar.tmp 2)]) (args := [a0]) (fn := Try.f44) (by kernel_rfl) (by kernel_rfl) (by kernel_rfl) (by kernel_rfl) (by kernel_rfl) (by simp)
    (eq_mp (show F44 a0 w R = ev P C (bodyOf Try.f44) (argE [a0]) w (topK P [(ResultVar.tmp 2)] R) by kernel_rfl) h)

/-! ### moiety/moietylaw02.same -/
def F45B0 (e : Env) (w : World) (K : KT) : Prop :=
bindV (pBin P BinOp.lss 3 false (e 8) (e 7) w) fun v9n3 w4 =>
condE v9n3 (fun (K5 : KT) =>
K5 .normal (Env.put e 9 v9n3) w4) (fun (K5 : KT) =>
K5 (.exit 0) (Env.put e 9 v9n3) w4) (thenK (fun e6 w7 =>
takeE (fun w10 => some ((e6 8), w10)) (drew w7) fun v11n8 h9 =>
takeE (fun w13 => some ((e6 1), w13)) (drew w7) fun v12n11 h12 =>
takeE (fun w16 => pBuiltin P Builtin.len #[48] 3 [v12n11] w16) (drew w7) fun v13n14 h15 =>
takeE (fun w19 => pBin P BinOp.geq 3 false v11n8 v13n14 w19) (drew w7) fun v14n17 h18 =>
takeE (fun w22 => some (v14n17, w22)) (drew w7) fun v15n20 h21 =>
takeE (fun w25 => qGrd v15n20 false (fun w25 => some ((e6 0), w25)) w25) (drew w7) fun v16n23 h24 =>
takeE (fun w28 => qGrd v15n20 false (fun w28 => some ((e6 8), w28)) w28) (drew w7) fun v17n26 h27 =>
takeE (fun w31 => qGrd v15n20 false (fun w31 => pIndexAddr P 48 v16n23 v17n26 w31) w31) (drew w7) fun v18n29 h30 =>
takeE (fun w34 => qGrd v15n20 false (fun w34 => pLoad P 75 v18n29 w34) w34) (drew w7) fun v19n32 h33 =>
takeE (fun w37 => qGrd v15n20 false (fun w37 => some ((e6 1), w37)) w37) (drew w7) fun v20n35 h36 =>
takeE (fun w40 => qGrd v15n20 false (fun w40 => some ((e6 8), w40)) w40) (drew w7) fun v21n38 h39 =>
takeE (fun w43 => qGrd v15n20 false (fun w43 => pIndexAddr P 48 v20n35 v21n38 w43) w43) (drew w7) fun v22n41 h42 =>
takeE (fun w46 => qGrd v15n20 false (fun w46 => pLoad P 75 v22n41 w46) w46) (drew w7) fun v23n44 h45 =>
takeE (fun w49 => qGrd v15n20 false (fun w49 => pBin P BinOp.neq 75 false v19n32 v23n44 w49) w49) (drew w7) fun v24n47 h48 =>
takeE (fun w52 => qPick v15n20 (Value.bool true) v24n47 w52) (drew w7) fun v25n50 h51 =>
condE v25n50 (fun (K53 : KT) =>
K53 .ret (Env.put (Env.put (Env.put (Env.put (Env.put (Env.put (Env.put (Env.put (Env.put (Env.put (Env.put (Env.put (Env.put (Env.put (Env.put (Env.put (Env.put (Env.put e6 10 (e6 8)) 5 (e6 8)) 11 v11n8) 12 v12n11) 13 v13n14) 14 v14n17) 15 v15n20) 16 v16n23) 17 v17n26) 18 v18n29) 19 v19n32) 20 v20n35) 21 v21n38) 22 v22n41) 23 v23n44) 24 v24n47) 25 v25n50) 4 (Value.bool false)) (drew w7)) (fun (K53 : KT) =>
K53 .normal (Env.put (Env.put (Env.put (Env.put (Env.put (Env.put (Env.put (Env.put (Env.put (Env.put (Env.put (Env.put (Env.put (Env.put (Env.put (Env.put (Env.put e6 10 (e6 8)) 5 (e6 8)) 11 v11n8) 12 v12n11) 13 v13n14) 14 v14n17) 15 v15n20) 16 v16n23) 17 v17n26) 18 v18n29) 19 v19n32) 20 v20n35) 21 v21n38) 22 v22n41) 23 v23n44) 24 v24n47) 25 v25n50) (drew w7)) (blockK 1 (thenK (fun e54 w55 =>
bindV (pBin P BinOp.add 3 true (e54 8) (Value.int IntKind.i64 1) w55) fun v26n56 w57 =>
K .normal (Env.put (Env.put e54 26 v26n56) 8 v26n56) w57) K))) K)
def F45 (a0 : Value) (a1 : Value) (w : World) (R : Ending → World → Prop) : Prop :=
bindV (pBuiltin P Builtin.len #[48] 3 [a0] w) fun v7n1 w2 =>
loopE F45B0 (Env.put (Env.put (Env.put (Env.put (argE [a0, a1]) 4 (Value.bool false)) 6 a0) 7 v7n1) 8 (Value.int IntKind.i64 0)) w2 (blockK 0 (thenK (fun e58 w59 =>
bindV (pBuiltin P Builtin.len #[48] 3 [(e58 0)] w59) fun v28n60 w61 =>
bindV (pBuiltin P Builtin.len #[48] 3 [(e58 1)] w61) fun v30n62 w63 =>
bindV (pBin P BinOp.eql 3 false v28n60 v30n62 w63) fun v31n64 w65 =>
R (.returned v31n64) w65) (topK P [(ResultVar.tmp 4)] R)))
theorem F45ok {w : World} {R : Ending → World → Prop} {a0 : Value} {a1 : Value} (h : F45 a0 a1 w R) : Calls P 45 #[a0, a1] w R :=
  calls_of_ev bodies mixed (c := bodyOf Try.f45) (nt := 32) (rs := [(ResultVar.tmp 4)]) (args := [a0, a1]) (fn := Try.f45) (by kernel_rfl) (by kernel_rfl) (by kernel_rfl) (by kernel_rfl) (by kernel_rfl) (by simp)
    (eq_mp (show F45 a0 a1 w R = ev P C (bodyOf Try.f45) (argE [a0, a1]) w (topK P [(ResultVar.tmp 4)] R) by kernel_rfl) h)

end Go.Proofs.Ytfmcplkijjndlaa
