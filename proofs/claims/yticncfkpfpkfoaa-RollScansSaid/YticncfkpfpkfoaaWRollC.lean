/- The functions' residual programs, printed by gen.py. -/
import Derived.Test.YticncfkpfpkfoaaBaseD
namespace Go.Proofs.Yticncfkpfpkfoaa
open Go
/-! ### moiety/moietylaw19.RollScans -/
def F13B1 (e : Env) (w : World) (K : KT) : Prop :=
bindV (pBin P BinOp.lss 3 false (e 168) (e 167) w) fun v169n329 w330 =>
condE v169n329 (fun (K331 : KT) =>
K331 .normal (Env.put e 169 v169n329) w330) (fun (K331 : KT) =>
K331 (.exit 2) (Env.put e 169 v169n329) w330) (thenK (fun e332 w333 =>
bindV (pIndexAddr P 76 (e332 166) (e332 168) w333) fun v171n334 w335 =>
bindV (pLoad P 25 v171n334 w335) fun v172n336 w337 =>
bindV (pAlloc P 25 w337) fun v21n338 w339 =>
bindU (pStore P 25 v21n338 v172n336 w339) fun w340 =>
letK (blockK 3 (thenK (fun e342 w343 =>
bindV (pBin P BinOp.add 3 true (e342 168) (Value.int IntKind.i64 1) w343) fun v198n344 w345 =>
K .normal (Env.put (Env.put e342 198 v198n344) 168 v198n344) w345) K)) fun (K341 : KT) =>
bindV (pFieldAddr P 65 (e332 3) 0 w340) fun v174n346 w347 =>
bindV (pLoad P 3 v174n346 w347) fun v175n348 w349 =>
bindV (pBin P BinOp.add 3 false v175n348 (e332 16) w349) fun v177n350 w351 =>
bindV (pBin P BinOp.geq 3 false (e332 168) v177n350 w351) fun v178n352 w353 =>
grdE v178n352 true (fun (k354 : Value → World → Prop) => k354 (e332 168) w353) (fun v180n355 w356 =>
grdE v178n352 true (fun (k357 : Value → World → Prop) => bindV (pFieldAddr P 65 (e332 3) 0 w356) k357) (fun v181n358 w359 =>
grdE v178n352 true (fun (k360 : Value → World → Prop) => bindV (pLoad P 3 v181n358 w359) k360) (fun v182n361 w362 =>
grdE v178n352 true (fun (k363 : Value → World → Prop) => bindV (pFieldAddr P 65 (e332 3) 1 w362) k363) (fun v183n364 w365 =>
grdE v178n352 true (fun (k366 : Value → World → Prop) => bindV (pLoad P 3 v183n364 w365) k366) (fun v184n367 w368 =>
grdE v178n352 true (fun (k369 : Value → World → Prop) => bindV (pBin P BinOp.add 3 false v182n361 v184n367 w368) k369) (fun v185n370 w371 =>
grdE v178n352 true (fun (k372 : Value → World → Prop) => bindV (pBin P BinOp.lss 3 false v180n355 v185n370 w371) k372) (fun v186n373 w374 =>
pickE v178n352 v186n373 (Value.bool false) fun v187n375 =>
condE v187n375 (fun (K376 : KT) =>
bindV (pBuild P 25 [] w374) fun v188n377 w378 =>
bindU (pStore P 25 v21n338 v188n377 w378) fun w379 =>
K376 .normal (Env.put (Env.put (Env.put (Env.put (Env.put (Env.put (Env.put (Env.put (Env.put (Env.put (Env.put (Env.put (Env.put (Env.put (Env.put (Env.put (Env.put (Env.put (Env.put (Env.put (Env.put e332 170 (e332 168)) 171 v171n334) 172 v172n336) 21 v21n338) 20 (e332 168)) 173 (e332 168)) 174 v174n346) 175 v175n348) 176 (e332 16)) 177 v177n350) 178 v178n352) 179 v178n352) 180 v180n355) 181 v181n358) 182 v182n361) 183 v183n364) 184 v184n367) 185 v185n370) 186 v186n373) 187 v187n375) 188 v188n377) w379) (fun (K376 : KT) =>
K376 .normal (Env.put (Env.put (Env.put (Env.put (Env.put (Env.put (Env.put (Env.put (Env.put (Env.put (Env.put (Env.put (Env.put (Env.put (Env.put (Env.put (Env.put (Env.put (Env.put (Env.put e332 170 (e332 168)) 171 v171n334) 172 v172n336) 21 v21n338) 20 (e332 168)) 173 (e332 168)) 174 v174n346) 175 v175n348) 176 (e332 16)) 177 v177n350) 178 v178n352) 179 v178n352) 180 v180n355) 181 v181n358) 182 v182n361) 183 v183n364) 184 v184n367) 185 v185n370) 186 v186n373) 187 v187n375) w374) (thenK (fun e380 w381 =>
callE P 31 #[(e380 5), (e380 20)] w381 (fun v192n384 w385 =>
bindV (pExtract P v192n384 0 w385) fun v193n386 w387 =>
bindV (pExtract P v192n384 1 w387) fun v194n388 w389 =>
bindV (pAlloc P 25 w389) fun v22n390 w391 =>
bindU (pStore P 25 v22n390 v193n386 w391) fun w392 =>
bindV (pLoad P 25 v22n390 w392) fun v195n393 w394 =>
bindV (pLoad P 25 (e380 21) w394) fun v196n395 w396 =>
bindV (pBin P BinOp.neq 25 false v195n393 v196n395 w396) fun v197n397 w398 =>
condE v197n397 (fun (K399 : KT) =>
K399 .ret (Env.put (Env.put (Env.put (Env.put (Env.put (Env.put (Env.put (Env.put (Env.put (Env.put (Env.put (Env.put e380 190 (e380 5)) 191 (e380 20)) 192 v192n384) 189 v192n384) 193 v193n386) 194 v194n388) 22 v22n390) 23 v194n388) 195 v195n393) 196 v196n395) 197 v197n397) 4 (Value.bool false)) w398) (fun (K399 : KT) =>
K399 .normal (Env.put (Env.put (Env.put (Env.put (Env.put (Env.put (Env.put (Env.put (Env.put (Env.put (Env.put e380 190 (e380 5)) 191 (e380 20)) 192 v192n384) 189 v192n384) 193 v193n386) 194 v194n388) 22 v22n390) 23 v194n388) 195 v195n393) 196 v196n395) 197 v197n397) w398) K341) (fun c382 w383 => K341 (.panic c382) (Env.put (Env.put e380 190 (e380 5)) 191 (e380 20)) w383)) K341)) w371) w368) w365) w362) w359) w356) w353) K)
def F13B0 (e : Env) (w : World) (K : KT) : Prop :=
bindV (pBin P BinOp.lss 3 false (e 42) (e 41) w) fun v43n41 w42 =>
condE v43n41 (fun (K43 : KT) =>
K43 .normal (Env.put e 43 v43n41) w42) (fun (K43 : KT) =>
K43 (.exit 0) (Env.put e 43 v43n41) w42) (thenK (fun e44 w45 =>
bindV (pIndexAddr P 76 (e44 40) (e44 42) w45) fun v45n46 w47 =>
bindV (pLoad P 25 v45n46 w47) fun v46n48 w49 =>
bindV (pAlloc P 25 w49) fun v8n50 w51 =>
bindU (pStore P 25 v8n50 v46n48 w51) fun w52 =>
bindV (pLoad P 25 v8n50 w52) fun v49n53 w54 =>
callE P 28 #[(e44 5), (e44 42), v49n53] w54 (fun v50n57 w58 =>
bindV (pBin P BinOp.add 3 true (e44 42) (Value.int IntKind.i64 1) w58) fun v51n59 w60 =>
K .normal (Env.put (Env.put (Env.put (Env.put (Env.put (Env.put (Env.put (Env.put (Env.put (Env.put (Env.put e44 44 (e44 42)) 45 v45n46) 46 v46n48) 8 v8n50) 7 (e44 42)) 47 (e44 5)) 48 (e44 42)) 49 v49n53) 50 v50n57) 51 v51n59) 42 v51n59) w60) (fun c55 w56 => K (.panic c55) (Env.put (Env.put (Env.put (Env.put (Env.put (Env.put (Env.put (Env.put e44 44 (e44 42)) 45 v45n46) 46 v46n48) 8 v8n50) 7 (e44 42)) 47 (e44 5)) 48 (e44 42)) 49 v49n53) w56)) K)
def F13 (a0 : Value) (a1 : Value) (w : World) (R : Ending → World → Prop) : Prop :=
bindV (pBox P 65 a1 w) fun v3n1 w2 =>
callE P 44 #[] w2 (fun v24n5 w6 =>
bindV (pUn P UnOp.not v24n5 w6) fun v25n7 w8 =>
condE v25n7 (fun (K9 : KT) =>
K9 .ret (Env.put (Env.put (Env.put (Env.put (Env.put (argE [a0, a1]) 3 v3n1) 4 (Value.bool false)) 24 v24n5) 25 v25n7) 4 (Value.bool false)) w8) (fun (K9 : KT) =>
K9 .normal (Env.put (Env.put (Env.put (Env.put (argE [a0, a1]) 3 v3n1) 4 (Value.bool false)) 24 v24n5) 25 v25n7) w8) (thenK (fun e10 w11 =>
bindV (pBuiltin P Builtin.len #[76] 3 [(e10 0)] w11) fun v27n12 w13 =>
bindV (pBin P BinOp.gtr 3 true v27n12 (Value.int IntKind.i64 60) w13) fun v28n14 w15 =>
grdE v28n14 false (fun (k16 : Value → World → Prop) => k16 (e10 0) w15) (fun v30n17 w18 =>
grdE v28n14 false (fun (k19 : Value → World → Prop) => bindV (pBuiltin P Builtin.len #[76] 3 [v30n17] w18) k19) (fun v31n20 w21 =>
grdE v28n14 false (fun (k22 : Value → World → Prop) => bindV (pBin P BinOp.eql 3 true v31n20 (Value.int IntKind.i64 0) w21) k22) (fun v32n23 w24 =>
pickE v28n14 (Value.bool true) v32n23 fun v33n25 =>
condE v33n25 (fun (K26 : KT) =>
K26 .ret (Env.put (Env.put (Env.put (Env.put (Env.put (Env.put (Env.put (Env.put (Env.put e10 26 (e10 0)) 27 v27n12) 28 v28n14) 29 v28n14) 30 v30n17) 31 v31n20) 32 v32n23) 33 v33n25) 4 (Value.bool true)) w24) (fun (K26 : KT) =>
K26 .normal (Env.put (Env.put (Env.put (Env.put (Env.put (Env.put (Env.put (Env.put e10 26 (e10 0)) 27 v27n12) 28 v28n14) 29 v28n14) 30 v30n17) 31 v31n20) 32 v32n23) 33 v33n25) w24) (thenK (fun e27 w28 =>
bindV (pBuiltin P Builtin.len #[76] 3 [(e27 0)] w28) fun v36n29 w30 =>
callE P 27 #[v36n29] w30 (fun v37n33 w34 =>
bindV (pExtract P v37n33 0 w34) fun v38n35 w36 =>
bindV (pExtract P v37n33 1 w36) fun v39n37 w38 =>
bindV (pBuiltin P Builtin.len #[76] 3 [(e27 0)] w38) fun v41n39 w40 =>
loopE F13B0 (Env.put (Env.put (Env.put (Env.put (Env.put (Env.put (Env.put (Env.put (Env.put (Env.put (Env.put e27 35 (e27 0)) 36 v36n29) 37 v37n33) 34 v37n33) 38 v38n35) 39 v39n37) 5 v38n35) 6 v39n37) 40 (e27 0)) 41 v41n39) 42 (Value.int IntKind.i64 0)) w40 (blockK 0 (thenK (fun e61 w62 =>
callE P 29 #[(e61 5)] w62 (fun v53n65 w66 =>
bindV (pLoad P 65 (e61 3) w66) fun v56n67 w68 =>
callE P 48 #[(e61 5), v56n67] w68 (fun v57n71 w72 =>
bindV (pExtract P v57n71 0 w72) fun v58n73 w74 =>
bindV (pExtract P v57n71 1 w74) fun v59n75 w76 =>
bindV (pExtract P v57n71 2 w76) fun v60n77 w78 =>
bindV (pFieldAddr P 65 (e61 3) 0 w78) fun v61n79 w80 =>
bindV (pLoad P 3 v61n79 w80) fun v62n81 w82 =>
bindV (pBin P BinOp.lss 3 true v62n81 (Value.int IntKind.i64 0) w82) fun v63n83 w84 =>
grdE v63n83 false (fun (k85 : Value → World → Prop) => bindV (pFieldAddr P 65 (e61 3) 1 w84) k85) (fun v65n86 w87 =>
grdE v63n83 false (fun (k88 : Value → World → Prop) => bindV (pLoad P 3 v65n86 w87) k88) (fun v66n89 w90 =>
grdE v63n83 false (fun (k91 : Value → World → Prop) => bindV (pBin P BinOp.lss 3 true v66n89 (Value.int IntKind.i64 1) w90) k91) (fun v67n92 w93 =>
pickE v63n83 (Value.bool true) v67n92 fun v68n94 =>
grdE v68n94 false (fun (k95 : Value → World → Prop) => bindV (pFieldAddr P 65 (e61 3) 0 w93) k95) (fun v70n96 w97 =>
grdE v68n94 false (fun (k98 : Value → World → Prop) => bindV (pLoad P 3 v70n96 w97) k98) (fun v71n99 w100 =>
grdE v68n94 false (fun (k101 : Value → World → Prop) => k101 (e61 0) w100) (fun v72n102 w103 =>
grdE v68n94 false (fun (k104 : Value → World → Prop) => bindV (pBuiltin P Builtin.len #[76] 3 [v72n102] w103) k104) (fun v73n105 w106 =>
grdE v68n94 false (fun (k107 : Value → World → Prop) => bindV (pBin P BinOp.gtr 3 false v71n99 v73n105 w106) k107) (fun v74n108 w109 =>
pickE v68n94 (Value.bool true) v74n108 fun v75n110 =>
grdE v75n110 false (fun (k111 : Value → World → Prop) => bindV (pFieldAddr P 65 (e61 3) 1 w109) k111) (fun v77n112 w113 =>
grdE v75n110 false (fun (k114 : Value → World → Prop) => bindV (pLoad P 3 v77n112 w113) k114) (fun v78n115 w116 =>
grdE v75n110 false (fun (k117 : Value → World → Prop) => k117 (e61 0) w116) (fun v79n118 w119 =>
grdE v75n110 false (fun (k120 : Value → World → Prop) => bindV (pBuiltin P Builtin.len #[76] 3 [v79n118] w119) k120) (fun v80n121 w122 =>
grdE v75n110 false (fun (k123 : Value → World → Prop) => bindV (pFieldAddr P 65 (e61 3) 0 w122) k123) (fun v81n124 w125 =>
grdE v75n110 false (fun (k126 : Value → World → Prop) => bindV (pLoad P 3 v81n124 w125) k126) (fun v82n127 w128 =>
grdE v75n110 false (fun (k129 : Value → World → Prop) => bindV (pBin P BinOp.sub 3 false v80n121 v82n127 w128) k129) (fun v83n130 w131 =>
grdE v75n110 false (fun (k132 : Value → World → Prop) => bindV (pBin P BinOp.gtr 3 false v78n115 v83n130 w131) k132) (fun v84n133 w134 =>
pickE v75n110 (Value.bool true) v84n133 fun v85n135 =>
condE v85n135 (fun (K136 : KT) =>
bindV (pLoad P 65 (e61 3) w134) fun v88n137 w138 =>
callE P 45 #[(e61 5), v88n137] w138 (fun v89n141 w142 =>
bindV (pExtract P v89n141 0 w142) fun v90n143 w144 =>
bindV (pExtract P v89n141 1 w144) fun v91n145 w146 =>
bindV (pExtract P v89n141 2 w146) fun v92n147 w148 =>
bindV (pBin P BinOp.eql 26 true v60n77 (Value.int IntKind.i64 1) w148) fun v94n149 w150 =>
grdE v94n149 true (fun (k151 : Value → World → Prop) => k151 v58n73 w150) (fun v96n152 w153 =>
grdE v94n149 true (fun (k154 : Value → World → Prop) => bindV (pBuiltin P Builtin.len #[67] 3 [v96n152] w153) k154) (fun v97n155 w156 =>
grdE v94n149 true (fun (k157 : Value → World → Prop) => bindV (pBin P BinOp.eql 3 true v97n155 (Value.int IntKind.i64 0) w156) k157) (fun v98n158 w159 =>
pickE v94n149 v98n158 (Value.bool false) fun v99n160 =>
grdE v99n160 true (fun (k161 : Value → World → Prop) => k161 v92n147 w159) (fun v101n162 w163 =>
grdE v99n160 true (fun (k164 : Value → World → Prop) => bindV (pBin P BinOp.eql 26 true v101n162 (Value.int IntKind.i64 1) w163) k164) (fun v102n165 w166 =>
pickE v99n160 v102n165 (Value.bool false) fun v103n167 =>
grdE v103n167 true (fun (k168 : Value → World → Prop) => k168 (e61 5) w166) (fun v105n169 w170 =>
grdE v103n167 true (fun (k171 : Value → World → Prop) => bindV (pLoad P 65 (e61 3) w170) k171) (fun v106n172 w173 =>
grdE v103n167 true (fun (k174 : Value → World → Prop) => callE P 50 #[v105n169, v106n172] w173 k174 (fun c175 w176 => K136 (.panic c175) (Env.put (Env.put (Env.put (Env.put (Env.put (Env.put (Env.put (Env.put (Env.put (Env.put (Env.put (Env.put (Env.put (Env.put (Env.put (Env.put (Env.put (Env.put (Env.put (Env.put (Env.put (Env.put (Env.put (Env.put (Env.put (Env.put (Env.put (Env.put (Env.put (Env.put (Env.put (Env.put (Env.put (Env.put (Env.put (Env.put (Env.put (Env.put (Env.put (Env.put (Env.put (Env.put (Env.put (Env.put (Env.put (Env.put (Env.put (Env.put (Env.put (Env.put (Env.put (Env.put (Env.put (Env.put (Env.put (Env.put (Env.put (Env.put (Env.put (Env.put (Env.put e61 52 (e61 5)) 53 v53n65) 55 (e61 5)) 56 v56n67) 57 v57n71) 54 v57n71) 58 v58n73) 59 v59n75) 60 v60n77) 9 v58n73) 10 v59n75) 11 v60n77) 61 v61n79) 62 v62n81) 63 v63n83) 64 v63n83) 65 v65n86) 66 v66n89) 67 v67n92) 68 v68n94) 69 v68n94) 70 v70n96) 71 v71n99) 72 v72n102) 73 v73n105) 74 v74n108) 75 v75n110) 76 v75n110) 77 v77n112) 78 v78n115) 79 v79n118) 80 v80n121) 81 v81n124) 82 v82n127) 83 v83n130) 84 v84n133) 85 v85n135) 87 (e61 5)) 88 v88n137) 89 v89n141) 86 v89n141) 90 v90n143) 91 v91n145) 92 v92n147) 12 v90n143) 13 v91n145) 14 v92n147) 93 v60n77) 94 v94n149) 95 v94n149) 96 v96n152) 97 v97n155) 98 v98n158) 99 v99n160) 100 v99n160) 101 v101n162) 102 v102n165) 103 v103n167) 104 v103n167) 105 v105n169) 106 v106n172) w176)) (fun v107n177 w178 =>
grdE v103n167 true (fun (k179 : Value → World → Prop) => bindV (pBin P BinOp.eql 26 true v107n177 (Value.int IntKind.i64 1) w178) k179) (fun v108n180 w181 =>
pickE v103n167 v108n180 (Value.bool false) fun v109n182 =>
K136 .ret (Env.put (Env.put (Env.put (Env.put (Env.put (Env.put (Env.put (Env.put (Env.put (Env.put (Env.put (Env.put (Env.put (Env.put (Env.put (Env.put (Env.put (Env.put (Env.put (Env.put (Env.put (Env.put (Env.put (Env.put (Env.put (Env.put (Env.put (Env.put (Env.put (Env.put (Env.put (Env.put (Env.put (Env.put (Env.put (Env.put (Env.put (Env.put (Env.put (Env.put (Env.put (Env.put (Env.put (Env.put (Env.put (Env.put (Env.put (Env.put (Env.put (Env.put (Env.put (Env.put (Env.put (Env.put (Env.put (Env.put (Env.put (Env.put (Env.put (Env.put (Env.put (Env.put (Env.put (Env.put (Env.put e61 52 (e61 5)) 53 v53n65) 55 (e61 5)) 56 v56n67) 57 v57n71) 54 v57n71) 58 v58n73) 59 v59n75) 60 v60n77) 9 v58n73) 10 v59n75) 11 v60n77) 61 v61n79) 62 v62n81) 63 v63n83) 64 v63n83) 65 v65n86) 66 v66n89) 67 v67n92) 68 v68n94) 69 v68n94) 70 v70n96) 71 v71n99) 72 v72n102) 73 v73n105) 74 v74n108) 75 v75n110) 76 v75n110) 77 v77n112) 78 v78n115) 79 v79n118) 80 v80n121) 81 v81n124) 82 v82n127) 83 v83n130) 84 v84n133) 85 v85n135) 87 (e61 5)) 88 v88n137) 89 v89n141) 86 v89n141) 90 v90n143) 91 v91n145) 92 v92n147) 12 v90n143) 13 v91n145) 14 v92n147) 93 v60n77) 94 v94n149) 95 v94n149) 96 v96n152) 97 v97n155) 98 v98n158) 99 v99n160) 100 v99n160) 101 v101n162) 102 v102n165) 103 v103n167) 104 v103n167) 105 v105n169) 106 v106n172) 107 v107n177) 108 v108n180) 109 v109n182) 4 v109n182) w181) w178) w173) w170) w166) w163) w159) w156) w153) w150) (fun c139 w140 => K136 (.panic c139) (Env.put (Env.put (Env.put (Env.put (Env.put (Env.put (Env.put (Env.put (Env.put (Env.put (Env.put (Env.put (Env.put (Env.put (Env.put (Env.put (Env.put (Env.put (Env.put (Env.put (Env.put (Env.put (Env.put (Env.put (Env.put (Env.put (Env.put (Env.put (Env.put (Env.put (Env.put (Env.put (Env.put (Env.put (Env.put (Env.put (Env.put (Env.put (Env.put e61 52 (e61 5)) 53 v53n65) 55 (e61 5)) 56 v56n67) 57 v57n71) 54 v57n71) 58 v58n73) 59 v59n75) 60 v60n77) 9 v58n73) 10 v59n75) 11 v60n77) 61 v61n79) 62 v62n81) 63 v63n83) 64 v63n83) 65 v65n86) 66 v66n89) 67 v67n92) 68 v68n94) 69 v68n94) 70 v70n96) 71 v71n99) 72 v72n102) 73 v73n105) 74 v74n108) 75 v75n110) 76 v75n110) 77 v77n112) 78 v78n115) 79 v79n118) 80 v80n121) 81 v81n124) 82 v82n127) 83 v83n130) 84 v84n133) 85 v85n135) 87 (e61 5)) 88 v88n137) w140)) (fun (K136 : KT) =>
K136 .normal (Env.put (Env.put (Env.put (Env.put (Env.put (Env.put (Env.put (Env.put (Env.put (Env.put (Env.put (Env.put (Env.put (Env.put (Env.put (Env.put (Env.put (Env.put (Env.put (Env.put (Env.put (Env.put (Env.put (Env.put (Env.put (Env.put (Env.put (Env.put (Env.put (Env.put (Env.put (Env.put (Env.put (Env.put (Env.put (Env.put (Env.put e61 52 (e61 5)) 53 v53n65) 55 (e61 5)) 56 v56n67) 57 v57n71) 54 v57n71) 58 v58n73) 59 v59n75) 60 v60n77) 9 v58n73) 10 v59n75) 11 v60n77) 61 v61n79) 62 v62n81) 63 v63n83) 64 v63n83) 65 v65n86) 66 v66n89) 67 v67n92) 68 v68n94) 69 v68n94) 70 v70n96) 71 v71n99) 72 v72n102) 73 v73n105) 74 v74n108) 75 v75n110) 76 v75n110) 77 v77n112) 78 v78n115) 79 v79n118) 80 v80n121) 81 v81n124) 82 v82n127) 83 v83n130) 84 v84n133) 85 v85n135) w134) (thenK (fun e183 w184 =>
bindV (pFieldAddr P 65 (e183 3) 0 w184) fun v112n185 w186 =>
bindV (pLoad P 3 v112n185 w186) fun v113n187 w188 =>
bindV (pFieldAddr P 65 (e183 3) 0 w188) fun v114n189 w190 =>
bindV (pLoad P 3 v114n189 w190) fun v115n191 w192 =>
bindV (pFieldAddr P 65 (e183 3) 1 w192) fun v116n193 w194 =>
bindV (pLoad P 3 v116n193 w194) fun v117n195 w196 =>
bindV (pBin P BinOp.add 3 false v115n191 v117n195 w196) fun v118n197 w198 =>
bindV (pSlice P 76 (e183 0) (some v113n187) (some v118n197) none w198) fun v119n199 w200 =>
callE P 51 #[v119n199] w200 (fun v120n203 w204 =>
bindV (pExtract P v120n203 0 w204) fun v121n205 w206 =>
bindV (pExtract P v120n203 1 w206) fun v122n207 w208 =>
bindV (pBin P BinOp.neq 26 true (e183 11) (Value.int IntKind.i64 0) w208) fun v124n209 w210 =>
grdE v124n209 false (fun (k211 : Value → World → Prop) => k211 (e183 10) w210) (fun v126n212 w213 =>
grdE v124n209 false (fun (k214 : Value → World → Prop) => k214 v122n207 w213) (fun v127n215 w216 =>
grdE v124n209 false (fun (k217 : Value → World → Prop) => bindV (pBin P BinOp.neq 3 false v126n212 v127n215 w216) k217) (fun v128n218 w219 =>
pickE v124n209 (Value.bool true) v128n218 fun v129n220 =>
grdE v129n220 false (fun (k221 : Value → World → Prop) => k221 (e183 9) w219) (fun v131n222 w223 =>
grdE v129n220 false (fun (k224 : Value → World → Prop) => k224 v121n205 w223) (fun v132n225 w226 =>
grdE v129n220 false (fun (k227 : Value → World → Prop) => callE P 52 #[v131n222, v132n225] w226 k227 (fun c228 w229 => R (.panicked c228) w229)) (fun v133n230 w231 =>
grdE v129n220 false (fun (k232 : Value → World → Prop) => bindV (pUn P UnOp.not v133n230 w231) k232) (fun v134n233 w234 =>
pickE v129n220 (Value.bool true) v134n233 fun v135n235 =>
condE v135n235 (fun (K236 : KT) =>
K236 .ret (Env.put (Env.put (Env.put (Env.put (Env.put (Env.put (Env.put (Env.put (Env.put (Env.put (Env.put (Env.put (Env.put (Env.put (Env.put (Env.put (Env.put (Env.put (Env.put (Env.put (Env.put (Env.put (Env.put (Env.put (Env.put (Env.put (Env.put (Env.put (Env.put e183 111 (e183 0)) 112 v112n185) 113 v113n187) 114 v114n189) 115 v115n191) 116 v116n193) 117 v117n195) 118 v118n197) 119 v119n199) 120 v120n203) 110 v120n203) 121 v121n205) 122 v122n207) 15 v121n205) 16 v122n207) 123 (e183 11)) 124 v124n209) 125 v124n209) 126 v126n212) 127 v127n215) 128 v128n218) 129 v129n220) 130 v129n220) 131 v131n222) 132 v132n225) 133 v133n230) 134 v134n233) 135 v135n235) 4 (Value.bool false)) w234) (fun (K236 : KT) =>
K236 .normal (Env.put (Env.put (Env.put (Env.put (Env.put (Env.put (Env.put (Env.put (Env.put (Env.put (Env.put (Env.put (Env.put (Env.put (Env.put (Env.put (Env.put (Env.put (Env.put (Env.put (Env.put (Env.put (Env.put (Env.put (Env.put (Env.put (Env.put (Env.put e183 111 (e183 0)) 112 v112n185) 113 v113n187) 114 v114n189) 115 v115n191) 116 v116n193) 117 v117n195) 118 v118n197) 119 v119n199) 120 v120n203) 110 v120n203) 121 v121n205) 122 v122n207) 15 v121n205) 16 v122n207) 123 (e183 11)) 124 v124n209) 125 v124n209) 126 v126n212) 127 v127n215) 128 v128n218) 129 v129n220) 130 v129n220) 131 v131n222) 132 v132n225) 133 v133n230) 134 v134n233) 135 v135n235) w234) (thenK (fun e237 w238 =>
bindV (pLoad P 65 (e237 3) w238) fun v138n239 w240 =>
callE P 45 #[(e237 5), v138n239] w240 (fun v139n243 w244 =>
bindV (pExtract P v139n243 0 w244) fun v140n245 w246 =>
bindV (pExtract P v139n243 1 w246) fun v141n247 w248 =>
bindV (pExtract P v139n243 2 w248) fun v142n249 w250 =>
takeE (fun w253 => some (v142n249, w253)) (drew w250) fun v143n251 h252 =>
takeE (fun w256 => pBin P BinOp.neq 26 true v143n251 (Value.int IntKind.i64 0) w256) (drew w250) fun v144n254 h255 =>
takeE (fun w259 => some (v144n254, w259)) (drew w250) fun v145n257 h258 =>
takeE (fun w262 => qGrd v145n257 false (fun w262 => some (v140n245, w262)) w262) (drew w250) fun v146n260 h261 =>
takeE (fun w265 => qGrd v145n257 false (fun w265 => pBin P BinOp.eql 66 true v146n260 (Value.pointer none) w265) w265) (drew w250) fun v147n263 h264 =>
takeE (fun w268 => qPick v145n257 (Value.bool true) v147n263 w268) (drew w250) fun v148n266 h267 =>
takeE (fun w271 => some (v148n266, w271)) (drew w250) fun v149n269 h270 =>
takeE (fun w274 => qGrd v149n269 false (fun w274 => some (v141n247, w274)) w274) (drew w250) fun v150n272 h273 =>
takeE (fun w277 => qGrd v149n269 false (fun w277 => some ((e237 15), w277)) w277) (drew w250) fun v151n275 h276 =>
grdE v149n269 false (fun (k279 : Value → World → Prop) => callE P 52 #[v150n272, v151n275] (drew w250) k279 (fun c280 w281 => ∀ (e278 : Env), agreeOff [143, 144, 145, 146, 147, 148, 149, 150, 151] (Env.put (Env.put (Env.put (Env.put (Env.put (Env.put (Env.put (Env.put (Env.put (Env.put (Env.put (Env.put (Env.put (Env.put (Env.put (Env.put (Env.put (Env.put (Env.put e237 137 (e237 5)) 138 v138n239) 139 v139n243) 136 v139n243) 140 v140n245) 141 v141n247) 142 v142n249) 17 v140n245) 18 v141n247) 19 v142n249) 143 v143n251) 144 v144n254) 145 v145n257) 146 v146n260) 147 v147n263) 148 v148n266) 149 v149n269) 150 v150n272) 151 v151n275) e278 → R (.panicked c280) w281)) (fun v152n282 w283 =>
takeE (fun w286 => qGrd v149n269 false (fun w286 => pUn P UnOp.not v152n282 w286) w286) w283 fun v153n284 h285 =>
takeE (fun w289 => qPick v149n269 (Value.bool true) v153n284 w289) w283 fun v154n287 h288 =>
takeE (fun w292 => some (v154n287, w292)) w283 fun v155n290 h291 =>
takeE (fun w295 => qGrd v155n290 false (fun w295 => some (v140n245, w295)) w295) w283 fun v156n293 h294 =>
takeE (fun w298 => qGrd v155n290 false (fun w298 => pFieldAddr P 65 (e237 3) 1 w298) w298) w283 fun v158n296 h297 =>
takeE (fun w301 => qGrd v155n290 false (fun w301 => pLoad P 3 v158n296 w301) w301) w283 fun v159n299 h300 =>
takeE (fun w304 => qGrd v155n290 false (fun w304 => some ((e237 16), w304)) w304) w283 fun v160n302 h303 =>
takeE (fun w307 => qGrd v155n290 false (fun w307 => pBin P BinOp.sub 3 false v159n299 v160n302 w307) w307) w283 fun v161n305 h306 =>
grdE v155n290 false (fun (k309 : Value → World → Prop) => callE P 53 #[v156n293] w283 k309 (fun c310 w311 => ∀ (e308 : Env), agreeOff [143, 144, 145, 146, 147, 148, 149, 150, 151, 152, 153, 154, 155, 156, 158, 159, 160, 161] (Env.put (Env.put (Env.put (Env.put (Env.put (Env.put (Env.put (Env.put (Env.put (Env.put (Env.put (Env.put (Env.put (Env.put (Env.put (Env.put (Env.put (Env.put (Env.put (Env.put (Env.put (Env.put (Env.put (Env.put (Env.put (Env.put (Env.put (Env.put e237 137 (e237 5)) 138 v138n239) 139 v139n243) 136 v139n243) 140 v140n245) 141 v141n247) 142 v142n249) 17 v140n245) 18 v141n247) 19 v142n249) 143 v143n251) 144 v144n254) 145 v145n257) 146 v146n260) 147 v147n263) 148 v148n266) 149 v149n269) 150 v150n272) 151 v151n275) 152 v152n282) 153 v153n284) 154 v154n287) 155 v155n290) 156 v156n293) 158 v158n296) 159 v159n299) 160 v160n302) 161 v161n305) e308 → R (.panicked c310) w311)) (fun v157n312 w313 =>
heldE [h306, h303, h300, h297] w313 (takeE (fun w316 => qGrd v155n290 false (fun w316 => pBin P BinOp.neq 3 false v157n312 v161n305 w316) w316) w313 fun v162n314 h315 =>
takeE (fun w319 => qPick v155n290 (Value.bool true) v162n314 w319) w313 fun v163n317 h318 =>
condE v163n317 (fun (K320 : KT) =>
K320 .ret (Env.put (Env.put (Env.put (Env.put (Env.put (Env.put (Env.put (Env.put (Env.put (Env.put (Env.put (Env.put (Env.put (Env.put (Env.put (Env.put (Env.put (Env.put (Env.put (Env.put (Env.put (Env.put (Env.put (Env.put (Env.put (Env.put (Env.put (Env.put (Env.put (Env.put (Env.put (Env.put e237 137 (e237 5)) 138 v138n239) 139 v139n243) 136 v139n243) 140 v140n245) 141 v141n247) 142 v142n249) 17 v140n245) 18 v141n247) 19 v142n249) 143 v143n251) 144 v144n254) 145 v145n257) 146 v146n260) 147 v147n263) 148 v148n266) 149 v149n269) 150 v150n272) 151 v151n275) 152 v152n282) 153 v153n284) 154 v154n287) 155 v155n290) 156 v156n293) 158 v158n296) 159 v159n299) 160 v160n302) 161 v161n305) 157 v157n312) 162 v162n314) 163 v163n317) 4 (Value.bool false)) w313) (fun (K320 : KT) =>
K320 .normal (Env.put (Env.put (Env.put (Env.put (Env.put (Env.put (Env.put (Env.put (Env.put (Env.put (Env.put (Env.put (Env.put (Env.put (Env.put (Env.put (Env.put (Env.put (Env.put (Env.put (Env.put (Env.put (Env.put (Env.put (Env.put (Env.put (Env.put (Env.put (Env.put (Env.put (Env.put e237 137 (e237 5)) 138 v138n239) 139 v139n243) 136 v139n243) 140 v140n245) 141 v141n247) 142 v142n249) 17 v140n245) 18 v141n247) 19 v142n249) 143 v143n251) 144 v144n254) 145 v145n257) 146 v146n260) 147 v147n263) 148 v148n266) 149 v149n269) 150 v150n272) 151 v151n275) 152 v152n282) 153 v153n284) 154 v154n287) 155 v155n290) 156 v156n293) 158 v158n296) 159 v159n299) 160 v160n302) 161 v161n305) 157 v157n312) 162 v162n314) 163 v163n317) w313) (thenK (fun e321 w322 =>
callE P 30 #[(e321 5), (Value.slice none 0 0)] w322 (fun v165n325 w326 =>
bindV (pBuiltin P Builtin.len #[76] 3 [(e321 0)] w326) fun v167n327 w328 =>
loopE F13B1 (Env.put (Env.put (Env.put (Env.put (Env.put e321 164 (e321 5)) 165 v165n325) 166 (e321 0)) 167 v167n327) 168 (Value.int IntKind.i64 0)) w328 (blockK 2 (thenK (fun e400 w401 =>
R (.returned (Value.bool true)) w401) (topK P [(ResultVar.tmp 4)] R)))) (fun c323 w324 => R (.panicked c323) w324)) (topK P [(ResultVar.tmp 4)] R)))) w283) (drew w250)) (fun c241 w242 => R (.panicked c241) w242)) (topK P [(ResultVar.tmp 4)] R))) w231) w226) w223) w219) w216) w213) w210) (fun c201 w202 => R (.panicked c201) w202)) (topK P [(ResultVar.tmp 4)] R))) w131) w128) w125) w122) w119) w116) w113) w109) w106) w103) w100) w97) w93) w90) w87) w84) (fun c69 w70 => R (.panicked c69) w70)) (fun c63 w64 => R (.panicked c63) w64)) (topK P [(ResultVar.tmp 4)] R)))) (fun c31 w32 => R (.panicked c31) w32)) (topK P [(ResultVar.tmp 4)] R))) w21) w18) w15) (topK P [(ResultVar.tmp 4)] R))) (fun c3 w4 => R (.panicked c3) w4)
theorem F13ok {w : World} {R : Ending → World → Prop} {a0 : Value} {a1 : Value} (h : F13 a0 a1 w R) : Calls P 13 #[a0, a1] w R :=
  calls_of_ev bodies mixed (c := bodyOf Try.f13) (nt := 199) (rs := [(ResultVar.tmp 4)]) (args := [a0, a1]) (fn := Try.f13) (by kernel_rfl) (by kernel_rfl) (by kernel_rfl) (by kernel_rfl) (by kernel_rfl) (by simp)
    (eq_mp (show F13 a0 a1 w R = ev P C (bodyOf Try.f13) (argE [a0, a1]) w (topK P [(ResultVar.tmp 4)] R) by kernel_rfl) h)

end Go.Proofs.Yticncfkpfpkfoaa
