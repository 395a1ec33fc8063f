/- The functions' residual programs, printed by gen.py. -/
import Derived.Test.YticncfkpfpkfoaaBaseD
namespace Go.Proofs.Yticncfkpfpkfoaa
open Go
/-! ### moiety/moietylaw22.PinCrash -/
def F19B0 (e : Env) (w : World) (K : KT) : Prop :=
bindV (pBin P BinOp.lss 3 true (e 49) (Value.int IntKind.i64 3) w) fun v50n114 w115 =>
condE v50n114 (fun (K116 : KT) =>
K116 .normal (Env.put e 50 v50n114) w115) (fun (K116 : KT) =>
K116 (.exit 0) (Env.put e 50 v50n114) w115) (thenK (fun e117 w118 =>
letK (blockK 1 (thenK (fun e120 w121 =>
bindV (pBin P BinOp.add 3 true (e120 49) (Value.int IntKind.i64 1) w121) fun v59n122 w123 =>
K .normal (Env.put (Env.put e120 59 v59n122) 49 v59n122) w123) K)) fun (K119 : KT) =>
bindV (pLoad P 87 (e117 11) w118) fun v52n124 w125 =>
callE P 59 #[(e117 9), v52n124] w125 (fun v53n128 w129 =>
bindV (pBin P BinOp.neq 26 true v53n128 (Value.int IntKind.i64 0) w129) fun v54n130 w131 =>
condE v54n130 (fun (K132 : KT) =>
K132 .ret (Env.put (Env.put (Env.put (Env.put (Env.put e117 51 (e117 9)) 52 v52n124) 53 v53n128) 54 v54n130) 6 (Value.bool false)) w131) (fun (K132 : KT) =>
K132 .normal (Env.put (Env.put (Env.put (Env.put e117 51 (e117 9)) 52 v52n124) 53 v53n128) 54 v54n130) w131) (thenK (fun e133 w134 =>
bindV (pFieldAddr P 87 (e133 11) 0 w134) fun v55n135 w136 =>
bindV (pLoad P 3 v55n135 w136) fun v56n137 w138 =>
bindV (pBin P BinOp.add 3 true v56n137 (Value.int IntKind.i64 1) w138) fun v57n139 w140 =>
bindV (pFieldAddr P 87 (e133 11) 0 w140) fun v58n141 w142 =>
bindU (pStore P 3 v58n141 v57n139 w142) fun w143 =>
K119 .normal (Env.put (Env.put (Env.put (Env.put e133 55 v55n135) 56 v56n137) 57 v57n139) 58 v58n141) w143) K119)) (fun c126 w127 => K119 (.panic c126) (Env.put (Env.put e117 51 (e117 9)) 52 v52n124) w127)) K)
def F19 (a0 : Value) (a1 : Value) (a2 : Value) (w : World) (R : Ending → World → Prop) : Prop :=
bindV (pBox P 104 a0 w) fun v3n1 w2 =>
callE P 57 #[] w2 (fun v17n5 w6 =>
bindV (pUn P UnOp.not v17n5 w6) fun v18n7 w8 =>
condE v18n7 (fun (K9 : KT) =>
K9 .ret (Env.put (Env.put (Env.put (Env.put (Env.put (argE [a0, a1, a2]) 3 v3n1) 6 (Value.bool false)) 17 v17n5) 18 v18n7) 6 (Value.bool false)) w8) (fun (K9 : KT) =>
K9 .normal (Env.put (Env.put (Env.put (Env.put (argE [a0, a1, a2]) 3 v3n1) 6 (Value.bool false)) 17 v17n5) 18 v18n7) w8) (thenK (fun e10 w11 =>
drawE (fun (k12 : Env → World → Prop) (kp13 : List PanicEntry → Env → World → Prop) =>
takeE (fun w16 => pIndexAddr P 104 (e10 3) (Value.int IntKind.i64 0) w16) (drew w11) fun v19n14 h15 =>
takeE (fun w19 => pLoad P 87 v19n14 w19) (drew w11) fun v20n17 h18 =>
takeE (fun w22 => pIndexAddr P 104 (e10 3) (Value.int IntKind.i64 1) w22) (drew w11) fun v21n20 h21 =>
takeE (fun w25 => pLoad P 87 v21n20 w25) (drew w11) fun v22n23 h24 =>
(bindV (pAlloc P 87 (drew w11)) fun v7n27 w28 =>
heldE [h24, h21, h18, h15] w28 (bindV (pAlloc P 87 w28) fun v8n30 w31 =>
heldE [h24, h21, h18, h15] w31 (bindU (pStore P 87 v7n27 v20n17 w31) fun w33 =>
heldE [h24, h21] w33 (bindU (pStore P 87 v8n30 v22n23 w33) fun w35 =>
k12 (Env.put (Env.put (Env.put (Env.put (Env.put (Env.put e10 19 v19n14) 20 v20n17) 21 v21n20) 22 v22n23) 7 v7n27) 8 v8n30) w35)))) ∧
(bindV (pAlloc P 87 (drew w11)) fun v8n37 w38 =>
heldE [h24, h21, h18, h15] w38 (bindV (pAlloc P 87 w38) fun v7n40 w41 =>
heldE [h24, h21, h18, h15] w41 (bindU (pStore P 87 v7n40 v20n17 w41) fun w43 =>
heldE [h24, h21] w43 (bindU (pStore P 87 v8n37 v22n23 w43) fun w45 =>
k12 (Env.put (Env.put (Env.put (Env.put (Env.put (Env.put e10 19 v19n14) 20 v20n17) 21 v21n20) 22 v22n23) 8 v8n37) 7 v7n40) w45))))) (fun e46 w47 =>
bindV (pFieldAddr P 87 (e46 7) 0 w47) fun v23n51 w52 =>
bindV (pLoad P 3 v23n51 w52) fun v24n53 w54 =>
bindV (pFieldAddr P 87 (e46 8) 0 w54) fun v25n55 w56 =>
bindU (pStore P 3 v25n55 v24n53 w56) fun w57 =>
bindV (pLoad P 87 (e46 7) w57) fun v26n58 w59 =>
callE P 58 #[v26n58] w59 (fun v27n62 w63 =>
bindV (pBin P BinOp.neq 26 true v27n62 (Value.int IntKind.i64 0) w63) fun v28n64 w65 =>
grdE v28n64 false (fun (k66 : Value → World → Prop) => bindV (pLoad P 87 (e46 8) w65) k66) (fun v30n67 w68 =>
grdE v28n64 false (fun (k69 : Value → World → Prop) => callE P 58 #[v30n67] w68 k69 (fun c70 w71 => R (.panicked c70) w71)) (fun v31n72 w73 =>
grdE v28n64 false (fun (k74 : Value → World → Prop) => bindV (pBin P BinOp.neq 26 true v31n72 (Value.int IntKind.i64 0) w73) k74) (fun v32n75 w76 =>
pickE v28n64 (Value.bool true) v32n75 fun v33n77 =>
grdE v33n77 false (fun (k78 : Value → World → Prop) => bindV (pFieldAddr P 87 (e46 7) 0 w76) k78) (fun v35n79 w80 =>
grdE v33n77 false (fun (k81 : Value → World → Prop) => bindV (pLoad P 3 v35n79 w80) k81) (fun v36n82 w83 =>
grdE v33n77 false (fun (k84 : Value → World → Prop) => bindV (pBin P BinOp.gtr 3 true v36n82 (Value.int IntKind.i64 549755813888) w83) k84) (fun v37n85 w86 =>
pickE v33n77 (Value.bool true) v37n85 fun v38n87 =>
grdE v38n87 false (fun (k88 : Value → World → Prop) => k88 (e46 2) w86) (fun v40n89 w90 =>
grdE v38n87 false (fun (k91 : Value → World → Prop) => bindV (pBuiltin P Builtin.len #[43] 3 [v40n89] w90) k91) (fun v41n92 w93 =>
grdE v38n87 false (fun (k94 : Value → World → Prop) => bindV (pBin P BinOp.gtr 3 true v41n92 (Value.int IntKind.i64 20) w93) k94) (fun v42n95 w96 =>
pickE v38n87 (Value.bool true) v42n95 fun v43n97 =>
condE v43n97 (fun (K98 : KT) =>
K98 .ret (Env.put (Env.put (Env.put (Env.put (Env.put (Env.put (Env.put (Env.put (Env.put (Env.put (Env.put (Env.put (Env.put (Env.put (Env.put (Env.put (Env.put (Env.put (Env.put (Env.put (Env.put (Env.put e46 23 v23n51) 24 v24n53) 25 v25n55) 26 v26n58) 27 v27n62) 28 v28n64) 29 v28n64) 30 v30n67) 31 v31n72) 32 v32n75) 33 v33n77) 34 v33n77) 35 v35n79) 36 v36n82) 37 v37n85) 38 v38n87) 39 v38n87) 40 v40n89) 41 v41n92) 42 v42n95) 43 v43n97) 6 (Value.bool true)) w96) (fun (K98 : KT) =>
K98 .normal (Env.put (Env.put (Env.put (Env.put (Env.put (Env.put (Env.put (Env.put (Env.put (Env.put (Env.put (Env.put (Env.put (Env.put (Env.put (Env.put (Env.put (Env.put (Env.put (Env.put (Env.put e46 23 v23n51) 24 v24n53) 25 v25n55) 26 v26n58) 27 v27n62) 28 v28n64) 29 v28n64) 30 v30n67) 31 v31n72) 32 v32n75) 33 v33n77) 34 v33n77) 35 v35n79) 36 v36n82) 37 v37n85) 38 v38n87) 39 v38n87) 40 v40n89) 41 v41n92) 42 v42n95) 43 v43n97) w96) (thenK (fun e99 w100 =>
callE P 27 #[(Value.int IntKind.i64 2)] w100 (fun v45n103 w104 =>
bindV (pExtract P v45n103 0 w104) fun v46n105 w106 =>
bindV (pExtract P v45n103 1 w106) fun v47n107 w108 =>
bindV (pLoad P 87 (e99 7) w108) fun v48n109 w110 =>
bindV (pAlloc P 87 w110) fun v11n111 w112 =>
bindU (pStore P 87 v11n111 v48n109 w112) fun w113 =>
loopE F19B0 (Env.put (Env.put (Env.put (Env.put (Env.put (Env.put (Env.put (Env.put (Env.put e99 45 v45n103) 44 v45n103) 46 v46n105) 47 v47n107) 9 v46n105) 10 v47n107) 48 v48n109) 11 v11n111) 49 (Value.int IntKind.i64 0)) w113 (blockK 0 (thenK (fun e144 w145 =>
bindV (pFieldAddr P 87 (e144 11) 0 w145) fun v60n146 w147 =>
bindV (pLoad P 3 v60n146 w147) fun v61n148 w149 =>
bindV (pBin P BinOp.sub 3 true v61n148 (Value.int IntKind.i64 1) w149) fun v62n150 w151 =>
bindV (pFieldAddr P 87 (e144 11) 0 w151) fun v63n152 w153 =>
bindU (pStore P 3 v63n152 v62n150 w153) fun w154 =>
bindV (pFieldAddr P 87 (e144 11) 0 w154) fun v64n155 w156 =>
bindV (pLoad P 3 v64n155 w156) fun v65n157 w158 =>
bindV (pBin P BinOp.add 3 true v65n157 (Value.int IntKind.i64 1) w158) fun v66n159 w160 =>
bindV (pFieldAddr P 87 (e144 8) 0 w160) fun v67n161 w162 =>
bindU (pStore P 3 v67n161 v66n159 w162) fun w163 =>
bindV (pConv P 5 3 (e144 1) w163) fun v70n164 w165 =>
bindV (pBin P BinOp.rem 3 true v70n164 (Value.int IntKind.i64 4) w165) fun v71n166 w167 =>
callE P 41 #[(e144 9), v71n166] w167 (fun v72n170 w171 =>
bindV (pLoad P 87 (e144 8) w171) fun v74n172 w173 =>
callE P 59 #[(e144 9), v74n172] w173 (fun v75n176 w177 =>
callE P 30 #[(e144 9), (e144 2)] w177 (fun v78n180 w181 =>
callE P 60 #[(e144 9)] w181 (fun v81n184 w185 =>
bindV (pExtract P v81n184 0 w185) fun v82n186 w187 =>
bindV (pExtract P v81n184 1 w187) fun v83n188 w189 =>
bindV (pAlloc P 87 w189) fun v13n190 w191 =>
bindU (pStore P 87 v13n190 v82n186 w191) fun w192 =>
bindV (pBin P BinOp.neq 26 true v83n188 (Value.int IntKind.i64 0) w192) fun v85n193 w194 =>
grdE v85n193 false (fun (k195 : Value → World → Prop) => bindV (pLoad P 87 v13n190 w194) k195) (fun v87n196 w197 =>
grdE v85n193 false (fun (k198 : Value → World → Prop) => bindV (pLoad P 87 (e144 11) w197) k198) (fun v88n199 w200 =>
grdE v85n193 false (fun (k201 : Value → World → Prop) => bindV (pBin P BinOp.neq 87 false v87n196 v88n199 w200) k201) (fun v89n202 w203 =>
grdE v85n193 false (fun (k204 : Value → World → Prop) => k204 v89n202 w203) (fun v90n205 w206 =>
grdE v90n205 true (fun (k207 : Value → World → Prop) => bindV (pLoad P 87 v13n190 w206) k207) (fun v91n208 w209 =>
grdE v90n205 true (fun (k210 : Value → World → Prop) => bindV (pLoad P 87 (e144 8) w209) k210) (fun v92n211 w212 =>
grdE v90n205 true (fun (k213 : Value → World → Prop) => bindV (pBin P BinOp.neq 87 false v91n208 v92n211 w212) k213) (fun v93n214 w215 =>
grdE v85n193 false (fun (k216 : Value → World → Prop) => pickE v90n205 v93n214 (Value.bool false) fun v94n217 =>
k216 v94n217 w215) (fun v94n218 w219 =>
pickE v85n193 (Value.bool true) v94n218 fun v95n220 =>
grdE v95n220 false (fun (k221 : Value → World → Prop) => k221 v75n176 w219) (fun v97n222 w223 =>
grdE v95n220 false (fun (k224 : Value → World → Prop) => bindV (pBin P BinOp.eql 26 true v97n222 (Value.int IntKind.i64 0) w223) k224) (fun v98n225 w226 =>
grdE v95n220 false (fun (k227 : Value → World → Prop) => k227 v98n225 w226) (fun v99n228 w229 =>
grdE v99n228 true (fun (k230 : Value → World → Prop) => bindV (pLoad P 87 v13n190 w229) k230) (fun v100n231 w232 =>
grdE v99n228 true (fun (k233 : Value → World → Prop) => bindV (pLoad P 87 (e144 8) w232) k233) (fun v101n234 w235 =>
grdE v99n228 true (fun (k236 : Value → World → Prop) => bindV (pBin P BinOp.neq 87 false v100n231 v101n234 w235) k236) (fun v102n237 w238 =>
grdE v95n220 false (fun (k239 : Value → World → Prop) => pickE v99n228 v102n237 (Value.bool false) fun v103n240 =>
k239 v103n240 w238) (fun v103n241 w242 =>
pickE v95n220 (Value.bool true) v103n241 fun v104n243 =>
condE v104n243 (fun (K244 : KT) =>
K244 .ret (Env.put (Env.put (Env.put (Env.put (Env.put (Env.put (Env.put (Env.put (Env.put (Env.put (Env.put (Env.put (Env.put (Env.put (Env.put (Env.put (Env.put (Env.put (Env.put (Env.put (Env.put (Env.put (Env.put (Env.put (Env.put (Env.put (Env.put (Env.put (Env.put (Env.put (Env.put (Env.put (Env.put (Env.put (Env.put (Env.put (Env.put (Env.put (Env.put (Env.put (Env.put (Env.put (Env.put (Env.put (Env.put (Env.put (Env.put (Env.put (Env.put e144 60 v60n146) 61 v61n148) 62 v62n150) 63 v63n152) 64 v64n155) 65 v65n157) 66 v66n159) 67 v67n161) 68 (e144 9)) 69 (e144 1)) 70 v70n164) 71 v71n166) 72 v72n170) 73 (e144 9)) 74 v74n172) 75 v75n176) 12 v75n176) 76 (e144 9)) 77 (e144 2)) 78 v78n180) 80 (e144 9)) 81 v81n184) 79 v81n184) 82 v82n186) 83 v83n188) 13 v13n190) 14 v83n188) 84 v83n188) 85 v85n193) 86 v85n193) 87 v87n196) 88 v88n199) 89 v89n202) 90 v90n205) 91 v91n208) 92 v92n211) 93 v93n214) 94 v94n218) 95 v95n220) 96 v95n220) 97 v97n222) 98 v98n225) 99 v99n228) 100 v100n231) 101 v101n234) 102 v102n237) 103 v103n241) 104 v104n243) 6 (Value.bool false)) w242) (fun (K244 : KT) =>
K244 .normal (Env.put (Env.put (Env.put (Env.put (Env.put (Env.put (Env.put (Env.put (Env.put (Env.put (Env.put (Env.put (Env.put (Env.put (Env.put (Env.put (Env.put (Env.put (Env.put (Env.put (Env.put (Env.put (Env.put (Env.put (Env.put (Env.put (Env.put (Env.put (Env.put (Env.put (Env.put (Env.put (Env.put (Env.put (Env.put (Env.put (Env.put (Env.put (Env.put (Env.put (Env.put (Env.put (Env.put (Env.put (Env.put (Env.put (Env.put (Env.put e144 60 v60n146) 61 v61n148) 62 v62n150) 63 v63n152) 64 v64n155) 65 v65n157) 66 v66n159) 67 v67n161) 68 (e144 9)) 69 (e144 1)) 70 v70n164) 71 v71n166) 72 v72n170) 73 (e144 9)) 74 v74n172) 75 v75n176) 12 v75n176) 76 (e144 9)) 77 (e144 2)) 78 v78n180) 80 (e144 9)) 81 v81n184) 79 v81n184) 82 v82n186) 83 v83n188) 13 v13n190) 14 v83n188) 84 v83n188) 85 v85n193) 86 v85n193) 87 v87n196) 88 v88n199) 89 v89n202) 90 v90n205) 91 v91n208) 92 v92n211) 93 v93n214) 94 v94n218) 95 v95n220) 96 v95n220) 97 v97n222) 98 v98n225) 99 v99n228) 100 v100n231) 101 v101n234) 102 v102n237) 103 v103n241) 104 v104n243) w242) (thenK (fun e245 w246 =>
bindV (pFieldAddr P 87 (e245 13) 0 w246) fun v105n247 w248 =>
bindV (pLoad P 3 v105n247 w248) fun v106n249 w250 =>
bindV (pBin P BinOp.add 3 true v106n249 (Value.int IntKind.i64 1) w250) fun v107n251 w252 =>
bindV (pFieldAddr P 87 (e245 13) 0 w252) fun v108n253 w254 =>
bindU (pStore P 3 v108n253 v107n251 w254) fun w255 =>
bindV (pLoad P 87 (e245 13) w255) fun v110n256 w257 =>
callE P 59 #[(e245 9), v110n256] w257 (fun v111n260 w261 =>
bindV (pBin P BinOp.neq 26 true v111n260 (Value.int IntKind.i64 0) w261) fun v112n262 w263 =>
condE v112n262 (fun (K264 : KT) =>
K264 .ret (Env.put (Env.put (Env.put (Env.put (Env.put (Env.put (Env.put (Env.put (Env.put e245 105 v105n247) 106 v106n249) 107 v107n251) 108 v108n253) 109 (e245 9)) 110 v110n256) 111 v111n260) 112 v112n262) 6 (Value.bool false)) w263) (fun (K264 : KT) =>
K264 .normal (Env.put (Env.put (Env.put (Env.put (Env.put (Env.put (Env.put (Env.put e245 105 v105n247) 106 v106n249) 107 v107n251) 108 v108n253) 109 (e245 9)) 110 v110n256) 111 v111n260) 112 v112n262) w263) (thenK (fun e265 w266 =>
callE P 60 #[(e265 9)] w266 (fun v115n269 w270 =>
bindV (pExtract P v115n269 0 w270) fun v116n271 w272 =>
bindV (pExtract P v115n269 1 w272) fun v117n273 w274 =>
bindV (pAlloc P 87 w274) fun v15n275 w276 =>
bindU (pStore P 87 v15n275 v116n271 w276) fun w277 =>
bindV (pBin P BinOp.eql 26 true v117n273 (Value.int IntKind.i64 0) w277) fun v119n278 w279 =>
grdE v119n278 true (fun (k280 : Value → World → Prop) => bindV (pLoad P 87 v15n275 w279) k280) (fun v121n281 w282 =>
grdE v119n278 true (fun (k283 : Value → World → Prop) => bindV (pLoad P 87 (e265 13) w282) k283) (fun v122n284 w285 =>
grdE v119n278 true (fun (k286 : Value → World → Prop) => bindV (pBin P BinOp.eql 87 false v121n281 v122n284 w285) k286) (fun v123n287 w288 =>
pickE v119n278 v123n287 (Value.bool false) fun v124n289 =>
R (.returned v124n289) w288) w285) w282) w279) (fun c267 w268 => R (.panicked c267) w268)) (topK P [(ResultVar.tmp 6)] R))) (fun c258 w259 => R (.panicked c258) w259)) (topK P [(ResultVar.tmp 6)] R))) w238) w235) w232) w229) w226) w223) w219) w215) w212) w209) w206) w203) w200) w197) w194) (fun c182 w183 => R (.panicked c182) w183)) (fun c178 w179 => R (.panicked c178) w179)) (fun c174 w175 => R (.panicked c174) w175)) (fun c168 w169 => R (.panicked c168) w169)) (topK P [(ResultVar.tmp 6)] R)))) (fun c101 w102 => R (.panicked c101) w102)) (topK P [(ResultVar.tmp 6)] R))) w93) w90) w86) w83) w80) w76) w73) w68) w65) (fun c60 w61 => R (.panicked c60) w61)) (fun c48 e49 w50 => R (.panicked c48) w50)) (topK P [(ResultVar.tmp 6)] R))) (fun c3 w4 => R (.panicked c3) w4)
theorem F19ok {w : World} {R : Ending → World → Prop} {a0 : Value} {a1 : Value} {a2 : Value} (h : F19 a0 a1 a2 w R) : Calls P 19 #[a0, a1, a2] w R :=
  calls_of_ev bodies mixed (c := bodyOf Try.f19) (nt := 125) (rs := [(ResultVar.tmp 6)]) (args := [a0, a1, a2]) (fn := Try.f19) (by kernel_rfl) (by kernel_rfl) (by kernel_rfl) (by kernel_rfl) (by kernel_rfl) (by simp)
    (eq_mp (show F19 a0 a1 a2 w R = ev P C (bodyOf Try.f19) (argE [a0, a1, a2]) w (topK P [(ResultVar.tmp 6)] R) by kernel_rfl) h)

end Go.Proofs.Yticncfkpfpkfoaa
