/- The functions' residual programs, printed by gen.py. -/
import Derived.Test.YticncfkpfpkfoaaBaseD
namespace Go.Proofs.Yticncfkpfpkfoaa
open Go
/-! ### moiety/moietylaw22.PinChecks -/
def F18 (a0 : Value) (a1 : Value) (w : World) (R : Ending → World → Prop) : Prop :=
bindV (pBox P 87 a0 w) fun v2n1 w2 =>
bindV (pBox P 98 a1 w2) fun v3n3 w4 =>
callE P 57 #[] w4 (fun v19n7 w8 =>
bindV (pUn P UnOp.not v19n7 w8) fun v20n9 w10 =>
condE v20n9 (fun (K11 : KT) =>
K11 .ret (Env.put (Env.put (Env.put (Env.put (Env.put (Env.put (argE [a0, a1]) 2 v2n1) 3 v3n3) 4 (Value.bool false)) 19 v19n7) 20 v20n9) 4 (Value.bool false)) w10) (fun (K11 : KT) =>
K11 .normal (Env.put (Env.put (Env.put (Env.put (Env.put (argE [a0, a1]) 2 v2n1) 3 v3n3) 4 (Value.bool false)) 19 v19n7) 20 v20n9) w10) (thenK (fun e12 w13 =>
callE P 27 #[(Value.int IntKind.i64 3)] w13 (fun v22n16 w17 =>
bindV (pExtract P v22n16 0 w17) fun v23n18 w19 =>
bindV (pExtract P v22n16 1 w19) fun v24n20 w21 =>
bindV (pIndexAddr P 98 (e12 3) (Value.int IntKind.i64 0) w21) fun v26n22 w23 =>
bindV (pLoad P 25 v26n22 w23) fun v27n24 w25 =>
callE P 28 #[v23n18, (Value.int IntKind.i64 0), v27n24] w25 (fun v28n28 w29 =>
bindV (pIndexAddr P 98 (e12 3) (Value.int IntKind.i64 1) w29) fun v30n30 w31 =>
bindV (pLoad P 25 v30n30 w31) fun v31n32 w33 =>
callE P 28 #[v23n18, (Value.int IntKind.i64 1), v31n32] w33 (fun v32n36 w37 =>
bindV (pBuild P 25 [(0, (Value.int IntKind.u8 7))] w37) fun v34n38 w39 =>
callE P 28 #[v23n18, (Value.int IntKind.i64 2), v34n38] w39 (fun v35n42 w43 =>
callE P 29 #[v23n18] w43 (fun v37n46 w47 =>
bindV (pLoad P 87 (e12 2) w47) fun v38n48 w49 =>
callE P 63 #[v38n48] w49 (fun v39n52 w53 =>
callE P 62 #[v39n52] w53 (fun v40n56 w57 =>
bindV (pLoad P 87 (e12 2) w57) fun v42n58 w59 =>
callE P 59 #[v23n18, v42n58] w59 (fun v43n62 w63 =>
bindV (pLoad P 87 (e12 2) w63) fun v44n64 w65 =>
callE P 58 #[v44n64] w65 (fun v45n68 w69 =>
bindV (pBin P BinOp.eql 26 true v45n68 (Value.int IntKind.i64 0) w69) fun v46n70 w71 =>
bindV (pBin P BinOp.neq 4 false v46n70 v40n56 w71) fun v48n72 w73 =>
grdE v48n72 false (fun (k74 : Value → World → Prop) => k74 v43n62 w73) (fun v50n75 w76 =>
grdE v48n72 false (fun (k77 : Value → World → Prop) => bindV (pBin P BinOp.eql 26 true v50n75 (Value.int IntKind.i64 0) w76) k77) (fun v51n78 w79 =>
grdE v48n72 false (fun (k80 : Value → World → Prop) => k80 v40n56 w79) (fun v52n81 w82 =>
grdE v48n72 false (fun (k83 : Value → World → Prop) => bindV (pBin P BinOp.neq 4 false v51n78 v52n81 w82) k83) (fun v53n84 w85 =>
pickE v48n72 (Value.bool true) v53n84 fun v54n86 =>
grdE v54n86 false (fun (k87 : Value → World → Prop) => k87 v40n56 w85) (fun v56n88 w89 =>
grdE v54n86 false (fun (k90 : Value → World → Prop) => bindV (pUn P UnOp.not v56n88 w89) k90) (fun v57n91 w92 =>
grdE v54n86 false (fun (k93 : Value → World → Prop) => k93 v57n91 w92) (fun v58n94 w95 =>
grdE v58n94 true (fun (k96 : Value → World → Prop) => k96 v43n62 w95) (fun v59n97 w98 =>
grdE v58n94 true (fun (k99 : Value → World → Prop) => bindV (pBin P BinOp.neq 26 true v59n97 (Value.int IntKind.i64 1) w98) k99) (fun v60n100 w101 =>
grdE v58n94 true (fun (k102 : Value → World → Prop) => k102 v60n100 w101) (fun v61n103 w104 =>
grdE v61n103 false (fun (k105 : Value → World → Prop) => bindV (pLoad P 87 (e12 2) w104) k105) (fun v62n106 w107 =>
grdE v61n103 false (fun (k108 : Value → World → Prop) => callE P 58 #[v62n106] w107 k108 (fun c109 w110 => R (.panicked c109) w110)) (fun v63n111 w112 =>
grdE v61n103 false (fun (k113 : Value → World → Prop) => bindV (pBin P BinOp.neq 26 true v63n111 (Value.int IntKind.i64 1) w112) k113) (fun v64n114 w115 =>
grdE v58n94 true (fun (k116 : Value → World → Prop) => pickE v61n103 (Value.bool true) v64n114 fun v65n117 =>
k116 v65n117 w115) (fun v65n118 w119 =>
grdE v54n86 false (fun (k120 : Value → World → Prop) => pickE v58n94 v65n118 (Value.bool false) fun v66n121 =>
k120 v66n121 w119) (fun v66n122 w123 =>
pickE v54n86 (Value.bool true) v66n122 fun v67n124 =>
condE v67n124 (fun (K125 : KT) =>
K125 .ret (Env.put (Env.put (Env.put (Env.put (Env.put (Env.put (Env.put (Env.put (Env.put (Env.put (Env.put (Env.put (Env.put (Env.put (Env.put (Env.put (Env.put (Env.put (Env.put (Env.put (Env.put (Env.put (Env.put (Env.put (Env.put (Env.put (Env.put (Env.put (Env.put (Env.put (Env.put (Env.put (Env.put (Env.put (Env.put (Env.put (Env.put (Env.put (Env.put (Env.put (Env.put (Env.put (Env.put (Env.put (Env.put (Env.put (Env.put (Env.put (Env.put (Env.put (Env.put (Env.put e12 22 v22n16) 21 v22n16) 23 v23n18) 24 v24n20) 5 v23n18) 6 v24n20) 25 v23n18) 26 v26n22) 27 v27n24) 28 v28n28) 29 v23n18) 30 v30n30) 31 v31n32) 32 v32n36) 33 v23n18) 34 v34n38) 35 v35n42) 36 v23n18) 37 v37n46) 38 v38n48) 39 v39n52) 40 v40n56) 7 v40n56) 41 v23n18) 42 v42n58) 43 v43n62) 8 v43n62) 44 v44n64) 45 v45n68) 46 v46n70) 47 v40n56) 48 v48n72) 49 v48n72) 50 v50n75) 51 v51n78) 52 v52n81) 53 v53n84) 54 v54n86) 55 v54n86) 56 v56n88) 57 v57n91) 58 v58n94) 59 v59n97) 60 v60n100) 61 v61n103) 62 v62n106) 63 v63n111) 64 v64n114) 65 v65n118) 66 v66n122) 67 v67n124) 4 (Value.bool false)) w123) (fun (K125 : KT) =>
K125 .normal (Env.put (Env.put (Env.put (Env.put (Env.put (Env.put (Env.put (Env.put (Env.put (Env.put (Env.put (Env.put (Env.put (Env.put (Env.put (Env.put (Env.put (Env.put (Env.put (Env.put (Env.put (Env.put (Env.put (Env.put (Env.put (Env.put (Env.put (Env.put (Env.put (Env.put (Env.put (Env.put (Env.put (Env.put (Env.put (Env.put (Env.put (Env.put (Env.put (Env.put (Env.put (Env.put (Env.put (Env.put (Env.put (Env.put (Env.put (Env.put (Env.put (Env.put (Env.put e12 22 v22n16) 21 v22n16) 23 v23n18) 24 v24n20) 5 v23n18) 6 v24n20) 25 v23n18) 26 v26n22) 27 v27n24) 28 v28n28) 29 v23n18) 30 v30n30) 31 v31n32) 32 v32n36) 33 v23n18) 34 v34n38) 35 v35n42) 36 v23n18) 37 v37n46) 38 v38n48) 39 v39n52) 40 v40n56) 7 v40n56) 41 v23n18) 42 v42n58) 43 v43n62) 8 v43n62) 44 v44n64) 45 v45n68) 46 v46n70) 47 v40n56) 48 v48n72) 49 v48n72) 50 v50n75) 51 v51n78) 52 v52n81) 53 v53n84) 54 v54n86) 55 v54n86) 56 v56n88) 57 v57n91) 58 v58n94) 59 v59n97) 60 v60n100) 61 v61n103) 62 v62n106) 63 v63n111) 64 v64n114) 65 v65n118) 66 v66n122) 67 v67n124) w123) (thenK (fun e126 w127 =>
callE P 30 #[(e126 5), (Value.slice none 0 0)] w127 (fun v69n130 w131 =>
condE (e126 7) (fun (K132 : KT) =>
takeE (fun w135 => pFieldAddr P 87 (e126 2) 0 w135) (drew w131) fun v71n133 h134 =>
takeE (fun w138 => pLoad P 3 v71n133 w138) (drew w131) fun v72n136 h137 =>
takeE (fun w141 => pBin P BinOp.rem 3 true v72n136 (Value.int IntKind.i64 2) w141) (drew w131) fun v73n139 h140 =>
takeE (fun w144 => pLoad P 87 (e126 2) w144) (drew w131) fun v74n142 h143 =>
callE P 63 #[v74n142] (drew w131) (fun v75n148 w149 =>
heldE [h140, h137, h134] w149 (callE P 64 #[v75n148] w149 (fun v76n153 w154 =>
heldE [h140, h137, h134] w154 (takeE (fun w157 => pIndexAddr P 98 (e126 3) v73n139 w157) w154 fun v77n155 h156 =>
bindU (pStore P 25 v77n155 v76n153 w154) fun w159 =>
K132 .normal (Env.put (Env.put (Env.put (Env.put (Env.put (Env.put (Env.put (Env.put (Env.put (Env.put e126 68 (e126 5)) 69 v69n130) 70 (e126 7)) 71 v71n133) 72 v72n136) 73 v73n139) 74 v74n142) 75 v75n148) 76 v76n153) 77 v77n155) w159)) (fun c151 w152 => ∀ (e150 : Env), agreeOff [71, 72, 73, 74, 75] (Env.put (Env.put (Env.put (Env.put (Env.put (Env.put (Env.put (Env.put e126 68 (e126 5)) 69 v69n130) 70 (e126 7)) 71 v71n133) 72 v72n136) 73 v73n139) 74 v74n142) 75 v75n148) e150 → K132 (.panic c151) e150 w152))) (fun c146 w147 => ∀ (e145 : Env), agreeOff [71, 72, 73, 74] (Env.put (Env.put (Env.put (Env.put (Env.put (Env.put (Env.put e126 68 (e126 5)) 69 v69n130) 70 (e126 7)) 71 v71n133) 72 v72n136) 73 v73n139) 74 v74n142) e145 → K132 (.panic c146) e145 w147)) (fun (K132 : KT) =>
K132 .normal (Env.put (Env.put (Env.put e126 68 (e126 5)) 69 v69n130) 70 (e126 7)) w131) (thenK (fun e160 w161 =>
callE P 31 #[(e160 5), (Value.int IntKind.i64 0)] w161 (fun v80n164 w165 =>
bindV (pExtract P v80n164 0 w165) fun v81n166 w167 =>
bindV (pExtract P v80n164 1 w167) fun v82n168 w169 =>
bindV (pAlloc P 25 w169) fun v9n170 w171 =>
bindU (pStore P 25 v9n170 v81n166 w171) fun w172 =>
callE P 31 #[(e160 5), (Value.int IntKind.i64 1)] w172 (fun v85n175 w176 =>
bindV (pExtract P v85n175 0 w176) fun v86n177 w178 =>
bindV (pExtract P v85n175 1 w178) fun v87n179 w180 =>
bindV (pAlloc P 25 w180) fun v11n181 w182 =>
bindU (pStore P 25 v11n181 v86n177 w182) fun w183 =>
callE P 31 #[(e160 5), (Value.int IntKind.i64 2)] w183 (fun v90n186 w187 =>
bindV (pExtract P v90n186 0 w187) fun v91n188 w189 =>
bindV (pExtract P v90n186 1 w189) fun v92n190 w191 =>
bindV (pAlloc P 25 w191) fun v13n192 w193 =>
bindU (pStore P 25 v13n192 v91n188 w193) fun w194 =>
bindV (pLoad P 25 v9n170 w194) fun v93n195 w196 =>
bindV (pIndexAddr P 98 (e160 3) (Value.int IntKind.i64 0) w196) fun v94n197 w198 =>
bindV (pLoad P 25 v94n197 w198) fun v95n199 w200 =>
bindV (pBin P BinOp.neq 25 false v93n195 v95n199 w200) fun v96n201 w202 =>
grdE v96n201 false (fun (k203 : Value → World → Prop) => bindV (pLoad P 25 v11n181 w202) k203) (fun v98n204 w205 =>
grdE v96n201 false (fun (k206 : Value → World → Prop) => bindV (pIndexAddr P 98 (e160 3) (Value.int IntKind.i64 1) w205) k206) (fun v99n207 w208 =>
grdE v96n201 false (fun (k209 : Value → World → Prop) => bindV (pLoad P 25 v99n207 w208) k209) (fun v100n210 w211 =>
grdE v96n201 false (fun (k212 : Value → World → Prop) => bindV (pBin P BinOp.neq 25 false v98n204 v100n210 w211) k212) (fun v101n213 w214 =>
pickE v96n201 (Value.bool true) v101n213 fun v102n215 =>
grdE v102n215 false (fun (k216 : Value → World → Prop) => bindV (pLoad P 25 v13n192 w214) k216) (fun v104n217 w218 =>
grdE v102n215 false (fun (k219 : Value → World → Prop) => bindV (pBuild P 25 [(0, (Value.int IntKind.u8 7))] w218) k219) (fun v105n220 w221 =>
grdE v102n215 false (fun (k222 : Value → World → Prop) => bindV (pBin P BinOp.neq 25 false v104n217 v105n220 w221) k222) (fun v106n223 w224 =>
pickE v102n215 (Value.bool true) v106n223 fun v107n225 =>
condE v107n225 (fun (K226 : KT) =>
K226 .ret (Env.put (Env.put (Env.put (Env.put (Env.put (Env.put (Env.put (Env.put (Env.put (Env.put (Env.put (Env.put (Env.put (Env.put (Env.put (Env.put (Env.put (Env.put (Env.put (Env.put (Env.put (Env.put (Env.put (Env.put (Env.put (Env.put (Env.put (Env.put (Env.put (Env.put (Env.put (Env.put (Env.put (Env.put (Env.put (Env.put (Env.put e160 79 (e160 5)) 80 v80n164) 78 v80n164) 81 v81n166) 82 v82n168) 9 v9n170) 10 v82n168) 84 (e160 5)) 85 v85n175) 83 v85n175) 86 v86n177) 87 v87n179) 11 v11n181) 12 v87n179) 89 (e160 5)) 90 v90n186) 88 v90n186) 91 v91n188) 92 v92n190) 13 v13n192) 14 v92n190) 93 v93n195) 94 v94n197) 95 v95n199) 96 v96n201) 97 v96n201) 98 v98n204) 99 v99n207) 100 v100n210) 101 v101n213) 102 v102n215) 103 v102n215) 104 v104n217) 105 v105n220) 106 v106n223) 107 v107n225) 4 (Value.bool false)) w224) (fun (K226 : KT) =>
K226 .normal (Env.put (Env.put (Env.put (Env.put (Env.put (Env.put (Env.put (Env.put (Env.put (Env.put (Env.put (Env.put (Env.put (Env.put (Env.put (Env.put (Env.put (Env.put (Env.put (Env.put (Env.put (Env.put (Env.put (Env.put (Env.put (Env.put (Env.put (Env.put (Env.put (Env.put (Env.put (Env.put (Env.put (Env.put (Env.put (Env.put e160 79 (e160 5)) 80 v80n164) 78 v80n164) 81 v81n166) 82 v82n168) 9 v9n170) 10 v82n168) 84 (e160 5)) 85 v85n175) 83 v85n175) 86 v86n177) 87 v87n179) 11 v11n181) 12 v87n179) 89 (e160 5)) 90 v90n186) 88 v90n186) 91 v91n188) 92 v92n190) 13 v13n192) 14 v92n190) 93 v93n195) 94 v94n197) 95 v95n199) 96 v96n201) 97 v96n201) 98 v98n204) 99 v99n207) 100 v100n210) 101 v101n213) 102 v102n215) 103 v102n215) 104 v104n217) 105 v105n220) 106 v106n223) 107 v107n225) w224) (thenK (fun e227 w228 =>
callE P 60 #[(e227 5)] w228 (fun v110n231 w232 =>
bindV (pExtract P v110n231 0 w232) fun v111n233 w234 =>
bindV (pExtract P v110n231 1 w234) fun v112n235 w236 =>
bindV (pAlloc P 87 w236) fun v15n237 w238 =>
bindU (pStore P 87 v15n237 v111n233 w238) fun w239 =>
bindV (pLoad P 25 (e227 9) w239) fun v114n240 w241 =>
bindV (pLoad P 25 (e227 11) w241) fun v115n242 w243 =>
callE P 65 #[v114n240, v115n242] w243 (fun v116n246 w247 =>
bindV (pExtract P v116n246 0 w247) fun v117n248 w249 =>
bindV (pExtract P v116n246 1 w249) fun v118n250 w251 =>
bindV (pAlloc P 93 w251) fun v17n252 w253 =>
bindU (pStore P 93 v17n252 v117n248 w253) fun w254 =>
takeE (fun w257 => some (v118n250, w257)) (drew w254) fun v119n255 h256 =>
takeE (fun w260 => some (v119n255, w260)) (drew w254) fun v120n258 h259 =>
takeE (fun w263 => qGrd v120n258 true (fun w263 => some (v112n235, w263)) w263) (drew w254) fun v121n261 h262 =>
takeE (fun w266 => qGrd v120n258 true (fun w266 => pBin P BinOp.eql 26 true v121n261 (Value.int IntKind.i64 0) w266) w266) (drew w254) fun v122n264 h265 =>
takeE (fun w269 => qPick v120n258 v122n264 (Value.bool false) w269) (drew w254) fun v123n267 h268 =>
takeE (fun w272 => some (v123n267, w272)) (drew w254) fun v124n270 h271 =>
takeE (fun w275 => qGrd v124n270 true (fun w275 => pLoad P 87 v15n237 w275) w275) (drew w254) fun v125n273 h274 =>
takeE (fun w278 => qGrd v124n270 true (fun w278 => pLoad P 93 v17n252 w278) w278) (drew w254) fun v127n276 h277 =>
grdE v124n270 true (fun (k280 : Value → World → Prop) => callE P 63 #[v125n273] (drew w254) k280 (fun c281 w282 => ∀ (e279 : Env), agreeOff [119, 120, 121, 122, 123, 124, 125, 127] (Env.put (Env.put (Env.put (Env.put (Env.put (Env.put (Env.put (Env.put (Env.put (Env.put (Env.put (Env.put (Env.put (Env.put (Env.put (Env.put (Env.put (Env.put (Env.put (Env.put (Env.put (Env.put (Env.put e227 109 (e227 5)) 110 v110n231) 108 v110n231) 111 v111n233) 112 v112n235) 15 v15n237) 16 v112n235) 114 v114n240) 115 v115n242) 116 v116n246) 113 v116n246) 117 v117n248) 118 v118n250) 17 v17n252) 18 v118n250) 119 v119n255) 120 v120n258) 121 v121n261) 122 v122n264) 123 v123n267) 124 v124n270) 125 v125n273) 127 v127n276) e279 → R (.panicked c281) w282)) (fun v126n283 w284 =>
heldE [h277] w284 (takeE (fun w287 => qGrd v124n270 true (fun w287 => pBin P BinOp.eql 93 false v126n283 v127n276 w287) w287) w284 fun v128n285 h286 =>
takeE (fun w290 => qPick v124n270 v128n285 (Value.bool false) w290) w284 fun v129n288 h289 =>
takeE (fun w293 => some (v129n288, w293)) w284 fun v130n291 h292 =>
takeE (fun w296 => qGrd v130n291 false (fun w296 => some (v118n250, w296)) w296) w284 fun v131n294 h295 =>
takeE (fun w299 => qGrd v130n291 false (fun w299 => pUn P UnOp.not v131n294 w299) w299) w284 fun v132n297 h298 =>
takeE (fun w302 => qGrd v130n291 false (fun w302 => some (v132n297, w302)) w302) w284 fun v133n300 h301 =>
takeE (fun w305 => qGrd v133n300 true (fun w305 => some (v112n235, w305)) w305) w284 fun v134n303 h304 =>
takeE (fun w308 => qGrd v133n300 true (fun w308 => pBin P BinOp.eql 26 true v134n303 (Value.int IntKind.i64 6) w308) w308) w284 fun v135n306 h307 =>
takeE (fun w311 => qGrd v130n291 false (fun w311 => qPick v133n300 v135n306 (Value.bool false) w311) w311) w284 fun v136n309 h310 =>
takeE (fun w314 => qGrd v130n291 false (fun w314 => some (v136n309, w314)) w314) w284 fun v137n312 h313 =>
takeE (fun w317 => qGrd v137n312 true (fun w317 => pLoad P 87 v15n237 w317) w317) w284 fun v138n315 h316 =>
grdE v137n312 true (fun (k319 : Value → World → Prop) => bindV (pBuild P 87 [] w284) k319) (fun v139n320 w321 =>
heldE [h316] w321 (takeE (fun w324 => qGrd v137n312 true (fun w324 => pBin P BinOp.eql 87 false v138n315 v139n320 w324) w324) w321 fun v140n322 h323 =>
takeE (fun w327 => qGrd v130n291 false (fun w327 => qPick v137n312 v140n322 (Value.bool false) w327) w327) w321 fun v141n325 h326 =>
takeE (fun w330 => qPick v130n291 (Value.bool true) v141n325 w330) w321 fun v142n328 h329 =>
R (.returned v142n328) w321)) w284)) (drew w254)) (fun c244 w245 => R (.panicked c244) w245)) (fun c229 w230 => R (.panicked c229) w230)) (topK P [(ResultVar.tmp 4)] R))) w221) w218) w214) w211) w208) w205) w202) (fun c184 w185 => R (.panicked c184) w185)) (fun c173 w174 => R (.panicked c173) w174)) (fun c162 w163 => R (.panicked c162) w163)) (topK P [(ResultVar.tmp 4)] R))) (fun c128 w129 => R (.panicked c128) w129)) (topK P [(ResultVar.tmp 4)] R))) w119) w115) w112) w107) w104) w101) w98) w95) w92) w89) w85) w82) w79) w76) w73) (fun c66 w67 => R (.panicked c66) w67)) (fun c60 w61 => R (.panicked c60) w61)) (fun c54 w55 => R (.panicked c54) w55)) (fun c50 w51 => R (.panicked c50) w51)) (fun c44 w45 => R (.panicked c44) w45)) (fun c40 w41 => R (.panicked c40) w41)) (fun c34 w35 => R (.panicked c34) w35)) (fun c26 w27 => R (.panicked c26) w27)) (fun c14 w15 => R (.panicked c14) w15)) (topK P [(ResultVar.tmp 4)] R))) (fun c5 w6 => R (.panicked c5) w6)
theorem F18ok {w : World} {R : Ending → World → Prop} {a0 : Value} {a1 : Value} (h : F18 a0 a1 w R) : Calls P 18 #[a0, a1] w R :=
  calls_of_ev bodies mixed (c := bodyOf Try.f18) (nt := 143) (rs := [(ResultVar.tmp 4)]) (args := [a0, a1]) (fn := Try.f18) (by kernel_rfl) (by kernel_rfl) (by kernel_rfl) (by kernel_rfl) (by kernel_rfl) (by simp)
    (eq_mp (show F18 a0 a1 w R = ev P C (bodyOf Try.f18) (argE [a0, a1]) w (topK P [(ResultVar.tmp 4)] R) by kernel_rfl) h)

end Go.Proofs.Yticncfkpfpkfoaa
