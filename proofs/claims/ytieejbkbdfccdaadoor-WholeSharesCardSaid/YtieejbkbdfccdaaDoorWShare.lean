/- The functions' residual programs, printed by gen.py. -/
import Derived.Test.YtieejbkbdfccdaaDoorBaseD
set_option linter.unusedVariables false
set_option linter.unusedSimpArgs false
namespace Go.Proofs.YtieejbkbdfccdaaDoor
open Go
/-! ### moiety/moietytop.WholeShares -/
def F5B2 (e : Env) (w : World) (K : KT) : Prop :=
bindV (pBin P BinOp.lss 3 false (e 140) (e 139) w) fun v141n301 w302 =>
condE v141n301 (fun (K303 : KT) =>
K303 .normal (Env.put e 141 v141n301) w302) (fun (K303 : KT) =>
K303 (.exit 4) (Env.put e 141 v141n301) w302) (thenK (fun e304 w305 =>
callE P 21 #[(e304 7), (e304 140)] w305 (fun v146n308 w309 =>
bindV (pExtract P v146n308 0 w309) fun v147n310 w311 =>
bindV (pExtract P v146n308 1 w311) fun v148n312 w313 =>
bindV (pBin P BinOp.add 58 false (e304 16) v147n310 w313) fun v151n314 w315 =>
bindV (pBin P BinOp.add 58 false (e304 17) v148n312 w315) fun v154n316 w317 =>
bindV (pBin P BinOp.add 3 true (e304 140) (Value.int IntKind.i64 1) w317) fun v155n318 w319 =>
K .normal (Env.put (Env.put (Env.put (Env.put (Env.put (Env.put (Env.put (Env.put (Env.put (Env.put (Env.put (Env.put (Env.put (Env.put (Env.put (Env.put (Env.put (Env.put (Env.put (Env.put e304 142 (e304 140)) 18 (e304 140)) 144 (e304 7)) 145 (e304 140)) 146 v146n308) 143 v146n308) 147 v147n310) 148 v148n312) 19 v147n310) 20 v148n312) 149 (e304 16)) 150 v147n310) 151 v151n314) 152 (e304 17)) 153 v148n312) 154 v154n316) 16 v151n314) 17 v154n316) 155 v155n318) 140 v155n318) w319) (fun c306 w307 => K (.panic c306) (Env.put (Env.put (Env.put (Env.put e304 142 (e304 140)) 18 (e304 140)) 144 (e304 7)) 145 (e304 140)) w307)) K)
def F5B1 (e : Env) (w : World) (K : KT) : Prop :=
bindV (pBin P BinOp.lss 3 false (e 73) (e 72) w) fun v74n101 w102 =>
condE v74n101 (fun (K103 : KT) =>
K103 .normal (Env.put e 74 v74n101) w102) (fun (K103 : KT) =>
K103 (.exit 2) (Env.put e 74 v74n101) w102) (thenK (fun e104 w105 =>
bindV (pIndexAddr P 51 (e104 71) (e104 73) w105) fun v75n106 w107 =>
bindV (pLoad P 60 v75n106 w107) fun v76n108 w109 =>
bindV (pAlloc P 60 w109) fun v15n110 w111 =>
bindU (pStore P 60 v15n110 v76n108 w111) fun w112 =>
letK (blockK 3 (thenK (fun e114 w115 =>
bindV (pBin P BinOp.add 3 true (e114 73) (Value.int IntKind.i64 1) w115) fun v138n116 w117 =>
K .normal (Env.put (Env.put e114 138 v138n116) 73 v138n116) w117) K)) fun (K113 : KT) =>
bindV (pFieldAddr P 60 v15n110 1 w112) fun v77n118 w119 =>
bindV (pLoad P 27 v77n118 w119) fun v78n120 w121 =>
callE P 8 #[v78n120] w121 (fun v79n124 w125 =>
bindV (pBin P BinOp.gtr 3 true v79n124 (Value.int IntKind.i64 0) w125) fun v80n126 w127 =>
grdE v80n126 false (fun (k128 : Value → World → Prop) => k128 (e104 7) w127) (fun v82n129 w130 =>
grdE v80n126 false (fun (k131 : Value → World → Prop) => bindV (pFieldAddr P 60 v15n110 0 w130) k131) (fun v83n132 w133 =>
grdE v80n126 false (fun (k134 : Value → World → Prop) => bindV (pLoad P 3 v83n132 w133) k134) (fun v84n135 w136 =>
grdE v80n126 false (fun (k137 : Value → World → Prop) => bindV (pFieldAddr P 60 v15n110 1 w136) k137) (fun v85n138 w139 =>
grdE v80n126 false (fun (k140 : Value → World → Prop) => bindV (pLoad P 27 v85n138 w139) k140) (fun v86n141 w142 =>
grdE v80n126 false (fun (k143 : Value → World → Prop) => bindV (pBuildSlice P 34 1 [(0, v86n141)] w142) k143) (fun v87n144 w145 =>
grdE v80n126 false (fun (k146 : Value → World → Prop) => callE P 19 #[v82n129, v84n135, v87n144] w145 k146 (fun c147 w148 => K113 (.panic c147) (Env.put (Env.put (Env.put (Env.put (Env.put (Env.put (Env.put (Env.put (Env.put (Env.put (Env.put (Env.put (Env.put (Env.put e104 75 v75n106) 76 v76n108) 15 v15n110) 77 v77n118) 78 v78n120) 79 v79n124) 80 v80n126) 81 v80n126) 82 v82n129) 83 v83n132) 84 v84n135) 85 v85n138) 86 v86n141) 87 v87n144) w148)) (fun v88n149 w150 =>
grdE v80n126 false (fun (k151 : Value → World → Prop) => bindV (pBin P BinOp.neq 47 true v88n149 (Value.int IntKind.i64 0) w150) k151) (fun v89n152 w153 =>
pickE v80n126 (Value.bool true) v89n152 fun v90n154 =>
condE v90n154 (fun (K155 : KT) =>
K155 (.exit 3) (Env.put (Env.put (Env.put (Env.put (Env.put (Env.put (Env.put (Env.put (Env.put (Env.put (Env.put (Env.put (Env.put (Env.put (Env.put (Env.put (Env.put e104 75 v75n106) 76 v76n108) 15 v15n110) 77 v77n118) 78 v78n120) 79 v79n124) 80 v80n126) 81 v80n126) 82 v82n129) 83 v83n132) 84 v84n135) 85 v85n138) 86 v86n141) 87 v87n144) 88 v88n149) 89 v89n152) 90 v90n154) w153) (fun (K155 : KT) =>
K155 .normal (Env.put (Env.put (Env.put (Env.put (Env.put (Env.put (Env.put (Env.put (Env.put (Env.put (Env.put (Env.put (Env.put (Env.put (Env.put (Env.put (Env.put e104 75 v75n106) 76 v76n108) 15 v15n110) 77 v77n118) 78 v78n120) 79 v79n124) 80 v80n126) 81 v80n126) 82 v82n129) 83 v83n132) 84 v84n135) 85 v85n138) 86 v86n141) 87 v87n144) 88 v88n149) 89 v89n152) 90 v90n154) w153) (thenK (fun e156 w157 =>
bindV (pFieldAddr P 60 (e156 15) 0 w157) fun v91n158 w159 =>
bindV (pLoad P 3 v91n158 w159) fun v92n160 w161 =>
bindV (pBin P BinOp.lss 3 true v92n160 (Value.int IntKind.i64 0) w161) fun v93n162 w163 =>
grdE v93n162 false (fun (k164 : Value → World → Prop) => bindV (pFieldAddr P 60 (e156 15) 0 w163) k164) (fun v95n165 w166 =>
grdE v93n162 false (fun (k167 : Value → World → Prop) => bindV (pLoad P 3 v95n165 w166) k167) (fun v96n168 w169 =>
grdE v93n162 false (fun (k170 : Value → World → Prop) => k170 (e156 1) w169) (fun v97n171 w172 =>
grdE v93n162 false (fun (k173 : Value → World → Prop) => bindV (pBin P BinOp.geq 3 false v96n168 v97n171 w172) k173) (fun v98n174 w175 =>
pickE v93n162 (Value.bool true) v98n174 fun v99n176 =>
condE v99n176 (fun (K177 : KT) =>
K177 .ret (Env.put (Env.put (Env.put (Env.put (Env.put (Env.put (Env.put (Env.put (Env.put (Env.put e156 91 v91n158) 92 v92n160) 93 v93n162) 94 v93n162) 95 v95n165) 96 v96n168) 97 v97n171) 98 v98n174) 99 v99n176) 6 (Value.bool false)) w175) (fun (K177 : KT) =>
K177 .normal (Env.put (Env.put (Env.put (Env.put (Env.put (Env.put (Env.put (Env.put (Env.put e156 91 v91n158) 92 v92n160) 93 v93n162) 94 v93n162) 95 v95n165) 96 v96n168) 97 v97n171) 98 v98n174) 99 v99n176) w175) (thenK (fun e178 w179 =>
takeE (fun w182 => some ((e178 9), w182)) (drew w179) fun v100n180 h181 =>
takeE (fun w185 => pFieldAddr P 60 (e178 15) 0 w185) (drew w179) fun v101n183 h184 =>
takeE (fun w188 => pLoad P 3 v101n183 w188) (drew w179) fun v102n186 h187 =>
takeE (fun w191 => some ((e178 9), w191)) (drew w179) fun v103n189 h190 =>
takeE (fun w194 => pFieldAddr P 60 (e178 15) 0 w194) (drew w179) fun v104n192 h193 =>
takeE (fun w197 => pLoad P 3 v104n192 w197) (drew w179) fun v105n195 h196 =>
takeE (fun w200 => pIndexAddr P 56 v103n189 v105n195 w200) (drew w179) fun v106n198 h199 =>
takeE (fun w203 => pLoad P 25 v106n198 w203) (drew w179) fun v107n201 h202 =>
takeE (fun w206 => pFieldAddr P 60 (e178 15) 1 w206) (drew w179) fun v108n204 h205 =>
takeE (fun w209 => pLoad P 27 v108n204 w209) (drew w179) fun v109n207 h208 =>
callE P 20 #[v107n201, v109n207] (drew w179) (fun v110n213 w214 =>
heldE [h187, h184, h181] w214 (takeE (fun w217 => pIndexAddr P 56 v100n180 v102n186 w217) w214 fun v111n215 h216 =>
bindU (pStore P 25 v111n215 v110n213 w214) fun w219 =>
bindV (pFieldAddr P 60 (e178 15) 1 w219) fun v112n220 w221 =>
bindV (pFieldAddr P 27 v112n220 0 w221) fun v113n222 w223 =>
bindV (pLoad P 3 v113n222 w223) fun v114n224 w225 =>
bindV (pBin P BinOp.eql 3 true v114n224 (Value.int IntKind.i64 10) w225) fun v115n226 w227 =>
condE v115n226 (fun (K228 : KT) =>
takeE (fun w231 => some ((e178 12), w231)) (drew w227) fun v116n229 h230 =>
takeE (fun w234 => pFieldAddr P 60 (e178 15) 1 w234) (drew w227) fun v117n232 h233 =>
takeE (fun w237 => pFieldAddr P 27 v117n232 2 w237) (drew w227) fun v118n235 h236 =>
takeE (fun w240 => pLoad P 2 v118n235 w240) (drew w227) fun v119n238 h239 =>
takeE (fun w243 => pConv P 2 58 v119n238 w243) (drew w227) fun v120n241 h242 =>
takeE (fun w246 => pBin P BinOp.add 58 false v116n229 v120n241 w246) (drew w227) fun v121n244 h245 =>
takeE (fun w249 => some ((e178 11), w249)) (drew w227) fun v122n247 h248 =>
takeE (fun w252 => pFieldAddr P 60 (e178 15) 1 w252) (drew w227) fun v123n250 h251 =>
takeE (fun w255 => pFieldAddr P 27 v123n250 2 w255) (drew w227) fun v124n253 h254 =>
takeE (fun w258 => pLoad P 2 v124n253 w258) (drew w227) fun v125n256 h257 =>
takeE (fun w261 => pBin P BinOp.add 2 false v122n247 v125n256 w261) (drew w227) fun v126n259 h260 =>
heldE [h260, h257, h254, h251, h248] (drew w227) (K228 .normal (Env.put (Env.put (Env.put (Env.put (Env.put (Env.put (Env.put (Env.put (Env.put (Env.put (Env.put (Env.put (Env.put (Env.put (Env.put (Env.put (Env.put (Env.put (Env.put (Env.put (Env.put (Env.put (Env.put (Env.put (Env.put (Env.put (Env.put (Env.put (Env.put e178 100 v100n180) 101 v101n183) 102 v102n186) 103 v103n189) 104 v104n192) 105 v105n195) 106 v106n198) 107 v107n201) 108 v108n204) 109 v109n207) 110 v110n213) 111 v111n215) 112 v112n220) 113 v113n222) 114 v114n224) 115 v115n226) 116 v116n229) 117 v117n232) 118 v118n235) 119 v119n238) 120 v120n241) 121 v121n244) 122 v122n247) 123 v123n250) 124 v124n253) 125 v125n256) 126 v126n259) 12 v121n244) 11 v126n259) (drew w227))) (fun (K228 : KT) =>
takeE (fun w266 => some ((e178 13), w266)) (drew w227) fun v127n264 h265 =>
takeE (fun w269 => pFieldAddr P 60 (e178 15) 1 w269) (drew w227) fun v128n267 h268 =>
takeE (fun w272 => pFieldAddr P 27 v128n267 2 w272) (drew w227) fun v129n270 h271 =>
takeE (fun w275 => pLoad P 2 v129n270 w275) (drew w227) fun v130n273 h274 =>
takeE (fun w278 => pConv P 2 58 v130n273 w278) (drew w227) fun v131n276 h277 =>
takeE (fun w281 => pBin P BinOp.add 58 false v127n264 v131n276 w281) (drew w227) fun v132n279 h280 =>
takeE (fun w284 => some ((e178 11), w284)) (drew w227) fun v133n282 h283 =>
takeE (fun w287 => pFieldAddr P 60 (e178 15) 1 w287) (drew w227) fun v134n285 h286 =>
takeE (fun w290 => pFieldAddr P 27 v134n285 2 w290) (drew w227) fun v135n288 h289 =>
takeE (fun w293 => pLoad P 2 v135n288 w293) (drew w227) fun v136n291 h292 =>
takeE (fun w296 => pBin P BinOp.sub 2 false v133n282 v136n291 w296) (drew w227) fun v137n294 h295 =>
heldE [h295, h292, h289, h286, h283] (drew w227) (K228 .normal (Env.put (Env.put (Env.put (Env.put (Env.put (Env.put (Env.put (Env.put (Env.put (Env.put (Env.put (Env.put (Env.put (Env.put (Env.put (Env.put (Env.put (Env.put (Env.put (Env.put (Env.put (Env.put (Env.put (Env.put (Env.put (Env.put (Env.put (Env.put (Env.put e178 100 v100n180) 101 v101n183) 102 v102n186) 103 v103n189) 104 v104n192) 105 v105n195) 106 v106n198) 107 v107n201) 108 v108n204) 109 v109n207) 110 v110n213) 111 v111n215) 112 v112n220) 113 v113n222) 114 v114n224) 115 v115n226) 127 v127n264) 128 v128n267) 129 v129n270) 130 v130n273) 131 v131n276) 132 v132n279) 133 v133n282) 134 v134n285) 135 v135n288) 136 v136n291) 137 v137n294) 13 v132n279) 11 v137n294) (drew w227))) K113)) (fun c211 w212 => ∀ (e210 : Env), agreeOff [100, 101, 102, 103, 104, 105, 106, 107, 108, 109] (Env.put (Env.put (Env.put (Env.put (Env.put (Env.put (Env.put (Env.put (Env.put (Env.put e178 100 v100n180) 101 v101n183) 102 v102n186) 103 v103n189) 104 v104n192) 105 v105n195) 106 v106n198) 107 v107n201) 108 v108n204) 109 v109n207) e210 → K113 (.panic c211) e210 w212)) K113)) w172) w169) w166) w163) K113)) w150) w145) w142) w139) w136) w133) w130) w127) (fun c122 w123 => K113 (.panic c122) (Env.put (Env.put (Env.put (Env.put (Env.put e104 75 v75n106) 76 v76n108) 15 v15n110) 77 v77n118) 78 v78n120) w123)) K)
def F5B0 (e : Env) (w : World) (K : KT) : Prop :=
bindV (pBin P BinOp.lss 3 false (e 57) (e 56) w) fun v58n73 w74 =>
condE v58n73 (fun (K75 : KT) =>
K75 .normal (Env.put e 58 v58n73) w74) (fun (K75 : KT) =>
K75 (.exit 0) (Env.put e 58 v58n73) w74) (thenK (fun e76 w77 =>
bindV (pLoad P 25 (e76 3) w77) fun v63n78 w79 =>
callE P 18 #[v63n78] w79 (fun v64n82 w83 =>
bindV (pExtract P v64n82 0 w83) fun v65n84 w85 =>
bindV (pExtract P v64n82 1 w85) fun v66n86 w87 =>
bindV (pIndexAddr P 56 (e76 9) (e76 57) w87) fun v67n88 w89 =>
bindU (pStore P 25 v67n88 v65n84 w89) fun w90 =>
bindV (pBin P BinOp.add 3 true (e76 57) (Value.int IntKind.i64 1) w90) fun v68n91 w92 =>
K .normal (Env.put (Env.put (Env.put (Env.put (Env.put (Env.put (Env.put (Env.put (Env.put (Env.put (Env.put (Env.put e76 59 (e76 57)) 10 (e76 57)) 61 (e76 9)) 62 (e76 57)) 63 v63n78) 64 v64n82) 60 v64n82) 65 v65n84) 66 v66n86) 67 v67n88) 68 v68n91) 57 v68n91) w92) (fun c80 w81 => K (.panic c80) (Env.put (Env.put (Env.put (Env.put (Env.put e76 59 (e76 57)) 10 (e76 57)) 61 (e76 9)) 62 (e76 57)) 63 v63n78) w81)) K)
def F5 (a0 : Value) (a1 : Value) (a2 : Value) (w : World) (R : Ending → World → Prop) : Prop :=
bindV (pBox P 25 a0 w) fun v3n1 w2 =>
callE P 16 #[(Value.int IntKind.i64 4), (Value.int IntKind.i64 11)] w2 (fun v22n5 w6 =>
bindV (pUn P UnOp.not v22n5 w6) fun v23n7 w8 =>
condE v23n7 (fun (K9 : KT) =>
K9 .ret (Env.put (Env.put (Env.put (Env.put (Env.put (argE [a0, a1, a2]) 3 v3n1) 6 (Value.bool false)) 22 v22n5) 23 v23n7) 6 (Value.bool false)) w8) (fun (K9 : KT) =>
K9 .normal (Env.put (Env.put (Env.put (Env.put (argE [a0, a1, a2]) 3 v3n1) 6 (Value.bool false)) 22 v22n5) 23 v23n7) w8) (thenK (fun e10 w11 =>
bindV (pLoad P 25 (e10 3) w11) fun v25n12 w13 =>
callE P 17 #[v25n12, (e10 1)] w13 (fun v27n16 w17 =>
bindV (pExtract P v27n16 0 w17) fun v28n18 w19 =>
bindV (pExtract P v27n16 1 w19) fun v29n20 w21 =>
bindV (pLoad P 25 (e10 3) w21) fun v30n22 w23 =>
callE P 12 #[v30n22] w23 (fun v31n26 w27 =>
bindV (pBin P BinOp.gtr 3 true v31n26 (Value.int IntKind.i64 0) w27) fun v32n28 w29 =>
grdE v32n28 false (fun (k30 : Value → World → Prop) => k30 (e10 2) w29) (fun v34n31 w32 =>
grdE v32n28 false (fun (k33 : Value → World → Prop) => bindV (pBuiltin P Builtin.len #[51] 3 [v34n31] w32) k33) (fun v35n34 w35 =>
grdE v32n28 false (fun (k36 : Value → World → Prop) => bindV (pBin P BinOp.gtr 3 true v35n34 (Value.int IntKind.i64 60) w35) k36) (fun v36n37 w38 =>
pickE v32n28 (Value.bool true) v36n37 fun v37n39 =>
grdE v37n39 false (fun (k40 : Value → World → Prop) => k40 v29n20 w38) (fun v39n41 w42 =>
grdE v37n39 false (fun (k43 : Value → World → Prop) => bindV (pBin P BinOp.neq 47 true v39n41 (Value.int IntKind.i64 0) w42) k43) (fun v40n44 w45 =>
pickE v37n39 (Value.bool true) v40n44 fun v41n46 =>
grdE v41n46 false (fun (k47 : Value → World → Prop) => bindV (pFieldAddr P 25 (e10 3) 0 w45) k47) (fun v43n48 w49 =>
grdE v41n46 false (fun (k50 : Value → World → Prop) => bindV (pLoad P 3 v43n48 w49) k50) (fun v44n51 w52 =>
grdE v41n46 false (fun (k53 : Value → World → Prop) => bindV (pBin P BinOp.neq 3 true v44n51 (Value.int IntKind.i64 4) w52) k53) (fun v45n54 w55 =>
pickE v41n46 (Value.bool true) v45n54 fun v46n56 =>
condE v46n56 (fun (K57 : KT) =>
bindV (pBin P BinOp.neq 47 true v29n20 (Value.int IntKind.i64 0) w55) fun v48n58 w59 =>
grdE v48n58 false (fun (k60 : Value → World → Prop) => k60 v28n18 w59) (fun v50n61 w62 =>
grdE v48n58 false (fun (k63 : Value → World → Prop) => bindV (pBin P BinOp.neq 53 true v50n61 (Value.pointer none) w62) k63) (fun v51n64 w65 =>
pickE v48n58 (Value.bool true) v51n64 fun v52n66 =>
K57 .ret (Env.put (Env.put (Env.put (Env.put (Env.put (Env.put (Env.put (Env.put (Env.put (Env.put (Env.put (Env.put (Env.put (Env.put (Env.put (Env.put (Env.put (Env.put (Env.put (Env.put (Env.put (Env.put (Env.put (Env.put (Env.put (Env.put (Env.put (Env.put (Env.put (Env.put (Env.put (Env.put e10 25 v25n12) 26 (e10 1)) 27 v27n16) 24 v27n16) 28 v28n18) 29 v29n20) 7 v28n18) 8 v29n20) 30 v30n22) 31 v31n26) 32 v32n28) 33 v32n28) 34 v34n31) 35 v35n34) 36 v36n37) 37 v37n39) 38 v37n39) 39 v39n41) 40 v40n44) 41 v41n46) 42 v41n46) 43 v43n48) 44 v44n51) 45 v45n54) 46 v46n56) 47 v29n20) 48 v48n58) 49 v48n58) 50 v50n61) 51 v51n64) 52 v52n66) 6 v52n66) w65) w62) w59) (fun (K57 : KT) =>
K57 .normal (Env.put (Env.put (Env.put (Env.put (Env.put (Env.put (Env.put (Env.put (Env.put (Env.put (Env.put (Env.put (Env.put (Env.put (Env.put (Env.put (Env.put (Env.put (Env.put (Env.put (Env.put (Env.put (Env.put (Env.put (Env.put e10 25 v25n12) 26 (e10 1)) 27 v27n16) 24 v27n16) 28 v28n18) 29 v29n20) 7 v28n18) 8 v29n20) 30 v30n22) 31 v31n26) 32 v32n28) 33 v32n28) 34 v34n31) 35 v35n34) 36 v36n37) 37 v37n39) 38 v37n39) 39 v39n41) 40 v40n44) 41 v41n46) 42 v41n46) 43 v43n48) 44 v44n51) 45 v45n54) 46 v46n56) w55) (thenK (fun e67 w68 =>
bindV (pMake P 56 (e67 1) (e67 1) w68) fun v54n69 w70 =>
bindV (pBuiltin P Builtin.len #[56] 3 [v54n69] w70) fun v56n71 w72 =>
loopE F5B0 (Env.put (Env.put (Env.put (Env.put (Env.put (Env.put e67 53 (e67 1)) 54 v54n69) 9 v54n69) 55 v54n69) 56 v56n71) 57 (Value.int IntKind.i64 0)) w72 (blockK 0 (thenK (fun e93 w94 =>
bindV (pFieldAddr P 25 (e93 3) 1 w94) fun v69n95 w96 =>
bindV (pLoad P 2 v69n95 w96) fun v70n97 w98 =>
bindV (pBuiltin P Builtin.len #[51] 3 [(e93 2)] w98) fun v72n99 w100 =>
loopE F5B1 (Env.put (Env.put (Env.put (Env.put (Env.put (Env.put (Env.put (Env.put e93 69 v69n95) 70 v70n97) 11 v70n97) 12 (Value.int IntKind.u64 0)) 13 (Value.int IntKind.u64 0)) 71 (e93 2)) 72 v72n99) 73 (Value.int IntKind.i64 0)) w100 (blockK 2 (thenK (fun e299 w300 =>
loopE F5B2 (Env.put (Env.put (Env.put (Env.put e299 16 (Value.int IntKind.u64 0)) 17 (Value.int IntKind.u64 0)) 139 (e299 1)) 140 (Value.int IntKind.i64 0)) w300 (blockK 4 (thenK (fun e320 w321 =>
bindV (pLoad P 25 (e320 3) w321) fun v156n322 w323 =>
callE P 22 #[v156n322, (e320 9)] w323 (fun v158n326 w327 =>
bindV (pAlloc P 25 w327) fun v21n328 w329 =>
bindU (pStore P 25 v21n328 v158n326 w329) fun w330 =>
bindV (pFieldAddr P 25 v21n328 1 w330) fun v159n331 w332 =>
bindV (pLoad P 2 v159n331 w332) fun v160n333 w334 =>
bindV (pBin P BinOp.eql 2 false v160n333 (e320 11) w334) fun v162n335 w336 =>
grdE v162n335 true (fun (k337 : Value → World → Prop) => bindV (pFieldAddr P 25 v21n328 2 w336) k337) (fun v164n338 w339 =>
grdE v162n335 true (fun (k340 : Value → World → Prop) => bindV (pLoad P 2 v164n338 w339) k340) (fun v165n341 w342 =>
grdE v162n335 true (fun (k343 : Value → World → Prop) => bindV (pFieldAddr P 25 (e320 3) 2 w342) k343) (fun v166n344 w345 =>
grdE v162n335 true (fun (k346 : Value → World → Prop) => bindV (pLoad P 2 v166n344 w345) k346) (fun v167n347 w348 =>
grdE v162n335 true (fun (k349 : Value → World → Prop) => bindV (pBin P BinOp.eql 2 false v165n341 v167n347 w348) k349) (fun v168n350 w351 =>
pickE v162n335 v168n350 (Value.bool false) fun v169n352 =>
grdE v169n352 true (fun (k353 : Value → World → Prop) => bindV (pFieldAddr P 25 v21n328 3 w351) k353) (fun v171n354 w355 =>
grdE v169n352 true (fun (k356 : Value → World → Prop) => bindV (pLoad P 2 v171n354 w355) k356) (fun v172n357 w358 =>
grdE v169n352 true (fun (k359 : Value → World → Prop) => bindV (pFieldAddr P 25 (e320 3) 3 w358) k359) (fun v173n360 w361 =>
grdE v169n352 true (fun (k362 : Value → World → Prop) => bindV (pLoad P 2 v173n360 w361) k362) (fun v174n363 w364 =>
grdE v169n352 true (fun (k365 : Value → World → Prop) => bindV (pBin P BinOp.eql 2 false v172n357 v174n363 w364) k365) (fun v175n366 w367 =>
pickE v169n352 v175n366 (Value.bool false) fun v176n368 =>
grdE v176n368 true (fun (k369 : Value → World → Prop) => k369 (e320 16) w367) (fun v178n370 w371 =>
grdE v176n368 true (fun (k372 : Value → World → Prop) => bindV (pFieldAddr P 25 (e320 3) 3 w371) k372) (fun v179n373 w374 =>
grdE v176n368 true (fun (k375 : Value → World → Prop) => bindV (pLoad P 2 v179n373 w374) k375) (fun v180n376 w377 =>
grdE v176n368 true (fun (k378 : Value → World → Prop) => bindV (pFieldAddr P 25 (e320 3) 1 w377) k378) (fun v181n379 w380 =>
grdE v176n368 true (fun (k381 : Value → World → Prop) => bindV (pLoad P 2 v181n379 w380) k381) (fun v182n382 w383 =>
grdE v176n368 true (fun (k384 : Value → World → Prop) => bindV (pBin P BinOp.sub 2 false v180n376 v182n382 w383) k384) (fun v183n385 w386 =>
grdE v176n368 true (fun (k387 : Value → World → Prop) => bindV (pConv P 2 58 v183n385 w386) k387) (fun v184n388 w389 =>
grdE v176n368 true (fun (k390 : Value → World → Prop) => k390 (e320 12) w389) (fun v185n391 w392 =>
grdE v176n368 true (fun (k393 : Value → World → Prop) => bindV (pBin P BinOp.sub 58 false v184n388 v185n391 w392) k393) (fun v186n394 w395 =>
grdE v176n368 true (fun (k396 : Value → World → Prop) => bindV (pBin P BinOp.eql 58 false v178n370 v186n394 w395) k396) (fun v187n397 w398 =>
pickE v176n368 v187n397 (Value.bool false) fun v188n399 =>
grdE v188n399 true (fun (k400 : Value → World → Prop) => k400 (e320 17) w398) (fun v190n401 w402 =>
grdE v188n399 true (fun (k403 : Value → World → Prop) => bindV (pFieldAddr P 25 (e320 3) 1 w402) k403) (fun v191n404 w405 =>
grdE v188n399 true (fun (k406 : Value → World → Prop) => bindV (pLoad P 2 v191n404 w405) k406) (fun v192n407 w408 =>
grdE v188n399 true (fun (k409 : Value → World → Prop) => bindV (pFieldAddr P 25 (e320 3) 2 w408) k409) (fun v193n410 w411 =>
grdE v188n399 true (fun (k412 : Value → World → Prop) => bindV (pLoad P 2 v193n410 w411) k412) (fun v194n413 w414 =>
grdE v188n399 true (fun (k415 : Value → World → Prop) => bindV (pBin P BinOp.sub 2 false v192n407 v194n413 w414) k415) (fun v195n416 w417 =>
grdE v188n399 true (fun (k418 : Value → World → Prop) => bindV (pConv P 2 58 v195n416 w417) k418) (fun v196n419 w420 =>
grdE v188n399 true (fun (k421 : Value → World → Prop) => k421 (e320 13) w420) (fun v197n422 w423 =>
grdE v188n399 true (fun (k424 : Value → World → Prop) => bindV (pBin P BinOp.sub 58 false v196n419 v197n422 w423) k424) (fun v198n425 w426 =>
grdE v188n399 true (fun (k427 : Value → World → Prop) => bindV (pBin P BinOp.eql 58 false v190n401 v198n425 w426) k427) (fun v199n428 w429 =>
pickE v188n399 v199n428 (Value.bool false) fun v200n430 =>
R (.returned v200n430) w429) w426) w423) w420) w417) w414) w411) w408) w405) w402) w398) w395) w392) w389) w386) w383) w380) w377) w374) w371) w367) w364) w361) w358) w355) w351) w348) w345) w342) w339) w336) (fun c324 w325 => R (.panicked c324) w325)) (topK P [(ResultVar.tmp 6)] R)))) (topK P [(ResultVar.tmp 6)] R)))) (topK P [(ResultVar.tmp 6)] R)))) (topK P [(ResultVar.tmp 6)] R))) w52) w49) w45) w42) w38) w35) w32) w29) (fun c24 w25 => R (.panicked c24) w25)) (fun c14 w15 => R (.panicked c14) w15)) (topK P [(ResultVar.tmp 6)] R))) (fun c3 w4 => R (.panicked c3) w4)
theorem F5ok {w : World} {R : Ending → World → Prop} {a0 : Value} {a1 : Value} {a2 : Value} (h : F5 a0 a1 a2 w R) : Calls P 5 #[a0, a1, a2] w R :=
  calls_of_ev bodies mixed (c := bodyOf Tryd.f5) (nt := 201) (rs := [(ResultVar.tmp 6)]) (args := [a0, a1, a2]) (fn := Tryd.f5) (by kernel_rfl) (by kernel_rfl) (by kernel_rfl) (by kernel_rfl) (by kernel_rfl) (by simp)
    (eq_mp (show F5 a0 a1 a2 w R = ev P C (bodyOf Tryd.f5) (argE [a0, a1, a2]) w (topK P [(ResultVar.tmp 6)] R) by kernel_rfl) h)

/-! ### moiety/share.Splits -/
def F16 (a0 : Value) (a1 : Value) (w : World) (R : Ending → World → Prop) : Prop :=
letK (blockK 0 (thenK (fun e2 w3 =>
R (.returned (Value.bool false)) w3) (topK P [(ResultVar.tmp 4)] R))) fun (K1 : KT) =>
bindV (pBin P BinOp.eql 3 true a1 (Value.int IntKind.i64 7) w) fun v7n4 w5 =>
condE v7n4 (fun (K6 : KT) =>
K6 .normal (Env.put (Env.put (Env.put (Env.put (argE [a0, a1]) 4 (Value.bool false)) 5 a1) 7 v7n4) 6 v7n4) w5) (fun (K6 : KT) =>
bindV (pBin P BinOp.eql 3 true a1 (Value.int IntKind.i64 8) w5) fun v8n7 w8 =>
condE v8n7 (fun (K9 : KT) =>
K9 .normal (Env.put (Env.put (Env.put (Env.put (Env.put (Env.put (argE [a0, a1]) 4 (Value.bool false)) 5 a1) 7 v7n4) 6 v7n4) 8 v8n7) 6 v8n7) w8) (fun (K9 : KT) =>
bindV (pBin P BinOp.eql 3 true a1 (Value.int IntKind.i64 10) w8) fun v9n10 w11 =>
condE v9n10 (fun (K12 : KT) =>
K12 .normal (Env.put (Env.put (Env.put (Env.put (Env.put (Env.put (Env.put (Env.put (argE [a0, a1]) 4 (Value.bool false)) 5 a1) 7 v7n4) 6 v7n4) 8 v8n7) 6 v8n7) 9 v9n10) 6 v9n10) w11) (fun (K12 : KT) =>
bindV (pBin P BinOp.eql 3 true a1 (Value.int IntKind.i64 11) w11) fun v10n13 w14 =>
condE v10n13 (fun (K15 : KT) =>
K15 .normal (Env.put (Env.put (Env.put (Env.put (Env.put (Env.put (Env.put (Env.put (Env.put (Env.put (argE [a0, a1]) 4 (Value.bool false)) 5 a1) 7 v7n4) 6 v7n4) 8 v8n7) 6 v8n7) 9 v9n10) 6 v9n10) 10 v10n13) 6 v10n13) w14) (fun (K15 : KT) =>
bindV (pBin P BinOp.eql 3 true a1 (Value.int IntKind.i64 13) w14) fun v11n16 w17 =>
condE v11n16 (fun (K18 : KT) =>
K18 .normal (Env.put (Env.put (Env.put (Env.put (Env.put (Env.put (Env.put (Env.put (Env.put (Env.put (Env.put (Env.put (argE [a0, a1]) 4 (Value.bool false)) 5 a1) 7 v7n4) 6 v7n4) 8 v8n7) 6 v8n7) 9 v9n10) 6 v9n10) 10 v10n13) 6 v10n13) 11 v11n16) 6 v11n16) w17) (fun (K18 : KT) =>
bindV (pBin P BinOp.eql 3 true a1 (Value.int IntKind.i64 14) w17) fun v12n19 w20 =>
condE v12n19 (fun (K21 : KT) =>
K21 .normal (Env.put (Env.put (Env.put (Env.put (Env.put (Env.put (Env.put (Env.put (Env.put (Env.put (Env.put (Env.put (Env.put (Env.put (argE [a0, a1]) 4 (Value.bool false)) 5 a1) 7 v7n4) 6 v7n4) 8 v8n7) 6 v8n7) 9 v9n10) 6 v9n10) 10 v10n13) 6 v10n13) 11 v11n16) 6 v11n16) 12 v12n19) 6 v12n19) w20) (fun (K21 : KT) =>
bindV (pBin P BinOp.eql 3 true a1 (Value.int IntKind.i64 18) w20) fun v13n22 w23 =>
condE v13n22 (fun (K24 : KT) =>
K24 .normal (Env.put (Env.put (Env.put (Env.put (Env.put (Env.put (Env.put (Env.put (Env.put (Env.put (Env.put (Env.put (Env.put (Env.put (Env.put (Env.put (argE [a0, a1]) 4 (Value.bool false)) 5 a1) 7 v7n4) 6 v7n4) 8 v8n7) 6 v8n7) 9 v9n10) 6 v9n10) 10 v10n13) 6 v10n13) 11 v11n16) 6 v11n16) 12 v12n19) 6 v12n19) 13 v13n22) 6 v13n22) w23) (fun (K24 : KT) =>
bindV (pBin P BinOp.eql 3 true a1 (Value.int IntKind.i64 21) w23) fun v14n25 w26 =>
K24 .normal (Env.put (Env.put (Env.put (Env.put (Env.put (Env.put (Env.put (Env.put (Env.put (Env.put (Env.put (Env.put (Env.put (Env.put (Env.put (Env.put (Env.put (Env.put (argE [a0, a1]) 4 (Value.bool false)) 5 a1) 7 v7n4) 6 v7n4) 8 v8n7) 6 v8n7) 9 v9n10) 6 v9n10) 10 v10n13) 6 v10n13) 11 v11n16) 6 v11n16) 12 v12n19) 6 v12n19) 13 v13n22) 6 v13n22) 14 v14n25) 6 v14n25) w26) K21) K18) K15) K12) K9) K6) (thenK (fun e27 w28 =>
condE (e27 6) (fun (K29 : KT) =>
callE P 38 #[(e27 1)] w28 (fun v16n32 w33 =>
bindV (pBin P BinOp.eql 3 false v16n32 (e27 0) w33) fun v18n34 w35 =>
K29 .ret (Env.put (Env.put (Env.put (Env.put (Env.put e27 15 (e27 1)) 16 v16n32) 17 (e27 0)) 18 v18n34) 4 v18n34) w35) (fun c30 w31 => K29 (.panic c30) (Env.put e27 15 (e27 1)) w31)) (fun (K29 : KT) =>
K29 .normal e27 w28) K1) K1)
theorem F16ok {w : World} {R : Ending → World → Prop} {a0 : Value} {a1 : Value} (h : F16 a0 a1 w R) : Calls P 16 #[a0, a1] w R :=
  calls_of_ev bodies mixed (c := bodyOf Tryd.f16) (nt := 19) (rs := [(ResultVar.tmp 4)]) (args := [a0, a1]) (fn := Tryd.f16) (by kernel_rfl) (by kernel_rfl) (by kernel_rfl) (by kernel_rfl) (by kernel_rfl) (by simp)
    (eq_mp (show F16 a0 a1 w R = ev P C (bodyOf Tryd.f16) (argE [a0, a1]) w (topK P [(ResultVar.tmp 4)] R) by kernel_rfl) h)

/-! ### moiety/share.New -/
def F17B0 (e : Env) (w : World) (K : KT) : Prop :=
bindV (pBin P BinOp.lss 3 false (e 41) (e 40) w) fun v42n67 w68 =>
condE v42n67 (fun (K69 : KT) =>
K69 .normal (Env.put e 42 v42n67) w68) (fun (K69 : KT) =>
K69 (.exit 0) (Env.put e 42 v42n67) w68) (thenK (fun e70 w71 =>
takeE (fun w74 => some ((e70 9), w74)) (drew w71) fun v44n72 h73 =>
takeE (fun w77 => some ((e70 9), w77)) (drew w71) fun v45n75 h76 =>
takeE (fun w80 => qNil v45n75 w80) (drew w71) fun v46n78 h79 =>
takeE (fun w83 => pFieldAddr P 86 v46n78 1 w83) (drew w71) fun v47n81 h82 =>
takeE (fun w86 => pLoad P 84 v47n81 w86) (drew w71) fun v48n84 h85 =>
takeE (fun w89 => pFieldAddr P 88 (e70 10) 0 w89) (drew w71) fun v49n87 h88 =>
takeE (fun w92 => pLoad P 58 v49n87 w92) (drew w71) fun v50n90 h91 =>
takeE (fun w95 => some ((e70 41), w95)) (drew w71) fun v51n93 h94 =>
takeE (fun w98 => some ((e70 1), w98)) (drew w71) fun v52n96 h97 =>
takeE (fun w101 => pFieldAddr P 88 (e70 10) 1 w101) (drew w71) fun v54n99 h100 =>
takeE (fun w104 => pLoad P 58 v54n99 w104) (drew w71) fun v55n102 h103 =>
takeE (fun w107 => some ((e70 41), w107)) (drew w71) fun v56n105 h106 =>
takeE (fun w110 => some ((e70 1), w110)) (drew w71) fun v57n108 h109 =>
callE P 40 #[v50n90, v51n93, v52n96] (drew w71) (fun v53n114 w115 =>
heldE [h109, h106, h103, h100, h85, h82, h79, h76, h73] w115 (callE P 40 #[v55n102, v56n105, v57n108] w115 (fun v58n119 w120 =>
heldE [h85, h82, h79, h76, h73] w120 (bindV (pBuild P 88 [(0, v53n114), (1, v58n119)] w120) fun v59n122 w123 =>
heldE [h85, h82, h79, h76, h73] w123 (bindV (pBuildSlice P 84 1 [(0, v59n122)] w123) fun v60n125 w126 =>
heldE [h85, h82, h79, h76, h73] w126 (bindV (pBuiltin P Builtin.append #[84, 84] 84 [v48n84, v60n125] w126) fun v61n128 w129 =>
heldE [h73] w129 (takeE (fun w132 => qNil v44n72 w132) w129 fun v62n130 h131 =>
takeE (fun w135 => pFieldAddr P 86 v62n130 1 w135) w129 fun v63n133 h134 =>
bindU (pStore P 84 v63n133 v61n128 w129) fun w137 =>
bindV (pBin P BinOp.add 3 true (e70 41) (Value.int IntKind.i64 1) w137) fun v64n138 w139 =>
K .normal (Env.put (Env.put (Env.put (Env.put (Env.put (Env.put (Env.put (Env.put (Env.put (Env.put (Env.put (Env.put (Env.put (Env.put (Env.put (Env.put (Env.put (Env.put (Env.put (Env.put (Env.put (Env.put (Env.put (Env.put e70 43 (e70 41)) 12 (e70 41)) 44 v44n72) 45 v45n75) 46 v46n78) 47 v47n81) 48 v48n84) 49 v49n87) 50 v50n90) 51 v51n93) 52 v52n96) 54 v54n99) 55 v55n102) 56 v56n105) 57 v57n108) 53 v53n114) 58 v58n119) 59 v59n122) 60 v60n125) 61 v61n128) 62 v62n130) 63 v63n133) 64 v64n138) 41 v64n138) w139))))) (fun c117 w118 => ∀ (e116 : Env), agreeOff [44, 45, 46, 47, 48, 49, 50, 51, 52, 53, 54, 55, 56, 57] (Env.put (Env.put (Env.put (Env.put (Env.put (Env.put (Env.put (Env.put (Env.put (Env.put (Env.put (Env.put (Env.put (Env.put (Env.put (Env.put e70 43 (e70 41)) 12 (e70 41)) 44 v44n72) 45 v45n75) 46 v46n78) 47 v47n81) 48 v48n84) 49 v49n87) 50 v50n90) 51 v51n93) 52 v52n96) 54 v54n99) 55 v55n102) 56 v56n105) 57 v57n108) 53 v53n114) e116 → K (.panic c117) e116 w118))) (fun c112 w113 => ∀ (e111 : Env), agreeOff [44, 45, 46, 47, 48, 49, 50, 51, 52, 54, 55, 56, 57] (Env.put (Env.put (Env.put (Env.put (Env.put (Env.put (Env.put (Env.put (Env.put (Env.put (Env.put (Env.put (Env.put (Env.put (Env.put e70 43 (e70 41)) 12 (e70 41)) 44 v44n72) 45 v45n75) 46 v46n78) 47 v47n81) 48 v48n84) 49 v49n87) 50 v50n90) 51 v51n93) 52 v52n96) 54 v54n99) 55 v55n102) 56 v56n105) 57 v57n108) e111 → K (.panic c112) e111 w113)) K)
def F17 (a0 : Value) (a1 : Value) (w : World) (R : Ending → World → Prop) : Prop :=
bindV (pBox P 25 a0 w) fun v2n1 w2 =>
bindV (pBin P BinOp.lss 3 true a1 (Value.int IntKind.i64 1) w2) fun v14n3 w4 =>
grdE v14n3 false (fun (k5 : Value → World → Prop) => k5 a1 w4) (fun v16n6 w7 =>
grdE v14n3 false (fun (k8 : Value → World → Prop) => bindV (pBin P BinOp.gtr 3 true v16n6 (Value.int IntKind.i64 8) w7) k8) (fun v17n9 w10 =>
pickE v14n3 (Value.bool true) v17n9 fun v18n11 =>
condE v18n11 (fun (K12 : KT) =>
K12 .ret (Env.put (Env.put (Env.put (Env.put (Env.put (Env.put (Env.put (Env.put (Env.put (Env.put (Env.put (argE [a0, a1]) 2 v2n1) 4 (Value.pointer none)) 5 (Value.int IntKind.i64 0)) 13 a1) 14 v14n3) 15 v14n3) 16 v16n6) 17 v17n9) 18 v18n11) 4 (Value.pointer none)) 5 (Value.int IntKind.i64 1)) w10) (fun (K12 : KT) =>
K12 .normal (Env.put (Env.put (Env.put (Env.put (Env.put (Env.put (Env.put (Env.put (Env.put (argE [a0, a1]) 2 v2n1) 4 (Value.pointer none)) 5 (Value.int IntKind.i64 0)) 13 a1) 14 v14n3) 15 v14n3) 16 v16n6) 17 v17n9) 18 v18n11) w10) (thenK (fun e13 w14 =>
bindV (pLoad P 25 (e13 2) w14) fun v19n15 w16 =>
callE P 26 #[v19n15] w16 (fun v20n19 w20 =>
bindV (pBin P BinOp.neq 47 true v20n19 (Value.int IntKind.i64 0) w20) fun v22n21 w22 =>
condE v22n21 (fun (K23 : KT) =>
K23 .ret (Env.put (Env.put (Env.put (Env.put (Env.put (Env.put (Env.put (Env.put e13 19 v19n15) 20 v20n19) 6 v20n19) 21 v20n19) 22 v22n21) 23 v20n19) 4 (Value.pointer none)) 5 v20n19) w22) (fun (K23 : KT) =>
K23 .normal (Env.put (Env.put (Env.put (Env.put (Env.put e13 19 v19n15) 20 v20n19) 6 v20n19) 21 v20n19) 22 v22n21) w22) (thenK (fun e24 w25 =>
bindV (pLoad P 25 (e24 2) w25) fun v25n26 w27 =>
callE P 18 #[v25n26] w27 (fun v26n30 w31 =>
bindV (pExtract P v26n30 0 w31) fun v27n32 w33 =>
bindV (pExtract P v26n30 1 w33) fun v28n34 w35 =>
bindV (pAlloc P 25 w35) fun v7n36 w37 =>
bindU (pStore P 25 v7n36 v27n32 w37) fun w38 =>
bindV (pUn P UnOp.not v28n34 w38) fun v30n39 w40 =>
condE v30n39 (fun (K41 : KT) =>
K41 .ret (Env.put (Env.put (Env.put (Env.put (Env.put (Env.put (Env.put (Env.put (Env.put (Env.put (Env.put e24 25 v25n26) 26 v26n30) 24 v26n30) 27 v27n32) 28 v28n34) 7 v7n36) 8 v28n34) 29 v28n34) 30 v30n39) 4 (Value.pointer none)) 5 (Value.int IntKind.i64 5)) w40) (fun (K41 : KT) =>
K41 .normal (Env.put (Env.put (Env.put (Env.put (Env.put (Env.put (Env.put (Env.put (Env.put e24 25 v25n26) 26 v26n30) 24 v26n30) 27 v27n32) 28 v28n34) 7 v7n36) 8 v28n34) 29 v28n34) 30 v30n39) w40) (thenK (fun e42 w43 =>
bindV (pLoad P 25 (e42 2) w43) fun v31n44 w45 =>
callE P 36 #[v31n44] w45 (fun v32n48 w49 =>
bindV (pBuild P 86 [(0, v32n48)] w49) fun v33n50 w51 =>
bindV (pBox P 86 v33n50 w51) fun v34n52 w53 =>
bindV (pLoad P 25 (e42 2) w53) fun v36n54 w55 =>
callE P 39 #[v36n54] w55 (fun v37n58 w59 =>
bindV (pExtract P v37n58 0 w59) fun v38n60 w61 =>
bindV (pExtract P v37n58 1 w61) fun v39n62 w63 =>
bindV (pAlloc P 88 w63) fun v10n64 w65 =>
bindU (pStore P 88 v10n64 v38n60 w65) fun w66 =>
loopE F17B0 (Env.put (Env.put (Env.put (Env.put (Env.put (Env.put (Env.put (Env.put (Env.put (Env.put (Env.put (Env.put (Env.put (Env.put e42 31 v31n44) 32 v32n48) 33 v33n50) 34 v34n52) 9 v34n52) 36 v36n54) 37 v37n58) 35 v37n58) 38 v38n60) 39 v39n62) 10 v10n64) 11 v39n62) 40 (e42 1)) 41 (Value.int IntKind.i64 0)) w66 (blockK 0 (thenK (fun e140 w141 =>
R (.returned (.tuple #[(e140 9), (Value.int IntKind.i64 0)])) w141) (topK P [(ResultVar.tmp 4), (ResultVar.tmp 5)] R)))) (fun c56 w57 => R (.panicked c56) w57)) (fun c46 w47 => R (.panicked c46) w47)) (topK P [(ResultVar.tmp 4), (ResultVar.tmp 5)] R))) (fun c28 w29 => R (.panicked c28) w29)) (topK P [(ResultVar.tmp 4), (ResultVar.tmp 5)] R))) (fun c17 w18 => R (.panicked c17) w18)) (topK P [(ResultVar.tmp 4), (ResultVar.tmp 5)] R))) w7) w4
theorem F17ok {w : World} {R : Ending → World → Prop} {a0 : Value} {a1 : Value} (h : F17 a0 a1 w R) : Calls P 17 #[a0, a1] w R :=
  calls_of_ev bodies mixed (c := bodyOf Tryd.f17) (nt := 66) (rs := [(ResultVar.tmp 4), (ResultVar.tmp 5)]) (args := [a0, a1]) (fn := Tryd.f17) (by kernel_rfl) (by kernel_rfl) (by kernel_rfl) (by kernel_rfl) (by kernel_rfl) (by simp)
    (eq_mp (show F17 a0 a1 w R = ev P C (bodyOf Tryd.f17) (argE [a0, a1]) w (topK P [(ResultVar.tmp 4), (ResultVar.tmp 5)] R) by kernel_rfl) h)

/-! ### moiety/share.Slice -/
def F18 (a0 : Value) (w : World) (R : Ending → World → Prop) : Prop :=
bindV (pBox P 25 a0 w) fun v1n1 w2 =>
bindV (pAlloc P 25 w2) fun v2n3 w4 =>
bindV (pLoad P 25 v1n1 w4) fun v4n5 w6 =>
callE P 26 #[v4n5] w6 (fun v5n9 w10 =>
bindV (pBin P BinOp.neq 47 true v5n9 (Value.int IntKind.i64 0) w10) fun v6n11 w12 =>
condE v6n11 (fun (K13 : KT) =>
bindV (pBuild P 25 [] w12) fun v7n14 w15 =>
bindU (pStore P 25 v2n3 v7n14 w15) fun w16 =>
K13 .ret (Env.put (Env.put (Env.put (Env.put (Env.put (Env.put (Env.put (Env.put (argE [a0]) 1 v1n1) 2 v2n3) 3 (Value.bool false)) 4 v4n5) 5 v5n9) 6 v6n11) 7 v7n14) 3 (Value.bool false)) w16) (fun (K13 : KT) =>
K13 .normal (Env.put (Env.put (Env.put (Env.put (Env.put (Env.put (argE [a0]) 1 v1n1) 2 v2n3) 3 (Value.bool false)) 4 v4n5) 5 v5n9) 6 v6n11) w12) (thenK (fun e17 w18 =>
bindV (pFieldAddr P 25 (e17 1) 0 w18) fun v8n19 w20 =>
bindV (pLoad P 3 v8n19 w20) fun v9n21 w22 =>
letK (blockK 0 (thenK (fun e24 w25 =>
bindV (pBuild P 25 [] w25) fun v31n26 w27 =>
bindU (pStore P 25 (e24 2) v31n26 w27) fun w28 =>
topK P [(ResultVar.cell 2 25), (ResultVar.tmp 3)] R .ret (Env.put (Env.put e24 31 v31n26) 3 (Value.bool false)) w28) (topK P [(ResultVar.cell 2 25), (ResultVar.tmp 3)] R))) fun (K23 : KT) =>
bindV (pBin P BinOp.eql 3 true v9n21 (Value.int IntKind.i64 2) w22) fun v11n29 w30 =>
condE v11n29 (fun (K31 : KT) =>
K31 .normal (Env.put (Env.put (Env.put (Env.put e17 8 v8n19) 9 v9n21) 11 v11n29) 10 v11n29) w30) (fun (K31 : KT) =>
bindV (pBin P BinOp.eql 3 true v9n21 (Value.int IntKind.i64 3) w30) fun v12n32 w33 =>
condE v12n32 (fun (K34 : KT) =>
K34 .normal (Env.put (Env.put (Env.put (Env.put (Env.put (Env.put e17 8 v8n19) 9 v9n21) 11 v11n29) 10 v11n29) 12 v12n32) 10 v12n32) w33) (fun (K34 : KT) =>
bindV (pBin P BinOp.eql 3 true v9n21 (Value.int IntKind.i64 4) w33) fun v13n35 w36 =>
K34 .normal (Env.put (Env.put (Env.put (Env.put (Env.put (Env.put (Env.put (Env.put e17 8 v8n19) 9 v9n21) 11 v11n29) 10 v11n29) 12 v12n32) 10 v12n32) 13 v13n35) 10 v13n35) w36) K31) (thenK (fun e37 w38 =>
condE (e37 10) (fun (K39 : KT) =>
bindV (pBuild P 25 [(0, (Value.int IntKind.i64 2))] w38) fun v14n40 w41 =>
bindU (pStore P 25 (e37 2) v14n40 w41) fun w42 =>
K39 .ret (Env.put (Env.put e37 14 v14n40) 3 (Value.bool true)) w42) (fun (K39 : KT) =>
bindV (pBin P BinOp.eql 3 true (e37 9) (Value.int IntKind.i64 5) w38) fun v16n43 w44 =>
condE v16n43 (fun (K45 : KT) =>
callE P 41 #[(Value.int IntKind.i64 (-1))] w44 (fun v17n48 w49 =>
bindV (pBuild P 25 [(0, (Value.int IntKind.i64 5)), (4, v17n48)] w49) fun v18n50 w51 =>
bindU (pStore P 25 (e37 2) v18n50 w51) fun w52 =>
K45 .ret (Env.put (Env.put (Env.put (Env.put (Env.put e37 16 v16n43) 15 v16n43) 17 v17n48) 18 v18n50) 3 (Value.bool true)) w52) (fun c46 w47 => K45 (.panic c46) (Env.put (Env.put e37 16 v16n43) 15 v16n43) w47)) (fun (K45 : KT) =>
bindV (pBin P BinOp.eql 3 true (e37 9) (Value.int IntKind.i64 6) w44) fun v20n53 w54 =>
condE v20n53 (fun (K55 : KT) =>
callE P 42 #[] w54 (fun v21n58 w59 =>
bindV (pBuild P 25 [(0, (Value.int IntKind.i64 6)), (4, v21n58)] w59) fun v22n60 w61 =>
bindU (pStore P 25 (e37 2) v22n60 w61) fun w62 =>
K55 .ret (Env.put (Env.put (Env.put (Env.put (Env.put (Env.put (Env.put e37 16 v16n43) 15 v16n43) 20 v20n53) 19 v20n53) 21 v21n58) 22 v22n60) 3 (Value.bool true)) w62) (fun c56 w57 => K55 (.panic c56) (Env.put (Env.put (Env.put (Env.put e37 16 v16n43) 15 v16n43) 20 v20n53) 19 v20n53) w57)) (fun (K55 : KT) =>
bindV (pBin P BinOp.eql 3 true (e37 9) (Value.int IntKind.i64 8) w54) fun v24n63 w64 =>
condE v24n63 (fun (K65 : KT) =>
bindV (pBuild P 25 [(0, (Value.int IntKind.i64 8)), (5, (Value.int IntKind.i64 32))] w64) fun v25n66 w67 =>
bindU (pStore P 25 (e37 2) v25n66 w67) fun w68 =>
K65 .ret (Env.put (Env.put (Env.put (Env.put (Env.put (Env.put (Env.put (Env.put e37 16 v16n43) 15 v16n43) 20 v20n53) 19 v20n53) 24 v24n63) 23 v24n63) 25 v25n66) 3 (Value.bool true)) w68) (fun (K65 : KT) =>
bindV (pBin P BinOp.eql 3 true (e37 9) (Value.int IntKind.i64 9) w64) fun v27n69 w70 =>
condE v27n69 (fun (K71 : KT) =>
bindV (pFieldAddr P 25 (e37 1) 5 w70) fun v28n72 w73 =>
bindV (pLoad P 3 v28n72 w73) fun v29n74 w75 =>
bindV (pBuild P 25 [(0, (Value.int IntKind.i64 9)), (5, v29n74)] w75) fun v30n76 w77 =>
bindU (pStore P 25 (e37 2) v30n76 w77) fun w78 =>
K71 .ret (Env.put (Env.put (Env.put (Env.put (Env.put (Env.put (Env.put (Env.put (Env.put (Env.put (Env.put (Env.put e37 16 v16n43) 15 v16n43) 20 v20n53) 19 v20n53) 24 v24n63) 23 v24n63) 27 v27n69) 26 v27n69) 28 v28n72) 29 v29n74) 30 v30n76) 3 (Value.bool true)) w78) (fun (K71 : KT) =>
K71 .normal (Env.put (Env.put (Env.put (Env.put (Env.put (Env.put (Env.put (Env.put e37 16 v16n43) 15 v16n43) 20 v20n53) 19 v20n53) 24 v24n63) 23 v24n63) 27 v27n69) 26 v27n69) w70) K65) K55) K45) K39) K23) K23)) (topK P [(ResultVar.cell 2 25), (ResultVar.tmp 3)] R))) (fun c7 w8 => R (.panicked c7) w8)
theorem F18ok {w : World} {R : Ending → World → Prop} {a0 : Value} (h : F18 a0 w R) : Calls P 18 #[a0] w R :=
  calls_of_ev bodies mixed (c := bodyOf Tryd.f18) (nt := 32) (rs := [(ResultVar.cell 2 25), (ResultVar.tmp 3)]) (args := [a0]) (fn := Tryd.f18) (by kernel_rfl) (by kernel_rfl) (by kernel_rfl) (by kernel_rfl) (by kernel_rfl) (by simp)
    (eq_mp (show F18 a0 w R = ev P C (bodyOf Tryd.f18) (argE [a0]) w (topK P [(ResultVar.cell 2 25), (ResultVar.tmp 3)] R) by kernel_rfl) h)

/-! ### (*moiety/share.Escrow).Draw -/
def F19B0 (e : Env) (w : World) (K : KT) : Prop :=
bindV (pBin P BinOp.lss 3 false (e 32) (e 31) w) fun v33n43 w44 =>
condE v33n43 (fun (K45 : KT) =>
K45 .normal (Env.put e 33 v33n43) w44) (fun (K45 : KT) =>
K45 (.exit 0) (Env.put e 33 v33n43) w44) (thenK (fun e46 w47 =>
bindV (pIndexAddr P 34 (e46 30) (e46 32) w47) fun v34n48 w49 =>
bindV (pLoad P 27 v34n48 w49) fun v35n50 w51 =>
bindV (pAlloc P 27 w51) fun v9n52 w53 =>
bindU (pStore P 27 v9n52 v35n50 w53) fun w54 =>
letK (blockK 1 (thenK (fun e56 w57 =>
bindV (pBin P BinOp.add 3 true (e56 32) (Value.int IntKind.i64 1) w57) fun v88n58 w59 =>
K .normal (Env.put (Env.put e56 88 v88n58) 32 v88n58) w59) K)) fun (K55 : KT) =>
bindV (pLoad P 27 v9n52 w54) fun v36n60 w61 =>
callE P 23 #[v36n60] w61 (fun v37n64 w65 =>
bindV (pBin P BinOp.neq 47 true v37n64 (Value.int IntKind.i64 0) w65) fun v39n66 w67 =>
condE v39n66 (fun (K68 : KT) =>
K68 .ret (Env.put (Env.put (Env.put (Env.put (Env.put (Env.put (Env.put (Env.put (Env.put (Env.put e46 34 v34n48) 35 v35n50) 9 v9n52) 36 v36n60) 37 v37n64) 10 v37n64) 38 v37n64) 39 v39n66) 40 v37n64) 6 v37n64) w67) (fun (K68 : KT) =>
K68 .normal (Env.put (Env.put (Env.put (Env.put (Env.put (Env.put (Env.put (Env.put e46 34 v34n48) 35 v35n50) 9 v9n52) 36 v36n60) 37 v37n64) 10 v37n64) 38 v37n64) 39 v39n66) w67) (thenK (fun e69 w70 =>
takeE (fun w73 => some ((e69 0), w73)) (drew w70) fun v41n71 h72 =>
takeE (fun w76 => qNil v41n71 w76) (drew w70) fun v42n74 h75 =>
takeE (fun w79 => pFieldAddr P 86 v42n74 0 w79) (drew w70) fun v43n77 h78 =>
takeE (fun w82 => pFieldAddr P 25 v43n77 0 w82) (drew w70) fun v44n80 h81 =>
takeE (fun w85 => pLoad P 3 v44n80 w85) (drew w70) fun v45n83 h84 =>
takeE (fun w88 => pFieldAddr P 27 (e69 9) 0 w88) (drew w70) fun v46n86 h87 =>
takeE (fun w91 => pLoad P 3 v46n86 w91) (drew w70) fun v47n89 h90 =>
callE P 16 #[v45n83, v47n89] (drew w70) (fun v48n95 w96 =>
takeE (fun w99 => pUn P UnOp.not v48n95 w99) w96 fun v49n97 h98 =>
condE v49n97 (fun (K100 : KT) =>
K100 .ret (Env.put (Env.put (Env.put (Env.put (Env.put (Env.put (Env.put (Env.put (Env.put (Env.put e69 41 v41n71) 42 v42n74) 43 v43n77) 44 v44n80) 45 v45n83) 46 v46n86) 47 v47n89) 48 v48n95) 49 v49n97) 6 (Value.int IntKind.i64 5)) w96) (fun (K100 : KT) =>
K100 .normal (Env.put (Env.put (Env.put (Env.put (Env.put (Env.put (Env.put (Env.put (Env.put e69 41 v41n71) 42 v42n74) 43 v43n77) 44 v44n80) 45 v45n83) 46 v46n86) 47 v47n89) 48 v48n95) 49 v49n97) w96) (thenK (fun e101 w102 =>
bindV (pLoad P 27 (e101 9) w102) fun v51n103 w104 =>
callE P 43 #[(e101 0), v51n103] w104 (fun v52n107 w108 =>
bindV (pAlloc P 88 w108) fun v11n109 w110 =>
bindU (pStore P 88 v11n109 v52n107 w110) fun w111 =>
bindV (pFieldAddr P 88 v11n109 0 w111) fun v54n112 w113 =>
bindV (pLoad P 58 v54n112 w113) fun v55n114 w115 =>
bindV (pFieldAddr P 88 (e101 7) 0 w115) fun v56n116 w117 =>
bindV (pLoad P 58 v56n116 w117) fun v57n118 w119 =>
bindV (pBin P BinOp.gtr 58 false v55n114 v57n118 w119) fun v58n120 w121 =>
grdE v58n120 true (fun (k122 : Value → World → Prop) => bindV (pFieldAddr P 27 (e101 9) 0 w121) k122) (fun v60n123 w124 =>
grdE v58n120 true (fun (k125 : Value → World → Prop) => bindV (pLoad P 3 v60n123 w124) k125) (fun v61n126 w127 =>
grdE v58n120 true (fun (k128 : Value → World → Prop) => bindV (pBin P BinOp.eql 3 true v61n126 (Value.int IntKind.i64 18) w127) k128) (fun v62n129 w130 =>
pickE v58n120 v62n129 (Value.bool false) fun v63n131 =>
condE v63n131 (fun (K132 : KT) =>
K132 .ret (Env.put (Env.put (Env.put (Env.put (Env.put (Env.put (Env.put (Env.put (Env.put (Env.put (Env.put (Env.put (Env.put (Env.put (Env.put (Env.put e101 50 (e101 0)) 51 v51n103) 52 v52n107) 11 v11n109) 54 v54n112) 55 v55n114) 56 v56n116) 57 v57n118) 58 v58n120) 59 v58n120) 60 v60n123) 61 v61n126) 62 v62n129) 63 v63n131) 53 v63n131) 6 (Value.int IntKind.i64 8)) w130) (fun (K132 : KT) =>
bindV (pFieldAddr P 88 v11n109 0 w130) fun v65n133 w134 =>
bindV (pLoad P 58 v65n133 w134) fun v66n135 w136 =>
bindV (pFieldAddr P 88 (e101 7) 0 w136) fun v67n137 w138 =>
bindV (pLoad P 58 v67n137 w138) fun v68n139 w140 =>
bindV (pBin P BinOp.gtr 58 false v66n135 v68n139 w140) fun v69n141 w142 =>
condE v69n141 (fun (K143 : KT) =>
K143 .ret (Env.put (Env.put (Env.put (Env.put (Env.put (Env.put (Env.put (Env.put (Env.put (Env.put (Env.put (Env.put (Env.put (Env.put (Env.put (Env.put (Env.put (Env.put (Env.put (Env.put (Env.put (Env.put e101 50 (e101 0)) 51 v51n103) 52 v52n107) 11 v11n109) 54 v54n112) 55 v55n114) 56 v56n116) 57 v57n118) 58 v58n120) 59 v58n120) 60 v60n123) 61 v61n126) 62 v62n129) 63 v63n131) 53 v63n131) 65 v65n133) 66 v66n135) 67 v67n137) 68 v68n139) 69 v69n141) 64 v69n141) 6 (Value.int IntKind.i64 9)) w142) (fun (K143 : KT) =>
bindV (pFieldAddr P 88 v11n109 1 w142) fun v71n144 w145 =>
bindV (pLoad P 58 v71n144 w145) fun v72n146 w147 =>
bindV (pFieldAddr P 88 (e101 7) 1 w147) fun v73n148 w149 =>
bindV (pLoad P 58 v73n148 w149) fun v74n150 w151 =>
bindV (pBin P BinOp.gtr 58 false v72n146 v74n150 w151) fun v75n152 w153 =>
condE v75n152 (fun (K154 : KT) =>
K154 .ret (Env.put (Env.put (Env.put (Env.put (Env.put (Env.put (Env.put (Env.put (Env.put (Env.put (Env.put (Env.put (Env.put (Env.put (Env.put (Env.put (Env.put (Env.put (Env.put (Env.put (Env.put (Env.put (Env.put (Env.put (Env.put (Env.put (Env.put (Env.put e101 50 (e101 0)) 51 v51n103) 52 v52n107) 11 v11n109) 54 v54n112) 55 v55n114) 56 v56n116) 57 v57n118) 58 v58n120) 59 v58n120) 60 v60n123) 61 v61n126) 62 v62n129) 63 v63n131) 53 v63n131) 65 v65n133) 66 v66n135) 67 v67n137) 68 v68n139) 69 v69n141) 64 v69n141) 71 v71n144) 72 v72n146) 73 v73n148) 74 v74n150) 75 v75n152) 70 v75n152) 6 (Value.int IntKind.i64 10)) w153) (fun (K154 : KT) =>
K154 .normal (Env.put (Env.put (Env.put (Env.put (Env.put (Env.put (Env.put (Env.put (Env.put (Env.put (Env.put (Env.put (Env.put (Env.put (Env.put (Env.put (Env.put (Env.put (Env.put (Env.put (Env.put (Env.put (Env.put (Env.put (Env.put (Env.put (Env.put e101 50 (e101 0)) 51 v51n103) 52 v52n107) 11 v11n109) 54 v54n112) 55 v55n114) 56 v56n116) 57 v57n118) 58 v58n120) 59 v58n120) 60 v60n123) 61 v61n126) 62 v62n129) 63 v63n131) 53 v63n131) 65 v65n133) 66 v66n135) 67 v67n137) 68 v68n139) 69 v69n141) 64 v69n141) 71 v71n144) 72 v72n146) 73 v73n148) 74 v74n150) 75 v75n152) 70 v75n152) w153) K143) K132) (blockK 2 (thenK (fun e155 w156 =>
bindV (pFieldAddr P 88 (e155 7) 0 w156) fun v76n157 w158 =>
bindV (pLoad P 58 v76n157 w158) fun v77n159 w160 =>
bindV (pFieldAddr P 88 (e155 11) 0 w160) fun v78n161 w162 =>
bindV (pLoad P 58 v78n161 w162) fun v79n163 w164 =>
bindV (pBin P BinOp.sub 58 false v77n159 v79n163 w164) fun v80n165 w166 =>
bindV (pFieldAddr P 88 (e155 7) 0 w166) fun v81n167 w168 =>
bindU (pStore P 58 v81n167 v80n165 w168) fun w169 =>
bindV (pFieldAddr P 88 (e155 7) 1 w169) fun v82n170 w171 =>
bindV (pLoad P 58 v82n170 w171) fun v83n172 w173 =>
bindV (pFieldAddr P 88 (e155 11) 1 w173) fun v84n174 w175 =>
bindV (pLoad P 58 v84n174 w175) fun v85n176 w177 =>
bindV (pBin P BinOp.sub 58 false v83n172 v85n176 w177) fun v86n178 w179 =>
bindV (pFieldAddr P 88 (e155 7) 1 w179) fun v87n180 w181 =>
bindU (pStore P 58 v87n180 v86n178 w181) fun w182 =>
K55 .normal (Env.put (Env.put (Env.put (Env.put (Env.put (Env.put (Env.put (Env.put (Env.put (Env.put (Env.put (Env.put e155 76 v76n157) 77 v77n159) 78 v78n161) 79 v79n163) 80 v80n165) 81 v81n167) 82 v82n170) 83 v83n172) 84 v84n174) 85 v85n176) 86 v86n178) 87 v87n180) w182) K55))) w127) w124) w121) (fun c105 w106 => K55 (.panic c105) (Env.put (Env.put e101 50 (e101 0)) 51 v51n103) w106)) K55)) (fun c93 w94 => ∀ (e92 : Env), agreeOff [41, 42, 43, 44, 45, 46, 47] (Env.put (Env.put (Env.put (Env.put (Env.put (Env.put (Env.put e69 41 v41n71) 42 v42n74) 43 v43n77) 44 v44n80) 45 v45n83) 46 v46n86) 47 v47n89) e92 → K55 (.panic c93) e92 w94)) K55)) (fun c62 w63 => K55 (.panic c62) (Env.put (Env.put (Env.put (Env.put e46 34 v34n48) 35 v35n50) 9 v9n52) 36 v36n60) w63)) K)
def F19 (a0 : Value) (a1 : Value) (a2 : Value) (w : World) (R : Ending → World → Prop) : Prop :=
bindV (pBin P BinOp.lss 3 true a1 (Value.int IntKind.i64 0) w) fun v13n1 w2 =>
grdE v13n1 false (fun (k3 : Value → World → Prop) => k3 a1 w2) (fun v15n4 w5 =>
grdE v13n1 false (fun (k6 : Value → World → Prop) => k6 a0 w5) (fun v16n7 w8 =>
grdE v13n1 false (fun (k9 : Value → World → Prop) => nilE v16n7 fun v17n10 =>
k9 v17n10 w8) (fun v17n11 w12 =>
grdE v13n1 false (fun (k13 : Value → World → Prop) => bindV (pFieldAddr P 86 v17n11 1 w12) k13) (fun v18n14 w15 =>
grdE v13n1 false (fun (k16 : Value → World → Prop) => bindV (pLoad P 84 v18n14 w15) k16) (fun v19n17 w18 =>
grdE v13n1 false (fun (k19 : Value → World → Prop) => bindV (pBuiltin P Builtin.len #[84] 3 [v19n17] w18) k19) (fun v20n20 w21 =>
grdE v13n1 false (fun (k22 : Value → World → Prop) => bindV (pBin P BinOp.geq 3 false v15n4 v20n20 w21) k22) (fun v21n23 w24 =>
pickE v13n1 (Value.bool true) v21n23 fun v22n25 =>
condE v22n25 (fun (K26 : KT) =>
K26 .ret (Env.put (Env.put (Env.put (Env.put (Env.put (Env.put (Env.put (Env.put (Env.put (Env.put (Env.put (Env.put (Env.put (argE [a0, a1, a2]) 6 (Value.int IntKind.i64 0)) 12 a1) 13 v13n1) 14 v13n1) 15 v15n4) 16 v16n7) 17 v17n11) 18 v18n14) 19 v19n17) 20 v20n20) 21 v21n23) 22 v22n25) 6 (Value.int IntKind.i64 1)) w24) (fun (K26 : KT) =>
K26 .normal (Env.put (Env.put (Env.put (Env.put (Env.put (Env.put (Env.put (Env.put (Env.put (Env.put (Env.put (Env.put (argE [a0, a1, a2]) 6 (Value.int IntKind.i64 0)) 12 a1) 13 v13n1) 14 v13n1) 15 v15n4) 16 v16n7) 17 v17n11) 18 v18n14) 19 v19n17) 20 v20n20) 21 v21n23) 22 v22n25) w24) (thenK (fun e27 w28 =>
nilE (e27 0) fun v24n29 =>
bindV (pFieldAddr P 86 v24n29 1 w28) fun v25n30 w31 =>
bindV (pLoad P 84 v25n30 w31) fun v26n32 w33 =>
bindV (pIndexAddr P 84 v26n32 (e27 1) w33) fun v28n34 w35 =>
bindV (pLoad P 88 v28n34 w35) fun v29n36 w37 =>
bindV (pAlloc P 88 w37) fun v7n38 w39 =>
bindU (pStore P 88 v7n38 v29n36 w39) fun w40 =>
bindV (pBuiltin P Builtin.len #[34] 3 [(e27 2)] w40) fun v31n41 w42 =>
loopE F19B0 (Env.put (Env.put (Env.put (Env.put (Env.put (Env.put (Env.put (Env.put (Env.put (Env.put (Env.put e27 23 (e27 0)) 24 v24n29) 25 v25n30) 26 v26n32) 27 (e27 1)) 28 v28n34) 29 v29n36) 7 v7n38) 30 (e27 2)) 31 v31n41) 32 (Value.int IntKind.i64 0)) w42 (blockK 0 (thenK (fun e183 w184 =>
takeE (fun w187 => some ((e183 0), w187)) (drew w184) fun v89n185 h186 =>
takeE (fun w190 => qNil v89n185 w190) (drew w184) fun v90n188 h189 =>
takeE (fun w193 => pFieldAddr P 86 v90n188 1 w193) (drew w184) fun v91n191 h192 =>
takeE (fun w196 => pLoad P 84 v91n191 w196) (drew w184) fun v92n194 h195 =>
takeE (fun w199 => some ((e183 1), w199)) (drew w184) fun v93n197 h198 =>
takeE (fun w202 => pLoad P 88 (e183 7) w202) (drew w184) fun v94n200 h201 =>
takeE (fun w205 => pIndexAddr P 84 v92n194 v93n197 w205) (drew w184) fun v95n203 h204 =>
bindU (pStore P 88 v95n203 v94n200 (drew w184)) fun w207 =>
R (.returned (Value.int IntKind.i64 0)) w207) (topK P [(ResultVar.tmp 6)] R)))) (topK P [(ResultVar.tmp 6)] R))) w21) w18) w15) w12) w8) w5) w2
theorem F19ok {w : World} {R : Ending → World → Prop} {a0 : Value} {a1 : Value} {a2 : Value} (h : F19 a0 a1 a2 w R) : Calls P 19 #[a0, a1, a2] w R :=
  calls_of_ev bodies mixed (c := bodyOf Tryd.f19) (nt := 96) (rs := [(ResultVar.tmp 6)]) (args := [a0, a1, a2]) (fn := Tryd.f19) (by kernel_rfl) (by kernel_rfl) (by kernel_rfl) (by kernel_rfl) (by kernel_rfl) (by simp)
    (eq_mp (show F19 a0 a1 a2 w R = ev P C (bodyOf Tryd.f19) (argE [a0, a1, a2]) w (topK P [(ResultVar.tmp 6)] R) by kernel_rfl) h)

/-! ### moiety/share.Do -/
def F20 (a0 : Value) (a1 : Value) (w : World) (R : Ending → World → Prop) : Prop :=
bindV (pBox P 25 a0 w) fun v2n1 w2 =>
bindV (pBox P 27 a1 w2) fun v3n3 w4 =>
bindV (pAlloc P 25 w4) fun v4n5 w6 =>
bindV (pFieldAddr P 27 v3n3 0 w6) fun v8n7 w8 =>
bindV (pLoad P 3 v8n7 w8) fun v9n9 w10 =>
letK (blockK 0 (thenK (fun e12 w13 =>
bindV (pLoad P 25 (e12 2) w13) fun v22n14 w15 =>
bindV (pLoad P 27 (e12 3) w15) fun v23n16 w17 =>
callE P 37 #[v22n14, (Value.bool true), v23n16] w17 (fun v24n20 w21 =>
bindV (pExtract P v24n20 0 w21) fun v25n22 w23 =>
bindV (pExtract P v24n20 1 w23) fun v26n24 w25 =>
bindV (pExtract P v24n20 2 w25) fun v27n26 w27 =>
bindV (pAlloc P 25 w27) fun v5n28 w29 =>
bindV (pAlloc P 49 w29) fun v7n30 w31 =>
bindU (pStore P 25 v5n28 v25n22 w31) fun w32 =>
bindU (pStore P 49 v7n30 v27n26 w32) fun w33 =>
bindV (pLoad P 25 v5n28 w33) fun v28n34 w35 =>
bindU (pStore P 25 (e12 4) v28n34 w35) fun w36 =>
topK P [(ResultVar.cell 4 25)] R .ret (Env.put (Env.put (Env.put (Env.put (Env.put (Env.put (Env.put (Env.put (Env.put (Env.put (Env.put e12 22 v22n14) 23 v23n16) 24 v24n20) 21 v24n20) 25 v25n22) 26 v26n24) 27 v27n26) 5 v5n28) 7 v7n30) 6 v26n24) 28 v28n34) w36) (fun c18 w19 => R (.panicked c18) w19)) (topK P [(ResultVar.cell 4 25)] R))) fun (K11 : KT) =>
bindV (pBin P BinOp.eql 3 true v9n9 (Value.int IntKind.i64 8) w10) fun v11n37 w38 =>
condE v11n37 (fun (K39 : KT) =>
K39 .normal (Env.put (Env.put (Env.put (Env.put (Env.put (Env.put (Env.put (argE [a0, a1]) 2 v2n1) 3 v3n3) 4 v4n5) 8 v8n7) 9 v9n9) 11 v11n37) 10 v11n37) w38) (fun (K39 : KT) =>
bindV (pBin P BinOp.eql 3 true v9n9 (Value.int IntKind.i64 10) w38) fun v12n40 w41 =>
K39 .normal (Env.put (Env.put (Env.put (Env.put (Env.put (Env.put (Env.put (Env.put (Env.put (argE [a0, a1]) 2 v2n1) 3 v3n3) 4 v4n5) 8 v8n7) 9 v9n9) 11 v11n37) 10 v11n37) 12 v12n40) 10 v12n40) w41) (thenK (fun e42 w43 =>
condE (e42 10) (fun (K44 : KT) =>
bindV (pFieldAddr P 27 (e42 3) 0 w43) fun v13n45 w46 =>
bindU (pStore P 3 v13n45 (Value.int IntKind.i64 7) w46) fun w47 =>
K44 .normal (Env.put e42 13 v13n45) w47) (fun (K44 : KT) =>
bindV (pBin P BinOp.eql 3 true (e42 9) (Value.int IntKind.i64 11) w43) fun v15n48 w49 =>
condE v15n48 (fun (K50 : KT) =>
bindV (pFieldAddr P 27 (e42 3) 2 w49) fun v16n51 w52 =>
bindV (pLoad P 2 v16n51 w52) fun v17n53 w54 =>
bindV (pUn P UnOp.neg v17n53 w54) fun v18n55 w56 =>
bindV (pFieldAddr P 27 (e42 3) 0 w56) fun v19n57 w58 =>
bindU (pStore P 3 v19n57 (Value.int IntKind.i64 7) w58) fun w59 =>
bindV (pFieldAddr P 27 (e42 3) 2 w59) fun v20n60 w61 =>
bindU (pStore P 2 v20n60 v18n55 w61) fun w62 =>
K50 .normal (Env.put (Env.put (Env.put (Env.put (Env.put (Env.put (Env.put e42 15 v15n48) 14 v15n48) 16 v16n51) 17 v17n53) 18 v18n55) 19 v19n57) 20 v20n60) w62) (fun (K50 : KT) =>
K50 .normal (Env.put (Env.put e42 15 v15n48) 14 v15n48) w49) K44) K11) K11)
theorem F20ok {w : World} {R : Ending → World → Prop} {a0 : Value} {a1 : Value} (h : F20 a0 a1 w R) : Calls P 20 #[a0, a1] w R :=
  calls_of_ev bodies mixed (c := bodyOf Tryd.f20) (nt := 29) (rs := [(ResultVar.cell 4 25)]) (args := [a0, a1]) (fn := Tryd.f20) (by kernel_rfl) (by kernel_rfl) (by kernel_rfl) (by kernel_rfl) (by kernel_rfl) (by simp)
    (eq_mp (show F20 a0 a1 w R = ev P C (bodyOf Tryd.f20) (argE [a0, a1]) w (topK P [(ResultVar.cell 4 25)] R) by kernel_rfl) h)

/-! ### (*moiety/share.Escrow).Left -/
def F21 (a0 : Value) (a1 : Value) (w : World) (R : Ending → World → Prop) : Prop :=
bindV (pBin P BinOp.lss 3 true a1 (Value.int IntKind.i64 0) w) fun v7n1 w2 =>
grdE v7n1 false (fun (k3 : Value → World → Prop) => k3 a1 w2) (fun v9n4 w5 =>
grdE v7n1 false (fun (k6 : Value → World → Prop) => k6 a0 w5) (fun v10n7 w8 =>
grdE v7n1 false (fun (k9 : Value → World → Prop) => nilE v10n7 fun v11n10 =>
k9 v11n10 w8) (fun v11n11 w12 =>
grdE v7n1 false (fun (k13 : Value → World → Prop) => bindV (pFieldAddr P 86 v11n11 1 w12) k13) (fun v12n14 w15 =>
grdE v7n1 false (fun (k16 : Value → World → Prop) => bindV (pLoad P 84 v12n14 w15) k16) (fun v13n17 w18 =>
grdE v7n1 false (fun (k19 : Value → World → Prop) => bindV (pBuiltin P Builtin.len #[84] 3 [v13n17] w18) k19) (fun v14n20 w21 =>
grdE v7n1 false (fun (k22 : Value → World → Prop) => bindV (pBin P BinOp.geq 3 false v9n4 v14n20 w21) k22) (fun v15n23 w24 =>
pickE v7n1 (Value.bool true) v15n23 fun v16n25 =>
condE v16n25 (fun (K26 : KT) =>
K26 .ret (Env.put (Env.put (Env.put (Env.put (Env.put (Env.put (Env.put (Env.put (Env.put (Env.put (Env.put (Env.put (Env.put (Env.put (Env.put (argE [a0, a1]) 4 (Value.int IntKind.u64 0)) 5 (Value.int IntKind.u64 0)) 6 a1) 7 v7n1) 8 v7n1) 9 v9n4) 10 v10n7) 11 v11n11) 12 v12n14) 13 v13n17) 14 v14n20) 15 v15n23) 16 v16n25) 4 (Value.int IntKind.u64 0)) 5 (Value.int IntKind.u64 0)) w24) (fun (K26 : KT) =>
K26 .normal (Env.put (Env.put (Env.put (Env.put (Env.put (Env.put (Env.put (Env.put (Env.put (Env.put (Env.put (Env.put (Env.put (argE [a0, a1]) 4 (Value.int IntKind.u64 0)) 5 (Value.int IntKind.u64 0)) 6 a1) 7 v7n1) 8 v7n1) 9 v9n4) 10 v10n7) 11 v11n11) 12 v12n14) 13 v13n17) 14 v14n20) 15 v15n23) 16 v16n25) w24) (thenK (fun e27 w28 =>
takeE (fun w31 => some ((e27 0), w31)) (drew w28) fun v17n29 h30 =>
takeE (fun w34 => qNil v17n29 w34) (drew w28) fun v18n32 h33 =>
takeE (fun w37 => pFieldAddr P 86 v18n32 1 w37) (drew w28) fun v19n35 h36 =>
takeE (fun w40 => pLoad P 84 v19n35 w40) (drew w28) fun v20n38 h39 =>
takeE (fun w43 => some ((e27 1), w43)) (drew w28) fun v21n41 h42 =>
takeE (fun w46 => pIndexAddr P 84 v20n38 v21n41 w46) (drew w28) fun v22n44 h45 =>
takeE (fun w49 => pFieldAddr P 88 v22n44 0 w49) (drew w28) fun v23n47 h48 =>
takeE (fun w52 => pLoad P 58 v23n47 w52) (drew w28) fun v24n50 h51 =>
takeE (fun w55 => some ((e27 0), w55)) (drew w28) fun v25n53 h54 =>
takeE (fun w58 => qNil v25n53 w58) (drew w28) fun v26n56 h57 =>
takeE (fun w61 => pFieldAddr P 86 v26n56 1 w61) (drew w28) fun v27n59 h60 =>
takeE (fun w64 => pLoad P 84 v27n59 w64) (drew w28) fun v28n62 h63 =>
takeE (fun w67 => some ((e27 1), w67)) (drew w28) fun v29n65 h66 =>
takeE (fun w70 => pIndexAddr P 84 v28n62 v29n65 w70) (drew w28) fun v30n68 h69 =>
takeE (fun w73 => pFieldAddr P 88 v30n68 1 w73) (drew w28) fun v31n71 h72 =>
takeE (fun w76 => pLoad P 58 v31n71 w76) (drew w28) fun v32n74 h75 =>
heldE [h75, h72, h69, h66, h63, h60, h57, h54] (drew w28) (R (.returned (.tuple #[v24n50, v32n74])) (drew w28))) (topK P [(ResultVar.tmp 4), (ResultVar.tmp 5)] R))) w21) w18) w15) w12) w8) w5) w2
theorem F21ok {w : World} {R : Ending → World → Prop} {a0 : Value} {a1 : Value} (h : F21 a0 a1 w R) : Calls P 21 #[a0, a1] w R :=
  calls_of_ev bodies mixed (c := bodyOf Tryd.f21) (nt := 33) (rs := [(ResultVar.tmp 4), (ResultVar.tmp 5)]) (args := [a0, a1]) (fn := Tryd.f21) (by kernel_rfl) (by kernel_rfl) (by kernel_rfl) (by kernel_rfl) (by kernel_rfl) (by simp)
    (eq_mp (show F21 a0 a1 w R = ev P C (bodyOf Tryd.f21) (argE [a0, a1]) w (topK P [(ResultVar.tmp 4), (ResultVar.tmp 5)] R) by kernel_rfl) h)

/-! ### moiety/share.Merge -/
def F22B1 (e : Env) (w : World) (K : KT) : Prop :=
bindV (pBin P BinOp.lss 3 false (e 52) (e 51) w) fun v53n109 w110 =>
condE v53n109 (fun (K111 : KT) =>
K111 .normal (Env.put e 53 v53n109) w110) (fun (K111 : KT) =>
K111 (.exit 3) (Env.put e 53 v53n109) w110) (thenK (fun e112 w113 =>
bindV (pIndexAddr P 23 (e112 50) (e112 52) w113) fun v54n114 w115 =>
bindV (pLoad P 80 v54n114 w115) fun v55n116 w117 =>
bindV (pAlloc P 80 w117) fun v8n118 w119 =>
bindU (pStore P 80 v8n118 v55n116 w119) fun w120 =>
bindV (pFieldAddr P 80 v8n118 1 w120) fun v56n121 w122 =>
bindV (pLoad P 9 v56n121 w122) fun v57n123 w124 =>
bindV (pBuild P 27 [(0, (Value.int IntKind.i64 18)), (1, (Value.string { data := #[107] })), (4, v57n123)] w124) fun v58n125 w126 =>
bindV (pAlloc P 27 w126) fun v9n127 w128 =>
bindU (pStore P 27 v9n127 v58n125 w128) fun w129 =>
letK (blockK 4 (thenK (fun e131 w132 =>
bindV (pBin P BinOp.add 3 true (e131 52) (Value.int IntKind.i64 1) w132) fun v73n133 w134 =>
K .normal (Env.put (Env.put e131 73 v73n133) 52 v73n133) w134) K)) fun (K130 : KT) =>
bindV (pFieldAddr P 25 (e112 2) 0 w129) fun v59n135 w136 =>
bindV (pLoad P 3 v59n135 w136) fun v60n137 w138 =>
bindV (pBin P BinOp.eql 3 true v60n137 (Value.int IntKind.i64 9) w138) fun v61n139 w140 =>
condE v61n139 (fun (K141 : KT) =>
takeE (fun w144 => pFieldAddr P 80 v8n118 0 w144) (drew w140) fun v62n142 h143 =>
takeE (fun w147 => pLoad P 22 v62n142 w147) (drew w140) fun v63n145 h146 =>
takeE (fun w150 => pFieldAddr P 27 v9n127 0 w150) (drew w140) fun v64n148 h149 =>
bindU (pStore P 3 v64n148 (Value.int IntKind.i64 21) (drew w140)) fun w152 =>
heldE [h146, h143] w152 (takeE (fun w155 => pFieldAddr P 27 v9n127 3 w155) w152 fun v65n153 h154 =>
bindU (pStore P 22 v65n153 v63n145 w152) fun w157 =>
K141 .normal (Env.put (Env.put (Env.put (Env.put (Env.put (Env.put (Env.put (Env.put (Env.put (Env.put (Env.put (Env.put (Env.put (Env.put e112 54 v54n114) 55 v55n116) 8 v8n118) 56 v56n121) 57 v57n123) 58 v58n125) 9 v9n127) 59 v59n135) 60 v60n137) 61 v61n139) 62 v62n142) 63 v63n145) 64 v64n148) 65 v65n153) w157)) (fun (K141 : KT) =>
K141 .normal (Env.put (Env.put (Env.put (Env.put (Env.put (Env.put (Env.put (Env.put (Env.put (Env.put e112 54 v54n114) 55 v55n116) 8 v8n118) 56 v56n121) 57 v57n123) 58 v58n125) 9 v9n127) 59 v59n135) 60 v60n137) 61 v61n139) w140) (thenK (fun e158 w159 =>
bindV (pLoad P 25 (e158 2) w159) fun v67n160 w161 =>
bindV (pLoad P 27 (e158 9) w161) fun v68n162 w163 =>
callE P 37 #[v67n160, (Value.bool true), v68n162] w163 (fun v69n166 w167 =>
bindV (pExtract P v69n166 0 w167) fun v70n168 w169 =>
bindV (pExtract P v69n166 1 w169) fun v71n170 w171 =>
bindV (pExtract P v69n166 2 w171) fun v72n172 w173 =>
bindU (pStore P 25 (e158 2) v70n168 w173) fun w174 =>
K130 .normal (Env.put (Env.put (Env.put (Env.put (Env.put (Env.put (Env.put e158 67 v67n160) 68 v68n162) 69 v69n166) 66 v69n166) 70 v70n168) 71 v71n170) 72 v72n172) w174) (fun c164 w165 => K130 (.panic c164) (Env.put (Env.put e158 67 v67n160) 68 v68n162) w165)) K130)) K)
def F22B0 (e : Env) (w : World) (K : KT) : Prop :=
bindV (pBin P BinOp.lss 3 false (e 14) (e 13) w) fun v15n14 w15 =>
condE v15n14 (fun (K16 : KT) =>
K16 .normal (Env.put e 15 v15n14) w15) (fun (K16 : KT) =>
K16 (.exit 0) (Env.put e 15 v15n14) w15) (thenK (fun e17 w18 =>
bindV (pIndexAddr P 56 (e17 12) (e17 14) w18) fun v16n19 w20 =>
bindV (pLoad P 25 v16n19 w20) fun v17n21 w22 =>
bindV (pAlloc P 25 w22) fun v6n23 w24 =>
bindU (pStore P 25 v6n23 v17n21 w24) fun w25 =>
bindV (pFieldAddr P 25 (e17 2) 0 w25) fun v18n26 w27 =>
bindV (pLoad P 3 v18n26 w27) fun v19n28 w29 =>
letK (blockK 2 (blockK 1 (thenK (fun e31 w32 =>
bindV (pBin P BinOp.add 3 true (e31 14) (Value.int IntKind.i64 1) w32) fun v74n33 w34 =>
K .normal (Env.put (Env.put e31 74 v74n33) 14 v74n33) w34) K))) fun (K30 : KT) =>
bindV (pBin P BinOp.eql 3 true v19n28 (Value.int IntKind.i64 2) w29) fun v21n35 w36 =>
condE v21n35 (fun (K37 : KT) =>
K37 .normal (Env.put (Env.put (Env.put (Env.put (Env.put (Env.put (Env.put e17 16 v16n19) 17 v17n21) 6 v6n23) 18 v18n26) 19 v19n28) 21 v21n35) 20 v21n35) w36) (fun (K37 : KT) =>
bindV (pBin P BinOp.eql 3 true v19n28 (Value.int IntKind.i64 3) w36) fun v22n38 w39 =>
condE v22n38 (fun (K40 : KT) =>
K40 .normal (Env.put (Env.put (Env.put (Env.put (Env.put (Env.put (Env.put (Env.put (Env.put e17 16 v16n19) 17 v17n21) 6 v6n23) 18 v18n26) 19 v19n28) 21 v21n35) 20 v21n35) 22 v22n38) 20 v22n38) w39) (fun (K40 : KT) =>
bindV (pBin P BinOp.eql 3 true v19n28 (Value.int IntKind.i64 4) w39) fun v23n41 w42 =>
K40 .normal (Env.put (Env.put (Env.put (Env.put (Env.put (Env.put (Env.put (Env.put (Env.put (Env.put (Env.put e17 16 v16n19) 17 v17n21) 6 v6n23) 18 v18n26) 19 v19n28) 21 v21n35) 20 v21n35) 22 v22n38) 20 v22n38) 23 v23n41) 20 v23n41) w42) K37) (thenK (fun e43 w44 =>
condE (e43 20) (fun (K45 : KT) =>
bindV (pFieldAddr P 25 (e43 2) 1 w44) fun v24n46 w47 =>
bindV (pLoad P 2 v24n46 w47) fun v25n48 w49 =>
bindV (pFieldAddr P 25 (e43 6) 1 w49) fun v26n50 w51 =>
bindV (pLoad P 2 v26n50 w51) fun v27n52 w53 =>
bindV (pBin P BinOp.add 2 false v25n48 v27n52 w53) fun v28n54 w55 =>
bindV (pFieldAddr P 25 (e43 2) 1 w55) fun v29n56 w57 =>
bindU (pStore P 2 v29n56 v28n54 w57) fun w58 =>
K45 .normal (Env.put (Env.put (Env.put (Env.put (Env.put (Env.put e43 24 v24n46) 25 v25n48) 26 v26n50) 27 v27n52) 28 v28n54) 29 v29n56) w58) (fun (K45 : KT) =>
bindV (pBin P BinOp.eql 3 true (e43 19) (Value.int IntKind.i64 5) w44) fun v31n59 w60 =>
condE v31n59 (fun (K61 : KT) =>
bindV (pFieldAddr P 25 (e43 2) 4 w60) fun v32n62 w63 =>
bindV (pLoad P 22 v32n62 w63) fun v33n64 w65 =>
bindV (pFieldAddr P 25 (e43 6) 4 w65) fun v34n66 w67 =>
bindV (pLoad P 22 v34n66 w67) fun v35n68 w69 =>
callE P 44 #[v33n64, v35n68] w69 (fun v36n72 w73 =>
bindV (pFieldAddr P 25 (e43 2) 4 w73) fun v37n74 w75 =>
bindU (pStore P 22 v37n74 v36n72 w75) fun w76 =>
K61 .normal (Env.put (Env.put (Env.put (Env.put (Env.put (Env.put (Env.put (Env.put e43 31 v31n59) 30 v31n59) 32 v32n62) 33 v33n64) 34 v34n66) 35 v35n68) 36 v36n72) 37 v37n74) w76) (fun c70 w71 => K61 (.panic c70) (Env.put (Env.put (Env.put (Env.put (Env.put (Env.put e43 31 v31n59) 30 v31n59) 32 v32n62) 33 v33n64) 34 v34n66) 35 v35n68) w71)) (fun (K61 : KT) =>
bindV (pBin P BinOp.eql 3 true (e43 19) (Value.int IntKind.i64 6) w60) fun v39n77 w78 =>
condE v39n77 (fun (K79 : KT) =>
bindV (pFieldAddr P 25 (e43 2) 4 w78) fun v40n80 w81 =>
bindV (pLoad P 22 v40n80 w81) fun v41n82 w83 =>
bindV (pFieldAddr P 25 (e43 6) 4 w83) fun v42n84 w85 =>
bindV (pLoad P 22 v42n84 w85) fun v43n86 w87 =>
callE P 45 #[v41n82, v43n86] w87 (fun v44n90 w91 =>
bindV (pFieldAddr P 25 (e43 2) 4 w91) fun v45n92 w93 =>
bindU (pStore P 22 v45n92 v44n90 w93) fun w94 =>
K79 .normal (Env.put (Env.put (Env.put (Env.put (Env.put (Env.put (Env.put (Env.put (Env.put (Env.put e43 31 v31n59) 30 v31n59) 39 v39n77) 38 v39n77) 40 v40n80) 41 v41n82) 42 v42n84) 43 v43n86) 44 v44n90) 45 v45n92) w94) (fun c88 w89 => K79 (.panic c88) (Env.put (Env.put (Env.put (Env.put (Env.put (Env.put (Env.put (Env.put e43 31 v31n59) 30 v31n59) 39 v39n77) 38 v39n77) 40 v40n80) 41 v41n82) 42 v42n84) 43 v43n86) w89)) (fun (K79 : KT) =>
bindV (pBin P BinOp.eql 3 true (e43 19) (Value.int IntKind.i64 8) w78) fun v47n95 w96 =>
condE v47n95 (fun (K97 : KT) =>
K97 .normal (Env.put (Env.put (Env.put (Env.put (Env.put (Env.put e43 31 v31n59) 30 v31n59) 39 v39n77) 38 v39n77) 47 v47n95) 46 v47n95) w96) (fun (K97 : KT) =>
bindV (pBin P BinOp.eql 3 true (e43 19) (Value.int IntKind.i64 9) w96) fun v48n98 w99 =>
K97 .normal (Env.put (Env.put (Env.put (Env.put (Env.put (Env.put (Env.put (Env.put e43 31 v31n59) 30 v31n59) 39 v39n77) 38 v39n77) 47 v47n95) 46 v47n95) 48 v48n98) 46 v48n98) w99) (thenK (fun e100 w101 =>
condE (e100 46) (fun (K102 : KT) =>
bindV (pFieldAddr P 25 (e100 6) 7 w101) fun v49n103 w104 =>
bindV (pLoad P 23 v49n103 w104) fun v50n105 w106 =>
bindV (pBuiltin P Builtin.len #[23] 3 [v50n105] w106) fun v51n107 w108 =>
loopE F22B1 (Env.put (Env.put (Env.put (Env.put e100 49 v49n103) 50 v50n105) 51 v51n107) 52 (Value.int IntKind.i64 0)) w108 (blockK 3 K102)) (fun (K102 : KT) =>
K102 .normal e100 w101) K79) K79)) K61) K45) K30) K30)) K)
def F22 (a0 : Value) (a1 : Value) (w : World) (R : Ending → World → Prop) : Prop :=
bindV (pBox P 25 a0 w) fun v2n1 w2 =>
bindV (pAlloc P 25 w2) fun v4n3 w4 =>
bindV (pLoad P 25 v2n1 w4) fun v10n5 w6 =>
callE P 36 #[v10n5] w6 (fun v11n9 w10 =>
bindU (pStore P 25 v2n1 v11n9 w10) fun w11 =>
bindV (pBuiltin P Builtin.len #[56] 3 [a1] w11) fun v13n12 w13 =>
loopE F22B0 (Env.put (Env.put (Env.put (Env.put (Env.put (Env.put (Env.put (argE [a0, a1]) 2 v2n1) 4 v4n3) 10 v10n5) 11 v11n9) 12 a1) 13 v13n12) 14 (Value.int IntKind.i64 0)) w13 (blockK 0 (thenK (fun e175 w176 =>
bindV (pLoad P 25 (e175 2) w176) fun v75n177 w178 =>
bindU (pStore P 25 (e175 4) v75n177 w178) fun w179 =>
topK P [(ResultVar.cell 4 25)] R .ret (Env.put e175 75 v75n177) w179) (topK P [(ResultVar.cell 4 25)] R)))) (fun c7 w8 => R (.panicked c7) w8)
theorem F22ok {w : World} {R : Ending → World → Prop} {a0 : Value} {a1 : Value} (h : F22 a0 a1 w R) : Calls P 22 #[a0, a1] w R :=
  calls_of_ev bodies mixed (c := bodyOf Tryd.f22) (nt := 76) (rs := [(ResultVar.cell 4 25)]) (args := [a0, a1]) (fn := Tryd.f22) (by kernel_rfl) (by kernel_rfl) (by kernel_rfl) (by kernel_rfl) (by kernel_rfl) (by simp)
    (eq_mp (show F22 a0 a1 w R = ev P C (bodyOf Tryd.f22) (argE [a0, a1]) w (topK P [(ResultVar.cell 4 25)] R) by kernel_rfl) h)

/-! ### moiety/share.room -/
def F39 (a0 : Value) (w : World) (R : Ending → World → Prop) : Prop :=
bindV (pBox P 25 a0 w) fun v1n1 w2 =>
bindV (pAlloc P 88 w2) fun v2n3 w4 =>
bindV (pFieldAddr P 25 v1n1 0 w4) fun v4n5 w6 =>
bindV (pLoad P 3 v4n5 w6) fun v5n7 w8 =>
bindV (pBin P BinOp.eql 3 true v5n7 (Value.int IntKind.i64 3) w8) fun v7n9 w10 =>
condE v7n9 (fun (K11 : KT) =>
bindV (pFieldAddr P 25 v1n1 1 w10) fun v8n12 w13 =>
bindV (pLoad P 2 v8n12 w13) fun v9n14 w15 =>
bindV (pConv P 2 58 v9n14 w15) fun v10n16 w17 =>
bindV (pBin P BinOp.sub 58 true (Value.int IntKind.u64 9223372036854775807) v10n16 w17) fun v11n18 w19 =>
bindV (pFieldAddr P 25 v1n1 1 w19) fun v12n20 w21 =>
bindV (pLoad P 2 v12n20 w21) fun v13n22 w23 =>
bindV (pConv P 2 58 v13n22 w23) fun v14n24 w25 =>
bindV (pBin P BinOp.sub 58 true v14n24 (Value.int IntKind.u64 9223372036854775808) w25) fun v15n26 w27 =>
bindV (pBuild P 88 [(0, v11n18), (1, v15n26)] w27) fun v16n28 w29 =>
bindU (pStore P 88 v2n3 v16n28 w29) fun w30 =>
K11 .ret (Env.put (Env.put (Env.put (Env.put (Env.put (Env.put (Env.put (Env.put (Env.put (Env.put (Env.put (Env.put (Env.put (Env.put (Env.put (Env.put (Env.put (argE [a0]) 1 v1n1) 2 v2n3) 3 (Value.bool false)) 4 v4n5) 5 v5n7) 7 v7n9) 6 v7n9) 8 v8n12) 9 v9n14) 10 v10n16) 11 v11n18) 12 v12n20) 13 v13n22) 14 v14n24) 15 v15n26) 16 v16n28) 3 (Value.bool true)) w30) (fun (K11 : KT) =>
bindV (pBin P BinOp.eql 3 true v5n7 (Value.int IntKind.i64 4) w10) fun v18n31 w32 =>
condE v18n31 (fun (K33 : KT) =>
bindV (pFieldAddr P 25 v1n1 3 w32) fun v19n34 w35 =>
bindV (pLoad P 2 v19n34 w35) fun v20n36 w37 =>
bindV (pFieldAddr P 25 v1n1 1 w37) fun v21n38 w39 =>
bindV (pLoad P 2 v21n38 w39) fun v22n40 w41 =>
bindV (pBin P BinOp.sub 2 false v20n36 v22n40 w41) fun v23n42 w43 =>
bindV (pConv P 2 58 v23n42 w43) fun v24n44 w45 =>
bindV (pFieldAddr P 25 v1n1 1 w45) fun v25n46 w47 =>
bindV (pLoad P 2 v25n46 w47) fun v26n48 w49 =>
bindV (pFieldAddr P 25 v1n1 2 w49) fun v27n50 w51 =>
bindV (pLoad P 2 v27n50 w51) fun v28n52 w53 =>
bindV (pBin P BinOp.sub 2 false v26n48 v28n52 w53) fun v29n54 w55 =>
bindV (pConv P 2 58 v29n54 w55) fun v30n56 w57 =>
bindV (pBuild P 88 [(0, v24n44), (1, v30n56)] w57) fun v31n58 w59 =>
bindU (pStore P 88 v2n3 v31n58 w59) fun w60 =>
K33 .ret (Env.put (Env.put (Env.put (Env.put (Env.put (Env.put (Env.put (Env.put (Env.put (Env.put (Env.put (Env.put (Env.put (Env.put (Env.put (Env.put (Env.put (Env.put (Env.put (Env.put (Env.put (Env.put (Env.put (argE [a0]) 1 v1n1) 2 v2n3) 3 (Value.bool false)) 4 v4n5) 5 v5n7) 7 v7n9) 6 v7n9) 18 v18n31) 17 v18n31) 19 v19n34) 20 v20n36) 21 v21n38) 22 v22n40) 23 v23n42) 24 v24n44) 25 v25n46) 26 v26n48) 27 v27n50) 28 v28n52) 29 v29n54) 30 v30n56) 31 v31n58) 3 (Value.bool true)) w60) (fun (K33 : KT) =>
bindV (pBin P BinOp.eql 3 true v5n7 (Value.int IntKind.i64 8) w32) fun v33n61 w62 =>
condE v33n61 (fun (K63 : KT) =>
bindV (pFieldAddr P 25 v1n1 5 w62) fun v34n64 w65 =>
bindV (pLoad P 3 v34n64 w65) fun v35n66 w67 =>
bindV (pFieldAddr P 25 v1n1 7 w67) fun v36n68 w69 =>
bindV (pLoad P 23 v36n68 w69) fun v37n70 w71 =>
bindV (pBuiltin P Builtin.len #[23] 3 [v37n70] w71) fun v38n72 w73 =>
bindV (pBin P BinOp.sub 3 false v35n66 v38n72 w73) fun v39n74 w75 =>
bindV (pConv P 3 58 v39n74 w75) fun v40n76 w77 =>
bindV (pBuild P 88 [(0, v40n76)] w77) fun v41n78 w79 =>
bindU (pStore P 88 v2n3 v41n78 w79) fun w80 =>
K63 .ret (Env.put (Env.put (Env.put (Env.put (Env.put (Env.put (Env.put (Env.put (Env.put (Env.put (Env.put (Env.put (Env.put (Env.put (Env.put (Env.put (Env.put (Env.put (Env.put (Env.put (argE [a0]) 1 v1n1) 2 v2n3) 3 (Value.bool false)) 4 v4n5) 5 v5n7) 7 v7n9) 6 v7n9) 18 v18n31) 17 v18n31) 33 v33n61) 32 v33n61) 34 v34n64) 35 v35n66) 36 v36n68) 37 v37n70) 38 v38n72) 39 v39n74) 40 v40n76) 41 v41n78) 3 (Value.bool true)) w80) (fun (K63 : KT) =>
K63 .normal (Env.put (Env.put (Env.put (Env.put (Env.put (Env.put (Env.put (Env.put (Env.put (Env.put (Env.put (argE [a0]) 1 v1n1) 2 v2n3) 3 (Value.bool false)) 4 v4n5) 5 v5n7) 7 v7n9) 6 v7n9) 18 v18n31) 17 v18n31) 33 v33n61) 32 v33n61) w62) K33) K11) (blockK 0 (thenK (fun e81 w82 =>
bindV (pBuild P 88 [] w82) fun v42n83 w84 =>
bindU (pStore P 88 (e81 2) v42n83 w84) fun w85 =>
topK P [(ResultVar.cell 2 88), (ResultVar.tmp 3)] R .ret (Env.put (Env.put e81 42 v42n83) 3 (Value.bool false)) w85) (topK P [(ResultVar.cell 2 88), (ResultVar.tmp 3)] R)))
theorem F39ok {w : World} {R : Ending → World → Prop} {a0 : Value} (h : F39 a0 w R) : Calls P 39 #[a0] w R :=
  calls_of_ev bodies mixed (c := bodyOf Tryd.f39) (nt := 43) (rs := [(ResultVar.cell 2 88), (ResultVar.tmp 3)]) (args := [a0]) (fn := Tryd.f39) (by kernel_rfl) (by kernel_rfl) (by kernel_rfl) (by kernel_rfl) (by kernel_rfl) (by simp)
    (eq_mp (show F39 a0 w R = ev P C (bodyOf Tryd.f39) (argE [a0]) w (topK P [(ResultVar.cell 2 88), (ResultVar.tmp 3)] R) by kernel_rfl) h)

/-! ### moiety/share.part -/
def F40 (a0 : Value) (a1 : Value) (a2 : Value) (w : World) (R : Ending → World → Prop) : Prop :=
bindV (pConv P 3 58 a2 w) fun v10n1 w2 =>
bindV (pBin P BinOp.quo 58 false a0 v10n1 w2) fun v11n3 w4 =>
bindV (pConv P 3 58 a1 w4) fun v13n5 w6 =>
bindV (pConv P 3 58 a2 w6) fun v16n7 w8 =>
bindV (pBin P BinOp.rem 58 false a0 v16n7 w8) fun v17n9 w10 =>
bindV (pBin P BinOp.lss 58 false v13n5 v17n9 w10) fun v18n11 w12 =>
condE v18n11 (fun (K13 : KT) =>
bindV (pBin P BinOp.add 58 true v11n3 (Value.int IntKind.u64 1) w12) fun v20n14 w15 =>
K13 .normal (Env.put (Env.put (Env.put (Env.put (Env.put (Env.put (Env.put (Env.put (Env.put (Env.put (Env.put (Env.put (Env.put (Env.put (Env.put (Env.put (argE [a0, a1, a2]) 6 (Value.int IntKind.u64 0)) 8 a0) 9 a2) 10 v10n1) 11 v11n3) 7 v11n3) 12 a1) 13 v13n5) 14 a0) 15 a2) 16 v16n7) 17 v17n9) 18 v18n11) 19 v11n3) 20 v20n14) 7 v20n14) w15) (fun (K13 : KT) =>
K13 .normal (Env.put (Env.put (Env.put (Env.put (Env.put (Env.put (Env.put (Env.put (Env.put (Env.put (Env.put (Env.put (Env.put (argE [a0, a1, a2]) 6 (Value.int IntKind.u64 0)) 8 a0) 9 a2) 10 v10n1) 11 v11n3) 7 v11n3) 12 a1) 13 v13n5) 14 a0) 15 a2) 16 v16n7) 17 v17n9) 18 v18n11) w12) (thenK (fun e16 w17 =>
R (.returned (e16 7)) w17) (topK P [(ResultVar.tmp 6)] R))
theorem F40ok {w : World} {R : Ending → World → Prop} {a0 : Value} {a1 : Value} {a2 : Value} (h : F40 a0 a1 a2 w R) : Calls P 40 #[a0, a1, a2] w R :=
  calls_of_ev bodies mixed (c := bodyOf Tryd.f40) (nt := 22) (rs := [(ResultVar.tmp 6)]) (args := [a0, a1, a2]) (fn := Tryd.f40) (by kernel_rfl) (by kernel_rfl) (by kernel_rfl) (by kernel_rfl) (by kernel_rfl) (by simp)
    (eq_mp (show F40 a0 a1 a2 w R = ev P C (bodyOf Tryd.f40) (argE [a0, a1, a2]) w (topK P [(ResultVar.tmp 6)] R) by kernel_rfl) h)

/-! ### math.Inf -/
def F41 (a0 : Value) (w : World) (R : Ending → World → Prop) : Prop :=
bindV (pBin P BinOp.geq 3 true a0 (Value.int IntKind.i64 0) w) fun v5n1 w2 =>
condE v5n1 (fun (K3 : KT) =>
K3 .normal (Env.put (Env.put (Env.put (Env.put (Env.put (argE [a0]) 2 (Value.float FloatKind.f64 0)) 3 (Value.int IntKind.u64 0)) 4 a0) 5 v5n1) 3 (Value.int IntKind.u64 9218868437227405312)) w2) (fun (K3 : KT) =>
K3 .normal (Env.put (Env.put (Env.put (Env.put (Env.put (argE [a0]) 2 (Value.float FloatKind.f64 0)) 3 (Value.int IntKind.u64 0)) 4 a0) 5 v5n1) 3 (Value.int IntKind.u64 18442240474082181120)) w2) (thenK (fun e4 w5 =>
bindV (pExtern P 74 [(e4 3)] w5) fun v7n6 w7 =>
R (.returned v7n6) w7) (topK P [(ResultVar.tmp 2)] R))
theorem F41ok {w : World} {R : Ending → World → Prop} {a0 : Value} (h : F41 a0 w R) : Calls P 41 #[a0] w R :=
  calls_of_ev bodies mixed (c := bodyOf Tryd.f41) (nt := 8) (rs := [(ResultVar.tmp 2)]) (args := [a0]) (fn := Tryd.f41) (by kernel_rfl) (by kernel_rfl) (by kernel_rfl) (by kernel_rfl) (by kernel_rfl) (by simp)
    (eq_mp (show F41 a0 w R = ev P C (bodyOf Tryd.f41) (argE [a0]) w (topK P [(ResultVar.tmp 2)] R) by kernel_rfl) h)

/-! ### (*moiety/share.Escrow).cost -/
def F43B0 (e : Env) (w : World) (K : KT) : Prop :=
bindV (pBin P BinOp.lss 3 false (e 43) (e 42) w) fun v44n77 w78 =>
condE v44n77 (fun (K79 : KT) =>
K79 .normal (Env.put e 44 v44n77) w78) (fun (K79 : KT) =>
K79 (.exit 1) (Env.put e 44 v44n77) w78) (thenK (fun e80 w81 =>
bindV (pIndexAddr P 23 (e80 41) (e80 43) w81) fun v45n82 w83 =>
bindV (pLoad P 80 v45n82 w83) fun v46n84 w85 =>
bindV (pAlloc P 80 w85) fun v6n86 w87 =>
bindU (pStore P 80 v6n86 v46n84 w87) fun w88 =>
bindV (pFieldAddr P 80 v6n86 1 w88) fun v47n89 w90 =>
bindV (pLoad P 9 v47n89 w90) fun v48n91 w92 =>
bindV (pFieldAddr P 27 (e80 3) 4 w92) fun v49n93 w94 =>
bindV (pLoad P 9 v49n93 w94) fun v50n95 w96 =>
bindV (pBin P BinOp.eql 9 false v48n91 v50n95 w96) fun v51n97 w98 =>
condE v51n97 (fun (K99 : KT) =>
bindV (pBuild P 88 [] w98) fun v52n100 w101 =>
bindU (pStore P 88 (e80 4) v52n100 w101) fun w102 =>
K99 .ret (Env.put (Env.put (Env.put (Env.put (Env.put (Env.put (Env.put (Env.put (Env.put e80 45 v45n82) 46 v46n84) 6 v6n86) 47 v47n89) 48 v48n91) 49 v49n93) 50 v50n95) 51 v51n97) 52 v52n100) w102) (fun (K99 : KT) =>
K99 .normal (Env.put (Env.put (Env.put (Env.put (Env.put (Env.put (Env.put (Env.put e80 45 v45n82) 46 v46n84) 6 v6n86) 47 v47n89) 48 v48n91) 49 v49n93) 50 v50n95) 51 v51n97) w98) (blockK 2 (thenK (fun e103 w104 =>
bindV (pBin P BinOp.add 3 true (e103 43) (Value.int IntKind.i64 1) w104) fun v53n105 w106 =>
K .normal (Env.put (Env.put e103 53 v53n105) 43 v53n105) w106) K))) K)
def F43 (a0 : Value) (a1 : Value) (w : World) (R : Ending → World → Prop) : Prop :=
bindV (pBox P 27 a1 w) fun v3n1 w2 =>
bindV (pAlloc P 88 w2) fun v4n3 w4 =>
bindV (pFieldAddr P 27 v3n1 0 w4) fun v7n5 w6 =>
bindV (pLoad P 3 v7n5 w6) fun v8n7 w8 =>
bindV (pBin P BinOp.eql 3 true v8n7 (Value.int IntKind.i64 8) w8) fun v10n9 w10 =>
condE v10n9 (fun (K11 : KT) =>
bindV (pFieldAddr P 27 v3n1 2 w10) fun v11n12 w13 =>
bindV (pLoad P 2 v11n12 w13) fun v12n14 w15 =>
bindV (pBin P BinOp.lss 2 true v12n14 (Value.int IntKind.i64 0) w15) fun v13n16 w17 =>
condE v13n16 (fun (K18 : KT) =>
bindV (pFieldAddr P 27 v3n1 2 w17) fun v14n19 w20 =>
bindV (pLoad P 2 v14n19 w20) fun v15n21 w22 =>
bindV (pConv P 2 58 v15n21 w22) fun v16n23 w24 =>
bindV (pUn P UnOp.neg v16n23 w24) fun v17n25 w26 =>
bindV (pBuild P 88 [(1, v17n25)] w26) fun v18n27 w28 =>
bindU (pStore P 88 v4n3 v18n27 w28) fun w29 =>
K18 .ret (Env.put (Env.put (Env.put (Env.put (Env.put (Env.put (Env.put (Env.put (Env.put (Env.put (Env.put (Env.put (Env.put (Env.put (argE [a0, a1]) 3 v3n1) 4 v4n3) 7 v7n5) 8 v8n7) 10 v10n9) 9 v10n9) 11 v11n12) 12 v12n14) 13 v13n16) 14 v14n19) 15 v15n21) 16 v16n23) 17 v17n25) 18 v18n27) w29) (fun (K18 : KT) =>
K18 .normal (Env.put (Env.put (Env.put (Env.put (Env.put (Env.put (Env.put (Env.put (Env.put (argE [a0, a1]) 3 v3n1) 4 v4n3) 7 v7n5) 8 v8n7) 10 v10n9) 9 v10n9) 11 v11n12) 12 v12n14) 13 v13n16) w17) (thenK (fun e30 w31 =>
bindV (pFieldAddr P 27 (e30 3) 2 w31) fun v19n32 w33 =>
bindV (pLoad P 2 v19n32 w33) fun v20n34 w35 =>
bindV (pConv P 2 58 v20n34 w35) fun v21n36 w37 =>
bindV (pBuild P 88 [(0, v21n36)] w37) fun v22n38 w39 =>
bindU (pStore P 88 (e30 4) v22n38 w39) fun w40 =>
K11 .ret (Env.put (Env.put (Env.put (Env.put e30 19 v19n32) 20 v20n34) 21 v21n36) 22 v22n38) w40) K11)) (fun (K11 : KT) =>
bindV (pBin P BinOp.eql 3 true v8n7 (Value.int IntKind.i64 10) w10) fun v24n41 w42 =>
condE v24n41 (fun (K43 : KT) =>
bindV (pFieldAddr P 27 v3n1 2 w42) fun v25n44 w45 =>
bindV (pLoad P 2 v25n44 w45) fun v26n46 w47 =>
bindV (pConv P 2 58 v26n46 w47) fun v27n48 w49 =>
bindV (pBuild P 88 [(0, v27n48)] w49) fun v28n50 w51 =>
bindU (pStore P 88 v4n3 v28n50 w51) fun w52 =>
K43 .ret (Env.put (Env.put (Env.put (Env.put (Env.put (Env.put (Env.put (Env.put (Env.put (Env.put (Env.put (Env.put (argE [a0, a1]) 3 v3n1) 4 v4n3) 7 v7n5) 8 v8n7) 10 v10n9) 9 v10n9) 24 v24n41) 23 v24n41) 25 v25n44) 26 v26n46) 27 v27n48) 28 v28n50) w52) (fun (K43 : KT) =>
bindV (pBin P BinOp.eql 3 true v8n7 (Value.int IntKind.i64 11) w42) fun v30n53 w54 =>
condE v30n53 (fun (K55 : KT) =>
bindV (pFieldAddr P 27 v3n1 2 w54) fun v31n56 w57 =>
bindV (pLoad P 2 v31n56 w57) fun v32n58 w59 =>
bindV (pConv P 2 58 v32n58 w59) fun v33n60 w61 =>
bindV (pBuild P 88 [(1, v33n60)] w61) fun v34n62 w63 =>
bindU (pStore P 88 v4n3 v34n62 w63) fun w64 =>
K55 .ret (Env.put (Env.put (Env.put (Env.put (Env.put (Env.put (Env.put (Env.put (Env.put (Env.put (Env.put (Env.put (Env.put (Env.put (argE [a0, a1]) 3 v3n1) 4 v4n3) 7 v7n5) 8 v8n7) 10 v10n9) 9 v10n9) 24 v24n41) 23 v24n41) 30 v30n53) 29 v30n53) 31 v31n56) 32 v32n58) 33 v33n60) 34 v34n62) w64) (fun (K55 : KT) =>
bindV (pBin P BinOp.eql 3 true v8n7 (Value.int IntKind.i64 18) w54) fun v36n65 w66 =>
condE v36n65 (fun (K67 : KT) =>
nilE a0 fun v38n68 =>
bindV (pFieldAddr P 86 v38n68 0 w66) fun v39n69 w70 =>
bindV (pFieldAddr P 25 v39n69 7 w70) fun v40n71 w72 =>
bindV (pLoad P 23 v40n71 w72) fun v41n73 w74 =>
bindV (pBuiltin P Builtin.len #[23] 3 [v41n73] w74) fun v42n75 w76 =>
loopE F43B0 (Env.put (Env.put (Env.put (Env.put (Env.put (Env.put (Env.put (Env.put (Env.put (Env.put (Env.put (Env.put (Env.put (Env.put (Env.put (Env.put (Env.put (Env.put (Env.put (argE [a0, a1]) 3 v3n1) 4 v4n3) 7 v7n5) 8 v8n7) 10 v10n9) 9 v10n9) 24 v24n41) 23 v24n41) 30 v30n53) 29 v30n53) 36 v36n65) 35 v36n65) 37 a0) 38 v38n68) 39 v39n69) 40 v40n71) 41 v41n73) 42 v42n75) 43 (Value.int IntKind.i64 0)) w76 (blockK 1 (thenK (fun e107 w108 =>
bindV (pBuild P 88 [(0, (Value.int IntKind.u64 1))] w108) fun v54n109 w110 =>
bindU (pStore P 88 (e107 4) v54n109 w110) fun w111 =>
K67 .ret (Env.put e107 54 v54n109) w111) K67))) (fun (K67 : KT) =>
K67 .normal (Env.put (Env.put (Env.put (Env.put (Env.put (Env.put (Env.put (Env.put (Env.put (Env.put (Env.put (Env.put (argE [a0, a1]) 3 v3n1) 4 v4n3) 7 v7n5) 8 v8n7) 10 v10n9) 9 v10n9) 24 v24n41) 23 v24n41) 30 v30n53) 29 v30n53) 36 v36n65) 35 v36n65) w66) K55) K43) K11) (blockK 0 (thenK (fun e112 w113 =>
bindV (pBuild P 88 [] w113) fun v55n114 w115 =>
bindU (pStore P 88 (e112 4) v55n114 w115) fun w116 =>
topK P [(ResultVar.cell 4 88)] R .ret (Env.put e112 55 v55n114) w116) (topK P [(ResultVar.cell 4 88)] R)))
theorem F43ok {w : World} {R : Ending → World → Prop} {a0 : Value} {a1 : Value} (h : F43 a0 a1 w R) : Calls P 43 #[a0, a1] w R :=
  calls_of_ev bodies mixed (c := bodyOf Tryd.f43) (nt := 56) (rs := [(ResultVar.cell 4 88)]) (args := [a0, a1]) (fn := Tryd.f43) (by kernel_rfl) (by kernel_rfl) (by kernel_rfl) (by kernel_rfl) (by kernel_rfl) (by simp)
    (eq_mp (show F43 a0 a1 w R = ev P C (bodyOf Tryd.f43) (argE [a0, a1]) w (topK P [(ResultVar.cell 4 88)] R) by kernel_rfl) h)

end Go.Proofs.YtieejbkbdfccdaaDoor
