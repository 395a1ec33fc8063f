/- The functions' residual programs, printed by gen.py. -/
import Derived.Test.YticncfkpfpkfoaaBaseD
namespace Go.Proofs.Yticncfkpfpkfoaa
open Go
/-! ### moiety/moietylaw19.RollFront -/
def F15B1 (e : Env) (w : World) (K : KT) : Prop :=
bindV (pBin P BinOp.lss 3 false (e 72) (e 71) w) fun v73n97 w98 =>
condE v73n97 (fun (K99 : KT) =>
K99 .normal (Env.put e 73 v73n97) w98) (fun (K99 : KT) =>
K99 (.exit 2) (Env.put e 73 v73n97) w98) (thenK (fun e100 w101 =>
bindV (pIndexAddr P 67 (e100 70) (e100 72) w101) fun v74n102 w103 =>
bindV (pLoad P 22 v74n102 w103) fun v75n104 w105 =>
callE P 47 #[(e100 10), v75n104] w105 (fun v78n108 w109 =>
bindV (pBin P BinOp.eql 26 true v78n108 (Value.int IntKind.i64 0) w109) fun v79n110 w111 =>
condE v79n110 (fun (K112 : KT) =>
bindV (pBuildSlice P 67 1 [(0, v75n104)] w111) fun v82n113 w114 =>
bindV (pBuiltin P Builtin.append #[67, 67] 67 [(e100 13), v82n113] w114) fun v83n115 w116 =>
K112 .normal (Env.put (Env.put (Env.put (Env.put (Env.put (Env.put (Env.put (Env.put (Env.put (Env.put (Env.put (Env.put e100 74 v74n102) 75 v75n104) 18 v75n104) 76 (e100 10)) 77 v75n104) 78 v78n108) 79 v79n110) 80 (e100 13)) 81 v75n104) 82 v82n113) 83 v83n115) 13 v83n115) w116) (fun (K112 : KT) =>
K112 .normal (Env.put (Env.put (Env.put (Env.put (Env.put (Env.put (Env.put e100 74 v74n102) 75 v75n104) 18 v75n104) 76 (e100 10)) 77 v75n104) 78 v78n108) 79 v79n110) w111) (blockK 3 (thenK (fun e117 w118 =>
bindV (pBin P BinOp.add 3 true (e117 72) (Value.int IntKind.i64 1) w118) fun v84n119 w120 =>
K .normal (Env.put (Env.put e117 84 v84n119) 72 v84n119) w120) K))) (fun c106 w107 => K (.panic c106) (Env.put (Env.put (Env.put (Env.put (Env.put e100 74 v74n102) 75 v75n104) 18 v75n104) 76 (e100 10)) 77 v75n104) w107)) K)
def F15B0 (e : Env) (w : World) (K : KT) : Prop :=
bindV (pBin P BinOp.lss 3 false (e 53) (e 52) w) fun v54n63 w64 =>
condE v54n63 (fun (K65 : KT) =>
K65 .normal (Env.put e 54 v54n63) w64) (fun (K65 : KT) =>
K65 (.exit 0) (Env.put e 54 v54n63) w64) (thenK (fun e66 w67 =>
bindV (pIndexAddr P 67 (e66 51) (e66 53) w67) fun v55n68 w69 =>
bindV (pLoad P 22 v55n68 w69) fun v56n70 w71 =>
callE P 47 #[(e66 10), v56n70] w71 (fun v59n74 w75 =>
bindV (pBin P BinOp.eql 26 true v59n74 (Value.int IntKind.i64 0) w75) fun v60n76 w77 =>
condE v60n76 (fun (K78 : KT) =>
bindV (pBuildSlice P 67 1 [(0, v56n70)] w77) fun v63n79 w80 =>
bindV (pBuiltin P Builtin.append #[67, 67] 67 [(e66 13), v63n79] w80) fun v64n81 w82 =>
K78 .normal (Env.put (Env.put (Env.put (Env.put (Env.put (Env.put (Env.put (Env.put (Env.put (Env.put (Env.put (Env.put e66 55 v55n68) 56 v56n70) 15 v56n70) 57 (e66 10)) 58 v56n70) 59 v59n74) 60 v60n76) 61 (e66 13)) 62 v56n70) 63 v63n79) 64 v64n81) 13 v64n81) w82) (fun (K78 : KT) =>
K78 .normal (Env.put (Env.put (Env.put (Env.put (Env.put (Env.put (Env.put e66 55 v55n68) 56 v56n70) 15 v56n70) 57 (e66 10)) 58 v56n70) 59 v59n74) 60 v60n76) w77) (blockK 1 (thenK (fun e83 w84 =>
bindV (pBin P BinOp.add 3 true (e83 53) (Value.int IntKind.i64 1) w84) fun v65n85 w86 =>
K .normal (Env.put (Env.put e83 65 v65n85) 53 v65n85) w86) K))) (fun c72 w73 => K (.panic c72) (Env.put (Env.put (Env.put (Env.put (Env.put e66 55 v55n68) 56 v56n70) 15 v56n70) 57 (e66 10)) 58 v56n70) w73)) K)
def F15 (a0 : Value) (a1 : Value) (a2 : Value) (w : World) (R : Ending → World → Prop) : Prop :=
callE P 44 #[] w (fun v26n3 w4 =>
bindV (pUn P UnOp.not v26n3 w4) fun v27n5 w6 =>
condE v27n5 (fun (K7 : KT) =>
K7 .ret (Env.put (Env.put (Env.put (Env.put (argE [a0, a1, a2]) 6 (Value.bool false)) 26 v26n3) 27 v27n5) 6 (Value.bool false)) w6) (fun (K7 : KT) =>
K7 .normal (Env.put (Env.put (Env.put (argE [a0, a1, a2]) 6 (Value.bool false)) 26 v26n3) 27 v27n5) w6) (thenK (fun e8 w9 =>
callE P 54 #[(e8 0)] w9 (fun v29n12 w13 =>
grdE v29n12 false (fun (k14 : Value → World → Prop) => k14 (e8 1) w13) (fun v31n15 w16 =>
grdE v29n12 false (fun (k17 : Value → World → Prop) => callE P 54 #[v31n15] w16 k17 (fun c18 w19 => R (.panicked c18) w19)) (fun v32n20 w21 =>
pickE v29n12 (Value.bool true) v32n20 fun v33n22 =>
grdE v33n22 false (fun (k23 : Value → World → Prop) => k23 (e8 2) w21) (fun v35n24 w25 =>
grdE v33n22 false (fun (k26 : Value → World → Prop) => bindV (pBuiltin P Builtin.len #[43] 3 [v35n24] w25) k26) (fun v36n27 w28 =>
grdE v33n22 false (fun (k29 : Value → World → Prop) => bindV (pBin P BinOp.gtr 3 true v36n27 (Value.int IntKind.i64 200) w28) k29) (fun v37n30 w31 =>
pickE v33n22 (Value.bool true) v37n30 fun v38n32 =>
condE v38n32 (fun (K33 : KT) =>
K33 .ret (Env.put (Env.put (Env.put (Env.put (Env.put (Env.put (Env.put (Env.put (Env.put (Env.put (Env.put (Env.put e8 28 (e8 0)) 29 v29n12) 30 v29n12) 31 v31n15) 32 v32n20) 33 v33n22) 34 v33n22) 35 v35n24) 36 v36n27) 37 v37n30) 38 v38n32) 6 (Value.bool true)) w31) (fun (K33 : KT) =>
K33 .normal (Env.put (Env.put (Env.put (Env.put (Env.put (Env.put (Env.put (Env.put (Env.put (Env.put (Env.put e8 28 (e8 0)) 29 v29n12) 30 v29n12) 31 v31n15) 32 v32n20) 33 v33n22) 34 v33n22) 35 v35n24) 36 v36n27) 37 v37n30) 38 v38n32) w31) (thenK (fun e34 w35 =>
callE P 27 #[(Value.int IntKind.i64 300)] w35 (fun v40n38 w39 =>
bindV (pExtract P v40n38 0 w39) fun v41n40 w41 =>
bindV (pExtract P v40n38 1 w41) fun v42n42 w43 =>
bindV (pBuild P 65 [(0, (Value.int IntKind.i64 7)), (1, (Value.int IntKind.i64 290))] w43) fun v43n44 w45 =>
bindV (pAlloc P 65 w45) fun v9n46 w47 =>
bindU (pStore P 65 v9n46 v43n44 w47) fun w48 =>
bindV (pLoad P 65 v9n46 w48) fun v46n49 w50 =>
callE P 45 #[v41n40, v46n49] w50 (fun v47n53 w54 =>
bindV (pExtract P v47n53 0 w54) fun v48n55 w56 =>
bindV (pExtract P v47n53 1 w56) fun v49n57 w58 =>
bindV (pExtract P v47n53 2 w58) fun v50n59 w60 =>
bindV (pBuiltin P Builtin.len #[67] 3 [(e34 0)] w60) fun v52n61 w62 =>
loopE F15B0 (Env.put (Env.put (Env.put (Env.put (Env.put (Env.put (Env.put (Env.put (Env.put (Env.put (Env.put (Env.put (Env.put (Env.put (Env.put (Env.put (Env.put (Env.put (Env.put (Env.put (Env.put (Env.put e34 40 v40n38) 39 v40n38) 41 v41n40) 42 v42n42) 7 v41n40) 8 v42n42) 43 v43n44) 9 v9n46) 45 v41n40) 46 v46n49) 47 v47n53) 44 v47n53) 48 v48n55) 49 v49n57) 50 v50n59) 10 v48n55) 11 v49n57) 12 v50n59) 13 (Value.slice none 0 0)) 51 (e34 0)) 52 v52n61) 53 (Value.int IntKind.i64 0)) w62 (blockK 0 (thenK (fun e87 w88 =>
callE P 49 #[(e87 10)] w88 (fun v67n91 w92 =>
bindV (pBuiltin P Builtin.len #[67] 3 [(e87 13)] w92) fun v69n93 w94 =>
bindV (pBuiltin P Builtin.len #[67] 3 [(e87 1)] w94) fun v71n95 w96 =>
loopE F15B1 (Env.put (Env.put (Env.put (Env.put (Env.put (Env.put (Env.put (Env.put e87 66 (e87 10)) 67 v67n91) 68 (e87 13)) 69 v69n93) 16 v69n93) 70 (e87 1)) 71 v71n95) 72 (Value.int IntKind.i64 0)) w96 (blockK 2 (thenK (fun e121 w122 =>
callE P 30 #[(e121 7), (e121 2)] w122 (fun v87n125 w126 =>
bindV (pLoad P 65 (e121 9) w126) fun v90n127 w128 =>
callE P 45 #[(e121 7), v90n127] w128 (fun v91n131 w132 =>
bindV (pExtract P v91n131 0 w132) fun v92n133 w134 =>
bindV (pExtract P v91n131 1 w134) fun v93n135 w136 =>
bindV (pExtract P v91n131 2 w136) fun v94n137 w138 =>
bindV (pBin P BinOp.neq 26 true v94n137 (Value.int IntKind.i64 0) w138) fun v96n139 w140 =>
grdE v96n139 false (fun (k141 : Value → World → Prop) => k141 v92n133 w140) (fun v98n142 w143 =>
grdE v96n139 false (fun (k144 : Value → World → Prop) => bindV (pBin P BinOp.eql 66 true v98n142 (Value.pointer none) w143) k144) (fun v99n145 w146 =>
pickE v96n139 (Value.bool true) v99n145 fun v100n147 =>
grdE v100n147 false (fun (k148 : Value → World → Prop) => k148 v93n135 w146) (fun v102n149 w150 =>
grdE v100n147 false (fun (k151 : Value → World → Prop) => bindV (pBuiltin P Builtin.len #[67] 3 [v102n149] w150) k151) (fun v103n152 w153 =>
grdE v100n147 false (fun (k154 : Value → World → Prop) => k154 (e121 16) w153) (fun v104n155 w156 =>
grdE v100n147 false (fun (k157 : Value → World → Prop) => bindV (pBin P BinOp.lss 3 false v103n152 v104n155 w156) k157) (fun v105n158 w159 =>
pickE v100n147 (Value.bool true) v105n158 fun v106n160 =>
grdE v106n160 false (fun (k161 : Value → World → Prop) => k161 v93n135 w159) (fun v108n162 w163 =>
grdE v106n160 false (fun (k164 : Value → World → Prop) => bindV (pBuiltin P Builtin.len #[67] 3 [v108n162] w163) k164) (fun v109n165 w166 =>
grdE v106n160 false (fun (k167 : Value → World → Prop) => k167 (e121 13) w166) (fun v110n168 w169 =>
grdE v106n160 false (fun (k170 : Value → World → Prop) => bindV (pBuiltin P Builtin.len #[67] 3 [v110n168] w169) k170) (fun v111n171 w172 =>
grdE v106n160 false (fun (k173 : Value → World → Prop) => bindV (pBin P BinOp.gtr 3 false v109n165 v111n171 w172) k173) (fun v112n174 w175 =>
pickE v106n160 (Value.bool true) v112n174 fun v113n176 =>
grdE v113n176 false (fun (k177 : Value → World → Prop) => k177 v93n135 w175) (fun v115n178 w179 =>
grdE v113n176 false (fun (k180 : Value → World → Prop) => k180 (e121 13) w179) (fun v116n181 w182 =>
grdE v113n176 false (fun (k183 : Value → World → Prop) => k183 v93n135 w182) (fun v117n184 w185 =>
grdE v113n176 false (fun (k186 : Value → World → Prop) => bindV (pBuiltin P Builtin.len #[67] 3 [v117n184] w185) k186) (fun v118n187 w188 =>
grdE v113n176 false (fun (k189 : Value → World → Prop) => bindV (pSlice P 67 v116n181 none (some v118n187) none w188) k189) (fun v119n190 w191 =>
grdE v113n176 false (fun (k192 : Value → World → Prop) => callE P 52 #[v115n178, v119n190] w191 k192 (fun c193 w194 => R (.panicked c193) w194)) (fun v120n195 w196 =>
grdE v113n176 false (fun (k197 : Value → World → Prop) => bindV (pUn P UnOp.not v120n195 w196) k197) (fun v121n198 w199 =>
pickE v113n176 (Value.bool true) v121n198 fun v122n200 =>
condE v122n200 (fun (K201 : KT) =>
K201 .ret (Env.put (Env.put (Env.put (Env.put (Env.put (Env.put (Env.put (Env.put (Env.put (Env.put (Env.put (Env.put (Env.put (Env.put (Env.put (Env.put (Env.put (Env.put (Env.put (Env.put (Env.put (Env.put (Env.put (Env.put (Env.put (Env.put (Env.put (Env.put (Env.put (Env.put (Env.put (Env.put (Env.put (Env.put (Env.put (Env.put (Env.put (Env.put (Env.put (Env.put (Env.put (Env.put e121 85 (e121 7)) 86 (e121 2)) 87 v87n125) 89 (e121 7)) 90 v90n127) 91 v91n131) 88 v91n131) 92 v92n133) 93 v93n135) 94 v94n137) 19 v92n133) 20 v93n135) 21 v94n137) 95 v94n137) 96 v96n139) 97 v96n139) 98 v98n142) 99 v99n145) 100 v100n147) 101 v100n147) 102 v102n149) 103 v103n152) 104 v104n155) 105 v105n158) 106 v106n160) 107 v106n160) 108 v108n162) 109 v109n165) 110 v110n168) 111 v111n171) 112 v112n174) 113 v113n176) 114 v113n176) 115 v115n178) 116 v116n181) 117 v117n184) 118 v118n187) 119 v119n190) 120 v120n195) 121 v121n198) 122 v122n200) 6 (Value.bool false)) w199) (fun (K201 : KT) =>
K201 .normal (Env.put (Env.put (Env.put (Env.put (Env.put (Env.put (Env.put (Env.put (Env.put (Env.put (Env.put (Env.put (Env.put (Env.put (Env.put (Env.put (Env.put (Env.put (Env.put (Env.put (Env.put (Env.put (Env.put (Env.put (Env.put (Env.put (Env.put (Env.put (Env.put (Env.put (Env.put (Env.put (Env.put (Env.put (Env.put (Env.put (Env.put (Env.put (Env.put (Env.put (Env.put e121 85 (e121 7)) 86 (e121 2)) 87 v87n125) 89 (e121 7)) 90 v90n127) 91 v91n131) 88 v91n131) 92 v92n133) 93 v93n135) 94 v94n137) 19 v92n133) 20 v93n135) 21 v94n137) 95 v94n137) 96 v96n139) 97 v96n139) 98 v98n142) 99 v99n145) 100 v100n147) 101 v100n147) 102 v102n149) 103 v103n152) 104 v104n155) 105 v105n158) 106 v106n160) 107 v106n160) 108 v108n162) 109 v109n165) 110 v110n168) 111 v111n171) 112 v112n174) 113 v113n176) 114 v113n176) 115 v115n178) 116 v116n181) 117 v117n184) 118 v118n187) 119 v119n190) 120 v120n195) 121 v121n198) 122 v122n200) w199) (thenK (fun e202 w203 =>
bindV (pBuildSlice P 22 4 [(0, (Value.int IntKind.u8 108)), (1, (Value.int IntKind.u8 97)), (2, (Value.int IntKind.u8 115)), (3, (Value.int IntKind.u8 116))] w203) fun v123n204 w205 =>
bindV (pConv P 22 22 v123n204 w205) fun v124n206 w207 =>
callE P 53 #[(e202 19)] w207 (fun v126n210 w211 =>
bindV (pBin P BinOp.eql 3 true v126n210 (Value.int IntKind.i64 0) w211) fun v127n212 w213 =>
condE v127n212 (fun (K214 : KT) =>
K214 .ret (Env.put (Env.put (Env.put (Env.put (Env.put (Env.put (Env.put e202 123 v123n204) 124 v124n206) 22 v124n206) 125 (e202 19)) 126 v126n210) 127 v127n212) 6 (Value.bool true)) w213) (fun (K214 : KT) =>
K214 .normal (Env.put (Env.put (Env.put (Env.put (Env.put (Env.put e202 123 v123n204) 124 v124n206) 22 v124n206) 125 (e202 19)) 126 v126n210) 127 v127n212) w213) (thenK (fun e215 w216 =>
callE P 47 #[(e215 19), (e215 22)] w216 (fun v130n219 w220 =>
bindV (pBin P BinOp.neq 26 true v130n219 (Value.int IntKind.i64 0) w220) fun v131n221 w222 =>
grdE v131n221 false (fun (k223 : Value → World → Prop) => k223 (e215 19) w222) (fun v133n224 w225 =>
grdE v131n221 false (fun (k226 : Value → World → Prop) => callE P 49 #[v133n224] w225 k226 (fun c227 w228 => R (.panicked c227) w228)) (fun v134n229 w230 =>
grdE v131n221 false (fun (k231 : Value → World → Prop) => bindV (pBin P BinOp.neq 26 true v134n229 (Value.int IntKind.i64 0) w230) k231) (fun v135n232 w233 =>
pickE v131n221 (Value.bool true) v135n232 fun v136n234 =>
condE v136n234 (fun (K235 : KT) =>
K235 .ret (Env.put (Env.put (Env.put (Env.put (Env.put (Env.put (Env.put (Env.put (Env.put (Env.put e215 128 (e215 19)) 129 (e215 22)) 130 v130n219) 131 v131n221) 132 v131n221) 133 v133n224) 134 v134n229) 135 v135n232) 136 v136n234) 6 (Value.bool false)) w233) (fun (K235 : KT) =>
K235 .normal (Env.put (Env.put (Env.put (Env.put (Env.put (Env.put (Env.put (Env.put (Env.put e215 128 (e215 19)) 129 (e215 22)) 130 v130n219) 131 v131n221) 132 v131n221) 133 v133n224) 134 v134n229) 135 v135n232) 136 v136n234) w233) (thenK (fun e236 w237 =>
callE P 30 #[(e236 7), (Value.slice none 0 0)] w237 (fun v138n240 w241 =>
bindV (pLoad P 65 (e236 9) w241) fun v141n242 w243 =>
callE P 48 #[(e236 7), v141n242] w243 (fun v142n246 w247 =>
bindV (pExtract P v142n246 0 w247) fun v143n248 w249 =>
bindV (pExtract P v142n246 1 w249) fun v144n250 w251 =>
bindV (pExtract P v142n246 2 w251) fun v145n252 w253 =>
bindV (pBuildSlice P 67 0 [] w253) fun v147n254 w255 =>
bindV (pBuiltin P Builtin.append #[67, 67] 67 [v147n254, (e236 20)] w255) fun v149n256 w257 =>
bindV (pBuildSlice P 67 1 [(0, (e236 22))] w257) fun v151n258 w259 =>
bindV (pBuiltin P Builtin.append #[67, 67] 67 [v149n256, v151n258] w259) fun v152n260 w261 =>
callE P 52 #[v143n248, v152n260] w261 (fun v153n264 w265 =>
R (.returned v153n264) w265) (fun c262 w263 => R (.panicked c262) w263)) (fun c244 w245 => R (.panicked c244) w245)) (fun c238 w239 => R (.panicked c238) w239)) (topK P [(ResultVar.tmp 6)] R))) w230) w225) w222) (fun c217 w218 => R (.panicked c217) w218)) (topK P [(ResultVar.tmp 6)] R))) (fun c208 w209 => R (.panicked c208) w209)) (topK P [(ResultVar.tmp 6)] R))) w196) w191) w188) w185) w182) w179) w175) w172) w169) w166) w163) w159) w156) w153) w150) w146) w143) w140) (fun c129 w130 => R (.panicked c129) w130)) (fun c123 w124 => R (.panicked c123) w124)) (topK P [(ResultVar.tmp 6)] R)))) (fun c89 w90 => R (.panicked c89) w90)) (topK P [(ResultVar.tmp 6)] R)))) (fun c51 w52 => R (.panicked c51) w52)) (fun c36 w37 => R (.panicked c36) w37)) (topK P [(ResultVar.tmp 6)] R))) w28) w25) w21) w16) w13) (fun c10 w11 => R (.panicked c10) w11)) (topK P [(ResultVar.tmp 6)] R))) (fun c1 w2 => R (.panicked c1) w2)
theorem F15ok {w : World} {R : Ending → World → Prop} {a0 : Value} {a1 : Value} {a2 : Value} (h : F15 a0 a1 a2 w R) : Calls P 15 #[a0, a1, a2] w R :=
  calls_of_ev bodies mixed (c := bodyOf Try.f15) (nt := 154) (rs := [(ResultVar.tmp 6)]) (args := [a0, a1, a2]) (fn := Try.f15) (by kernel_rfl) (by kernel_rfl) (by kernel_rfl) (by kernel_rfl) (by kernel_rfl) (by simp)
    (eq_mp (show F15 a0 a1 a2 w R = ev P C (bodyOf Try.f15) (argE [a0, a1, a2]) w (topK P [(ResultVar.tmp 6)] R) by kernel_rfl) h)

end Go.Proofs.Yticncfkpfpkfoaa
