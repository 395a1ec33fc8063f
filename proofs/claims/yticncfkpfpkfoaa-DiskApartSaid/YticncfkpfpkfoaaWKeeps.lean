/- The functions' residual programs, printed by gen.py. -/
import Derived.Test.YticncfkpfpkfoaaBase
namespace Go.Proofs.Yticncfkpfpkfoaa
open Go
/-! ### moiety/moietylaw17.DiskKeeps -/
def F6B3 (e : Env) (w : World) (K : KT) : Prop :=
bindV (pBin P BinOp.lss 3 true (e 98) (Value.int IntKind.i64 8) w) fun v99n204 w205 =>
condE v99n204 (fun (K206 : KT) =>
K206 .normal (Env.put e 99 v99n204) w205) (fun (K206 : KT) =>
K206 (.exit 6) (Env.put e 99 v99n204) w205) (thenK (fun e207 w208 =>
callE P 31 #[(e207 7), (e207 98)] w208 (fun v104n211 w212 =>
bindV (pExtract P v104n211 0 w212) fun v105n213 w214 =>
bindV (pExtract P v104n211 1 w214) fun v106n215 w216 =>
bindV (pAlloc P 25 w216) fun v17n217 w218 =>
bindU (pStore P 25 v17n217 v105n213 w218) fun w219 =>
takeE (fun w222 => some (v106n215, w222)) (drew w219) fun v107n220 h221 =>
takeE (fun w225 => pBin P BinOp.neq 26 true v107n220 (Value.int IntKind.i64 0) w225) (drew w219) fun v108n223 h224 =>
takeE (fun w228 => some (v108n223, w228)) (drew w219) fun v109n226 h227 =>
takeE (fun w231 => qGrd v109n226 false (fun w231 => some ((e207 98), w231)) w231) (drew w219) fun v110n229 h230 =>
takeE (fun w234 => qGrd v109n226 false (fun w234 => pIndexAddr P 49 (e207 13) v110n229 w234) w234) (drew w219) fun v111n232 h233 =>
takeE (fun w237 => qGrd v109n226 false (fun w237 => pLoad P 4 v111n232 w237) w237) (drew w219) fun v112n235 h236 =>
takeE (fun w240 => qGrd v109n226 false (fun w240 => pUn P UnOp.not v112n235 w240) w240) (drew w219) fun v113n238 h239 =>
takeE (fun w243 => qGrd v109n226 false (fun w243 => some (v113n238, w243)) w243) (drew w219) fun v114n241 h242 =>
takeE (fun w246 => qGrd v114n241 true (fun w246 => pLoad P 25 v17n217 w246) w246) (drew w219) fun v115n244 h245 =>
takeE (fun w249 => qGrd v114n241 true (fun w249 => some ((e207 98), w249)) w249) (drew w219) fun v116n247 h248 =>
takeE (fun w252 => qGrd v114n241 true (fun w252 => pIndexAddr P 48 (e207 11) v116n247 w252) w252) (drew w219) fun v117n250 h251 =>
takeE (fun w255 => qGrd v114n241 true (fun w255 => pLoad P 25 v117n250 w255) w255) (drew w219) fun v118n253 h254 =>
takeE (fun w258 => qGrd v114n241 true (fun w258 => pBin P BinOp.neq 25 false v115n244 v118n253 w258) w258) (drew w219) fun v119n256 h257 =>
takeE (fun w261 => qGrd v109n226 false (fun w261 => qPick v114n241 v119n256 (Value.bool false) w261) w261) (drew w219) fun v120n259 h260 =>
takeE (fun w264 => qPick v109n226 (Value.bool true) v120n259 w264) (drew w219) fun v121n262 h263 =>
condE v121n262 (fun (K265 : KT) =>
K265 .ret (Env.put (Env.put (Env.put (Env.put (Env.put (Env.put (Env.put (Env.put (Env.put (Env.put (Env.put (Env.put (Env.put (Env.put (Env.put (Env.put (Env.put (Env.put (Env.put (Env.put (Env.put (Env.put (Env.put (Env.put (Env.put (Env.put e207 100 (e207 98)) 16 (e207 98)) 102 (e207 7)) 103 (e207 98)) 104 v104n211) 101 v104n211) 105 v105n213) 106 v106n215) 17 v17n217) 18 v106n215) 107 v107n220) 108 v108n223) 109 v109n226) 110 v110n229) 111 v111n232) 112 v112n235) 113 v113n238) 114 v114n241) 115 v115n244) 116 v116n247) 117 v117n250) 118 v118n253) 119 v119n256) 120 v120n259) 121 v121n262) 6 (Value.bool false)) (drew w219)) (fun (K265 : KT) =>
K265 .normal (Env.put (Env.put (Env.put (Env.put (Env.put (Env.put (Env.put (Env.put (Env.put (Env.put (Env.put (Env.put (Env.put (Env.put (Env.put (Env.put (Env.put (Env.put (Env.put (Env.put (Env.put (Env.put (Env.put (Env.put (Env.put e207 100 (e207 98)) 16 (e207 98)) 102 (e207 7)) 103 (e207 98)) 104 v104n211) 101 v104n211) 105 v105n213) 106 v106n215) 17 v17n217) 18 v106n215) 107 v107n220) 108 v108n223) 109 v109n226) 110 v110n229) 111 v111n232) 112 v112n235) 113 v113n238) 114 v114n241) 115 v115n244) 116 v116n247) 117 v117n250) 118 v118n253) 119 v119n256) 120 v120n259) 121 v121n262) (drew w219)) (blockK 7 (thenK (fun e266 w267 =>
bindV (pBin P BinOp.add 3 true (e266 98) (Value.int IntKind.i64 1) w267) fun v122n268 w269 =>
K .normal (Env.put (Env.put e266 122 v122n268) 98 v122n268) w269) K))) (fun c209 w210 => K (.panic c209) (Env.put (Env.put (Env.put (Env.put e207 100 (e207 98)) 16 (e207 98)) 102 (e207 7)) 103 (e207 98)) w210)) K)
def F6B2 (e : Env) (w : World) (K : KT) : Prop :=
bindV (pBin P BinOp.lss 3 false (e 69) (e 68) w) fun v70n126 w127 =>
condE v70n126 (fun (K128 : KT) =>
K128 .normal (Env.put e 70 v70n126) w127) (fun (K128 : KT) =>
K128 (.exit 4) (Env.put e 70 v70n126) w127) (thenK (fun e129 w130 =>
bindV (pIndexAddr P 42 (e129 67) (e129 69) w130) fun v71n131 w132 =>
bindV (pLoad P 46 v71n131 w132) fun v72n133 w134 =>
bindV (pAlloc P 46 w134) fun v15n135 w136 =>
bindU (pStore P 46 v15n135 v72n133 w136) fun w137 =>
bindV (pFieldAddr P 46 v15n135 0 w137) fun v73n138 w139 =>
bindV (pLoad P 3 v73n138 w139) fun v74n140 w141 =>
bindV (pBin P BinOp.eql 3 true v74n140 (Value.int IntKind.i64 0) w141) fun v75n142 w143 =>
condE v75n142 (fun (K144 : KT) =>
takeE (fun w147 => some ((e129 7), w147)) (drew w143) fun v76n145 h146 =>
takeE (fun w150 => pFieldAddr P 46 v15n135 1 w150) (drew w143) fun v77n148 h149 =>
takeE (fun w153 => pLoad P 3 v77n148 w153) (drew w143) fun v78n151 h152 =>
takeE (fun w156 => pFieldAddr P 46 v15n135 2 w156) (drew w143) fun v79n154 h155 =>
takeE (fun w159 => pLoad P 5 v79n154 w159) (drew w143) fun v80n157 h158 =>
callE P 33 #[v80n157] (drew w143) (fun v81n163 w164 =>
heldE [h152, h149, h146] w164 (callE P 28 #[v76n145, v78n151, v81n163] w164 (fun v82n168 w169 =>
bindV (pFieldAddr P 46 v15n135 1 w169) fun v83n170 w171 =>
bindV (pLoad P 3 v83n170 w171) fun v84n172 w173 =>
bindV (pBin P BinOp.geq 3 true v84n172 (Value.int IntKind.i64 0) w173) fun v85n174 w175 =>
grdE v85n174 true (fun (k176 : Value → World → Prop) => bindV (pFieldAddr P 46 v15n135 1 w175) k176) (fun v87n177 w178 =>
grdE v85n174 true (fun (k179 : Value → World → Prop) => bindV (pLoad P 3 v87n177 w178) k179) (fun v88n180 w181 =>
grdE v85n174 true (fun (k182 : Value → World → Prop) => bindV (pBin P BinOp.lss 3 true v88n180 (Value.int IntKind.i64 8) w181) k182) (fun v89n183 w184 =>
pickE v85n174 v89n183 (Value.bool false) fun v90n185 =>
condE v90n185 (fun (K186 : KT) =>
bindV (pFieldAddr P 46 v15n135 1 w184) fun v91n187 w188 =>
bindV (pLoad P 3 v91n187 w188) fun v92n189 w190 =>
bindV (pIndexAddr P 49 (e129 13) v92n189 w190) fun v93n191 w192 =>
bindU (pStore P 4 v93n191 (Value.bool true) w192) fun w193 =>
K186 .normal (Env.put (Env.put (Env.put (Env.put (Env.put (Env.put (Env.put (Env.put (Env.put (Env.put (Env.put (Env.put (Env.put (Env.put (Env.put (Env.put (Env.put (Env.put (Env.put (Env.put (Env.put (Env.put (Env.put (Env.put e129 71 v71n131) 72 v72n133) 15 v15n135) 73 v73n138) 74 v74n140) 75 v75n142) 76 v76n145) 77 v77n148) 78 v78n151) 79 v79n154) 80 v80n157) 81 v81n163) 82 v82n168) 83 v83n170) 84 v84n172) 85 v85n174) 86 v85n174) 87 v87n177) 88 v88n180) 89 v89n183) 90 v90n185) 91 v91n187) 92 v92n189) 93 v93n191) w193) (fun (K186 : KT) =>
K186 .normal (Env.put (Env.put (Env.put (Env.put (Env.put (Env.put (Env.put (Env.put (Env.put (Env.put (Env.put (Env.put (Env.put (Env.put (Env.put (Env.put (Env.put (Env.put (Env.put (Env.put (Env.put e129 71 v71n131) 72 v72n133) 15 v15n135) 73 v73n138) 74 v74n140) 75 v75n142) 76 v76n145) 77 v77n148) 78 v78n151) 79 v79n154) 80 v80n157) 81 v81n163) 82 v82n168) 83 v83n170) 84 v84n172) 85 v85n174) 86 v85n174) 87 v87n177) 88 v88n180) 89 v89n183) 90 v90n185) w184) K144) w181) w178) w175) (fun c166 w167 => ∀ (e165 : Env), K144 (.panic c166) e165 w167))) (fun c161 w162 => ∀ (e160 : Env), K144 (.panic c161) e160 w162)) (fun (K144 : KT) =>
K144 .normal (Env.put (Env.put (Env.put (Env.put (Env.put (Env.put e129 71 v71n131) 72 v72n133) 15 v15n135) 73 v73n138) 74 v74n140) 75 v75n142) w143) (blockK 5 (thenK (fun e194 w195 =>
bindV (pBin P BinOp.add 3 true (e194 69) (Value.int IntKind.i64 1) w195) fun v94n196 w197 =>
K .normal (Env.put (Env.put e194 94 v94n196) 69 v94n196) w197) K))) K)
def F6B1 (e : Env) (w : World) (K : KT) : Prop :=
bindV (pBin P BinOp.lss 3 true (e 55) (Value.int IntKind.i64 8) w) fun v56n102 w103 =>
condE v56n102 (fun (K104 : KT) =>
K104 .normal (Env.put e 56 v56n102) w103) (fun (K104 : KT) =>
K104 (.exit 2) (Env.put e 56 v56n102) w103) (thenK (fun e105 w106 =>
callE P 31 #[(e105 7), (e105 55)] w106 (fun v62n109 w110 =>
bindV (pExtract P v62n109 0 w110) fun v63n111 w112 =>
bindV (pExtract P v62n109 1 w112) fun v64n113 w114 =>
bindV (pIndexAddr P 48 (e105 11) (e105 55) w114) fun v65n115 w116 =>
bindU (pStore P 25 v65n115 v63n111 w116) fun w117 =>
bindV (pBin P BinOp.add 3 true (e105 55) (Value.int IntKind.i64 1) w117) fun v66n118 w119 =>
K .normal (Env.put (Env.put (Env.put (Env.put (Env.put (Env.put (Env.put (Env.put (Env.put (Env.put (Env.put (Env.put e105 57 (e105 55)) 12 (e105 55)) 59 (e105 55)) 60 (e105 7)) 61 (e105 55)) 62 v62n109) 58 v62n109) 63 v63n111) 64 v64n113) 65 v65n115) 66 v66n118) 55 v66n118) w119) (fun c107 w108 => K (.panic c107) (Env.put (Env.put (Env.put (Env.put (Env.put e105 57 (e105 55)) 12 (e105 55)) 59 (e105 55)) 60 (e105 7)) 61 (e105 55)) w108)) K)
def F6B0 (e : Env) (w : World) (K : KT) : Prop :=
bindV (pBin P BinOp.lss 3 false (e 38) (e 37) w) fun v39n46 w47 =>
condE v39n46 (fun (K48 : KT) =>
K48 .normal (Env.put e 39 v39n46) w47) (fun (K48 : KT) =>
K48 (.exit 0) (Env.put e 39 v39n46) w47) (thenK (fun e49 w50 =>
bindV (pIndexAddr P 42 (e49 36) (e49 38) w50) fun v40n51 w52 =>
bindV (pLoad P 46 v40n51 w52) fun v41n53 w54 =>
bindV (pAlloc P 46 w54) fun v10n55 w56 =>
bindU (pStore P 46 v10n55 v41n53 w56) fun w57 =>
bindV (pFieldAddr P 46 v10n55 0 w57) fun v42n58 w59 =>
bindV (pLoad P 3 v42n58 w59) fun v43n60 w61 =>
bindV (pBin P BinOp.eql 3 true v43n60 (Value.int IntKind.i64 0) w61) fun v44n62 w63 =>
condE v44n62 (fun (K64 : KT) =>
takeE (fun w67 => some ((e49 7), w67)) (drew w63) fun v45n65 h66 =>
takeE (fun w70 => pFieldAddr P 46 v10n55 1 w70) (drew w63) fun v46n68 h69 =>
takeE (fun w73 => pLoad P 3 v46n68 w73) (drew w63) fun v47n71 h72 =>
takeE (fun w76 => pFieldAddr P 46 v10n55 2 w76) (drew w63) fun v48n74 h75 =>
takeE (fun w79 => pLoad P 5 v48n74 w79) (drew w63) fun v49n77 h78 =>
callE P 33 #[v49n77] (drew w63) (fun v50n83 w84 =>
heldE [h72, h69, h66] w84 (callE P 28 #[v45n65, v47n71, v50n83] w84 (fun v51n88 w89 =>
K64 .normal (Env.put (Env.put (Env.put (Env.put (Env.put (Env.put (Env.put (Env.put (Env.put (Env.put (Env.put (Env.put (Env.put e49 40 v40n51) 41 v41n53) 10 v10n55) 42 v42n58) 43 v43n60) 44 v44n62) 45 v45n65) 46 v46n68) 47 v47n71) 48 v48n74) 49 v49n77) 50 v50n83) 51 v51n88) w89) (fun c86 w87 => ∀ (e85 : Env), K64 (.panic c86) e85 w87))) (fun c81 w82 => ∀ (e80 : Env), K64 (.panic c81) e80 w82)) (fun (K64 : KT) =>
K64 .normal (Env.put (Env.put (Env.put (Env.put (Env.put (Env.put e49 40 v40n51) 41 v41n53) 10 v10n55) 42 v42n58) 43 v43n60) 44 v44n62) w63) (blockK 1 (thenK (fun e90 w91 =>
bindV (pBin P BinOp.add 3 true (e90 38) (Value.int IntKind.i64 1) w91) fun v52n92 w93 =>
K .normal (Env.put (Env.put e90 52 v52n92) 38 v52n92) w93) K))) K)
def F6 (a0 : Value) (a1 : Value) (a2 : Value) (w : World) (R : Ending → World → Prop) : Prop :=
callE P 26 #[] w (fun v19n3 w4 =>
bindV (pUn P UnOp.not v19n3 w4) fun v20n5 w6 =>
condE v20n5 (fun (K7 : KT) =>
K7 .ret (Env.put (Env.put (Env.put (Env.put (argE [a0, a1, a2]) 6 (Value.bool false)) 19 v19n3) 20 v20n5) 6 (Value.bool false)) w6) (fun (K7 : KT) =>
K7 .normal (Env.put (Env.put (Env.put (argE [a0, a1, a2]) 6 (Value.bool false)) 19 v19n3) 20 v20n5) w6) (thenK (fun e8 w9 =>
callE P 32 #[(e8 0)] w9 (fun v22n12 w13 =>
grdE v22n12 false (fun (k14 : Value → World → Prop) => k14 (e8 1) w13) (fun v24n15 w16 =>
grdE v22n12 false (fun (k17 : Value → World → Prop) => callE P 32 #[v24n15] w16 k17 (fun c18 w19 => R (.panicked c18) w19)) (fun v25n20 w21 =>
pickE v22n12 (Value.bool true) v25n20 fun v26n22 =>
grdE v26n22 false (fun (k23 : Value → World → Prop) => k23 (e8 2) w21) (fun v28n24 w25 =>
grdE v26n22 false (fun (k26 : Value → World → Prop) => bindV (pBuiltin P Builtin.len #[43] 3 [v28n24] w25) k26) (fun v29n27 w28 =>
grdE v26n22 false (fun (k29 : Value → World → Prop) => bindV (pBin P BinOp.gtr 3 true v29n27 (Value.int IntKind.i64 100) w28) k29) (fun v30n30 w31 =>
pickE v26n22 (Value.bool true) v30n30 fun v31n32 =>
condE v31n32 (fun (K33 : KT) =>
K33 .ret (Env.put (Env.put (Env.put (Env.put (Env.put (Env.put (Env.put (Env.put (Env.put (Env.put (Env.put (Env.put e8 21 (e8 0)) 22 v22n12) 23 v22n12) 24 v24n15) 25 v25n20) 26 v26n22) 27 v26n22) 28 v28n24) 29 v29n27) 30 v30n30) 31 v31n32) 6 (Value.bool true)) w31) (fun (K33 : KT) =>
K33 .normal (Env.put (Env.put (Env.put (Env.put (Env.put (Env.put (Env.put (Env.put (Env.put (Env.put (Env.put e8 21 (e8 0)) 22 v22n12) 23 v22n12) 24 v24n15) 25 v25n20) 26 v26n22) 27 v26n22) 28 v28n24) 29 v29n27) 30 v30n30) 31 v31n32) w31) (thenK (fun e34 w35 =>
callE P 27 #[(Value.int IntKind.i64 8)] w35 (fun v33n38 w39 =>
bindV (pExtract P v33n38 0 w39) fun v34n40 w41 =>
bindV (pExtract P v33n38 1 w41) fun v35n42 w43 =>
bindV (pBuiltin P Builtin.len #[42] 3 [(e34 0)] w43) fun v37n44 w45 =>
loopE F6B0 (Env.put (Env.put (Env.put (Env.put (Env.put (Env.put (Env.put (Env.put (Env.put e34 33 v33n38) 32 v33n38) 34 v34n40) 35 v35n42) 7 v34n40) 8 v35n42) 36 (e34 0)) 37 v37n44) 38 (Value.int IntKind.i64 0)) w45 (blockK 0 (thenK (fun e94 w95 =>
callE P 29 #[(e94 7)] w95 (fun v54n98 w99 =>
bindV (pAlloc P 48 w99) fun v11n100 w101 =>
loopE F6B1 (Env.put (Env.put (Env.put (Env.put e94 53 (e94 7)) 54 v54n98) 11 v11n100) 55 (Value.int IntKind.i64 0)) w101 (blockK 2 (thenK (fun e120 w121 =>
bindV (pAlloc P 49 w121) fun v13n122 w123 =>
bindV (pBuiltin P Builtin.len #[42] 3 [(e120 1)] w123) fun v68n124 w125 =>
loopE F6B2 (Env.put (Env.put (Env.put (Env.put e120 13 v13n122) 67 (e120 1)) 68 v68n124) 69 (Value.int IntKind.i64 0)) w125 (blockK 4 (thenK (fun e198 w199 =>
callE P 30 #[(e198 7), (e198 2)] w199 (fun v97n202 w203 =>
loopE F6B3 (Env.put (Env.put (Env.put (Env.put e198 95 (e198 7)) 96 (e198 2)) 97 v97n202) 98 (Value.int IntKind.i64 0)) w203 (blockK 6 (thenK (fun e270 w271 =>
callE P 34 #[(e270 7)] w271 (fun v124n274 w275 =>
bindV (pUn P UnOp.not v124n274 w275) fun v125n276 w277 =>
grdE v125n276 true (fun (k278 : Value → World → Prop) => k278 (e270 7) w277) (fun v127n279 w280 =>
grdE v125n276 true (fun (k281 : Value → World → Prop) => callE P 35 #[v127n279] w280 k281 (fun c282 w283 => R (.panicked c282) w283)) (fun v128n284 w285 =>
grdE v125n276 true (fun (k286 : Value → World → Prop) => bindV (pBin P BinOp.eql 3 true v128n284 (Value.int IntKind.i64 0) w285) k286) (fun v129n287 w288 =>
pickE v125n276 v129n287 (Value.bool false) fun v130n289 =>
R (.returned v130n289) w288) w285) w280) w277) (fun c272 w273 => R (.panicked c272) w273)) (topK P [(ResultVar.tmp 6)] R)))) (fun c200 w201 => R (.panicked c200) w201)) (topK P [(ResultVar.tmp 6)] R)))) (topK P [(ResultVar.tmp 6)] R)))) (fun c96 w97 => R (.panicked c96) w97)) (topK P [(ResultVar.tmp 6)] R)))) (fun c36 w37 => R (.panicked c36) w37)) (topK P [(ResultVar.tmp 6)] R))) w28) w25) w21) w16) w13) (fun c10 w11 => R (.panicked c10) w11)) (topK P [(ResultVar.tmp 6)] R))) (fun c1 w2 => R (.panicked c1) w2)
theorem F6ok {w : World} {R : Ending → World → Prop} {a0 : Value} {a1 : Value} {a2 : Value} (h : F6 a0 a1 a2 w R) : Calls P 6 #[a0, a1, a2] w R :=
  calls_of_ev bodies mixed (c := bodyOf Try.f6) (nt := 131) (rs := [(ResultVar.tmp 6)]) (args := [a0, a1, a2]) (fn := Try.f6) (by kernel_rfl) (by kernel_rfl) (by kernel_rfl) (by kernel_rfl) (by kernel_rfl) (by simp)
    (eq_mp (show F6 a0 a1 a2 w R = ev P C (bodyOf Try.f6) (argE [a0, a1, a2]) w (topK P [(ResultVar.tmp 6)] R) by kernel_rfl) h)

/-! ### moiety/moietylaw17.big -/
def F32B0 (e : Env) (w : World) (K : KT) : Prop :=
bindV (pBin P BinOp.lss 3 false (e 10) (e 9) w) fun v11n10 w11 =>
condE v11n10 (fun (K12 : KT) =>
K12 .normal (Env.put e 11 v11n10) w11) (fun (K12 : KT) =>
K12 (.exit 0) (Env.put e 11 v11n10) w11) (thenK (fun e13 w14 =>
bindV (pIndexAddr P 42 (e13 8) (e13 10) w14) fun v12n15 w16 =>
bindV (pLoad P 46 v12n15 w16) fun v13n17 w18 =>
bindV (pAlloc P 46 w18) fun v4n19 w20 =>
bindU (pStore P 46 v4n19 v13n17 w20) fun w21 =>
bindV (pFieldAddr P 46 v4n19 3 w21) fun v14n22 w23 =>
bindV (pLoad P 43 v14n22 w23) fun v15n24 w25 =>
bindV (pBuiltin P Builtin.len #[43] 3 [v15n24] w25) fun v16n26 w27 =>
bindV (pBin P BinOp.gtr 3 true v16n26 (Value.int IntKind.i64 100) w27) fun v17n28 w29 =>
condE v17n28 (fun (K30 : KT) =>
K30 .ret (Env.put (Env.put (Env.put (Env.put (Env.put (Env.put (Env.put (Env.put e13 12 v12n15) 13 v13n17) 4 v4n19) 14 v14n22) 15 v15n24) 16 v16n26) 17 v17n28) 2 (Value.bool true)) w29) (fun (K30 : KT) =>
K30 .normal (Env.put (Env.put (Env.put (Env.put (Env.put (Env.put (Env.put e13 12 v12n15) 13 v13n17) 4 v4n19) 14 v14n22) 15 v15n24) 16 v16n26) 17 v17n28) w29) (blockK 1 (thenK (fun e31 w32 =>
bindV (pBin P BinOp.add 3 true (e31 10) (Value.int IntKind.i64 1) w32) fun v18n33 w34 =>
K .normal (Env.put (Env.put e31 18 v18n33) 10 v18n33) w34) K))) K)
def F32 (a0 : Value) (w : World) (R : Ending → World → Prop) : Prop :=
bindV (pBuiltin P Builtin.len #[42] 3 [a0] w) fun v6n1 w2 =>
bindV (pBin P BinOp.gtr 3 true v6n1 (Value.int IntKind.i64 100) w2) fun v7n3 w4 =>
condE v7n3 (fun (K5 : KT) =>
K5 .ret (Env.put (Env.put (Env.put (Env.put (Env.put (argE [a0]) 2 (Value.bool false)) 5 a0) 6 v6n1) 7 v7n3) 2 (Value.bool true)) w4) (fun (K5 : KT) =>
K5 .normal (Env.put (Env.put (Env.put (Env.put (argE [a0]) 2 (Value.bool false)) 5 a0) 6 v6n1) 7 v7n3) w4) (thenK (fun e6 w7 =>
bindV (pBuiltin P Builtin.len #[42] 3 [(e6 0)] w7) fun v9n8 w9 =>
loopE F32B0 (Env.put (Env.put (Env.put e6 8 (e6 0)) 9 v9n8) 10 (Value.int IntKind.i64 0)) w9 (blockK 0 (thenK (fun e35 w36 =>
R (.returned (Value.bool false)) w36) (topK P [(ResultVar.tmp 2)] R)))) (topK P [(ResultVar.tmp 2)] R))
theorem F32ok {w : World} {R : Ending → World → Prop} {a0 : Value} (h : F32 a0 w R) : Calls P 32 #[a0] w R :=
  calls_of_ev bodies mixed (c := bodyOf Try.f32) (nt := 19) (rs := [(ResultVar.tmp 2)]) (args := [a0]) (fn := Try.f32) (by kernel_rfl) (by kernel_rfl) (by kernel_rfl) (by kernel_rfl) (by kernel_rfl) (by simp)
    (eq_mp (show F32 a0 w R = ev P C (bodyOf Try.f32) (argE [a0]) w (topK P [(ResultVar.tmp 2)] R) by kernel_rfl) h)

/-! ### moiety/moietylaw17.sector -/
def F33B0 (e : Env) (w : World) (K : KT) : Prop :=
bindV (pBin P BinOp.lss 3 true (e 5) (Value.int IntKind.i64 64) w) fun v6n5 w6 =>
condE v6n5 (fun (K7 : KT) =>
K7 .normal (Env.put e 6 v6n5) w6) (fun (K7 : KT) =>
K7 (.exit 0) (Env.put e 6 v6n5) w6) (thenK (fun e8 w9 =>
bindV (pConv P 3 5 (e8 5) w9) fun v11n10 w11 =>
bindV (pBin P BinOp.add 5 false (e8 0) v11n10 w11) fun v12n12 w13 =>
bindV (pIndexAddr P 25 (e8 3) (e8 5) w13) fun v13n14 w15 =>
bindU (pStore P 5 v13n14 v12n12 w15) fun w16 =>
bindV (pBin P BinOp.add 3 true (e8 5) (Value.int IntKind.i64 1) w16) fun v14n17 w18 =>
K .normal (Env.put (Env.put (Env.put (Env.put (Env.put (Env.put (Env.put (Env.put (Env.put (Env.put e8 7 (e8 5)) 4 (e8 5)) 8 (e8 5)) 9 (e8 0)) 10 (e8 5)) 11 v11n10) 12 v12n12) 13 v13n14) 14 v14n17) 5 v14n17) w18) K)
def F33 (a0 : Value) (w : World) (R : Ending → World → Prop) : Prop :=
bindV (pAlloc P 25 w) fun v2n1 w2 =>
bindV (pAlloc P 25 w2) fun v3n3 w4 =>
loopE F33B0 (Env.put (Env.put (Env.put (argE [a0]) 2 v2n1) 3 v3n3) 5 (Value.int IntKind.i64 0)) w4 (blockK 0 (thenK (fun e19 w20 =>
bindV (pLoad P 25 (e19 3) w20) fun v15n21 w22 =>
bindU (pStore P 25 (e19 2) v15n21 w22) fun w23 =>
topK P [(ResultVar.cell 2 25)] R .ret (Env.put e19 15 v15n21) w23) (topK P [(ResultVar.cell 2 25)] R)))
theorem F33ok {w : World} {R : Ending → World → Prop} {a0 : Value} (h : F33 a0 w R) : Calls P 33 #[a0] w R :=
  calls_of_ev bodies mixed (c := bodyOf Try.f33) (nt := 16) (rs := [(ResultVar.cell 2 25)]) (args := [a0]) (fn := Try.f33) (by kernel_rfl) (by kernel_rfl) (by kernel_rfl) (by kernel_rfl) (by kernel_rfl) (by simp)
    (eq_mp (show F33 a0 w R = ev P C (bodyOf Try.f33) (argE [a0]) w (topK P [(ResultVar.cell 2 25)] R) by kernel_rfl) h)

end Go.Proofs.Yticncfkpfpkfoaa
