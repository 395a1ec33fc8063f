/- The functions' residual programs, printed by gen.py. -/
import Derived.Test.YtieejbkbdfccdaaDoorBaseD
set_option linter.unusedVariables false
set_option linter.unusedSimpArgs false
namespace Go.Proofs.YtieejbkbdfccdaaDoor
open Go
/-! ### moiety/moietytop.WholeTraces -/
def F4B4 (e : Env) (w : World) (K : KT) : Prop :=
bindV (pBin P BinOp.lss 3 false (e 180) (e 179) w) fun v181n365 w366 =>
condE v181n365 (fun (K367 : KT) =>
K367 .normal (Env.put e 181 v181n365) w366) (fun (K367 : KT) =>
K367 (.exit 8) (Env.put e 181 v181n365) w366) (thenK (fun e368 w369 =>
takeE (fun w372 => some ((e368 18), w372)) (drew w369) fun v183n370 h371 =>
takeE (fun w375 => some ((e368 180), w375)) (drew w369) fun v184n373 h374 =>
takeE (fun w378 => pIndexAddr P 41 v183n370 v184n373 w378) (drew w369) fun v185n376 h377 =>
takeE (fun w381 => pLoad P 49 v185n376 w381) (drew w369) fun v186n379 h380 =>
takeE (fun w384 => some ((e368 13), w384)) (drew w369) fun v187n382 h383 =>
takeE (fun w387 => some ((e368 180), w387)) (drew w369) fun v188n385 h386 =>
takeE (fun w390 => pIndexAddr P 41 v187n382 v188n385 w390) (drew w369) fun v189n388 h389 =>
takeE (fun w393 => pLoad P 49 v189n388 w393) (drew w369) fun v190n391 h392 =>
callE P 15 #[v186n379, v190n391] (drew w369) (fun v191n397 w398 =>
takeE (fun w401 => pUn P UnOp.not v191n397 w401) w398 fun v192n399 h400 =>
condE v192n399 (fun (K402 : KT) =>
K402 .ret (Env.put (Env.put (Env.put (Env.put (Env.put (Env.put (Env.put (Env.put (Env.put (Env.put (Env.put (Env.put (Env.put e368 182 (e368 180)) 23 (e368 180)) 183 v183n370) 184 v184n373) 185 v185n376) 186 v186n379) 187 v187n382) 188 v188n385) 189 v189n388) 190 v190n391) 191 v191n397) 192 v192n399) 6 (Value.bool false)) w398) (fun (K402 : KT) =>
K402 .normal (Env.put (Env.put (Env.put (Env.put (Env.put (Env.put (Env.put (Env.put (Env.put (Env.put (Env.put (Env.put e368 182 (e368 180)) 23 (e368 180)) 183 v183n370) 184 v184n373) 185 v185n376) 186 v186n379) 187 v187n382) 188 v188n385) 189 v189n388) 190 v190n391) 191 v191n397) 192 v192n399) w398) (blockK 9 (thenK (fun e403 w404 =>
bindV (pBin P BinOp.add 3 true (e403 180) (Value.int IntKind.i64 1) w404) fun v193n405 w406 =>
K .normal (Env.put (Env.put e403 193 v193n405) 180 v193n405) w406) K))) (fun c395 w396 => ∀ (e394 : Env), agreeOff [183, 184, 185, 186, 187, 188, 189, 190] (Env.put (Env.put (Env.put (Env.put (Env.put (Env.put (Env.put (Env.put (Env.put (Env.put e368 182 (e368 180)) 23 (e368 180)) 183 v183n370) 184 v184n373) 185 v185n376) 186 v186n379) 187 v187n382) 188 v188n385) 189 v189n388) 190 v190n391) e394 → K (.panic c395) e394 w396)) K)
def F4B3 (e : Env) (w : World) (K : KT) : Prop :=
bindV (pNext P (e 158) false 0 w) fun v159n318 w319 =>
bindV (pExtract P v159n318 0 w319) fun v160n320 w321 =>
condE v160n320 (fun (K322 : KT) =>
K322 .normal (Env.put (Env.put e 159 v159n318) 160 v160n320) w321) (fun (K322 : KT) =>
K322 (.exit 6) (Env.put (Env.put e 159 v159n318) 160 v160n320) w321) (thenK (fun e323 w324 =>
bindV (pEntry P (e323 158) w324) fun v161n325 w326 =>
bindV (pExtract P v161n325 0 w326) fun v162n327 w328 =>
bindV (pExtract P v161n325 1 w328) fun v163n329 w330 =>
bindV (pAlloc P 25 w330) fun v20n331 w332 =>
bindU (pStore P 25 v20n331 v163n329 w332) fun w333 =>
bindV (pLookup P 40 (e323 17) v162n327 true w333) fun v167n334 w335 =>
bindV (pExtract P v167n334 0 w335) fun v168n336 w337 =>
bindV (pExtract P v167n334 1 w337) fun v169n338 w339 =>
bindV (pAlloc P 25 w339) fun v21n340 w341 =>
bindU (pStore P 25 v21n340 v168n336 w341) fun w342 =>
bindV (pUn P UnOp.not v169n338 w342) fun v171n343 w344 =>
grdE v171n343 false (fun (k345 : Value → World → Prop) => bindV (pLoad P 25 v21n340 w344) k345) (fun v173n346 w347 =>
grdE v171n343 false (fun (k348 : Value → World → Prop) => bindV (pLoad P 25 v20n331 w347) k348) (fun v174n349 w350 =>
grdE v171n343 false (fun (k351 : Value → World → Prop) => callE P 14 #[v173n346, v174n349] w350 k351 (fun c352 w353 => K (.panic c352) (Env.put (Env.put (Env.put (Env.put (Env.put (Env.put (Env.put (Env.put (Env.put (Env.put (Env.put (Env.put (Env.put (Env.put (Env.put (Env.put (Env.put (Env.put e323 161 v161n325) 162 v162n327) 163 v163n329) 20 v20n331) 19 v162n327) 165 (e323 17)) 166 v162n327) 167 v167n334) 164 v167n334) 168 v168n336) 169 v169n338) 21 v21n340) 22 v169n338) 170 v169n338) 171 v171n343) 172 v171n343) 173 v173n346) 174 v174n349) w353)) (fun v175n354 w355 =>
grdE v171n343 false (fun (k356 : Value → World → Prop) => bindV (pUn P UnOp.not v175n354 w355) k356) (fun v176n357 w358 =>
pickE v171n343 (Value.bool true) v176n357 fun v177n359 =>
condE v177n359 (fun (K360 : KT) =>
K360 .ret (Env.put (Env.put (Env.put (Env.put (Env.put (Env.put (Env.put (Env.put (Env.put (Env.put (Env.put (Env.put (Env.put (Env.put (Env.put (Env.put (Env.put (Env.put (Env.put (Env.put (Env.put (Env.put e323 161 v161n325) 162 v162n327) 163 v163n329) 20 v20n331) 19 v162n327) 165 (e323 17)) 166 v162n327) 167 v167n334) 164 v167n334) 168 v168n336) 169 v169n338) 21 v21n340) 22 v169n338) 170 v169n338) 171 v171n343) 172 v171n343) 173 v173n346) 174 v174n349) 175 v175n354) 176 v176n357) 177 v177n359) 6 (Value.bool false)) w358) (fun (K360 : KT) =>
K360 .normal (Env.put (Env.put (Env.put (Env.put (Env.put (Env.put (Env.put (Env.put (Env.put (Env.put (Env.put (Env.put (Env.put (Env.put (Env.put (Env.put (Env.put (Env.put (Env.put (Env.put (Env.put e323 161 v161n325) 162 v162n327) 163 v163n329) 20 v20n331) 19 v162n327) 165 (e323 17)) 166 v162n327) 167 v167n334) 164 v167n334) 168 v168n336) 169 v169n338) 21 v21n340) 22 v169n338) 170 v169n338) 171 v171n343) 172 v171n343) 173 v173n346) 174 v174n349) 175 v175n354) 176 v176n357) 177 v177n359) w358) (blockK 7 K)) w355) w350) w347) w344) K)
def F4B2 (e : Env) (w : World) (K : KT) : Prop :=
bindV (pBin P BinOp.lss 3 false (e 92) (e 91) w) fun v93n155 w156 =>
condE v93n155 (fun (K157 : KT) =>
K157 .normal (Env.put e 93 v93n155) w156) (fun (K157 : KT) =>
K157 (.exit 4) (Env.put e 93 v93n155) w156) (thenK (fun e158 w159 =>
bindV (pIndexAddr P 35 (e158 90) (e158 92) w159) fun v94n160 w161 =>
bindV (pLoad P 3 v94n160 w161) fun v95n162 w163 =>
letK (blockK 5 (thenK (fun e165 w166 =>
bindV (pBin P BinOp.add 3 true (e165 92) (Value.int IntKind.i64 1) w166) fun v144n167 w168 =>
K .normal (Env.put (Env.put e165 144 v144n167) 92 v144n167) w168) K)) fun (K164 : KT) =>
bindV (pBuiltin P Builtin.len #[35] 3 [(e158 9)] w163) fun v97n169 w170 =>
bindV (pBin P BinOp.lss 3 true v97n169 (Value.int IntKind.i64 2) w170) fun v98n171 w172 =>
condE v98n171 (fun (K173 : KT) =>
K173 (.exit 4) (Env.put (Env.put (Env.put (Env.put (Env.put (Env.put e158 94 v94n160) 95 v95n162) 15 v95n162) 96 (e158 9)) 97 v97n169) 98 v98n171) w172) (fun (K173 : KT) =>
K173 .normal (Env.put (Env.put (Env.put (Env.put (Env.put (Env.put e158 94 v94n160) 95 v95n162) 15 v95n162) 96 (e158 9)) 97 v97n169) 98 v98n171) w172) (thenK (fun e174 w175 =>
bindV (pBuiltin P Builtin.len #[35] 3 [(e174 9)] w175) fun v101n176 w177 =>
bindV (pBin P BinOp.sub 3 true v101n176 (Value.int IntKind.i64 1) w177) fun v102n178 w179 =>
bindV (pBin P BinOp.rem 3 false (e174 15) v102n178 w179) fun v103n180 w181 =>
bindV (pBuiltin P Builtin.len #[35] 3 [(e174 9)] w181) fun v105n182 w183 =>
bindV (pBin P BinOp.add 3 false v103n180 v105n182 w183) fun v106n184 w185 =>
bindV (pBin P BinOp.sub 3 true v106n184 (Value.int IntKind.i64 1) w185) fun v107n186 w187 =>
bindV (pBuiltin P Builtin.len #[35] 3 [(e174 9)] w187) fun v109n188 w189 =>
bindV (pBin P BinOp.sub 3 true v109n188 (Value.int IntKind.i64 1) w189) fun v110n190 w191 =>
bindV (pBin P BinOp.rem 3 false v107n186 v110n190 w191) fun v111n192 w193 =>
takeE (fun w196 => some ((e174 1), w196)) (drew w193) fun v112n194 h195 =>
takeE (fun w199 => some ((e174 9), w199)) (drew w193) fun v113n197 h198 =>
takeE (fun w202 => some (v111n192, w202)) (drew w193) fun v114n200 h201 =>
takeE (fun w205 => pIndexAddr P 35 v113n197 v114n200 w205) (drew w193) fun v115n203 h204 =>
takeE (fun w208 => pLoad P 3 v115n203 w208) (drew w193) fun v116n206 h207 =>
takeE (fun w211 => pIndexAddr P 34 v112n194 v116n206 w211) (drew w193) fun v117n209 h210 =>
takeE (fun w214 => pLoad P 27 v117n209 w214) (drew w193) fun v118n212 h213 =>
takeE (fun w217 => some ((e174 1), w217)) (drew w193) fun v119n215 h216 =>
takeE (fun w220 => some ((e174 9), w220)) (drew w193) fun v120n218 h219 =>
takeE (fun w223 => some (v111n192, w223)) (drew w193) fun v121n221 h222 =>
takeE (fun w226 => pBin P BinOp.add 3 true v121n221 (Value.int IntKind.i64 1) w226) (drew w193) fun v122n224 h225 =>
takeE (fun w229 => pIndexAddr P 35 v120n218 v122n224 w229) (drew w193) fun v123n227 h228 =>
takeE (fun w232 => pLoad P 3 v123n227 w232) (drew w193) fun v124n230 h231 =>
takeE (fun w235 => pIndexAddr P 34 v119n215 v124n230 w235) (drew w193) fun v125n233 h234 =>
takeE (fun w238 => pLoad P 27 v125n233 w238) (drew w193) fun v126n236 h237 =>
callE P 11 #[v118n212, v126n236] (drew w193) (fun v127n242 w243 =>
condE v127n242 (fun (K244 : KT) =>
takeE (fun w247 => some ((e174 9), w247)) (drew w243) fun v128n245 h246 =>
takeE (fun w250 => some (v111n192, w250)) (drew w243) fun v129n248 h249 =>
takeE (fun w253 => some ((e174 9), w253)) (drew w243) fun v130n251 h252 =>
takeE (fun w256 => some (v111n192, w256)) (drew w243) fun v131n254 h255 =>
takeE (fun w259 => pBin P BinOp.add 3 true v131n254 (Value.int IntKind.i64 1) w259) (drew w243) fun v132n257 h258 =>
takeE (fun w262 => some ((e174 9), w262)) (drew w243) fun v133n260 h261 =>
takeE (fun w265 => some (v111n192, w265)) (drew w243) fun v134n263 h264 =>
takeE (fun w268 => pBin P BinOp.add 3 true v134n263 (Value.int IntKind.i64 1) w268) (drew w243) fun v135n266 h267 =>
takeE (fun w271 => pIndexAddr P 35 v133n260 v135n266 w271) (drew w243) fun v136n269 h270 =>
takeE (fun w274 => pLoad P 3 v136n269 w274) (drew w243) fun v137n272 h273 =>
takeE (fun w277 => some ((e174 9), w277)) (drew w243) fun v138n275 h276 =>
takeE (fun w280 => some (v111n192, w280)) (drew w243) fun v139n278 h279 =>
takeE (fun w283 => pIndexAddr P 35 v138n275 v139n278 w283) (drew w243) fun v140n281 h282 =>
takeE (fun w286 => pLoad P 3 v140n281 w286) (drew w243) fun v141n284 h285 =>
takeE (fun w289 => pIndexAddr P 35 v128n245 v129n248 w289) (drew w243) fun v142n287 h288 =>
bindU (pStore P 3 v142n287 v137n272 (drew w243)) fun w291 =>
heldE [h258, h255, h252] w291 (takeE (fun w294 => pIndexAddr P 35 v130n251 v132n257 w294) w291 fun v143n292 h293 =>
bindU (pStore P 3 v143n292 v141n284 w291) fun w296 =>
K244 .normal (Env.put (Env.put (Env.put (Env.put (Env.put (Env.put (Env.put (Env.put (Env.put (Env.put (Env.put (Env.put (Env.put (Env.put (Env.put (Env.put (Env.put (Env.put (Env.put (Env.put (Env.put (Env.put (Env.put (Env.put (Env.put (Env.put (Env.put (Env.put (Env.put (Env.put (Env.put (Env.put (Env.put (Env.put (Env.put (Env.put (Env.put (Env.put (Env.put (Env.put (Env.put (Env.put (Env.put (Env.put (Env.put (Env.put e174 99 (e174 15)) 100 (e174 9)) 101 v101n176) 102 v102n178) 103 v103n180) 104 (e174 9)) 105 v105n182) 106 v106n184) 107 v107n186) 108 (e174 9)) 109 v109n188) 110 v110n190) 111 v111n192) 16 v111n192) 112 v112n194) 113 v113n197) 114 v114n200) 115 v115n203) 116 v116n206) 117 v117n209) 118 v118n212) 119 v119n215) 120 v120n218) 121 v121n221) 122 v122n224) 123 v123n227) 124 v124n230) 125 v125n233) 126 v126n236) 127 v127n242) 128 v128n245) 129 v129n248) 130 v130n251) 131 v131n254) 132 v132n257) 133 v133n260) 134 v134n263) 135 v135n266) 136 v136n269) 137 v137n272) 138 v138n275) 139 v139n278) 140 v140n281) 141 v141n284) 142 v142n287) 143 v143n292) w296)) (fun (K244 : KT) =>
K244 .normal (Env.put (Env.put (Env.put (Env.put (Env.put (Env.put (Env.put (Env.put (Env.put (Env.put (Env.put (Env.put (Env.put (Env.put (Env.put (Env.put (Env.put (Env.put (Env.put (Env.put (Env.put (Env.put (Env.put (Env.put (Env.put (Env.put (Env.put (Env.put (Env.put (Env.put e174 99 (e174 15)) 100 (e174 9)) 101 v101n176) 102 v102n178) 103 v103n180) 104 (e174 9)) 105 v105n182) 106 v106n184) 107 v107n186) 108 (e174 9)) 109 v109n188) 110 v110n190) 111 v111n192) 16 v111n192) 112 v112n194) 113 v113n197) 114 v114n200) 115 v115n203) 116 v116n206) 117 v117n209) 118 v118n212) 119 v119n215) 120 v120n218) 121 v121n221) 122 v122n224) 123 v123n227) 124 v124n230) 125 v125n233) 126 v126n236) 127 v127n242) w243) K164) (fun c240 w241 => ∀ (e239 : Env), agreeOff [112, 113, 114, 115, 116, 117, 118, 119, 120, 121, 122, 123, 124, 125, 126] (Env.put (Env.put (Env.put (Env.put (Env.put (Env.put (Env.put (Env.put (Env.put (Env.put (Env.put (Env.put (Env.put (Env.put (Env.put (Env.put (Env.put (Env.put (Env.put (Env.put (Env.put (Env.put (Env.put (Env.put (Env.put (Env.put (Env.put (Env.put (Env.put e174 99 (e174 15)) 100 (e174 9)) 101 v101n176) 102 v102n178) 103 v103n180) 104 (e174 9)) 105 v105n182) 106 v106n184) 107 v107n186) 108 (e174 9)) 109 v109n188) 110 v110n190) 111 v111n192) 16 v111n192) 112 v112n194) 113 v113n197) 114 v114n200) 115 v115n203) 116 v116n206) 117 v117n209) 118 v118n212) 119 v119n215) 120 v120n218) 121 v121n221) 122 v122n224) 123 v123n227) 124 v124n230) 125 v125n233) 126 v126n236) e239 → K164 (.panic c240) e239 w241)) K164)) K)
def F4B1 (e : Env) (w : World) (K : KT) : Prop :=
bindV (pBin P BinOp.lss 3 false (e 65) (e 64) w) fun v66n99 w100 =>
condE v66n99 (fun (K101 : KT) =>
K101 .normal (Env.put e 66 v66n99) w100) (fun (K101 : KT) =>
K101 (.exit 2) (Env.put e 66 v66n99) w100) (thenK (fun e102 w103 =>
bindV (pIndexAddr P 34 (e102 63) (e102 65) w103) fun v68n104 w105 =>
bindV (pLoad P 27 v68n104 w105) fun v69n106 w107 =>
bindV (pAlloc P 27 w107) fun v11n108 w109 =>
bindU (pStore P 27 v11n108 v69n106 w109) fun w110 =>
letK (blockK 3 (thenK (fun e112 w113 =>
bindV (pBin P BinOp.add 3 true (e112 65) (Value.int IntKind.i64 1) w113) fun v82n114 w115 =>
K .normal (Env.put (Env.put e112 82 v82n114) 65 v82n114) w115) K)) fun (K111 : KT) =>
bindV (pLoad P 27 v11n108 w110) fun v70n116 w117 =>
callE P 8 #[v70n116] w117 (fun v71n120 w121 =>
bindV (pBin P BinOp.gtr 3 true v71n120 (Value.int IntKind.i64 0) w121) fun v72n122 w123 =>
grdE v72n122 false (fun (k124 : Value → World → Prop) => bindV (pLoad P 27 v11n108 w123) k124) (fun v74n125 w126 =>
grdE v72n122 false (fun (k127 : Value → World → Prop) => callE P 9 #[v74n125] w126 k127 (fun c128 w129 => K111 (.panic c128) (Env.put (Env.put (Env.put (Env.put (Env.put (Env.put (Env.put (Env.put (Env.put (Env.put e102 67 (e102 65)) 68 v68n104) 69 v69n106) 11 v11n108) 10 (e102 65)) 70 v70n116) 71 v71n120) 72 v72n122) 73 v72n122) 74 v74n125) w129)) (fun v75n130 w131 =>
grdE v72n122 false (fun (k132 : Value → World → Prop) => bindV (pBin P BinOp.neq 3 true v75n130 (Value.int IntKind.i64 0) w131) k132) (fun v76n133 w134 =>
pickE v72n122 (Value.bool true) v76n133 fun v77n135 =>
condE v77n135 (fun (K136 : KT) =>
K136 .ret (Env.put (Env.put (Env.put (Env.put (Env.put (Env.put (Env.put (Env.put (Env.put (Env.put (Env.put (Env.put (Env.put (Env.put e102 67 (e102 65)) 68 v68n104) 69 v69n106) 11 v11n108) 10 (e102 65)) 70 v70n116) 71 v71n120) 72 v72n122) 73 v72n122) 74 v74n125) 75 v75n130) 76 v76n133) 77 v77n135) 6 (Value.bool true)) w134) (fun (K136 : KT) =>
K136 .normal (Env.put (Env.put (Env.put (Env.put (Env.put (Env.put (Env.put (Env.put (Env.put (Env.put (Env.put (Env.put (Env.put e102 67 (e102 65)) 68 v68n104) 69 v69n106) 11 v11n108) 10 (e102 65)) 70 v70n116) 71 v71n120) 72 v72n122) 73 v72n122) 74 v74n125) 75 v75n130) 76 v76n133) 77 v77n135) w134) (thenK (fun e137 w138 =>
bindV (pBuildSlice P 35 1 [(0, (e137 10))] w138) fun v80n139 w140 =>
bindV (pBuiltin P Builtin.append #[35, 35] 35 [(e137 9), v80n139] w140) fun v81n141 w142 =>
K111 .normal (Env.put (Env.put (Env.put (Env.put (Env.put e137 78 (e137 9)) 79 (e137 10)) 80 v80n139) 81 v81n141) 9 v81n141) w142) K111)) w131) w126) w123) (fun c118 w119 => K111 (.panic c118) (Env.put (Env.put (Env.put (Env.put (Env.put (Env.put e102 67 (e102 65)) 68 v68n104) 69 v69n106) 11 v11n108) 10 (e102 65)) 70 v70n116) w119)) K)
def F4B0 (e : Env) (w : World) (K : KT) : Prop :=
bindV (pBin P BinOp.lss 3 false (e 48) (e 47) w) fun v49n55 w56 =>
condE v49n55 (fun (K57 : KT) =>
K57 .normal (Env.put e 49 v49n55) w56) (fun (K57 : KT) =>
K57 (.exit 0) (Env.put e 49 v49n55) w56) (thenK (fun e58 w59 =>
bindV (pIndexAddr P 33 (e58 46) (e58 48) w59) fun v50n60 w61 =>
bindV (pLoad P 37 v50n60 w61) fun v51n62 w63 =>
bindV (pAlloc P 37 w63) fun v8n64 w65 =>
bindU (pStore P 37 v8n64 v51n62 w65) fun w66 =>
bindV (pFieldAddr P 37 v8n64 0 w66) fun v52n67 w68 =>
bindV (pLoad P 9 v52n67 w68) fun v53n69 w70 =>
bindV (pBuiltin P Builtin.len #[9] 3 [v53n69] w70) fun v54n71 w72 =>
bindV (pBin P BinOp.gtr 3 true v54n71 (Value.int IntKind.i64 100) w72) fun v55n73 w74 =>
grdE v55n73 false (fun (k75 : Value → World → Prop) => bindV (pFieldAddr P 37 v8n64 1 w74) k75) (fun v57n76 w77 =>
grdE v55n73 false (fun (k78 : Value → World → Prop) => bindV (pLoad P 25 v57n76 w77) k78) (fun v58n79 w80 =>
grdE v55n73 false (fun (k81 : Value → World → Prop) => callE P 12 #[v58n79] w80 k81 (fun c82 w83 => K (.panic c82) (Env.put (Env.put (Env.put (Env.put (Env.put (Env.put (Env.put (Env.put (Env.put (Env.put e58 50 v50n60) 51 v51n62) 8 v8n64) 52 v52n67) 53 v53n69) 54 v54n71) 55 v55n73) 56 v55n73) 57 v57n76) 58 v58n79) w83)) (fun v59n84 w85 =>
grdE v55n73 false (fun (k86 : Value → World → Prop) => bindV (pBin P BinOp.gtr 3 true v59n84 (Value.int IntKind.i64 0) w85) k86) (fun v60n87 w88 =>
pickE v55n73 (Value.bool true) v60n87 fun v61n89 =>
condE v61n89 (fun (K90 : KT) =>
K90 .ret (Env.put (Env.put (Env.put (Env.put (Env.put (Env.put (Env.put (Env.put (Env.put (Env.put (Env.put (Env.put (Env.put (Env.put e58 50 v50n60) 51 v51n62) 8 v8n64) 52 v52n67) 53 v53n69) 54 v54n71) 55 v55n73) 56 v55n73) 57 v57n76) 58 v58n79) 59 v59n84) 60 v60n87) 61 v61n89) 6 (Value.bool true)) w88) (fun (K90 : KT) =>
K90 .normal (Env.put (Env.put (Env.put (Env.put (Env.put (Env.put (Env.put (Env.put (Env.put (Env.put (Env.put (Env.put (Env.put e58 50 v50n60) 51 v51n62) 8 v8n64) 52 v52n67) 53 v53n69) 54 v54n71) 55 v55n73) 56 v55n73) 57 v57n76) 58 v58n79) 59 v59n84) 60 v60n87) 61 v61n89) w88) (blockK 1 (thenK (fun e91 w92 =>
bindV (pBin P BinOp.add 3 true (e91 48) (Value.int IntKind.i64 1) w92) fun v62n93 w94 =>
K .normal (Env.put (Env.put e91 62 v62n93) 48 v62n93) w94) K))) w85) w80) w77) w74) K)
def F4 (a0 : Value) (a1 : Value) (a2 : Value) (w : World) (R : Ending → World → Prop) : Prop :=
bindV (pBuild P 27 [(0, (Value.int IntKind.i64 7)), (1, (Value.string { data := #[97] }))] w) fun v24n1 w2 =>
bindV (pBuild P 27 [(0, (Value.int IntKind.i64 7)), (1, (Value.string { data := #[97] }))] w2) fun v25n3 w4 =>
callE P 11 #[v24n1, v25n3] w4 (fun v26n7 w8 =>
bindV (pUn P UnOp.not v26n7 w8) fun v27n9 w10 =>
grdE v27n9 false (fun (k11 : Value → World → Prop) => bindV (pBuild P 27 [(0, (Value.int IntKind.i64 5)), (1, (Value.string { data := #[97] }))] w10) k11) (fun v29n12 w13 =>
grdE v27n9 false (fun (k14 : Value → World → Prop) => bindV (pBuild P 27 [(0, (Value.int IntKind.i64 5)), (1, (Value.string { data := #[97] }))] w13) k14) (fun v30n15 w16 =>
grdE v27n9 false (fun (k17 : Value → World → Prop) => callE P 11 #[v29n12, v30n15] w16 k17 (fun c18 w19 => R (.panicked c18) w19)) (fun v31n20 w21 =>
pickE v27n9 (Value.bool true) v31n20 fun v32n22 =>
condE v32n22 (fun (K23 : KT) =>
K23 .ret (Env.put (Env.put (Env.put (Env.put (Env.put (Env.put (Env.put (Env.put (Env.put (Env.put (Env.put (argE [a0, a1, a2]) 6 (Value.bool false)) 24 v24n1) 25 v25n3) 26 v26n7) 27 v27n9) 28 v27n9) 29 v29n12) 30 v30n15) 31 v31n20) 32 v32n22) 6 (Value.bool false)) w21) (fun (K23 : KT) =>
K23 .normal (Env.put (Env.put (Env.put (Env.put (Env.put (Env.put (Env.put (Env.put (Env.put (Env.put (argE [a0, a1, a2]) 6 (Value.bool false)) 24 v24n1) 25 v25n3) 26 v26n7) 27 v27n9) 28 v27n9) 29 v29n12) 30 v30n15) 31 v31n20) 32 v32n22) w21) (thenK (fun e24 w25 =>
bindV (pBuiltin P Builtin.len #[33] 3 [(e24 0)] w25) fun v34n26 w27 =>
bindV (pBin P BinOp.gtr 3 true v34n26 (Value.int IntKind.i64 60) w27) fun v35n28 w29 =>
grdE v35n28 false (fun (k30 : Value → World → Prop) => k30 (e24 1) w29) (fun v37n31 w32 =>
grdE v35n28 false (fun (k33 : Value → World → Prop) => bindV (pBuiltin P Builtin.len #[34] 3 [v37n31] w32) k33) (fun v38n34 w35 =>
grdE v35n28 false (fun (k36 : Value → World → Prop) => bindV (pBin P BinOp.gtr 3 true v38n34 (Value.int IntKind.i64 30) w35) k36) (fun v39n37 w38 =>
pickE v35n28 (Value.bool true) v39n37 fun v40n39 =>
grdE v40n39 false (fun (k40 : Value → World → Prop) => k40 (e24 2) w38) (fun v42n41 w42 =>
grdE v40n39 false (fun (k43 : Value → World → Prop) => bindV (pBuiltin P Builtin.len #[35] 3 [v42n41] w42) k43) (fun v43n44 w45 =>
grdE v40n39 false (fun (k46 : Value → World → Prop) => bindV (pBin P BinOp.gtr 3 true v43n44 (Value.int IntKind.i64 200) w45) k46) (fun v44n47 w48 =>
pickE v40n39 (Value.bool true) v44n47 fun v45n49 =>
condE v45n49 (fun (K50 : KT) =>
K50 .ret (Env.put (Env.put (Env.put (Env.put (Env.put (Env.put (Env.put (Env.put (Env.put (Env.put (Env.put (Env.put (Env.put (Env.put e24 33 (e24 0)) 34 v34n26) 35 v35n28) 36 v35n28) 37 v37n31) 38 v38n34) 39 v39n37) 40 v40n39) 41 v40n39) 42 v42n41) 43 v43n44) 44 v44n47) 45 v45n49) 6 (Value.bool true)) w48) (fun (K50 : KT) =>
K50 .normal (Env.put (Env.put (Env.put (Env.put (Env.put (Env.put (Env.put (Env.put (Env.put (Env.put (Env.put (Env.put (Env.put e24 33 (e24 0)) 34 v34n26) 35 v35n28) 36 v35n28) 37 v37n31) 38 v38n34) 39 v39n37) 40 v40n39) 41 v40n39) 42 v42n41) 43 v43n44) 44 v44n47) 45 v45n49) w48) (thenK (fun e51 w52 =>
bindV (pBuiltin P Builtin.len #[33] 3 [(e51 0)] w52) fun v47n53 w54 =>
loopE F4B0 (Env.put (Env.put (Env.put e51 46 (e51 0)) 47 v47n53) 48 (Value.int IntKind.i64 0)) w54 (blockK 0 (thenK (fun e95 w96 =>
bindV (pBuiltin P Builtin.len #[34] 3 [(e95 1)] w96) fun v64n97 w98 =>
loopE F4B1 (Env.put (Env.put (Env.put (Env.put e95 9 (Value.slice none 0 0)) 63 (e95 1)) 64 v64n97) 65 (Value.int IntKind.i64 0)) w98 (blockK 2 (thenK (fun e143 w144 =>
callE P 13 #[(e143 0), (e143 1), (e143 9)] w144 (fun v87n147 w148 =>
bindV (pExtract P v87n147 0 w148) fun v88n149 w150 =>
bindV (pExtract P v87n147 1 w150) fun v89n151 w152 =>
bindV (pBuiltin P Builtin.len #[35] 3 [(e143 2)] w152) fun v91n153 w154 =>
loopE F4B2 (Env.put (Env.put (Env.put (Env.put (Env.put (Env.put (Env.put (Env.put (Env.put (Env.put (Env.put (Env.put e143 84 (e143 0)) 85 (e143 1)) 86 (e143 9)) 87 v87n147) 83 v87n147) 88 v88n149) 89 v89n151) 12 v88n149) 13 v89n151) 90 (e143 2)) 91 v91n153) 92 (Value.int IntKind.i64 0)) w154 (blockK 4 (thenK (fun e297 w298 =>
callE P 13 #[(e297 0), (e297 1), (e297 9)] w298 (fun v149n301 w302 =>
bindV (pExtract P v149n301 0 w302) fun v150n303 w304 =>
bindV (pExtract P v149n301 1 w304) fun v151n305 w306 =>
bindV (pBuiltin P Builtin.len #[40] 3 [(e297 12)] w306) fun v153n307 w308 =>
bindV (pBuiltin P Builtin.len #[40] 3 [v150n303] w308) fun v155n309 w310 =>
bindV (pBin P BinOp.neq 3 false v153n307 v155n309 w310) fun v156n311 w312 =>
condE v156n311 (fun (K313 : KT) =>
K313 .ret (Env.put (Env.put (Env.put (Env.put (Env.put (Env.put (Env.put (Env.put (Env.put (Env.put (Env.put (Env.put (Env.put (Env.put (Env.put e297 146 (e297 0)) 147 (e297 1)) 148 (e297 9)) 149 v149n301) 145 v149n301) 150 v150n303) 151 v151n305) 17 v150n303) 18 v151n305) 152 (e297 12)) 153 v153n307) 154 v150n303) 155 v155n309) 156 v156n311) 6 (Value.bool false)) w312) (fun (K313 : KT) =>
K313 .normal (Env.put (Env.put (Env.put (Env.put (Env.put (Env.put (Env.put (Env.put (Env.put (Env.put (Env.put (Env.put (Env.put (Env.put e297 146 (e297 0)) 147 (e297 1)) 148 (e297 9)) 149 v149n301) 145 v149n301) 150 v150n303) 151 v151n305) 17 v150n303) 18 v151n305) 152 (e297 12)) 153 v153n307) 154 v150n303) 155 v155n309) 156 v156n311) w312) (thenK (fun e314 w315 =>
bindV (pRange P 40 (e314 12) w315) fun v158n316 w317 =>
loopE F4B3 (Env.put (Env.put e314 157 (e314 12)) 158 v158n316) w317 (blockK 6 (thenK (fun e361 w362 =>
bindV (pBuiltin P Builtin.len #[41] 3 [(e361 18)] w362) fun v179n363 w364 =>
loopE F4B4 (Env.put (Env.put (Env.put e361 178 (e361 18)) 179 v179n363) 180 (Value.int IntKind.i64 0)) w364 (blockK 8 (thenK (fun e407 w408 =>
R (.returned (Value.bool true)) w408) (topK P [(ResultVar.tmp 6)] R)))) (topK P [(ResultVar.tmp 6)] R)))) (topK P [(ResultVar.tmp 6)] R))) (fun c299 w300 => R (.panicked c299) w300)) (topK P [(ResultVar.tmp 6)] R)))) (fun c145 w146 => R (.panicked c145) w146)) (topK P [(ResultVar.tmp 6)] R)))) (topK P [(ResultVar.tmp 6)] R)))) (topK P [(ResultVar.tmp 6)] R))) w45) w42) w38) w35) w32) w29) (topK P [(ResultVar.tmp 6)] R))) w16) w13) w10) (fun c5 w6 => R (.panicked c5) w6)
theorem F4ok {w : World} {R : Ending → World → Prop} {a0 : Value} {a1 : Value} {a2 : Value} (h : F4 a0 a1 a2 w R) : Calls P 4 #[a0, a1, a2] w R :=
  calls_of_ev bodies mixed (c := bodyOf Tryd.f4) (nt := 194) (rs := [(ResultVar.tmp 6)]) (args := [a0, a1, a2]) (fn := Tryd.f4) (by kernel_rfl) (by kernel_rfl) (by kernel_rfl) (by kernel_rfl) (by kernel_rfl) (by simp)
    (eq_mp (show F4 a0 a1 a2 w R = ev P C (bodyOf Tryd.f4) (argE [a0, a1, a2]) w (topK P [(ResultVar.tmp 6)] R) by kernel_rfl) h)

/-! ### moiety/pair.Commute -/
def F11 (a0 : Value) (a1 : Value) (w : World) (R : Ending → World → Prop) : Prop :=
bindV (pBox P 27 a0 w) fun v2n1 w2 =>
bindV (pBox P 27 a1 w2) fun v3n3 w4 =>
bindV (pFieldAddr P 27 v2n1 1 w4) fun v5n5 w6 =>
bindV (pLoad P 9 v5n5 w6) fun v6n7 w8 =>
bindV (pFieldAddr P 27 v3n3 1 w8) fun v7n9 w10 =>
bindV (pLoad P 9 v7n9 w10) fun v8n11 w12 =>
bindV (pBin P BinOp.neq 9 false v6n7 v8n11 w12) fun v9n13 w14 =>
grdE v9n13 false (fun (k15 : Value → World → Prop) => bindV (pFieldAddr P 27 v2n1 0 w14) k15) (fun v11n16 w17 =>
grdE v9n13 false (fun (k18 : Value → World → Prop) => bindV (pLoad P 3 v11n16 w17) k18) (fun v12n19 w20 =>
grdE v9n13 false (fun (k21 : Value → World → Prop) => bindV (pFieldAddr P 27 v3n3 0 w20) k21) (fun v13n22 w23 =>
grdE v9n13 false (fun (k24 : Value → World → Prop) => bindV (pLoad P 3 v13n22 w23) k24) (fun v14n25 w26 =>
grdE v9n13 false (fun (k27 : Value → World → Prop) => callE P 35 #[v12n19, v14n25] w26 k27 (fun c28 w29 => R (.panicked c28) w29)) (fun v15n30 w31 =>
pickE v9n13 (Value.bool true) v15n30 fun v16n32 =>
R (.returned v16n32) w31) w26) w23) w20) w17) w14
theorem F11ok {w : World} {R : Ending → World → Prop} {a0 : Value} {a1 : Value} (h : F11 a0 a1 w R) : Calls P 11 #[a0, a1] w R :=
  calls_of_ev bodies mixed (c := bodyOf Tryd.f11) (nt := 17) (rs := [(ResultVar.tmp 4)]) (args := [a0, a1]) (fn := Tryd.f11) (by kernel_rfl) (by kernel_rfl) (by kernel_rfl) (by kernel_rfl) (by kernel_rfl) (by simp)
    (eq_mp (show F11 a0 a1 w R = ev P C (bodyOf Tryd.f11) (argE [a0, a1]) w (topK P [(ResultVar.tmp 4)] R) by kernel_rfl) h)

/-! ### moiety/moietytop.play -/
def F13B1 (e : Env) (w : World) (K : KT) : Prop :=
bindV (pBin P BinOp.lss 3 false (e 42) (e 41) w) fun v43n62 w63 =>
condE v43n62 (fun (K64 : KT) =>
K64 .normal (Env.put e 43 v43n62) w63) (fun (K64 : KT) =>
K64 (.exit 2) (Env.put e 43 v43n62) w63) (thenK (fun e65 w66 =>
bindV (pIndexAddr P 35 (e65 40) (e65 42) w66) fun v44n67 w68 =>
bindV (pLoad P 3 v44n67 w68) fun v45n69 w70 =>
bindV (pIndexAddr P 34 (e65 1) v45n69 w70) fun v50n71 w72 =>
bindV (pFieldAddr P 27 v50n71 1 w72) fun v51n73 w74 =>
bindV (pLoad P 9 v51n73 w74) fun v52n75 w76 =>
bindV (pLookup P 40 (e65 8) v52n75 true w76) fun v53n77 w78 =>
bindV (pExtract P v53n77 0 w78) fun v54n79 w80 =>
bindV (pExtract P v53n77 1 w80) fun v55n81 w82 =>
bindV (pAlloc P 25 w82) fun v14n83 w84 =>
bindU (pStore P 25 v14n83 v54n79 w84) fun w85 =>
letK (blockK 3 (thenK (fun e87 w88 =>
bindV (pBin P BinOp.add 3 true (e87 42) (Value.int IntKind.i64 1) w88) fun v85n89 w90 =>
K .normal (Env.put (Env.put e87 85 v85n89) 42 v85n89) w90) K)) fun (K86 : KT) =>
drawE (fun (k91 : Env → World → Prop) (kp92 : List PanicEntry → Env → World → Prop) =>
takeE (fun w95 => pLoad P 25 v14n83 w95) (drew w85) fun v57n93 h94 =>
takeE (fun w98 => some (v55n81, w98)) (drew w85) fun v58n96 h97 =>
takeE (fun w101 => some ((e65 1), w101)) (drew w85) fun v59n99 h100 =>
takeE (fun w104 => some (v45n69, w104)) (drew w85) fun v60n102 h103 =>
takeE (fun w107 => pIndexAddr P 34 v59n99 v60n102 w107) (drew w85) fun v61n105 h106 =>
takeE (fun w110 => pLoad P 27 v61n105 w110) (drew w85) fun v62n108 h109 =>
(callE P 37 #[v57n93, v58n96, v62n108] (drew w85) (fun v63n114 w115 =>
takeE (fun w118 => some (v63n114, w118)) w115 fun v56n116 h117 =>
takeE (fun w121 => pExtract P v56n116 0 w121) w115 fun v64n119 h120 =>
takeE (fun w124 => pExtract P v56n116 1 w124) w115 fun v65n122 h123 =>
takeE (fun w127 => pExtract P v56n116 2 w127) w115 fun v66n125 h126 =>
(bindV (pAlloc P 25 w115) fun v16n129 w130 =>
heldE [h126, h123, h120, h117] w130 (bindV (pAlloc P 49 w130) fun v18n132 w133 =>
heldE [h126, h123, h120, h117] w133 (bindU (pStore P 25 v16n129 v64n119 w133) fun w135 =>
heldE [h126, h123] w135 (heldE [h126] w135 (bindU (pStore P 49 v18n132 v66n125 w135) fun w138 =>
k91 (Env.put (Env.put (Env.put (Env.put (Env.put (Env.put (Env.put (Env.put (Env.put (Env.put (Env.put (Env.put (Env.put (Env.put (Env.put (Env.put (Env.put (Env.put (Env.put (Env.put (Env.put (Env.put (Env.put (Env.put (Env.put (Env.put (Env.put (Env.put (Env.put e65 44 v44n67) 45 v45n69) 13 v45n69) 47 (e65 8)) 48 (e65 1)) 49 v45n69) 50 v50n71) 51 v51n73) 52 v52n75) 53 v53n77) 46 v53n77) 54 v54n79) 55 v55n81) 14 v14n83) 15 v55n81) 57 v57n93) 58 v58n96) 59 v59n99) 60 v60n102) 61 v61n105) 62 v62n108) 63 v63n114) 56 v56n116) 64 v64n119) 65 v65n122) 66 v66n125) 16 v16n129) 18 v18n132) 17 v65n122) w138))))) ∧
(bindV (pAlloc P 49 w115) fun v18n140 w141 =>
heldE [h126, h123, h120, h117] w141 (bindV (pAlloc P 25 w141) fun v16n143 w144 =>
heldE [h126, h123, h120, h117] w144 (bindU (pStore P 25 v16n143 v64n119 w144) fun w146 =>
heldE [h126, h123] w146 (heldE [h126] w146 (bindU (pStore P 49 v18n140 v66n125 w146) fun w149 =>
k91 (Env.put (Env.put (Env.put (Env.put (Env.put (Env.put (Env.put (Env.put (Env.put (Env.put (Env.put (Env.put (Env.put (Env.put (Env.put (Env.put (Env.put (Env.put (Env.put (Env.put (Env.put (Env.put (Env.put (Env.put (Env.put (Env.put (Env.put (Env.put (Env.put e65 44 v44n67) 45 v45n69) 13 v45n69) 47 (e65 8)) 48 (e65 1)) 49 v45n69) 50 v50n71) 51 v51n73) 52 v52n75) 53 v53n77) 46 v53n77) 54 v54n79) 55 v55n81) 14 v14n83) 15 v55n81) 57 v57n93) 58 v58n96) 59 v59n99) 60 v60n102) 61 v61n105) 62 v62n108) 63 v63n114) 56 v56n116) 64 v64n119) 65 v65n122) 66 v66n125) 18 v18n140) 16 v16n143) 17 v65n122) w149)))))) (fun c112 w113 => ∀ (e111 : Env), agreeOff [57, 58, 59, 60, 61, 62] (Env.put (Env.put (Env.put (Env.put (Env.put (Env.put (Env.put (Env.put (Env.put (Env.put (Env.put (Env.put (Env.put (Env.put (Env.put (Env.put (Env.put (Env.put (Env.put (Env.put (Env.put e65 44 v44n67) 45 v45n69) 13 v45n69) 47 (e65 8)) 48 (e65 1)) 49 v45n69) 50 v50n71) 51 v51n73) 52 v52n75) 53 v53n77) 46 v53n77) 54 v54n79) 55 v55n81) 14 v14n83) 15 v55n81) 57 v57n93) 58 v58n96) 59 v59n99) 60 v60n102) 61 v61n105) 62 v62n108) e111 → kp92 c112 e111 w113)) ∧
(bindV (pAlloc P 25 (drew w85)) fun v16n151 w152 =>
heldE [h109, h106, h103, h100, h97, h94] w152 ((callE P 37 #[v57n93, v58n96, v62n108] w152 (fun v63n156 w157 =>
takeE (fun w160 => some (v63n156, w160)) w157 fun v56n158 h159 =>
takeE (fun w163 => pExtract P v56n158 0 w163) w157 fun v64n161 h162 =>
takeE (fun w166 => pExtract P v56n158 1 w166) w157 fun v65n164 h165 =>
takeE (fun w169 => pExtract P v56n158 2 w169) w157 fun v66n167 h168 =>
bindV (pAlloc P 49 w157) fun v18n171 w172 =>
heldE [h168, h165, h162, h159] w172 (bindU (pStore P 25 v16n151 v64n161 w172) fun w174 =>
heldE [h168, h165] w174 (heldE [h168] w174 (bindU (pStore P 49 v18n171 v66n167 w174) fun w177 =>
k91 (Env.put (Env.put (Env.put (Env.put (Env.put (Env.put (Env.put (Env.put (Env.put (Env.put (Env.put (Env.put (Env.put (Env.put (Env.put (Env.put (Env.put (Env.put (Env.put (Env.put (Env.put (Env.put (Env.put (Env.put (Env.put (Env.put (Env.put (Env.put (Env.put e65 44 v44n67) 45 v45n69) 13 v45n69) 47 (e65 8)) 48 (e65 1)) 49 v45n69) 50 v50n71) 51 v51n73) 52 v52n75) 53 v53n77) 46 v53n77) 54 v54n79) 55 v55n81) 14 v14n83) 15 v55n81) 57 v57n93) 58 v58n96) 59 v59n99) 60 v60n102) 61 v61n105) 62 v62n108) 16 v16n151) 63 v63n156) 56 v56n158) 64 v64n161) 65 v65n164) 66 v66n167) 18 v18n171) 17 v65n164) w177)))) (fun c154 w155 => ∀ (e153 : Env), agreeOff [57, 58, 59, 60, 61, 62, 16] (Env.put (Env.put (Env.put (Env.put (Env.put (Env.put (Env.put (Env.put (Env.put (Env.put (Env.put (Env.put (Env.put (Env.put (Env.put (Env.put (Env.put (Env.put (Env.put (Env.put (Env.put (Env.put e65 44 v44n67) 45 v45n69) 13 v45n69) 47 (e65 8)) 48 (e65 1)) 49 v45n69) 50 v50n71) 51 v51n73) 52 v52n75) 53 v53n77) 46 v53n77) 54 v54n79) 55 v55n81) 14 v14n83) 15 v55n81) 57 v57n93) 58 v58n96) 59 v59n99) 60 v60n102) 61 v61n105) 62 v62n108) 16 v16n151) e153 → kp92 c154 e153 w155)) ∧
(bindV (pAlloc P 49 w152) fun v18n179 w180 =>
heldE [h109, h106, h103, h100, h97, h94] w180 (callE P 37 #[v57n93, v58n96, v62n108] w180 (fun v63n184 w185 =>
takeE (fun w188 => some (v63n184, w188)) w185 fun v56n186 h187 =>
takeE (fun w191 => pExtract P v56n186 0 w191) w185 fun v64n189 h190 =>
takeE (fun w194 => pExtract P v56n186 1 w194) w185 fun v65n192 h193 =>
takeE (fun w197 => pExtract P v56n186 2 w197) w185 fun v66n195 h196 =>
bindU (pStore P 25 v16n151 v64n189 w185) fun w199 =>
heldE [h196, h193] w199 (heldE [h196] w199 (bindU (pStore P 49 v18n179 v66n195 w199) fun w202 =>
k91 (Env.put (Env.put (Env.put (Env.put (Env.put (Env.put (Env.put (Env.put (Env.put (Env.put (Env.put (Env.put (Env.put (Env.put (Env.put (Env.put (Env.put (Env.put (Env.put (Env.put (Env.put (Env.put (Env.put (Env.put (Env.put (Env.put (Env.put (Env.put (Env.put e65 44 v44n67) 45 v45n69) 13 v45n69) 47 (e65 8)) 48 (e65 1)) 49 v45n69) 50 v50n71) 51 v51n73) 52 v52n75) 53 v53n77) 46 v53n77) 54 v54n79) 55 v55n81) 14 v14n83) 15 v55n81) 57 v57n93) 58 v58n96) 59 v59n99) 60 v60n102) 61 v61n105) 62 v62n108) 16 v16n151) 18 v18n179) 63 v63n184) 56 v56n186) 64 v64n189) 65 v65n192) 66 v66n195) 17 v65n192) w202))) (fun c182 w183 => ∀ (e181 : Env), agreeOff [57, 58, 59, 60, 61, 62, 16, 18] (Env.put (Env.put (Env.put (Env.put (Env.put (Env.put (Env.put (Env.put (Env.put (Env.put (Env.put (Env.put (Env.put (Env.put (Env.put (Env.put (Env.put (Env.put (Env.put (Env.put (Env.put (Env.put (Env.put e65 44 v44n67) 45 v45n69) 13 v45n69) 47 (e65 8)) 48 (e65 1)) 49 v45n69) 50 v50n71) 51 v51n73) 52 v52n75) 53 v53n77) 46 v53n77) 54 v54n79) 55 v55n81) 14 v14n83) 15 v55n81) 57 v57n93) 58 v58n96) 59 v59n99) 60 v60n102) 61 v61n105) 62 v62n108) 16 v16n151) 18 v18n179) e181 → kp92 c182 e181 w183))))) ∧
(bindV (pAlloc P 49 (drew w85)) fun v18n204 w205 =>
heldE [h109, h106, h103, h100, h97, h94] w205 ((callE P 37 #[v57n93, v58n96, v62n108] w205 (fun v63n209 w210 =>
takeE (fun w213 => some (v63n209, w213)) w210 fun v56n211 h212 =>
takeE (fun w216 => pExtract P v56n211 0 w216) w210 fun v64n214 h215 =>
takeE (fun w219 => pExtract P v56n211 1 w219) w210 fun v65n217 h218 =>
takeE (fun w222 => pExtract P v56n211 2 w222) w210 fun v66n220 h221 =>
bindV (pAlloc P 25 w210) fun v16n224 w225 =>
heldE [h221, h218, h215, h212] w225 (bindU (pStore P 25 v16n224 v64n214 w225) fun w227 =>
heldE [h221, h218] w227 (heldE [h221] w227 (bindU (pStore P 49 v18n204 v66n220 w227) fun w230 =>
k91 (Env.put (Env.put (Env.put (Env.put (Env.put (Env.put (Env.put (Env.put (Env.put (Env.put (Env.put (Env.put (Env.put (Env.put (Env.put (Env.put (Env.put (Env.put (Env.put (Env.put (Env.put (Env.put (Env.put (Env.put (Env.put (Env.put (Env.put (Env.put (Env.put e65 44 v44n67) 45 v45n69) 13 v45n69) 47 (e65 8)) 48 (e65 1)) 49 v45n69) 50 v50n71) 51 v51n73) 52 v52n75) 53 v53n77) 46 v53n77) 54 v54n79) 55 v55n81) 14 v14n83) 15 v55n81) 57 v57n93) 58 v58n96) 59 v59n99) 60 v60n102) 61 v61n105) 62 v62n108) 18 v18n204) 63 v63n209) 56 v56n211) 64 v64n214) 65 v65n217) 66 v66n220) 16 v16n224) 17 v65n217) w230)))) (fun c207 w208 => ∀ (e206 : Env), agreeOff [57, 58, 59, 60, 61, 62, 18] (Env.put (Env.put (Env.put (Env.put (Env.put (Env.put (Env.put (Env.put (Env.put (Env.put (Env.put (Env.put (Env.put (Env.put (Env.put (Env.put (Env.put (Env.put (Env.put (Env.put (Env.put (Env.put e65 44 v44n67) 45 v45n69) 13 v45n69) 47 (e65 8)) 48 (e65 1)) 49 v45n69) 50 v50n71) 51 v51n73) 52 v52n75) 53 v53n77) 46 v53n77) 54 v54n79) 55 v55n81) 14 v14n83) 15 v55n81) 57 v57n93) 58 v58n96) 59 v59n99) 60 v60n102) 61 v61n105) 62 v62n108) 18 v18n204) e206 → kp92 c207 e206 w208)) ∧
(bindV (pAlloc P 25 w205) fun v16n232 w233 =>
heldE [h109, h106, h103, h100, h97, h94] w233 (callE P 37 #[v57n93, v58n96, v62n108] w233 (fun v63n237 w238 =>
takeE (fun w241 => some (v63n237, w241)) w238 fun v56n239 h240 =>
takeE (fun w244 => pExtract P v56n239 0 w244) w238 fun v64n242 h243 =>
takeE (fun w247 => pExtract P v56n239 1 w247) w238 fun v65n245 h246 =>
takeE (fun w250 => pExtract P v56n239 2 w250) w238 fun v66n248 h249 =>
bindU (pStore P 25 v16n232 v64n242 w238) fun w252 =>
heldE [h249, h246] w252 (heldE [h249] w252 (bindU (pStore P 49 v18n204 v66n248 w252) fun w255 =>
k91 (Env.put (Env.put (Env.put (Env.put (Env.put (Env.put (Env.put (Env.put (Env.put (Env.put (Env.put (Env.put (Env.put (Env.put (Env.put (Env.put (Env.put (Env.put (Env.put (Env.put (Env.put (Env.put (Env.put (Env.put (Env.put (Env.put (Env.put (Env.put (Env.put e65 44 v44n67) 45 v45n69) 13 v45n69) 47 (e65 8)) 48 (e65 1)) 49 v45n69) 50 v50n71) 51 v51n73) 52 v52n75) 53 v53n77) 46 v53n77) 54 v54n79) 55 v55n81) 14 v14n83) 15 v55n81) 57 v57n93) 58 v58n96) 59 v59n99) 60 v60n102) 61 v61n105) 62 v62n108) 18 v18n204) 16 v16n232) 63 v63n237) 56 v56n239) 64 v64n242) 65 v65n245) 66 v66n248) 17 v65n245) w255))) (fun c235 w236 => ∀ (e234 : Env), agreeOff [57, 58, 59, 60, 61, 62, 16, 18] (Env.put (Env.put (Env.put (Env.put (Env.put (Env.put (Env.put (Env.put (Env.put (Env.put (Env.put (Env.put (Env.put (Env.put (Env.put (Env.put (Env.put (Env.put (Env.put (Env.put (Env.put (Env.put (Env.put e65 44 v44n67) 45 v45n69) 13 v45n69) 47 (e65 8)) 48 (e65 1)) 49 v45n69) 50 v50n71) 51 v51n73) 52 v52n75) 53 v53n77) 46 v53n77) 54 v54n79) 55 v55n81) 14 v14n83) 15 v55n81) 57 v57n93) 58 v58n96) 59 v59n99) 60 v60n102) 61 v61n105) 62 v62n108) 18 v18n204) 16 v16n232) e234 → kp92 c235 e234 w236)))))) (fun e256 w257 =>
bindV (pLoad P 49 (e256 18) w257) fun v69n261 w262 =>
bindV (pIndexAddr P 41 (e256 11) (e256 13) w262) fun v70n263 w264 =>
bindU (pStore P 49 v70n263 v69n261 w264) fun w265 =>
bindV (pIndexAddr P 34 (e256 1) (e256 13) w265) fun v74n266 w267 =>
bindV (pFieldAddr P 27 v74n266 1 w267) fun v75n268 w269 =>
bindV (pLoad P 9 v75n268 w269) fun v76n270 w271 =>
bindV (pBuiltin P Builtin.delete #[40, 9] 0 [(e256 8), v76n270] w271) fun vn272 w273 =>
condE (e256 17) (fun (K274 : KT) =>
takeE (fun w277 => some ((e256 8), w277)) (drew w273) fun v78n275 h276 =>
takeE (fun w280 => some ((e256 1), w280)) (drew w273) fun v79n278 h279 =>
takeE (fun w283 => some ((e256 13), w283)) (drew w273) fun v80n281 h282 =>
takeE (fun w286 => pIndexAddr P 34 v79n278 v80n281 w286) (drew w273) fun v81n284 h285 =>
takeE (fun w289 => pFieldAddr P 27 v81n284 1 w289) (drew w273) fun v82n287 h288 =>
takeE (fun w292 => pLoad P 9 v82n287 w292) (drew w273) fun v83n290 h291 =>
takeE (fun w295 => pLoad P 25 (e256 16) w295) (drew w273) fun v84n293 h294 =>
bindU (pMapUpdate P 40 v78n275 v83n290 v84n293 (drew w273)) fun w297 =>
K274 .normal (Env.put (Env.put (Env.put (Env.put (Env.put (Env.put (Env.put (Env.put (Env.put (Env.put (Env.put (Env.put (Env.put (Env.put (Env.put (Env.put (Env.put (Env.put e256 67 (e256 11)) 68 (e256 13)) 69 v69n261) 70 v70n263) 71 (e256 8)) 72 (e256 1)) 73 (e256 13)) 74 v74n266) 75 v75n268) 76 v76n270) 77 (e256 17)) 78 v78n275) 79 v79n278) 80 v80n281) 81 v81n284) 82 v82n287) 83 v83n290) 84 v84n293) w297) (fun (K274 : KT) =>
K274 .normal (Env.put (Env.put (Env.put (Env.put (Env.put (Env.put (Env.put (Env.put (Env.put (Env.put (Env.put e256 67 (e256 11)) 68 (e256 13)) 69 v69n261) 70 v70n263) 71 (e256 8)) 72 (e256 1)) 73 (e256 13)) 74 v74n266) 75 v75n268) 76 v76n270) 77 (e256 17)) w273) K86) (fun c258 e259 w260 => K86 (.panic c258) e259 w260)) K)
def F13B0 (e : Env) (w : World) (K : KT) : Prop :=
bindV (pBin P BinOp.lss 3 false (e 22) (e 21) w) fun v23n5 w6 =>
condE v23n5 (fun (K7 : KT) =>
K7 .normal (Env.put e 23 v23n5) w6) (fun (K7 : KT) =>
K7 (.exit 0) (Env.put e 23 v23n5) w6) (thenK (fun e8 w9 =>
bindV (pIndexAddr P 33 (e8 20) (e8 22) w9) fun v24n10 w11 =>
bindV (pLoad P 37 v24n10 w11) fun v25n12 w13 =>
bindV (pAlloc P 37 w13) fun v10n14 w15 =>
bindU (pStore P 37 v10n14 v25n12 w15) fun w16 =>
bindV (pFieldAddr P 37 v10n14 1 w16) fun v26n17 w18 =>
bindV (pLoad P 25 v26n17 w18) fun v27n19 w20 =>
callE P 32 #[v27n19] w20 (fun v28n23 w24 =>
bindV (pBin P BinOp.eql 3 true v28n23 (Value.int IntKind.i64 0) w24) fun v29n25 w26 =>
condE v29n25 (fun (K27 : KT) =>
takeE (fun w30 => some ((e8 8), w30)) (drew w26) fun v30n28 h29 =>
takeE (fun w33 => pFieldAddr P 37 v10n14 0 w33) (drew w26) fun v31n31 h32 =>
takeE (fun w36 => pLoad P 9 v31n31 w36) (drew w26) fun v32n34 h35 =>
takeE (fun w39 => pFieldAddr P 37 v10n14 1 w39) (drew w26) fun v33n37 h38 =>
takeE (fun w42 => pLoad P 25 v33n37 w42) (drew w26) fun v34n40 h41 =>
callE P 36 #[v34n40] (drew w26) (fun v35n46 w47 =>
heldE [h35, h32, h29] w47 (bindU (pMapUpdate P 40 v30n28 v32n34 v35n46 w47) fun w49 =>
K27 .normal (Env.put (Env.put (Env.put (Env.put (Env.put (Env.put (Env.put (Env.put (Env.put (Env.put (Env.put (Env.put (Env.put e8 24 v24n10) 25 v25n12) 10 v10n14) 26 v26n17) 27 v27n19) 28 v28n23) 29 v29n25) 30 v30n28) 31 v31n31) 32 v32n34) 33 v33n37) 34 v34n40) 35 v35n46) w49)) (fun c44 w45 => ∀ (e43 : Env), agreeOff [30, 31, 32, 33, 34] (Env.put (Env.put (Env.put (Env.put (Env.put (Env.put (Env.put (Env.put (Env.put (Env.put (Env.put (Env.put e8 24 v24n10) 25 v25n12) 10 v10n14) 26 v26n17) 27 v27n19) 28 v28n23) 29 v29n25) 30 v30n28) 31 v31n31) 32 v32n34) 33 v33n37) 34 v34n40) e43 → K27 (.panic c44) e43 w45)) (fun (K27 : KT) =>
K27 .normal (Env.put (Env.put (Env.put (Env.put (Env.put (Env.put (Env.put e8 24 v24n10) 25 v25n12) 10 v10n14) 26 v26n17) 27 v27n19) 28 v28n23) 29 v29n25) w26) (blockK 1 (thenK (fun e50 w51 =>
bindV (pBin P BinOp.add 3 true (e50 22) (Value.int IntKind.i64 1) w51) fun v36n52 w53 =>
K .normal (Env.put (Env.put e50 36 v36n52) 22 v36n52) w53) K))) (fun c21 w22 => K (.panic c21) (Env.put (Env.put (Env.put (Env.put (Env.put e8 24 v24n10) 25 v25n12) 10 v10n14) 26 v26n17) 27 v27n19) w22)) K)
def F13 (a0 : Value) (a1 : Value) (a2 : Value) (w : World) (R : Ending → World → Prop) : Prop :=
bindV (pMakeMap P 40 none w) fun v19n1 w2 =>
bindV (pBuiltin P Builtin.len #[33] 3 [a0] w2) fun v21n3 w4 =>
loopE F13B0 (Env.put (Env.put (Env.put (Env.put (Env.put (Env.put (Env.put (argE [a0, a1, a2]) 6 (Value.map none)) 7 (Value.slice none 0 0)) 19 v19n1) 8 v19n1) 20 a0) 21 v21n3) 22 (Value.int IntKind.i64 0)) w4 (blockK 0 (thenK (fun e54 w55 =>
bindV (pBuiltin P Builtin.len #[34] 3 [(e54 1)] w55) fun v38n56 w57 =>
bindV (pMake P 41 v38n56 v38n56 w57) fun v39n58 w59 =>
bindV (pBuiltin P Builtin.len #[35] 3 [(e54 2)] w59) fun v41n60 w61 =>
loopE F13B1 (Env.put (Env.put (Env.put (Env.put (Env.put (Env.put (Env.put e54 37 (e54 1)) 38 v38n56) 39 v39n58) 11 v39n58) 40 (e54 2)) 41 v41n60) 42 (Value.int IntKind.i64 0)) w61 (blockK 2 (thenK (fun e298 w299 =>
R (.returned (.tuple #[(e298 8), (e298 11)])) w299) (topK P [(ResultVar.tmp 6), (ResultVar.tmp 7)] R)))) (topK P [(ResultVar.tmp 6), (ResultVar.tmp 7)] R)))
theorem F13ok {w : World} {R : Ending → World → Prop} {a0 : Value} {a1 : Value} {a2 : Value} (h : F13 a0 a1 a2 w R) : Calls P 13 #[a0, a1, a2] w R :=
  calls_of_ev bodies mixed (c := bodyOf Tryd.f13) (nt := 88) (rs := [(ResultVar.tmp 6), (ResultVar.tmp 7)]) (args := [a0, a1, a2]) (fn := Tryd.f13) (by kernel_rfl) (by kernel_rfl) (by kernel_rfl) (by kernel_rfl) (by kernel_rfl) (by simp)
    (eq_mp (show F13 a0 a1 a2 w R = ev P C (bodyOf Tryd.f13) (argE [a0, a1, a2]) w (topK P [(ResultVar.tmp 6), (ResultVar.tmp 7)] R) by kernel_rfl) h)

/-! ### moiety/moietyref05.Same -/
def F15 (a0 : Value) (a1 : Value) (w : World) (R : Ending → World → Prop) : Prop :=
bindV (pBox P 49 a0 w) fun v2n1 w2 =>
bindV (pBox P 49 a1 w2) fun v3n3 w4 =>
bindV (pFieldAddr P 49 v2n1 0 w4) fun v5n5 w6 =>
bindV (pLoad P 47 v5n5 w6) fun v6n7 w8 =>
bindV (pFieldAddr P 49 v3n3 0 w8) fun v7n9 w10 =>
bindV (pLoad P 47 v7n9 w10) fun v8n11 w12 =>
bindV (pBin P BinOp.eql 47 false v6n7 v8n11 w12) fun v9n13 w14 =>
grdE v9n13 true (fun (k15 : Value → World → Prop) => bindV (pFieldAddr P 49 v2n1 1 w14) k15) (fun v11n16 w17 =>
grdE v9n13 true (fun (k18 : Value → World → Prop) => bindV (pLoad P 2 v11n16 w17) k18) (fun v12n19 w20 =>
grdE v9n13 true (fun (k21 : Value → World → Prop) => bindV (pFieldAddr P 49 v3n3 1 w20) k21) (fun v13n22 w23 =>
grdE v9n13 true (fun (k24 : Value → World → Prop) => bindV (pLoad P 2 v13n22 w23) k24) (fun v14n25 w26 =>
grdE v9n13 true (fun (k27 : Value → World → Prop) => bindV (pBin P BinOp.eql 2 false v12n19 v14n25 w26) k27) (fun v15n28 w29 =>
pickE v9n13 v15n28 (Value.bool false) fun v16n30 =>
grdE v16n30 true (fun (k31 : Value → World → Prop) => bindV (pFieldAddr P 49 v2n1 2 w29) k31) (fun v18n32 w33 =>
grdE v16n30 true (fun (k34 : Value → World → Prop) => bindV (pLoad P 25 v18n32 w33) k34) (fun v19n35 w36 =>
grdE v16n30 true (fun (k37 : Value → World → Prop) => bindV (pFieldAddr P 49 v3n3 2 w36) k37) (fun v20n38 w39 =>
grdE v16n30 true (fun (k40 : Value → World → Prop) => bindV (pLoad P 25 v20n38 w39) k40) (fun v21n41 w42 =>
grdE v16n30 true (fun (k43 : Value → World → Prop) => callE P 14 #[v19n35, v21n41] w42 k43 (fun c44 w45 => R (.panicked c44) w45)) (fun v22n46 w47 =>
pickE v16n30 v22n46 (Value.bool false) fun v23n48 =>
R (.returned v23n48) w47) w42) w39) w36) w33) w29) w26) w23) w20) w17) w14
theorem F15ok {w : World} {R : Ending → World → Prop} {a0 : Value} {a1 : Value} (h : F15 a0 a1 w R) : Calls P 15 #[a0, a1] w R :=
  calls_of_ev bodies mixed (c := bodyOf Tryd.f15) (nt := 24) (rs := [(ResultVar.tmp 4)]) (args := [a0, a1]) (fn := Tryd.f15) (by kernel_rfl) (by kernel_rfl) (by kernel_rfl) (by kernel_rfl) (by kernel_rfl) (by simp)
    (eq_mp (show F15 a0 a1 w R = ev P C (bodyOf Tryd.f15) (argE [a0, a1]) w (topK P [(ResultVar.tmp 4)] R) by kernel_rfl) h)

/-! ### moiety/pair.Kinds -/
def F35 (a0 : Value) (a1 : Value) (w : World) (R : Ending → World → Prop) : Prop :=
callE P 69 #[a0] w (fun v7n3 w4 =>
bindV (pBin P BinOp.eql 9 true v7n3 (Value.string { data := #[] }) w4) fun v8n5 w6 =>
grdE v8n5 false (fun (k7 : Value → World → Prop) => k7 a1 w6) (fun v10n8 w9 =>
grdE v8n5 false (fun (k10 : Value → World → Prop) => callE P 69 #[v10n8] w9 k10 (fun c11 w12 => R (.panicked c11) w12)) (fun v11n13 w14 =>
grdE v8n5 false (fun (k15 : Value → World → Prop) => bindV (pBin P BinOp.eql 9 true v11n13 (Value.string { data := #[] }) w14) k15) (fun v12n16 w17 =>
pickE v8n5 (Value.bool true) v12n16 fun v13n18 =>
condE v13n18 (fun (K19 : KT) =>
K19 .ret (Env.put (Env.put (Env.put (Env.put (Env.put (Env.put (Env.put (Env.put (Env.put (Env.put (Env.put (argE [a0, a1]) 4 (Value.bool false)) 6 a0) 7 v7n3) 8 v8n5) 9 v8n5) 10 v10n8) 11 v11n13) 12 v12n16) 13 v13n18) 5 v13n18) 4 (Value.bool false)) w17) (fun (K19 : KT) =>
bindV (pBin P BinOp.leq 3 true a0 (Value.int IntKind.i64 2) w17) fun v16n20 w21 =>
grdE v16n20 false (fun (k22 : Value → World → Prop) => k22 a1 w21) (fun v18n23 w24 =>
grdE v16n20 false (fun (k25 : Value → World → Prop) => bindV (pBin P BinOp.leq 3 true v18n23 (Value.int IntKind.i64 2) w24) k25) (fun v19n26 w27 =>
pickE v16n20 (Value.bool true) v19n26 fun v20n28 =>
condE v20n28 (fun (K29 : KT) =>
K29 .ret (Env.put (Env.put (Env.put (Env.put (Env.put (Env.put (Env.put (Env.put (Env.put (Env.put (Env.put (Env.put (Env.put (Env.put (Env.put (Env.put (Env.put (Env.put (argE [a0, a1]) 4 (Value.bool false)) 6 a0) 7 v7n3) 8 v8n5) 9 v8n5) 10 v10n8) 11 v11n13) 12 v12n16) 13 v13n18) 5 v13n18) 15 a0) 16 v16n20) 17 v16n20) 18 v18n23) 19 v19n26) 20 v20n28) 14 v20n28) 4 (Value.bool false)) w27) (fun (K29 : KT) =>
callE P 70 #[a0] w27 (fun v23n32 w33 =>
grdE v23n32 true (fun (k34 : Value → World → Prop) => k34 a1 w33) (fun v25n35 w36 =>
grdE v23n32 true (fun (k37 : Value → World → Prop) => callE P 70 #[v25n35] w36 k37 (fun c38 w39 => K29 (.panic c38) (Env.put (Env.put (Env.put (Env.put (Env.put (Env.put (Env.put (Env.put (Env.put (Env.put (Env.put (Env.put (Env.put (Env.put (Env.put (Env.put (Env.put (Env.put (Env.put (Env.put (Env.put (argE [a0, a1]) 4 (Value.bool false)) 6 a0) 7 v7n3) 8 v8n5) 9 v8n5) 10 v10n8) 11 v11n13) 12 v12n16) 13 v13n18) 5 v13n18) 15 a0) 16 v16n20) 17 v16n20) 18 v18n23) 19 v19n26) 20 v20n28) 14 v20n28) 22 a0) 23 v23n32) 24 v23n32) 25 v25n35) w39)) (fun v26n40 w41 =>
pickE v23n32 v26n40 (Value.bool false) fun v27n42 =>
grdE v27n42 false (fun (k43 : Value → World → Prop) => k43 a0 w41) (fun v29n44 w45 =>
grdE v27n42 false (fun (k46 : Value → World → Prop) => bindV (pBin P BinOp.eql 3 true v29n44 (Value.int IntKind.i64 3) w45) k46) (fun v30n47 w48 =>
pickE v27n42 (Value.bool true) v30n47 fun v31n49 =>
grdE v31n49 false (fun (k50 : Value → World → Prop) => k50 a1 w48) (fun v33n51 w52 =>
grdE v31n49 false (fun (k53 : Value → World → Prop) => bindV (pBin P BinOp.eql 3 true v33n51 (Value.int IntKind.i64 3) w52) k53) (fun v34n54 w55 =>
pickE v31n49 (Value.bool true) v34n54 fun v35n56 =>
condE v35n56 (fun (K57 : KT) =>
K57 .ret (Env.put (Env.put (Env.put (Env.put (Env.put (Env.put (Env.put (Env.put (Env.put (Env.put (Env.put (Env.put (Env.put (Env.put (Env.put (Env.put (Env.put (Env.put (Env.put (Env.put (Env.put (Env.put (Env.put (Env.put (Env.put (Env.put (Env.put (Env.put (Env.put (Env.put (Env.put (Env.put (Env.put (argE [a0, a1]) 4 (Value.bool false)) 6 a0) 7 v7n3) 8 v8n5) 9 v8n5) 10 v10n8) 11 v11n13) 12 v12n16) 13 v13n18) 5 v13n18) 15 a0) 16 v16n20) 17 v16n20) 18 v18n23) 19 v19n26) 20 v20n28) 14 v20n28) 22 a0) 23 v23n32) 24 v23n32) 25 v25n35) 26 v26n40) 27 v27n42) 28 v27n42) 29 v29n44) 30 v30n47) 31 v31n49) 32 v31n49) 33 v33n51) 34 v34n54) 35 v35n56) 21 v35n56) 4 (Value.bool true)) w55) (fun (K57 : KT) =>
bindV (pBin P BinOp.eql 3 true a0 (Value.int IntKind.i64 4) w55) fun v38n58 w59 =>
grdE v38n58 false (fun (k60 : Value → World → Prop) => k60 a1 w59) (fun v40n61 w62 =>
grdE v38n58 false (fun (k63 : Value → World → Prop) => bindV (pBin P BinOp.eql 3 true v40n61 (Value.int IntKind.i64 4) w62) k63) (fun v41n64 w65 =>
pickE v38n58 (Value.bool true) v41n64 fun v42n66 =>
condE v42n66 (fun (K67 : KT) =>
K67 .ret (Env.put (Env.put (Env.put (Env.put (Env.put (Env.put (Env.put (Env.put (Env.put (Env.put (Env.put (Env.put (Env.put (Env.put (Env.put (Env.put (Env.put (Env.put (Env.put (Env.put (Env.put (Env.put (Env.put (Env.put (Env.put (Env.put (Env.put (Env.put (Env.put (Env.put (Env.put (Env.put (Env.put (Env.put (Env.put (Env.put (Env.put (Env.put (Env.put (Env.put (argE [a0, a1]) 4 (Value.bool false)) 6 a0) 7 v7n3) 8 v8n5) 9 v8n5) 10 v10n8) 11 v11n13) 12 v12n16) 13 v13n18) 5 v13n18) 15 a0) 16 v16n20) 17 v16n20) 18 v18n23) 19 v19n26) 20 v20n28) 14 v20n28) 22 a0) 23 v23n32) 24 v23n32) 25 v25n35) 26 v26n40) 27 v27n42) 28 v27n42) 29 v29n44) 30 v30n47) 31 v31n49) 32 v31n49) 33 v33n51) 34 v34n54) 35 v35n56) 21 v35n56) 37 a0) 38 v38n58) 39 v38n58) 40 v40n61) 41 v41n64) 42 v42n66) 36 v42n66) 4 (Value.bool false)) w65) (fun (K67 : KT) =>
callE P 38 #[a0] w65 (fun v45n70 w71 =>
callE P 38 #[a1] w71 (fun v47n74 w75 =>
bindV (pBin P BinOp.neq 3 false v45n70 v47n74 w75) fun v48n76 w77 =>
condE v48n76 (fun (K78 : KT) =>
K78 .ret (Env.put (Env.put (Env.put (Env.put (Env.put (Env.put (Env.put (Env.put (Env.put (Env.put (Env.put (Env.put (Env.put (Env.put (Env.put (Env.put (Env.put (Env.put (Env.put (Env.put (Env.put (Env.put (Env.put (Env.put (Env.put (Env.put (Env.put (Env.put (Env.put (Env.put (Env.put (Env.put (Env.put (Env.put (Env.put (Env.put (Env.put (Env.put (Env.put (Env.put (Env.put (Env.put (Env.put (Env.put (Env.put (Env.put (argE [a0, a1]) 4 (Value.bool false)) 6 a0) 7 v7n3) 8 v8n5) 9 v8n5) 10 v10n8) 11 v11n13) 12 v12n16) 13 v13n18) 5 v13n18) 15 a0) 16 v16n20) 17 v16n20) 18 v18n23) 19 v19n26) 20 v20n28) 14 v20n28) 22 a0) 23 v23n32) 24 v23n32) 25 v25n35) 26 v26n40) 27 v27n42) 28 v27n42) 29 v29n44) 30 v30n47) 31 v31n49) 32 v31n49) 33 v33n51) 34 v34n54) 35 v35n56) 21 v35n56) 37 a0) 38 v38n58) 39 v38n58) 40 v40n61) 41 v41n64) 42 v42n66) 36 v42n66) 44 a0) 45 v45n70) 46 a1) 47 v47n74) 48 v48n76) 43 v48n76) 4 (Value.bool true)) w77) (fun (K78 : KT) =>
K78 .normal (Env.put (Env.put (Env.put (Env.put (Env.put (Env.put (Env.put (Env.put (Env.put (Env.put (Env.put (Env.put (Env.put (Env.put (Env.put (Env.put (Env.put (Env.put (Env.put (Env.put (Env.put (Env.put (Env.put (Env.put (Env.put (Env.put (Env.put (Env.put (Env.put (Env.put (Env.put (Env.put (Env.put (Env.put (Env.put (Env.put (Env.put (Env.put (Env.put (Env.put (Env.put (Env.put (Env.put (Env.put (Env.put (argE [a0, a1]) 4 (Value.bool false)) 6 a0) 7 v7n3) 8 v8n5) 9 v8n5) 10 v10n8) 11 v11n13) 12 v12n16) 13 v13n18) 5 v13n18) 15 a0) 16 v16n20) 17 v16n20) 18 v18n23) 19 v19n26) 20 v20n28) 14 v20n28) 22 a0) 23 v23n32) 24 v23n32) 25 v25n35) 26 v26n40) 27 v27n42) 28 v27n42) 29 v29n44) 30 v30n47) 31 v31n49) 32 v31n49) 33 v33n51) 34 v34n54) 35 v35n56) 21 v35n56) 37 a0) 38 v38n58) 39 v38n58) 40 v40n61) 41 v41n64) 42 v42n66) 36 v42n66) 44 a0) 45 v45n70) 46 a1) 47 v47n74) 48 v48n76) 43 v48n76) w77) K67) (fun c72 w73 => K67 (.panic c72) (Env.put (Env.put (Env.put (Env.put (Env.put (Env.put (Env.put (Env.put (Env.put (Env.put (Env.put (Env.put (Env.put (Env.put (Env.put (Env.put (Env.put (Env.put (Env.put (Env.put (Env.put (Env.put (Env.put (Env.put (Env.put (Env.put (Env.put (Env.put (Env.put (Env.put (Env.put (Env.put (Env.put (Env.put (Env.put (Env.put (Env.put (Env.put (Env.put (Env.put (Env.put (Env.put (argE [a0, a1]) 4 (Value.bool false)) 6 a0) 7 v7n3) 8 v8n5) 9 v8n5) 10 v10n8) 11 v11n13) 12 v12n16) 13 v13n18) 5 v13n18) 15 a0) 16 v16n20) 17 v16n20) 18 v18n23) 19 v19n26) 20 v20n28) 14 v20n28) 22 a0) 23 v23n32) 24 v23n32) 25 v25n35) 26 v26n40) 27 v27n42) 28 v27n42) 29 v29n44) 30 v30n47) 31 v31n49) 32 v31n49) 33 v33n51) 34 v34n54) 35 v35n56) 21 v35n56) 37 a0) 38 v38n58) 39 v38n58) 40 v40n61) 41 v41n64) 42 v42n66) 36 v42n66) 44 a0) 45 v45n70) 46 a1) w73)) (fun c68 w69 => K67 (.panic c68) (Env.put (Env.put (Env.put (Env.put (Env.put (Env.put (Env.put (Env.put (Env.put (Env.put (Env.put (Env.put (Env.put (Env.put (Env.put (Env.put (Env.put (Env.put (Env.put (Env.put (Env.put (Env.put (Env.put (Env.put (Env.put (Env.put (Env.put (Env.put (Env.put (Env.put (Env.put (Env.put (Env.put (Env.put (Env.put (Env.put (Env.put (Env.put (Env.put (Env.put (argE [a0, a1]) 4 (Value.bool false)) 6 a0) 7 v7n3) 8 v8n5) 9 v8n5) 10 v10n8) 11 v11n13) 12 v12n16) 13 v13n18) 5 v13n18) 15 a0) 16 v16n20) 17 v16n20) 18 v18n23) 19 v19n26) 20 v20n28) 14 v20n28) 22 a0) 23 v23n32) 24 v23n32) 25 v25n35) 26 v26n40) 27 v27n42) 28 v27n42) 29 v29n44) 30 v30n47) 31 v31n49) 32 v31n49) 33 v33n51) 34 v34n54) 35 v35n56) 21 v35n56) 37 a0) 38 v38n58) 39 v38n58) 40 v40n61) 41 v41n64) 42 v42n66) 36 v42n66) 44 a0) w69)) K57) w62) w59) K29) w52) w48) w45) w41) w36) w33) (fun c30 w31 => K29 (.panic c30) (Env.put (Env.put (Env.put (Env.put (Env.put (Env.put (Env.put (Env.put (Env.put (Env.put (Env.put (Env.put (Env.put (Env.put (Env.put (Env.put (Env.put (Env.put (argE [a0, a1]) 4 (Value.bool false)) 6 a0) 7 v7n3) 8 v8n5) 9 v8n5) 10 v10n8) 11 v11n13) 12 v12n16) 13 v13n18) 5 v13n18) 15 a0) 16 v16n20) 17 v16n20) 18 v18n23) 19 v19n26) 20 v20n28) 14 v20n28) 22 a0) w31)) K19) w24) w21) (blockK 0 (thenK (fun e79 w80 =>
bindV (pBin P BinOp.eql 3 false (e79 0) (e79 1) w80) fun v51n81 w82 =>
grdE v51n81 true (fun (k83 : Value → World → Prop) => k83 (e79 0) w82) (fun v53n84 w85 =>
grdE v51n81 true (fun (k86 : Value → World → Prop) => bindV (pBin P BinOp.eql 3 true v53n84 (Value.int IntKind.i64 7) w85) k86) (fun v54n87 w88 =>
grdE v51n81 true (fun (k89 : Value → World → Prop) => k89 v54n87 w88) (fun v55n90 w91 =>
grdE v55n90 false (fun (k92 : Value → World → Prop) => k92 (e79 0) w91) (fun v56n93 w94 =>
grdE v55n90 false (fun (k95 : Value → World → Prop) => bindV (pBin P BinOp.eql 3 true v56n93 (Value.int IntKind.i64 13) w94) k95) (fun v57n96 w97 =>
grdE v51n81 true (fun (k98 : Value → World → Prop) => pickE v55n90 (Value.bool true) v57n96 fun v58n99 =>
k98 v58n99 w97) (fun v58n100 w101 =>
grdE v51n81 true (fun (k102 : Value → World → Prop) => k102 v58n100 w101) (fun v59n103 w104 =>
grdE v59n103 false (fun (k105 : Value → World → Prop) => k105 (e79 0) w104) (fun v60n106 w107 =>
grdE v59n103 false (fun (k108 : Value → World → Prop) => bindV (pBin P BinOp.eql 3 true v60n106 (Value.int IntKind.i64 14) w107) k108) (fun v61n109 w110 =>
grdE v51n81 true (fun (k111 : Value → World → Prop) => pickE v59n103 (Value.bool true) v61n109 fun v62n112 =>
k111 v62n112 w110) (fun v62n113 w114 =>
grdE v51n81 true (fun (k115 : Value → World → Prop) => k115 v62n113 w114) (fun v63n116 w117 =>
grdE v63n116 false (fun (k118 : Value → World → Prop) => k118 (e79 0) w117) (fun v64n119 w120 =>
grdE v63n116 false (fun (k121 : Value → World → Prop) => bindV (pBin P BinOp.eql 3 true v64n119 (Value.int IntKind.i64 19) w120) k121) (fun v65n122 w123 =>
grdE v51n81 true (fun (k124 : Value → World → Prop) => pickE v63n116 (Value.bool true) v65n122 fun v66n125 =>
k124 v66n125 w123) (fun v66n126 w127 =>
grdE v51n81 true (fun (k128 : Value → World → Prop) => k128 v66n126 w127) (fun v67n129 w130 =>
grdE v67n129 false (fun (k131 : Value → World → Prop) => k131 (e79 0) w130) (fun v68n132 w133 =>
grdE v67n129 false (fun (k134 : Value → World → Prop) => bindV (pBin P BinOp.eql 3 true v68n132 (Value.int IntKind.i64 21) w133) k134) (fun v69n135 w136 =>
grdE v51n81 true (fun (k137 : Value → World → Prop) => pickE v67n129 (Value.bool true) v69n135 fun v70n138 =>
k137 v70n138 w136) (fun v70n139 w140 =>
pickE v51n81 v70n139 (Value.bool false) fun v71n141 =>
R (.returned v71n141) w140) w136) w133) w130) w127) w123) w120) w117) w114) w110) w107) w104) w101) w97) w94) w91) w88) w85) w82) (topK P [(ResultVar.tmp 4)] R)))) w14) w9) w6) (fun c1 w2 => R (.panicked c1) w2)
theorem F35ok {w : World} {R : Ending → World → Prop} {a0 : Value} {a1 : Value} (h : F35 a0 a1 w R) : Calls P 35 #[a0, a1] w R :=
  calls_of_ev bodies mixed (c := bodyOf Tryd.f35) (nt := 72) (rs := [(ResultVar.tmp 4)]) (args := [a0, a1]) (fn := Tryd.f35) (by kernel_rfl) (by kernel_rfl) (by kernel_rfl) (by kernel_rfl) (by kernel_rfl) (by simp)
    (eq_mp (show F35 a0 a1 w R = ev P C (bodyOf Tryd.f35) (argE [a0, a1]) w (topK P [(ResultVar.tmp 4)] R) by kernel_rfl) h)

/-! ### moiety/act.Name -/
def F69 (a0 : Value) (w : World) (R : Ending → World → Prop) : Prop :=
callE P 46 #[a0] w (fun v4n3 w4 =>
bindV (pField P 97 v4n3 0 w4) fun v5n5 w6 =>
R (.returned v5n5) w6) (fun c1 w2 => R (.panicked c1) w2)
theorem F69ok {w : World} {R : Ending → World → Prop} {a0 : Value} (h : F69 a0 w R) : Calls P 69 #[a0] w R :=
  calls_of_ev bodies mixed (c := bodyOf Tryd.f69) (nt := 6) (rs := [(ResultVar.tmp 2)]) (args := [a0]) (fn := Tryd.f69) (by kernel_rfl) (by kernel_rfl) (by kernel_rfl) (by kernel_rfl) (by kernel_rfl) (by simp)
    (eq_mp (show F69 a0 w R = ev P C (bodyOf Tryd.f69) (argE [a0]) w (topK P [(ResultVar.tmp 2)] R) by kernel_rfl) h)

/-! ### moiety/act.Reads -/
def F70 (a0 : Value) (w : World) (R : Ending → World → Prop) : Prop :=
bindV (pBin P BinOp.eql 3 true a0 (Value.int IntKind.i64 3) w) fun v4n1 w2 =>
grdE v4n1 false (fun (k3 : Value → World → Prop) => k3 a0 w2) (fun v6n4 w5 =>
grdE v4n1 false (fun (k6 : Value → World → Prop) => bindV (pBin P BinOp.eql 3 true v6n4 (Value.int IntKind.i64 4) w5) k6) (fun v7n7 w8 =>
pickE v4n1 (Value.bool true) v7n7 fun v8n9 =>
grdE v8n9 false (fun (k10 : Value → World → Prop) => k10 a0 w8) (fun v10n11 w12 =>
grdE v8n9 false (fun (k13 : Value → World → Prop) => bindV (pBin P BinOp.eql 3 true v10n11 (Value.int IntKind.i64 9) w12) k13) (fun v11n14 w15 =>
pickE v8n9 (Value.bool true) v11n14 fun v12n16 =>
grdE v12n16 false (fun (k17 : Value → World → Prop) => k17 a0 w15) (fun v14n18 w19 =>
grdE v12n16 false (fun (k20 : Value → World → Prop) => bindV (pBin P BinOp.eql 3 true v14n18 (Value.int IntKind.i64 12) w19) k20) (fun v15n21 w22 =>
pickE v12n16 (Value.bool true) v15n21 fun v16n23 =>
grdE v16n23 false (fun (k24 : Value → World → Prop) => k24 a0 w22) (fun v18n25 w26 =>
grdE v16n23 false (fun (k27 : Value → World → Prop) => bindV (pBin P BinOp.eql 3 true v18n25 (Value.int IntKind.i64 20) w26) k27) (fun v19n28 w29 =>
pickE v16n23 (Value.bool true) v19n28 fun v20n30 =>
R (.returned v20n30) w29) w26) w22) w19) w15) w12) w8) w5) w2
theorem F70ok {w : World} {R : Ending → World → Prop} {a0 : Value} (h : F70 a0 w R) : Calls P 70 #[a0] w R :=
  calls_of_ev bodies mixed (c := bodyOf Tryd.f70) (nt := 21) (rs := [(ResultVar.tmp 2)]) (args := [a0]) (fn := Tryd.f70) (by kernel_rfl) (by kernel_rfl) (by kernel_rfl) (by kernel_rfl) (by kernel_rfl) (by simp)
    (eq_mp (show F70 a0 w R = ev P C (bodyOf Tryd.f70) (argE [a0]) w (topK P [(ResultVar.tmp 2)] R) by kernel_rfl) h)

end Go.Proofs.YtieejbkbdfccdaaDoor
