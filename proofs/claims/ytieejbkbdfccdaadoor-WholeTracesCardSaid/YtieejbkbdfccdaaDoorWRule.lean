/- The functions' residual programs, printed by gen.py. -/
import Derived.Test.YtieejbkbdfccdaaDoorBaseD
set_option linter.unusedVariables false
set_option linter.unusedSimpArgs false
namespace Go.Proofs.YtieejbkbdfccdaaDoor
open Go
/-! ### moiety/rec.Clone -/
def F36 (a0 : Value) (w : World) (R : Ending → World → Prop) : Prop :=
bindV (pBox P 25 a0 w) fun v1n1 w2 =>
bindV (pAlloc P 25 w2) fun v2n3 w4 =>
bindV (pFieldAddr P 25 v1n1 7 w4) fun v3n5 w6 =>
bindV (pLoad P 23 v3n5 w6) fun v4n7 w8 =>
callE P 71 #[v4n7] w8 (fun v5n11 w12 =>
bindV (pFieldAddr P 25 v1n1 7 w12) fun v6n13 w14 =>
bindU (pStore P 23 v6n13 v5n11 w14) fun w15 =>
bindV (pLoad P 25 v1n1 w15) fun v7n16 w17 =>
bindU (pStore P 25 v2n3 v7n16 w17) fun w18 =>
topK P [(ResultVar.cell 2 25)] R .ret (Env.put (Env.put (Env.put (Env.put (Env.put (Env.put (Env.put (argE [a0]) 1 v1n1) 2 v2n3) 3 v3n5) 4 v4n7) 5 v5n11) 6 v6n13) 7 v7n16) w18) (fun c9 w10 => R (.panicked c9) w10)
theorem F36ok {w : World} {R : Ending → World → Prop} {a0 : Value} (h : F36 a0 w R) : Calls P 36 #[a0] w R :=
  calls_of_ev bodies mixed (c := bodyOf Tryd.f36) (nt := 8) (rs := [(ResultVar.cell 2 25)]) (args := [a0]) (fn := Tryd.f36) (by kernel_rfl) (by kernel_rfl) (by kernel_rfl) (by kernel_rfl) (by kernel_rfl) (by simp)
    (eq_mp (show F36 a0 w R = ev P C (bodyOf Tryd.f36) (argE [a0]) w (topK P [(ResultVar.cell 2 25)] R) by kernel_rfl) h)

/-! ### moiety/rule.Apply -/
def F37 (a0 : Value) (a1 : Value) (a2 : Value) (w : World) (R : Ending → World → Prop) : Prop :=
bindV (pBox P 25 a0 w) fun v3n1 w2 =>
bindV (pBox P 4 a1 w2) fun v4n3 w4 =>
bindV (pBox P 27 a2 w4) fun v5n5 w6 =>
bindV (pAlloc P 25 w6) fun v6n7 w8 =>
bindV (pAlloc P 49 w8) fun v8n9 w10 =>
bindV (pLoad P 4 v4n3 w10) fun v15n11 w12 =>
bindV (pUn P UnOp.not v15n11 w12) fun v16n13 w14 =>
condE v16n13 (fun (K15 : KT) =>
bindV (pBuild P 25 [] w14) fun v17n16 w17 =>
bindU (pStore P 25 v3n1 v17n16 w17) fun w18 =>
K15 .normal (Env.put (Env.put (Env.put (Env.put (Env.put (Env.put (Env.put (Env.put (Env.put (argE [a0, a1, a2]) 3 v3n1) 4 v4n3) 5 v5n5) 6 v6n7) 7 (Value.bool false)) 8 v8n9) 15 v15n11) 16 v16n13) 17 v17n16) w18) (fun (K15 : KT) =>
K15 .normal (Env.put (Env.put (Env.put (Env.put (Env.put (Env.put (Env.put (Env.put (argE [a0, a1, a2]) 3 v3n1) 4 v4n3) 5 v5n5) 6 v6n7) 7 (Value.bool false)) 8 v8n9) 15 v15n11) 16 v16n13) w14) (thenK (fun e19 w20 =>
bindV (pLoad P 25 (e19 3) w20) fun v18n21 w22 =>
callE P 36 #[v18n21] w22 (fun v19n25 w26 =>
bindU (pStore P 25 (e19 3) v19n25 w26) fun w27 =>
bindV (pFunc P (.func 72) [] [(e19 3), (e19 4)] w27) fun v20n28 w29 =>
bindV (pLoad P 27 (e19 5) w29) fun v21n30 w31 =>
callE P 23 #[v21n30] w31 (fun v22n34 w35 =>
bindV (pBin P BinOp.neq 47 true v22n34 (Value.int IntKind.i64 0) w35) fun v24n36 w37 =>
condE v24n36 (fun (K38 : KT) =>
callVE P C v20n28 [v22n34] w37 (fun v27n41 w42 =>
bindV (pExtract P v27n41 0 w42) fun v28n43 w44 =>
bindV (pExtract P v27n41 1 w44) fun v29n45 w46 =>
bindV (pExtract P v27n41 2 w46) fun v30n47 w48 =>
bindU (pStore P 25 (e19 6) v28n43 w48) fun w49 =>
bindU (pStore P 49 (e19 8) v30n47 w49) fun w50 =>
K38 .ret (Env.put (Env.put (Env.put (Env.put (Env.put (Env.put (Env.put (Env.put (Env.put (Env.put (Env.put (Env.put (Env.put (Env.put (Env.put (Env.put e19 18 v18n21) 19 v19n25) 20 v20n28) 9 v20n28) 21 v21n30) 22 v22n34) 10 v22n34) 23 v22n34) 24 v24n36) 25 v20n28) 26 v22n34) 27 v27n41) 28 v28n43) 29 v29n45) 30 v30n47) 7 v29n45) w50) (fun c39 w40 => K38 (.panic c39) (Env.put (Env.put (Env.put (Env.put (Env.put (Env.put (Env.put (Env.put (Env.put (Env.put (Env.put e19 18 v18n21) 19 v19n25) 20 v20n28) 9 v20n28) 21 v21n30) 22 v22n34) 10 v22n34) 23 v22n34) 24 v24n36) 25 v20n28) 26 v22n34) w40)) (fun (K38 : KT) =>
K38 .normal (Env.put (Env.put (Env.put (Env.put (Env.put (Env.put (Env.put (Env.put (Env.put e19 18 v18n21) 19 v19n25) 20 v20n28) 9 v20n28) 21 v21n30) 22 v22n34) 10 v22n34) 23 v22n34) 24 v24n36) w37) (thenK (fun e51 w52 =>
bindV (pLoad P 4 (e51 4) w52) fun v31n53 w54 =>
condE v31n53 (fun (K55 : KT) =>
bindV (pLoad P 25 (e51 3) w54) fun v32n56 w57 =>
callE P 26 #[v32n56] w57 (fun v33n60 w61 =>
bindV (pBin P BinOp.neq 47 true v33n60 (Value.int IntKind.i64 0) w61) fun v35n62 w63 =>
condE v35n62 (fun (K64 : KT) =>
callVE P C (e51 9) [v33n60] w63 (fun v38n67 w68 =>
bindV (pExtract P v38n67 0 w68) fun v39n69 w70 =>
bindV (pExtract P v38n67 1 w70) fun v40n71 w72 =>
bindV (pExtract P v38n67 2 w72) fun v41n73 w74 =>
bindU (pStore P 25 (e51 6) v39n69 w74) fun w75 =>
bindU (pStore P 49 (e51 8) v41n73 w75) fun w76 =>
K64 .ret (Env.put (Env.put (Env.put (Env.put (Env.put (Env.put (Env.put (Env.put (Env.put (Env.put (Env.put (Env.put (Env.put e51 31 v31n53) 32 v32n56) 33 v33n60) 11 v33n60) 34 v33n60) 35 v35n62) 36 (e51 9)) 37 v33n60) 38 v38n67) 39 v39n69) 40 v40n71) 41 v41n73) 7 v40n71) w76) (fun c65 w66 => K64 (.panic c65) (Env.put (Env.put (Env.put (Env.put (Env.put (Env.put (Env.put (Env.put e51 31 v31n53) 32 v32n56) 33 v33n60) 11 v33n60) 34 v33n60) 35 v35n62) 36 (e51 9)) 37 v33n60) w66)) (fun (K64 : KT) =>
K64 .normal (Env.put (Env.put (Env.put (Env.put (Env.put (Env.put e51 31 v31n53) 32 v32n56) 33 v33n60) 11 v33n60) 34 v33n60) 35 v35n62) w63) K55) (fun c58 w59 => K55 (.panic c58) (Env.put (Env.put e51 31 v31n53) 32 v32n56) w59)) (fun (K55 : KT) =>
K55 .normal (Env.put e51 31 v31n53) w54) (thenK (fun e77 w78 =>
bindV (pFieldAddr P 27 (e77 5) 0 w78) fun v43n79 w80 =>
bindV (pLoad P 3 v43n79 w80) fun v44n81 w82 =>
bindV (pBin P BinOp.eql 3 true v44n81 (Value.int IntKind.i64 1) w82) fun v45n83 w84 =>
grdE v45n83 true (fun (k85 : Value → World → Prop) => bindV (pLoad P 4 (e77 4) w84) k85) (fun v47n86 w87 =>
pickE v45n83 v47n86 (Value.bool false) fun v48n88 =>
condE v48n88 (fun (K89 : KT) =>
callVE P C (e77 9) [(Value.int IntKind.i64 7)] w87 (fun v50n92 w93 =>
bindV (pExtract P v50n92 0 w93) fun v51n94 w95 =>
bindV (pExtract P v50n92 1 w95) fun v52n96 w97 =>
bindV (pExtract P v50n92 2 w97) fun v53n98 w99 =>
bindU (pStore P 25 (e77 6) v51n94 w99) fun w100 =>
bindU (pStore P 49 (e77 8) v53n98 w100) fun w101 =>
K89 .ret (Env.put (Env.put (Env.put (Env.put (Env.put (Env.put (Env.put (Env.put (Env.put (Env.put (Env.put (Env.put (Env.put e77 43 v43n79) 44 v44n81) 45 v45n83) 46 v45n83) 47 v47n86) 48 v48n88) 42 v48n88) 49 (e77 9)) 50 v50n92) 51 v51n94) 52 v52n96) 53 v53n98) 7 v52n96) w101) (fun c90 w91 => K89 (.panic c90) (Env.put (Env.put (Env.put (Env.put (Env.put (Env.put (Env.put (Env.put e77 43 v43n79) 44 v44n81) 45 v45n83) 46 v45n83) 47 v47n86) 48 v48n88) 42 v48n88) 49 (e77 9)) w91)) (fun (K89 : KT) =>
bindV (pFieldAddr P 27 (e77 5) 0 w87) fun v55n102 w103 =>
bindV (pLoad P 3 v55n102 w103) fun v56n104 w105 =>
bindV (pBin P BinOp.eql 3 true v56n104 (Value.int IntKind.i64 1) w105) fun v57n106 w107 =>
condE v57n106 (fun (K108 : KT) =>
bindV (pFieldAddr P 27 (e77 5) 5 w107) fun v58n109 w110 =>
bindV (pLoad P 25 v58n109 w110) fun v59n111 w112 =>
callE P 36 #[v59n111] w112 (fun v60n115 w116 =>
bindV (pBuild P 49 [] w116) fun v61n117 w118 =>
bindU (pStore P 25 (e77 6) v60n115 w118) fun w119 =>
bindU (pStore P 49 (e77 8) v61n117 w119) fun w120 =>
K108 .ret (Env.put (Env.put (Env.put (Env.put (Env.put (Env.put (Env.put (Env.put (Env.put (Env.put (Env.put (Env.put (Env.put (Env.put (Env.put (Env.put e77 43 v43n79) 44 v44n81) 45 v45n83) 46 v45n83) 47 v47n86) 48 v48n88) 42 v48n88) 55 v55n102) 56 v56n104) 57 v57n106) 54 v57n106) 58 v58n109) 59 v59n111) 60 v60n115) 61 v61n117) 7 (Value.bool true)) w120) (fun c113 w114 => K108 (.panic c113) (Env.put (Env.put (Env.put (Env.put (Env.put (Env.put (Env.put (Env.put (Env.put (Env.put (Env.put (Env.put (Env.put e77 43 v43n79) 44 v44n81) 45 v45n83) 46 v45n83) 47 v47n86) 48 v48n88) 42 v48n88) 55 v55n102) 56 v56n104) 57 v57n106) 54 v57n106) 58 v58n109) 59 v59n111) w114)) (fun (K108 : KT) =>
bindV (pFieldAddr P 27 (e77 5) 0 w107) fun v63n121 w122 =>
bindV (pLoad P 3 v63n121 w122) fun v64n123 w124 =>
bindV (pBin P BinOp.eql 3 true v64n123 (Value.int IntKind.i64 3) w124) fun v65n125 w126 =>
condE v65n125 (fun (K127 : KT) =>
drawE (fun (k128 : Env → World → Prop) (kp129 : List PanicEntry → Env → World → Prop) =>
takeE (fun w132 => pLoad P 25 (e77 3) w132) (drew w126) fun v66n130 h131 =>
takeE (fun w135 => pLoad P 4 (e77 4) w135) (drew w126) fun v67n133 h134 =>
takeE (fun w138 => pFieldAddr P 25 (e77 3) 0 w138) (drew w126) fun v68n136 h137 =>
takeE (fun w141 => pLoad P 3 v68n136 w141) (drew w126) fun v69n139 h140 =>
(bindV (pBuild P 49 [(1, v69n139)] (drew w126)) fun v70n143 w144 =>
heldE [h134, h131] w144 (bindU (pStore P 25 (e77 6) v66n130 w144) fun w146 =>
heldE [h134] w146 (bindU (pStore P 49 (e77 8) v70n143 w146) fun w149 =>
k128 (Env.put (Env.put (Env.put (Env.put (Env.put (Env.put (Env.put (Env.put (Env.put (Env.put (Env.put (Env.put (Env.put (Env.put (Env.put (Env.put (Env.put (Env.put (Env.put (Env.put (Env.put e77 43 v43n79) 44 v44n81) 45 v45n83) 46 v45n83) 47 v47n86) 48 v48n88) 42 v48n88) 55 v55n102) 56 v56n104) 57 v57n106) 54 v57n106) 63 v63n121) 64 v64n123) 65 v65n125) 62 v65n125) 66 v66n130) 67 v67n133) 68 v68n136) 69 v69n139) 70 v70n143) 7 v67n133) w149))) ∧
(bindU (pStore P 25 (e77 6) v66n130 (drew w126)) fun w151 =>
heldE [h140, h137, h134] w151 ((bindV (pBuild P 49 [(1, v69n139)] w151) fun v70n153 w154 =>
heldE [h134] w154 (bindU (pStore P 49 (e77 8) v70n153 w154) fun w157 =>
k128 (Env.put (Env.put (Env.put (Env.put (Env.put (Env.put (Env.put (Env.put (Env.put (Env.put (Env.put (Env.put (Env.put (Env.put (Env.put (Env.put (Env.put (Env.put (Env.put (Env.put (Env.put e77 43 v43n79) 44 v44n81) 45 v45n83) 46 v45n83) 47 v47n86) 48 v48n88) 42 v48n88) 55 v55n102) 56 v56n104) 57 v57n106) 54 v57n106) 63 v63n121) 64 v64n123) 65 v65n125) 62 v65n125) 66 v66n130) 67 v67n133) 68 v68n136) 69 v69n139) 70 v70n153) 7 v67n133) w157)) ∧
(heldE [h140, h137] w151 (bindV (pBuild P 49 [(1, v69n139)] w151) fun v70n160 w161 =>
bindU (pStore P 49 (e77 8) v70n160 w161) fun w163 =>
k128 (Env.put (Env.put (Env.put (Env.put (Env.put (Env.put (Env.put (Env.put (Env.put (Env.put (Env.put (Env.put (Env.put (Env.put (Env.put (Env.put (Env.put (Env.put (Env.put (Env.put (Env.put e77 43 v43n79) 44 v44n81) 45 v45n83) 46 v45n83) 47 v47n86) 48 v48n88) 42 v48n88) 55 v55n102) 56 v56n104) 57 v57n106) 54 v57n106) 63 v63n121) 64 v64n123) 65 v65n125) 62 v65n125) 66 v66n130) 67 v67n133) 68 v68n136) 69 v69n139) 7 v67n133) 70 v70n160) w163))))) (fun e164 w165 =>
K127 .ret e164 w165) (fun c166 e167 w168 => K127 (.panic c166) e167 w168)) (fun (K127 : KT) =>
bindV (pLoad P 4 (e77 4) w126) fun v72n169 w170 =>
bindV (pUn P UnOp.not v72n169 w170) fun v73n171 w172 =>
condE v73n171 (fun (K173 : KT) =>
callVE P C (e77 9) [(Value.int IntKind.i64 6)] w172 (fun v75n176 w177 =>
bindV (pExtract P v75n176 0 w177) fun v76n178 w179 =>
bindV (pExtract P v75n176 1 w179) fun v77n180 w181 =>
bindV (pExtract P v75n176 2 w181) fun v78n182 w183 =>
bindU (pStore P 25 (e77 6) v76n178 w183) fun w184 =>
bindU (pStore P 49 (e77 8) v78n182 w184) fun w185 =>
K173 .ret (Env.put (Env.put (Env.put (Env.put (Env.put (Env.put (Env.put (Env.put (Env.put (Env.put (Env.put (Env.put (Env.put (Env.put (Env.put (Env.put (Env.put (Env.put (Env.put (Env.put (Env.put (Env.put (Env.put (Env.put e77 43 v43n79) 44 v44n81) 45 v45n83) 46 v45n83) 47 v47n86) 48 v48n88) 42 v48n88) 55 v55n102) 56 v56n104) 57 v57n106) 54 v57n106) 63 v63n121) 64 v64n123) 65 v65n125) 62 v65n125) 72 v72n169) 73 v73n171) 71 v73n171) 74 (e77 9)) 75 v75n176) 76 v76n178) 77 v77n180) 78 v78n182) 7 v77n180) w185) (fun c174 w175 => K173 (.panic c174) (Env.put (Env.put (Env.put (Env.put (Env.put (Env.put (Env.put (Env.put (Env.put (Env.put (Env.put (Env.put (Env.put (Env.put (Env.put (Env.put (Env.put (Env.put (Env.put e77 43 v43n79) 44 v44n81) 45 v45n83) 46 v45n83) 47 v47n86) 48 v48n88) 42 v48n88) 55 v55n102) 56 v56n104) 57 v57n106) 54 v57n106) 63 v63n121) 64 v64n123) 65 v65n125) 62 v65n125) 72 v72n169) 73 v73n171) 71 v73n171) 74 (e77 9)) w175)) (fun (K173 : KT) =>
bindV (pFieldAddr P 27 (e77 5) 0 w172) fun v80n186 w187 =>
bindV (pLoad P 3 v80n186 w187) fun v81n188 w189 =>
bindV (pBin P BinOp.eql 3 true v81n188 (Value.int IntKind.i64 2) w189) fun v82n190 w191 =>
condE v82n190 (fun (K192 : KT) =>
bindV (pBuild P 25 [] w191) fun v83n193 w194 =>
bindV (pBuild P 49 [] w194) fun v84n195 w196 =>
bindU (pStore P 25 (e77 6) v83n193 w196) fun w197 =>
bindU (pStore P 49 (e77 8) v84n195 w197) fun w198 =>
K192 .ret (Env.put (Env.put (Env.put (Env.put (Env.put (Env.put (Env.put (Env.put (Env.put (Env.put (Env.put (Env.put (Env.put (Env.put (Env.put (Env.put (Env.put (Env.put (Env.put (Env.put (Env.put (Env.put (Env.put (Env.put (Env.put e77 43 v43n79) 44 v44n81) 45 v45n83) 46 v45n83) 47 v47n86) 48 v48n88) 42 v48n88) 55 v55n102) 56 v56n104) 57 v57n106) 54 v57n106) 63 v63n121) 64 v64n123) 65 v65n125) 62 v65n125) 72 v72n169) 73 v73n171) 71 v73n171) 80 v80n186) 81 v81n188) 82 v82n190) 79 v82n190) 83 v83n193) 84 v84n195) 7 (Value.bool false)) w198) (fun (K192 : KT) =>
bindV (pFieldAddr P 27 (e77 5) 0 w191) fun v86n199 w200 =>
bindV (pLoad P 3 v86n199 w200) fun v87n201 w202 =>
bindV (pBin P BinOp.eql 3 true v87n201 (Value.int IntKind.i64 4) w202) fun v88n203 w204 =>
condE v88n203 (fun (K205 : KT) =>
drawE (fun (k206 : Env → World → Prop) (kp207 : List PanicEntry → Env → World → Prop) =>
takeE (fun w210 => pLoad P 25 (e77 3) w210) (drew w204) fun v89n208 h209 =>
takeE (fun w213 => pLoad P 4 (e77 4) w213) (drew w204) fun v90n211 h212 =>
takeE (fun w216 => pLoad P 25 (e77 3) w216) (drew w204) fun v91n214 h215 =>
callE P 36 #[v91n214] (drew w204) (fun v92n220 w221 =>
heldE [h212, h209] w221 ((bindV (pBuild P 49 [(2, v92n220)] w221) fun v93n223 w224 =>
heldE [h212, h209] w224 (bindU (pStore P 25 (e77 6) v89n208 w224) fun w226 =>
heldE [h212] w226 (bindU (pStore P 49 (e77 8) v93n223 w226) fun w229 =>
k206 (Env.put (Env.put (Env.put (Env.put (Env.put (Env.put (Env.put (Env.put (Env.put (Env.put (Env.put (Env.put (Env.put (Env.put (Env.put (Env.put (Env.put (Env.put (Env.put (Env.put (Env.put (Env.put (Env.put (Env.put (Env.put (Env.put (Env.put (Env.put (Env.put (Env.put (Env.put (Env.put e77 43 v43n79) 44 v44n81) 45 v45n83) 46 v45n83) 47 v47n86) 48 v48n88) 42 v48n88) 55 v55n102) 56 v56n104) 57 v57n106) 54 v57n106) 63 v63n121) 64 v64n123) 65 v65n125) 62 v65n125) 72 v72n169) 73 v73n171) 71 v73n171) 80 v80n186) 81 v81n188) 82 v82n190) 79 v82n190) 86 v86n199) 87 v87n201) 88 v88n203) 85 v88n203) 89 v89n208) 90 v90n211) 91 v91n214) 92 v92n220) 93 v93n223) 7 v90n211) w229))) ∧
(bindU (pStore P 25 (e77 6) v89n208 w221) fun w231 =>
heldE [h212] w231 ((bindV (pBuild P 49 [(2, v92n220)] w231) fun v93n233 w234 =>
heldE [h212] w234 (bindU (pStore P 49 (e77 8) v93n233 w234) fun w237 =>
k206 (Env.put (Env.put (Env.put (Env.put (Env.put (Env.put (Env.put (Env.put (Env.put (Env.put (Env.put (Env.put (Env.put (Env.put (Env.put (Env.put (Env.put (Env.put (Env.put (Env.put (Env.put (Env.put (Env.put (Env.put (Env.put (Env.put (Env.put (Env.put (Env.put (Env.put (Env.put (Env.put e77 43 v43n79) 44 v44n81) 45 v45n83) 46 v45n83) 47 v47n86) 48 v48n88) 42 v48n88) 55 v55n102) 56 v56n104) 57 v57n106) 54 v57n106) 63 v63n121) 64 v64n123) 65 v65n125) 62 v65n125) 72 v72n169) 73 v73n171) 71 v73n171) 80 v80n186) 81 v81n188) 82 v82n190) 79 v82n190) 86 v86n199) 87 v87n201) 88 v88n203) 85 v88n203) 89 v89n208) 90 v90n211) 91 v91n214) 92 v92n220) 93 v93n233) 7 v90n211) w237)) ∧
(bindV (pBuild P 49 [(2, v92n220)] w231) fun v93n240 w241 =>
bindU (pStore P 49 (e77 8) v93n240 w241) fun w243 =>
k206 (Env.put (Env.put (Env.put (Env.put (Env.put (Env.put (Env.put (Env.put (Env.put (Env.put (Env.put (Env.put (Env.put (Env.put (Env.put (Env.put (Env.put (Env.put (Env.put (Env.put (Env.put (Env.put (Env.put (Env.put (Env.put (Env.put (Env.put (Env.put (Env.put (Env.put (Env.put (Env.put e77 43 v43n79) 44 v44n81) 45 v45n83) 46 v45n83) 47 v47n86) 48 v48n88) 42 v48n88) 55 v55n102) 56 v56n104) 57 v57n106) 54 v57n106) 63 v63n121) 64 v64n123) 65 v65n125) 62 v65n125) 72 v72n169) 73 v73n171) 71 v73n171) 80 v80n186) 81 v81n188) 82 v82n190) 79 v82n190) 86 v86n199) 87 v87n201) 88 v88n203) 85 v88n203) 89 v89n208) 90 v90n211) 91 v91n214) 92 v92n220) 7 v90n211) 93 v93n240) w243))))) (fun c218 w219 => ∀ (e217 : Env), agreeOff [89, 90, 91] (Env.put (Env.put (Env.put (Env.put (Env.put (Env.put (Env.put (Env.put (Env.put (Env.put (Env.put (Env.put (Env.put (Env.put (Env.put (Env.put (Env.put (Env.put (Env.put (Env.put (Env.put (Env.put (Env.put (Env.put (Env.put (Env.put (Env.put (Env.put (Env.put e77 43 v43n79) 44 v44n81) 45 v45n83) 46 v45n83) 47 v47n86) 48 v48n88) 42 v48n88) 55 v55n102) 56 v56n104) 57 v57n106) 54 v57n106) 63 v63n121) 64 v64n123) 65 v65n125) 62 v65n125) 72 v72n169) 73 v73n171) 71 v73n171) 80 v80n186) 81 v81n188) 82 v82n190) 79 v82n190) 86 v86n199) 87 v87n201) 88 v88n203) 85 v88n203) 89 v89n208) 90 v90n211) 91 v91n214) e217 → kp207 c218 e217 w219)) (fun e244 w245 =>
K205 .ret e244 w245) (fun c246 e247 w248 => K205 (.panic c246) e247 w248)) (fun (K205 : KT) =>
takeE (fun w251 => pFieldAddr P 27 (e77 5) 0 w251) (drew w204) fun v95n249 h250 =>
takeE (fun w254 => pLoad P 3 v95n249 w254) (drew w204) fun v96n252 h253 =>
takeE (fun w257 => pFieldAddr P 25 (e77 3) 0 w257) (drew w204) fun v98n255 h256 =>
takeE (fun w260 => pLoad P 3 v98n255 w260) (drew w204) fun v99n258 h259 =>
callE P 38 #[v96n252] (drew w204) (fun v97n264 w265 =>
heldE [h259, h256] w265 (takeE (fun w268 => pBin P BinOp.neq 3 false v97n264 v99n258 w268) w265 fun v100n266 h267 =>
condE v100n266 (fun (K270 : KT) =>
callVE P C (e77 9) [(Value.int IntKind.i64 5)] w265 (fun v102n273 w274 =>
bindV (pExtract P v102n273 0 w274) fun v103n275 w276 =>
bindV (pExtract P v102n273 1 w276) fun v104n277 w278 =>
bindV (pExtract P v102n273 2 w278) fun v105n279 w280 =>
bindU (pStore P 25 (e77 6) v103n275 w280) fun w281 =>
bindU (pStore P 49 (e77 8) v105n279 w281) fun w282 =>
K270 .ret (Env.put (Env.put (Env.put (Env.put (Env.put (Env.put (Env.put (Env.put (Env.put (Env.put (Env.put (Env.put (Env.put (Env.put (Env.put (Env.put (Env.put (Env.put (Env.put (Env.put (Env.put (Env.put (Env.put (Env.put (Env.put (Env.put (Env.put (Env.put (Env.put (Env.put (Env.put (Env.put (Env.put (Env.put (Env.put (Env.put (Env.put (Env.put (Env.put e77 43 v43n79) 44 v44n81) 45 v45n83) 46 v45n83) 47 v47n86) 48 v48n88) 42 v48n88) 55 v55n102) 56 v56n104) 57 v57n106) 54 v57n106) 63 v63n121) 64 v64n123) 65 v65n125) 62 v65n125) 72 v72n169) 73 v73n171) 71 v73n171) 80 v80n186) 81 v81n188) 82 v82n190) 79 v82n190) 86 v86n199) 87 v87n201) 88 v88n203) 85 v88n203) 95 v95n249) 96 v96n252) 98 v98n255) 99 v99n258) 97 v97n264) 100 v100n266) 94 v100n266) 101 (e77 9)) 102 v102n273) 103 v103n275) 104 v104n277) 105 v105n279) 7 v104n277) w282) (fun c271 w272 => K270 (.panic c271) (Env.put (Env.put (Env.put (Env.put (Env.put (Env.put (Env.put (Env.put (Env.put (Env.put (Env.put (Env.put (Env.put (Env.put (Env.put (Env.put (Env.put (Env.put (Env.put (Env.put (Env.put (Env.put (Env.put (Env.put (Env.put (Env.put (Env.put (Env.put (Env.put (Env.put (Env.put (Env.put (Env.put (Env.put e77 43 v43n79) 44 v44n81) 45 v45n83) 46 v45n83) 47 v47n86) 48 v48n88) 42 v48n88) 55 v55n102) 56 v56n104) 57 v57n106) 54 v57n106) 63 v63n121) 64 v64n123) 65 v65n125) 62 v65n125) 72 v72n169) 73 v73n171) 71 v73n171) 80 v80n186) 81 v81n188) 82 v82n190) 79 v82n190) 86 v86n199) 87 v87n201) 88 v88n203) 85 v88n203) 95 v95n249) 96 v96n252) 98 v98n255) 99 v99n258) 97 v97n264) 100 v100n266) 94 v100n266) 101 (e77 9)) w272)) (fun (K270 : KT) =>
K270 .normal (Env.put (Env.put (Env.put (Env.put (Env.put (Env.put (Env.put (Env.put (Env.put (Env.put (Env.put (Env.put (Env.put (Env.put (Env.put (Env.put (Env.put (Env.put (Env.put (Env.put (Env.put (Env.put (Env.put (Env.put (Env.put (Env.put (Env.put (Env.put (Env.put (Env.put (Env.put (Env.put (Env.put e77 43 v43n79) 44 v44n81) 45 v45n83) 46 v45n83) 47 v47n86) 48 v48n88) 42 v48n88) 55 v55n102) 56 v56n104) 57 v57n106) 54 v57n106) 63 v63n121) 64 v64n123) 65 v65n125) 62 v65n125) 72 v72n169) 73 v73n171) 71 v73n171) 80 v80n186) 81 v81n188) 82 v82n190) 79 v82n190) 86 v86n199) 87 v87n201) 88 v88n203) 85 v88n203) 95 v95n249) 96 v96n252) 98 v98n255) 99 v99n258) 97 v97n264) 100 v100n266) 94 v100n266) w265) K205)) (fun c262 w263 => ∀ (e261 : Env), agreeOff [95, 96, 98, 99] (Env.put (Env.put (Env.put (Env.put (Env.put (Env.put (Env.put (Env.put (Env.put (Env.put (Env.put (Env.put (Env.put (Env.put (Env.put (Env.put (Env.put (Env.put (Env.put (Env.put (Env.put (Env.put (Env.put (Env.put (Env.put (Env.put (Env.put (Env.put (Env.put (Env.put e77 43 v43n79) 44 v44n81) 45 v45n83) 46 v45n83) 47 v47n86) 48 v48n88) 42 v48n88) 55 v55n102) 56 v56n104) 57 v57n106) 54 v57n106) 63 v63n121) 64 v64n123) 65 v65n125) 62 v65n125) 72 v72n169) 73 v73n171) 71 v73n171) 80 v80n186) 81 v81n188) 82 v82n190) 79 v82n190) 86 v86n199) 87 v87n201) 88 v88n203) 85 v88n203) 95 v95n249) 96 v96n252) 98 v98n255) 99 v99n258) e261 → K205 (.panic c262) e261 w263)) K192) K173) K127) K108) K89) (blockK 0 (thenK (fun e283 w284 =>
bindV (pLoad P 25 (e283 3) w284) fun v106n285 w286 =>
callE P 36 #[v106n285] w286 (fun v107n289 w290 =>
bindV (pAlloc P 25 w290) fun v12n291 w292 =>
bindU (pStore P 25 v12n291 v107n289 w292) fun w293 =>
bindV (pAlloc P 49 w293) fun v13n294 w295 =>
takeE (fun w298 => pFieldAddr P 27 (e283 5) 0 w298) (drew w295) fun v109n296 h297 =>
takeE (fun w301 => pLoad P 3 v109n296 w301) (drew w295) fun v110n299 h300 =>
takeE (fun w304 => pLoad P 27 (e283 5) w304) (drew w295) fun v112n302 h303 =>
callE P 73 #[] (drew w295) (fun v108n308 w309 =>
heldE [h303, h300, h297] w309 (takeE (fun w312 => pIndex P 123 v108n308 v110n299 w312) w309 fun v111n310 h311 =>
callVE P C v111n310 [(e283 3), v112n302, v13n294] w309 (fun v113n316 w317 =>
bindV (pBin P BinOp.neq 47 true v113n316 (Value.int IntKind.i64 0) w317) fun v115n319 w320 =>
condE v115n319 (fun (K321 : KT) =>
drawE (fun (k322 : Env → World → Prop) (kp323 : List PanicEntry → Env → World → Prop) =>
takeE (fun w326 => pLoad P 25 v12n291 w326) (drew w320) fun v116n324 h325 =>
takeE (fun w329 => pLoad P 4 (e283 4) w329) (drew w320) fun v117n327 h328 =>
takeE (fun w332 => some (v113n316, w332)) (drew w320) fun v118n330 h331 =>
(bindV (pBuild P 49 [(0, v118n330)] (drew w320)) fun v119n334 w335 =>
heldE [h328, h325] w335 (bindU (pStore P 25 (e283 6) v116n324 w335) fun w337 =>
heldE [h328] w337 (bindU (pStore P 49 (e283 8) v119n334 w337) fun w340 =>
k322 (Env.put (Env.put (Env.put (Env.put (Env.put (Env.put (Env.put (Env.put (Env.put (Env.put (Env.put (Env.put (Env.put (Env.put (Env.put (Env.put (Env.put (Env.put e283 106 v106n285) 107 v107n289) 12 v12n291) 13 v13n294) 109 v109n296) 110 v110n299) 112 v112n302) 108 v108n308) 111 v111n310) 113 v113n316) 14 v113n316) 114 v113n316) 115 v115n319) 116 v116n324) 117 v117n327) 118 v118n330) 119 v119n334) 7 v117n327) w340))) ∧
(bindU (pStore P 25 (e283 6) v116n324 (drew w320)) fun w342 =>
heldE [h331, h328] w342 ((bindV (pBuild P 49 [(0, v118n330)] w342) fun v119n344 w345 =>
heldE [h328] w345 (bindU (pStore P 49 (e283 8) v119n344 w345) fun w348 =>
k322 (Env.put (Env.put (Env.put (Env.put (Env.put (Env.put (Env.put (Env.put (Env.put (Env.put (Env.put (Env.put (Env.put (Env.put (Env.put (Env.put (Env.put (Env.put e283 106 v106n285) 107 v107n289) 12 v12n291) 13 v13n294) 109 v109n296) 110 v110n299) 112 v112n302) 108 v108n308) 111 v111n310) 113 v113n316) 14 v113n316) 114 v113n316) 115 v115n319) 116 v116n324) 117 v117n327) 118 v118n330) 119 v119n344) 7 v117n327) w348)) ∧
(heldE [h331] w342 (bindV (pBuild P 49 [(0, v118n330)] w342) fun v119n351 w352 =>
bindU (pStore P 49 (e283 8) v119n351 w352) fun w354 =>
k322 (Env.put (Env.put (Env.put (Env.put (Env.put (Env.put (Env.put (Env.put (Env.put (Env.put (Env.put (Env.put (Env.put (Env.put (Env.put (Env.put (Env.put (Env.put e283 106 v106n285) 107 v107n289) 12 v12n291) 13 v13n294) 109 v109n296) 110 v110n299) 112 v112n302) 108 v108n308) 111 v111n310) 113 v113n316) 14 v113n316) 114 v113n316) 115 v115n319) 116 v116n324) 117 v117n327) 118 v118n330) 7 v117n327) 119 v119n351) w354))))) (fun e355 w356 =>
K321 .ret e355 w356) (fun c357 e358 w359 => K321 (.panic c357) e358 w359)) (fun (K321 : KT) =>
K321 .normal (Env.put (Env.put (Env.put (Env.put (Env.put (Env.put (Env.put (Env.put (Env.put (Env.put (Env.put (Env.put (Env.put e283 106 v106n285) 107 v107n289) 12 v12n291) 13 v13n294) 109 v109n296) 110 v110n299) 112 v112n302) 108 v108n308) 111 v111n310) 113 v113n316) 14 v113n316) 114 v113n316) 115 v115n319) w320) (thenK (fun e360 w361 =>
takeE (fun w364 => pLoad P 25 (e360 3) w364) (drew w361) fun v120n362 h363 =>
takeE (fun w367 => pLoad P 4 (e360 4) w367) (drew w361) fun v121n365 h366 =>
takeE (fun w370 => pLoad P 49 (e360 13) w370) (drew w361) fun v122n368 h369 =>
bindU (pStore P 25 (e360 6) v120n362 (drew w361)) fun w372 =>
heldE [h369, h366] w372 (heldE [h369] w372 (bindU (pStore P 49 (e360 8) v122n368 w372) fun w375 =>
topK P [(ResultVar.cell 6 25), (ResultVar.tmp 7), (ResultVar.cell 8 49)] R .ret (Env.put (Env.put (Env.put (Env.put e360 120 v120n362) 121 v121n365) 122 v122n368) 7 v121n365) w375))) (topK P [(ResultVar.cell 6 25), (ResultVar.tmp 7), (ResultVar.cell 8 49)] R))) (fun c314 w315 => ∀ (e313 : Env), agreeOff [108, 109, 110, 111, 112] (Env.put (Env.put (Env.put (Env.put (Env.put (Env.put (Env.put (Env.put (Env.put e283 106 v106n285) 107 v107n289) 12 v12n291) 13 v13n294) 109 v109n296) 110 v110n299) 112 v112n302) 108 v108n308) 111 v111n310) e313 → R (.panicked c314) w315))) (fun c306 w307 => ∀ (e305 : Env), agreeOff [109, 110, 112] (Env.put (Env.put (Env.put (Env.put (Env.put (Env.put (Env.put e283 106 v106n285) 107 v107n289) 12 v12n291) 13 v13n294) 109 v109n296) 110 v110n299) 112 v112n302) e305 → R (.panicked c306) w307)) (fun c287 w288 => R (.panicked c287) w288)) (topK P [(ResultVar.cell 6 25), (ResultVar.tmp 7), (ResultVar.cell 8 49)] R)))) w84) (topK P [(ResultVar.cell 6 25), (ResultVar.tmp 7), (ResultVar.cell 8 49)] R))) (topK P [(ResultVar.cell 6 25), (ResultVar.tmp 7), (ResultVar.cell 8 49)] R))) (fun c32 w33 => R (.panicked c32) w33)) (fun c23 w24 => R (.panicked c23) w24)) (topK P [(ResultVar.cell 6 25), (ResultVar.tmp 7), (ResultVar.cell 8 49)] R))
theorem F37ok {w : World} {R : Ending → World → Prop} {a0 : Value} {a1 : Value} {a2 : Value} (h : F37 a0 a1 a2 w R) : Calls P 37 #[a0, a1, a2] w R :=
  calls_of_ev bodies mixed (c := bodyOf Tryd.f37) (nt := 123) (rs := [(ResultVar.cell 6 25), (ResultVar.tmp 7), (ResultVar.cell 8 49)]) (args := [a0, a1, a2]) (fn := Tryd.f37) (by kernel_rfl) (by kernel_rfl) (by kernel_rfl) (by kernel_rfl) (by kernel_rfl) (by simp)
    (eq_mp (show F37 a0 a1 a2 w R = ev P C (bodyOf Tryd.f37) (argE [a0, a1, a2]) w (topK P [(ResultVar.cell 6 25), (ResultVar.tmp 7), (ResultVar.cell 8 49)] R) by kernel_rfl) h)

/-! ### moiety/act.On -/
def F38 (a0 : Value) (w : World) (R : Ending → World → Prop) : Prop :=
callE P 46 #[a0] w (fun v4n3 w4 =>
bindV (pField P 97 v4n3 1 w4) fun v5n5 w6 =>
R (.returned v5n5) w6) (fun c1 w2 => R (.panicked c1) w2)
theorem F38ok {w : World} {R : Ending → World → Prop} {a0 : Value} (h : F38 a0 w R) : Calls P 38 #[a0] w R :=
  calls_of_ev bodies mixed (c := bodyOf Tryd.f38) (nt := 6) (rs := [(ResultVar.tmp 2)]) (args := [a0]) (fn := Tryd.f38) (by kernel_rfl) (by kernel_rfl) (by kernel_rfl) (by kernel_rfl) (by kernel_rfl) (by simp)
    (eq_mp (show F38 a0 w R = ev P C (bodyOf Tryd.f38) (argE [a0]) w (topK P [(ResultVar.tmp 2)] R) by kernel_rfl) h)

/-! ### slices.Clone[[]moiety/api.Item,moiety/api.Item] -/
def F71 (a0 : Value) (w : World) (R : Ending → World → Prop) : Prop :=
bindV (pBin P BinOp.eql 23 true a0 (Value.slice none 0 0) w) fun v4n1 w2 =>
condE v4n1 (fun (K3 : KT) =>
K3 .ret (Env.put (Env.put (Env.put (Env.put (argE [a0]) 2 (Value.slice none 0 0)) 3 a0) 4 v4n1) 2 (Value.slice none 0 0)) w2) (fun (K3 : KT) =>
K3 .normal (Env.put (Env.put (Env.put (argE [a0]) 2 (Value.slice none 0 0)) 3 a0) 4 v4n1) w2) (thenK (fun e4 w5 =>
bindV (pBuildSlice P 23 0 [] w5) fun v5n6 w7 =>
bindV (pBuiltin P Builtin.append #[23, 23] 23 [v5n6, (e4 0)] w7) fun v7n8 w9 =>
R (.returned v7n8) w9) (topK P [(ResultVar.tmp 2)] R))
theorem F71ok {w : World} {R : Ending → World → Prop} {a0 : Value} (h : F71 a0 w R) : Calls P 71 #[a0] w R :=
  calls_of_ev bodies mixed (c := bodyOf Tryd.f71) (nt := 8) (rs := [(ResultVar.tmp 2)]) (args := [a0]) (fn := Tryd.f71) (by kernel_rfl) (by kernel_rfl) (by kernel_rfl) (by kernel_rfl) (by kernel_rfl) (by simp)
    (eq_mp (show F71 a0 w R = ev P C (bodyOf Tryd.f71) (argE [a0]) w (topK P [(ResultVar.tmp 2)] R) by kernel_rfl) h)

/-! ### moiety/rule.Apply$1 -/
def F72 (a0 : Value) (a1 : Value) (a2 : Value) (w : World) (R : Ending → World → Prop) : Prop :=
bindV (pAlloc P 25 w) fun v4n1 w2 =>
bindV (pAlloc P 49 w2) fun v6n3 w4 =>
drawE (fun (k5 : Env → World → Prop) (kp6 : List PanicEntry → Env → World → Prop) =>
takeE (fun w9 => pLoad P 25 a1 w9) (drew w4) fun v7n7 h8 =>
takeE (fun w12 => pLoad P 4 a2 w12) (drew w4) fun v8n10 h11 =>
takeE (fun w15 => some (a0, w15)) (drew w4) fun v9n13 h14 =>
(bindV (pBuild P 49 [(0, v9n13)] (drew w4)) fun v10n17 w18 =>
heldE [h11, h8] w18 (bindU (pStore P 25 v4n1 v7n7 w18) fun w20 =>
heldE [h11] w20 (bindU (pStore P 49 v6n3 v10n17 w20) fun w23 =>
k5 (Env.put (Env.put (Env.put (Env.put (Env.put (Env.put (Env.put (Env.put (argE [a0, a1, a2]) 4 v4n1) 5 (Value.bool false)) 6 v6n3) 7 v7n7) 8 v8n10) 9 v9n13) 10 v10n17) 5 v8n10) w23))) ∧
(bindU (pStore P 25 v4n1 v7n7 (drew w4)) fun w25 =>
heldE [h14, h11] w25 ((bindV (pBuild P 49 [(0, v9n13)] w25) fun v10n27 w28 =>
heldE [h11] w28 (bindU (pStore P 49 v6n3 v10n27 w28) fun w31 =>
k5 (Env.put (Env.put (Env.put (Env.put (Env.put (Env.put (Env.put (Env.put (argE [a0, a1, a2]) 4 v4n1) 5 (Value.bool false)) 6 v6n3) 7 v7n7) 8 v8n10) 9 v9n13) 10 v10n27) 5 v8n10) w31)) ∧
(heldE [h14] w25 (bindV (pBuild P 49 [(0, v9n13)] w25) fun v10n34 w35 =>
bindU (pStore P 49 v6n3 v10n34 w35) fun w37 =>
k5 (Env.put (Env.put (Env.put (Env.put (Env.put (Env.put (Env.put (Env.put (argE [a0, a1, a2]) 4 v4n1) 5 (Value.bool false)) 6 v6n3) 7 v7n7) 8 v8n10) 9 v9n13) 5 v8n10) 10 v10n34) w37))))) (fun e38 w39 =>
topK P [(ResultVar.cell 4 25), (ResultVar.tmp 5), (ResultVar.cell 6 49)] R .ret e38 w39) (fun c40 e41 w42 => R (.panicked c40) w42)
theorem F72ok {w : World} {R : Ending → World → Prop} {a0 : Value} {a1 : Value} {a2 : Value} (h : F72 a0 a1 a2 w R) : Calls P 72 #[a0, a1, a2] w R :=
  calls_of_ev bodies mixed (c := bodyOf Tryd.f72) (nt := 11) (rs := [(ResultVar.cell 4 25), (ResultVar.tmp 5), (ResultVar.cell 6 49)]) (args := [a0, a1, a2]) (fn := Tryd.f72) (by kernel_rfl) (by kernel_rfl) (by kernel_rfl) (by kernel_rfl) (by kernel_rfl) (by simp)
    (eq_mp (show F72 a0 a1 a2 w R = ev P C (bodyOf Tryd.f72) (argE [a0, a1, a2]) w (topK P [(ResultVar.cell 4 25), (ResultVar.tmp 5), (ResultVar.cell 6 49)] R) by kernel_rfl) h)

/-! ### moiety/rule.changes -/
def F73 (w : World) (R : Ending → World → Prop) : Prop :=
bindV (pAlloc P 123 w) fun v0n1 w2 =>
callE P 88 #[(Value.func (.func 44) #[] #[])] w2 (fun v1n5 w6 =>
callE P 88 #[(Value.func (.func 45) #[] #[])] w6 (fun v2n9 w10 =>
callE P 88 #[(Value.func (.func 89) #[] #[])] w10 (fun v3n13 w14 =>
callE P 88 #[(Value.func (.func 90) #[] #[])] w14 (fun v4n17 w18 =>
callE P 88 #[(Value.func (.func 91) #[] #[])] w18 (fun v5n21 w22 =>
bindV (pBuild P 123 [(5, (Value.func (.func 81) #[] #[])), (6, (Value.func (.func 82) #[] #[])), (7, (Value.func (.func 83) #[] #[])), (8, (Value.func (.func 84) #[] #[])), (9, (Value.func (.func 85) #[] #[])), (12, (Value.func (.func 85) #[] #[])), (10, (Value.func (.func 86) #[] #[])), (11, (Value.func (.func 87) #[] #[])), (13, v1n5), (14, v2n9), (15, v3n13), (16, v4n17), (17, v5n21), (18, (Value.func (.func 92) #[] #[])), (19, (Value.func (.func 93) #[] #[])), (20, (Value.func (.func 96) #[] #[])), (21, (Value.func (.func 97) #[] #[]))] w22) fun v6n23 w24 =>
bindU (pStore P 123 v0n1 v6n23 w24) fun w25 =>
topK P [(ResultVar.cell 0 123)] R .ret (Env.put (Env.put (Env.put (Env.put (Env.put (Env.put (Env.put (argE []) 0 v0n1) 1 v1n5) 2 v2n9) 3 v3n13) 4 v4n17) 5 v5n21) 6 v6n23) w25) (fun c19 w20 => R (.panicked c19) w20)) (fun c15 w16 => R (.panicked c15) w16)) (fun c11 w12 => R (.panicked c11) w12)) (fun c7 w8 => R (.panicked c7) w8)) (fun c3 w4 => R (.panicked c3) w4)
theorem F73ok {w : World} {R : Ending → World → Prop} (h : F73  w R) : Calls P 73 #[] w R :=
  calls_of_ev bodies mixed (c := bodyOf Tryd.f73) (nt := 7) (rs := [(ResultVar.cell 0 123)]) (args := []) (fn := Tryd.f73) (by kernel_rfl) (by kernel_rfl) (by kernel_rfl) (by kernel_rfl) (by kernel_rfl) (by simp)
    (eq_mp (show F73  w R = ev P C (bodyOf Tryd.f73) (argE []) w (topK P [(ResultVar.cell 0 123)] R) by kernel_rfl) h)

/-! ### moiety/rule.changes$3 -/
def F83 (a0 : Value) (a1 : Value) (a2 : Value) (w : World) (R : Ending → World → Prop) : Prop :=
bindV (pBox P 27 a1 w) fun v4n1 w2 =>
takeE (fun w5 => some (a0, w5)) (drew w2) fun v7n3 h4 =>
takeE (fun w8 => qNil v7n3 w8) (drew w2) fun v8n6 h7 =>
takeE (fun w11 => pFieldAddr P 25 v8n6 1 w11) (drew w2) fun v9n9 h10 =>
takeE (fun w14 => pLoad P 2 v9n9 w14) (drew w2) fun v10n12 h13 =>
takeE (fun w17 => pFieldAddr P 27 v4n1 2 w17) (drew w2) fun v11n15 h16 =>
takeE (fun w20 => pLoad P 2 v11n15 w20) (drew w2) fun v12n18 h19 =>
takeE (fun w23 => pBin P BinOp.add 2 false v10n12 v12n18 w23) (drew w2) fun v13n21 h22 =>
takeE (fun w26 => qNil v7n3 w26) (drew w2) fun v14n24 h25 =>
takeE (fun w29 => pFieldAddr P 25 v14n24 1 w29) (drew w2) fun v15n27 h28 =>
bindU (pStore P 2 v15n27 v13n21 (drew w2)) fun w31 =>
R (.returned (Value.int IntKind.i64 0)) w31
theorem F83ok {w : World} {R : Ending → World → Prop} {a0 : Value} {a1 : Value} {a2 : Value} (h : F83 a0 a1 a2 w R) : Calls P 83 #[a0, a1, a2] w R :=
  calls_of_ev bodies mixed (c := bodyOf Tryd.f83) (nt := 16) (rs := [(ResultVar.tmp 6)]) (args := [a0, a1, a2]) (fn := Tryd.f83) (by kernel_rfl) (by kernel_rfl) (by kernel_rfl) (by kernel_rfl) (by kernel_rfl) (by simp)
    (eq_mp (show F83 a0 a1 a2 w R = ev P C (bodyOf Tryd.f83) (argE [a0, a1, a2]) w (topK P [(ResultVar.tmp 6)] R) by kernel_rfl) h)

/-! ### moiety/rule.real -/
def F88 (a0 : Value) (w : World) (R : Ending → World → Prop) : Prop :=
bindV (pBox P 95 a0 w) fun v1n1 w2 =>
bindV (pFunc P (.func 98) [] [v1n1] w2) fun v3n3 w4 =>
R (.returned v3n3) w4
theorem F88ok {w : World} {R : Ending → World → Prop} {a0 : Value} (h : F88 a0 w R) : Calls P 88 #[a0] w R :=
  calls_of_ev bodies mixed (c := bodyOf Tryd.f88) (nt := 4) (rs := [(ResultVar.tmp 2)]) (args := [a0]) (fn := Tryd.f88) (by kernel_rfl) (by kernel_rfl) (by kernel_rfl) (by kernel_rfl) (by kernel_rfl) (by simp)
    (eq_mp (show F88 a0 w R = ev P C (bodyOf Tryd.f88) (argE [a0]) w (topK P [(ResultVar.tmp 2)] R) by kernel_rfl) h)

end Go.Proofs.YtieejbkbdfccdaaDoor
