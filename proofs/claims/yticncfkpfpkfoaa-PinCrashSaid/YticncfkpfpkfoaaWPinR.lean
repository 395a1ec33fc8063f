/- The functions' residual programs, printed by gen.py. -/
import Derived.Test.YticncfkpfpkfoaaBaseD
namespace Go.Proofs.Yticncfkpfpkfoaa
open Go
/-! ### moiety/moietylaw22.PinRows -/
def F16B0 (e : Env) (w : World) (K : KT) : Prop :=
bindV (pBin P BinOp.lss 3 false (e 39) (e 38) w) fun v40n41 w42 =>
condE v40n41 (fun (K43 : KT) =>
K43 .normal (Env.put e 40 v40n41) w42) (fun (K43 : KT) =>
K43 (.exit 0) (Env.put e 40 v40n41) w42) (thenK (fun e44 w45 =>
bindV (pBin P BinOp.add 3 true (e44 39) (Value.int IntKind.i64 1) w45) fun v45n46 w47 =>
bindV (pIndexAddr P 85 (e44 0) (e44 39) w47) fun v46n48 w49 =>
bindV (pFieldAddr P 87 v46n48 0 w49) fun v47n50 w51 =>
bindU (pStore P 3 v47n50 v45n46 w51) fun w52 =>
letK (blockK 1 (thenK (fun e54 w55 =>
bindV (pBin P BinOp.add 3 true (e54 39) (Value.int IntKind.i64 1) w55) fun v76n56 w57 =>
K .normal (Env.put (Env.put e54 76 v76n56) 39 v76n56) w57) K)) fun (K53 : KT) =>
bindV (pIndexAddr P 85 (e44 0) (e44 39) w52) fun v50n58 w59 =>
bindV (pLoad P 87 v50n58 w59) fun v51n60 w61 =>
callE P 58 #[v51n60] w61 (fun v52n64 w65 =>
bindV (pBin P BinOp.neq 26 true v52n64 (Value.int IntKind.i64 0) w65) fun v53n66 w67 =>
condE v53n66 (fun (K68 : KT) =>
K68 .ret (Env.put (Env.put (Env.put (Env.put (Env.put (Env.put (Env.put (Env.put (Env.put (Env.put (Env.put (Env.put (Env.put (Env.put (Env.put e44 41 (e44 39)) 9 (e44 39)) 42 (e44 0)) 43 (e44 39)) 44 (e44 39)) 45 v45n46) 46 v46n48) 47 v47n50) 48 (e44 0)) 49 (e44 39)) 50 v50n58) 51 v51n60) 52 v52n64) 53 v53n66) 6 (Value.bool true)) w67) (fun (K68 : KT) =>
K68 .normal (Env.put (Env.put (Env.put (Env.put (Env.put (Env.put (Env.put (Env.put (Env.put (Env.put (Env.put (Env.put (Env.put (Env.put e44 41 (e44 39)) 9 (e44 39)) 42 (e44 0)) 43 (e44 39)) 44 (e44 39)) 45 v45n46) 46 v46n48) 47 v47n50) 48 (e44 0)) 49 (e44 39)) 50 v50n58) 51 v51n60) 52 v52n64) 53 v53n66) w67) (thenK (fun e69 w70 =>
bindV (pIndexAddr P 85 (e69 0) (e69 9) w70) fun v57n71 w72 =>
bindV (pLoad P 87 v57n71 w72) fun v58n73 w74 =>
callE P 59 #[(e69 7), v58n73] w74 (fun v59n77 w78 =>
bindV (pBin P BinOp.neq 26 true v59n77 (Value.int IntKind.i64 0) w78) fun v60n79 w80 =>
condE v60n79 (fun (K81 : KT) =>
K81 .ret (Env.put (Env.put (Env.put (Env.put (Env.put (Env.put (Env.put (Env.put e69 54 (e69 7)) 55 (e69 0)) 56 (e69 9)) 57 v57n71) 58 v58n73) 59 v59n77) 60 v60n79) 6 (Value.bool false)) w80) (fun (K81 : KT) =>
K81 .normal (Env.put (Env.put (Env.put (Env.put (Env.put (Env.put (Env.put e69 54 (e69 7)) 55 (e69 0)) 56 (e69 9)) 57 v57n71) 58 v58n73) 59 v59n77) 60 v60n79) w80) (thenK (fun e82 w83 =>
callE P 60 #[(e82 7)] w83 (fun v63n86 w87 =>
bindV (pExtract P v63n86 0 w87) fun v64n88 w89 =>
bindV (pExtract P v63n86 1 w89) fun v65n90 w91 =>
bindV (pAlloc P 87 w91) fun v10n92 w93 =>
bindU (pStore P 87 v10n92 v64n88 w93) fun w94 =>
takeE (fun w97 => some (v65n90, w97)) (drew w94) fun v66n95 h96 =>
takeE (fun w100 => pBin P BinOp.neq 26 true v66n95 (Value.int IntKind.i64 0) w100) (drew w94) fun v67n98 h99 =>
takeE (fun w103 => some (v67n98, w103)) (drew w94) fun v68n101 h102 =>
takeE (fun w106 => qGrd v68n101 false (fun w106 => pLoad P 87 v10n92 w106) w106) (drew w94) fun v69n104 h105 =>
takeE (fun w109 => qGrd v68n101 false (fun w109 => some ((e82 0), w109)) w109) (drew w94) fun v70n107 h108 =>
takeE (fun w112 => qGrd v68n101 false (fun w112 => some ((e82 9), w112)) w112) (drew w94) fun v71n110 h111 =>
takeE (fun w115 => qGrd v68n101 false (fun w115 => pIndexAddr P 85 v70n107 v71n110 w115) w115) (drew w94) fun v72n113 h114 =>
takeE (fun w118 => qGrd v68n101 false (fun w118 => pLoad P 87 v72n113 w118) w118) (drew w94) fun v73n116 h117 =>
takeE (fun w121 => qGrd v68n101 false (fun w121 => pBin P BinOp.neq 87 false v69n104 v73n116 w121) w121) (drew w94) fun v74n119 h120 =>
takeE (fun w124 => qPick v68n101 (Value.bool true) v74n119 w124) (drew w94) fun v75n122 h123 =>
condE v75n122 (fun (K125 : KT) =>
K125 .ret (Env.put (Env.put (Env.put (Env.put (Env.put (Env.put (Env.put (Env.put (Env.put (Env.put (Env.put (Env.put (Env.put (Env.put (Env.put (Env.put (Env.put (Env.put e82 62 (e82 7)) 63 v63n86) 61 v63n86) 64 v64n88) 65 v65n90) 10 v10n92) 11 v65n90) 66 v66n95) 67 v67n98) 68 v68n101) 69 v69n104) 70 v70n107) 71 v71n110) 72 v72n113) 73 v73n116) 74 v74n119) 75 v75n122) 6 (Value.bool false)) (drew w94)) (fun (K125 : KT) =>
K125 .normal (Env.put (Env.put (Env.put (Env.put (Env.put (Env.put (Env.put (Env.put (Env.put (Env.put (Env.put (Env.put (Env.put (Env.put (Env.put (Env.put (Env.put e82 62 (e82 7)) 63 v63n86) 61 v63n86) 64 v64n88) 65 v65n90) 10 v10n92) 11 v65n90) 66 v66n95) 67 v67n98) 68 v68n101) 69 v69n104) 70 v70n107) 71 v71n110) 72 v72n113) 73 v73n116) 74 v74n119) 75 v75n122) (drew w94)) K53) (fun c84 w85 => K53 (.panic c84) (Env.put e82 62 (e82 7)) w85)) K53)) (fun c75 w76 => K53 (.panic c75) (Env.put (Env.put (Env.put (Env.put (Env.put e69 54 (e69 7)) 55 (e69 0)) 56 (e69 9)) 57 v57n71) 58 v58n73) w76)) K53)) (fun c62 w63 => K53 (.panic c62) (Env.put (Env.put (Env.put (Env.put (Env.put (Env.put (Env.put (Env.put (Env.put (Env.put (Env.put (Env.put e44 41 (e44 39)) 9 (e44 39)) 42 (e44 0)) 43 (e44 39)) 44 (e44 39)) 45 v45n46) 46 v46n48) 47 v47n50) 48 (e44 0)) 49 (e44 39)) 50 v50n58) 51 v51n60) w63)) K)
def F16 (a0 : Value) (a1 : Value) (a2 : Value) (w : World) (R : Ending → World → Prop) : Prop :=
callE P 57 #[] w (fun v20n3 w4 =>
bindV (pUn P UnOp.not v20n3 w4) fun v21n5 w6 =>
condE v21n5 (fun (K7 : KT) =>
K7 .ret (Env.put (Env.put (Env.put (Env.put (argE [a0, a1, a2]) 6 (Value.bool false)) 20 v20n3) 21 v21n5) 6 (Value.bool false)) w6) (fun (K7 : KT) =>
K7 .normal (Env.put (Env.put (Env.put (argE [a0, a1, a2]) 6 (Value.bool false)) 20 v20n3) 21 v21n5) w6) (thenK (fun e8 w9 =>
bindV (pBuiltin P Builtin.len #[85] 3 [(e8 0)] w9) fun v23n10 w11 =>
bindV (pBin P BinOp.lss 3 true v23n10 (Value.int IntKind.i64 2) w11) fun v24n12 w13 =>
grdE v24n12 false (fun (k14 : Value → World → Prop) => k14 (e8 0) w13) (fun v26n15 w16 =>
grdE v24n12 false (fun (k17 : Value → World → Prop) => bindV (pBuiltin P Builtin.len #[85] 3 [v26n15] w16) k17) (fun v27n18 w19 =>
grdE v24n12 false (fun (k20 : Value → World → Prop) => bindV (pBin P BinOp.gtr 3 true v27n18 (Value.int IntKind.i64 20) w19) k20) (fun v28n21 w22 =>
pickE v24n12 (Value.bool true) v28n21 fun v29n23 =>
condE v29n23 (fun (K24 : KT) =>
K24 .ret (Env.put (Env.put (Env.put (Env.put (Env.put (Env.put (Env.put (Env.put (Env.put e8 22 (e8 0)) 23 v23n10) 24 v24n12) 25 v24n12) 26 v26n15) 27 v27n18) 28 v28n21) 29 v29n23) 6 (Value.bool true)) w22) (fun (K24 : KT) =>
K24 .normal (Env.put (Env.put (Env.put (Env.put (Env.put (Env.put (Env.put (Env.put e8 22 (e8 0)) 23 v23n10) 24 v24n12) 25 v24n12) 26 v26n15) 27 v27n18) 28 v28n21) 29 v29n23) w22) (thenK (fun e25 w26 =>
callE P 27 #[(Value.int IntKind.i64 2)] w26 (fun v31n29 w30 =>
bindV (pExtract P v31n29 0 w30) fun v32n31 w32 =>
bindV (pExtract P v31n29 1 w32) fun v33n33 w34 =>
bindV (pBuildSlice P 85 0 [] w34) fun v34n35 w36 =>
bindV (pBuiltin P Builtin.append #[85, 85] 85 [v34n35, (e25 0)] w36) fun v36n37 w38 =>
bindV (pBuiltin P Builtin.len #[85] 3 [v36n37] w38) fun v38n39 w40 =>
loopE F16B0 (Env.put (Env.put (Env.put (Env.put (Env.put (Env.put (Env.put (Env.put (Env.put (Env.put (Env.put (Env.put (Env.put e25 31 v31n29) 30 v31n29) 32 v32n31) 33 v33n33) 7 v32n31) 8 v33n33) 34 v34n35) 35 (e25 0)) 36 v36n37) 0 v36n37) 37 v36n37) 38 v38n39) 39 (Value.int IntKind.i64 0)) w40 (blockK 0 (thenK (fun e126 w127 =>
bindV (pBuiltin P Builtin.len #[85] 3 [(e126 0)] w127) fun v78n128 w129 =>
bindV (pBin P BinOp.rem 3 true v78n128 (Value.int IntKind.i64 2) w129) fun v82n130 w131 =>
callE P 31 #[(e126 7), v82n130] w131 (fun v83n134 w135 =>
bindV (pExtract P v83n134 0 w135) fun v84n136 w137 =>
bindV (pExtract P v83n134 1 w137) fun v85n138 w139 =>
bindV (pAlloc P 25 w139) fun v13n140 w141 =>
bindU (pStore P 25 v13n140 v84n136 w141) fun w142 =>
bindV (pBin P BinOp.rem 5 true (e126 1) (Value.int IntKind.u8 64) w142) fun v87n143 w144 =>
bindV (pIndexAddr P 25 v13n140 v87n143 w144) fun v88n145 w146 =>
bindV (pLoad P 5 v88n145 w146) fun v89n147 w148 =>
bindV (pBin P BinOp.and 5 true (e126 2) (Value.int IntKind.u8 254) w148) fun v91n149 w150 =>
bindV (pBin P BinOp.or 5 true (Value.int IntKind.u8 1) v91n149 w150) fun v92n151 w152 =>
bindV (pBin P BinOp.xor 5 false v89n147 v92n151 w152) fun v93n153 w154 =>
bindV (pIndexAddr P 25 v13n140 v87n143 w154) fun v94n155 w156 =>
bindU (pStore P 5 v94n155 v93n153 w156) fun w157 =>
bindV (pBin P BinOp.rem 3 true v78n128 (Value.int IntKind.i64 2) w157) fun v97n158 w159 =>
bindV (pLoad P 25 v13n140 w159) fun v98n160 w161 =>
callE P 28 #[(e126 7), v97n158, v98n160] w161 (fun v99n164 w165 =>
bindV (pBin P BinOp.sub 3 true v78n128 (Value.int IntKind.i64 2) w165) fun v102n166 w167 =>
bindV (pIndexAddr P 85 (e126 0) v102n166 w167) fun v103n168 w169 =>
bindV (pLoad P 87 v103n168 w169) fun v104n170 w171 =>
bindV (pAlloc P 87 w171) fun v15n172 w173 =>
bindU (pStore P 87 v15n172 v104n170 w173) fun w174 =>
bindV (pLoad P 25 v13n140 w174) fun v106n175 w176 =>
callE P 61 #[v106n175] w176 (fun v107n179 w180 =>
bindV (pExtract P v107n179 0 w180) fun v108n181 w182 =>
bindV (pExtract P v107n179 1 w182) fun v109n183 w184 =>
bindV (pAlloc P 93 w184) fun v16n185 w186 =>
bindU (pStore P 93 v16n185 v108n181 w186) fun w187 =>
grdE v109n183 true (fun (k188 : Value → World → Prop) => bindV (pIndexAddr P 93 v16n185 (Value.int IntKind.i64 0) w187) k188) (fun v112n189 w190 =>
grdE v109n183 true (fun (k191 : Value → World → Prop) => bindV (pLoad P 3 v112n189 w190) k191) (fun v113n192 w193 =>
grdE v109n183 true (fun (k194 : Value → World → Prop) => bindV (pBin P BinOp.rem 3 true v113n192 (Value.int IntKind.i64 2) w193) k194) (fun v114n195 w196 =>
grdE v109n183 true (fun (k197 : Value → World → Prop) => k197 v78n128 w196) (fun v115n198 w199 =>
grdE v109n183 true (fun (k200 : Value → World → Prop) => bindV (pBin P BinOp.rem 3 true v115n198 (Value.int IntKind.i64 2) w199) k200) (fun v116n201 w202 =>
grdE v109n183 true (fun (k203 : Value → World → Prop) => bindV (pBin P BinOp.eql 3 false v114n195 v116n201 w202) k203) (fun v117n204 w205 =>
pickE v109n183 v117n204 (Value.bool false) fun v118n206 =>
grdE v118n206 true (fun (k207 : Value → World → Prop) => bindV (pIndexAddr P 93 v16n185 (Value.int IntKind.i64 0) w205) k207) (fun v120n208 w209 =>
grdE v118n206 true (fun (k210 : Value → World → Prop) => bindV (pLoad P 3 v120n208 w209) k210) (fun v121n211 w212 =>
grdE v118n206 true (fun (k213 : Value → World → Prop) => k213 v78n128 w212) (fun v122n214 w215 =>
grdE v118n206 true (fun (k216 : Value → World → Prop) => bindV (pBin P BinOp.sub 3 true v122n214 (Value.int IntKind.i64 1) w215) k216) (fun v123n217 w218 =>
grdE v118n206 true (fun (k219 : Value → World → Prop) => bindV (pBin P BinOp.gtr 3 false v121n211 v123n217 w218) k219) (fun v124n220 w221 =>
pickE v118n206 v124n220 (Value.bool false) fun v125n222 =>
condE v125n222 (fun (K223 : KT) =>
K223 .ret (Env.put (Env.put (Env.put (Env.put (Env.put (Env.put (Env.put (Env.put (Env.put (Env.put (Env.put (Env.put (Env.put (Env.put (Env.put (Env.put (Env.put (Env.put (Env.put (Env.put (Env.put (Env.put (Env.put (Env.put (Env.put (Env.put (Env.put (Env.put (Env.put (Env.put (Env.put (Env.put (Env.put (Env.put (Env.put (Env.put (Env.put (Env.put (Env.put (Env.put (Env.put (Env.put (Env.put (Env.put (Env.put (Env.put (Env.put (Env.put (Env.put (Env.put (Env.put (Env.put (Env.put (Env.put (Env.put (Env.put e126 77 (e126 0)) 78 v78n128) 12 v78n128) 80 (e126 7)) 81 v78n128) 82 v82n130) 83 v83n134) 79 v83n134) 84 v84n136) 85 v85n138) 13 v13n140) 14 v85n138) 86 (e126 1)) 87 v87n143) 88 v88n145) 89 v89n147) 90 (e126 2)) 91 v91n149) 92 v92n151) 93 v93n153) 94 v94n155) 95 (e126 7)) 96 v78n128) 97 v97n158) 98 v98n160) 99 v99n164) 100 (e126 0)) 101 v78n128) 102 v102n166) 103 v103n168) 104 v104n170) 15 v15n172) 106 v106n175) 107 v107n179) 105 v107n179) 108 v108n181) 109 v109n183) 16 v16n185) 17 v109n183) 110 v109n183) 111 v109n183) 112 v112n189) 113 v113n192) 114 v114n195) 115 v115n198) 116 v116n201) 117 v117n204) 118 v118n206) 119 v118n206) 120 v120n208) 121 v121n211) 122 v122n214) 123 v123n217) 124 v124n220) 125 v125n222) 6 (Value.bool true)) w221) (fun (K223 : KT) =>
K223 .normal (Env.put (Env.put (Env.put (Env.put (Env.put (Env.put (Env.put (Env.put (Env.put (Env.put (Env.put (Env.put (Env.put (Env.put (Env.put (Env.put (Env.put (Env.put (Env.put (Env.put (Env.put (Env.put (Env.put (Env.put (Env.put (Env.put (Env.put (Env.put (Env.put (Env.put (Env.put (Env.put (Env.put (Env.put (Env.put (Env.put (Env.put (Env.put (Env.put (Env.put (Env.put (Env.put (Env.put (Env.put (Env.put (Env.put (Env.put (Env.put (Env.put (Env.put (Env.put (Env.put (Env.put (Env.put (Env.put e126 77 (e126 0)) 78 v78n128) 12 v78n128) 80 (e126 7)) 81 v78n128) 82 v82n130) 83 v83n134) 79 v83n134) 84 v84n136) 85 v85n138) 13 v13n140) 14 v85n138) 86 (e126 1)) 87 v87n143) 88 v88n145) 89 v89n147) 90 (e126 2)) 91 v91n149) 92 v92n151) 93 v93n153) 94 v94n155) 95 (e126 7)) 96 v78n128) 97 v97n158) 98 v98n160) 99 v99n164) 100 (e126 0)) 101 v78n128) 102 v102n166) 103 v103n168) 104 v104n170) 15 v15n172) 106 v106n175) 107 v107n179) 105 v107n179) 108 v108n181) 109 v109n183) 16 v16n185) 17 v109n183) 110 v109n183) 111 v109n183) 112 v112n189) 113 v113n192) 114 v114n195) 115 v115n198) 116 v116n201) 117 v117n204) 118 v118n206) 119 v118n206) 120 v120n208) 121 v121n211) 122 v122n214) 123 v123n217) 124 v124n220) 125 v125n222) w221) (thenK (fun e224 w225 =>
callE P 60 #[(e224 7)] w225 (fun v128n228 w229 =>
bindV (pExtract P v128n228 0 w229) fun v129n230 w231 =>
bindV (pExtract P v128n228 1 w231) fun v130n232 w233 =>
bindV (pAlloc P 87 w233) fun v18n234 w235 =>
bindU (pStore P 87 v18n234 v129n230 w235) fun w236 =>
bindV (pBin P BinOp.eql 26 true v130n232 (Value.int IntKind.i64 0) w236) fun v132n237 w238 =>
grdE v132n237 true (fun (k239 : Value → World → Prop) => bindV (pLoad P 87 v18n234 w238) k239) (fun v134n240 w241 =>
grdE v132n237 true (fun (k242 : Value → World → Prop) => bindV (pLoad P 87 (e224 15) w241) k242) (fun v135n243 w244 =>
grdE v132n237 true (fun (k245 : Value → World → Prop) => bindV (pBin P BinOp.eql 87 false v134n240 v135n243 w244) k245) (fun v136n246 w247 =>
pickE v132n237 v136n246 (Value.bool false) fun v137n248 =>
R (.returned v137n248) w247) w244) w241) w238) (fun c226 w227 => R (.panicked c226) w227)) (topK P [(ResultVar.tmp 6)] R))) w218) w215) w212) w209) w205) w202) w199) w196) w193) w190) w187) (fun c177 w178 => R (.panicked c177) w178)) (fun c162 w163 => R (.panicked c162) w163)) (fun c132 w133 => R (.panicked c132) w133)) (topK P [(ResultVar.tmp 6)] R)))) (fun c27 w28 => R (.panicked c27) w28)) (topK P [(ResultVar.tmp 6)] R))) w19) w16) w13) (topK P [(ResultVar.tmp 6)] R))) (fun c1 w2 => R (.panicked c1) w2)
theorem F16ok {w : World} {R : Ending → World → Prop} {a0 : Value} {a1 : Value} {a2 : Value} (h : F16 a0 a1 a2 w R) : Calls P 16 #[a0, a1, a2] w R :=
  calls_of_ev bodies mixed (c := bodyOf Try.f16) (nt := 138) (rs := [(ResultVar.tmp 6)]) (args := [a0, a1, a2]) (fn := Try.f16) (by kernel_rfl) (by kernel_rfl) (by kernel_rfl) (by kernel_rfl) (by kernel_rfl) (by simp)
    (eq_mp (show F16 a0 a1 a2 w R = ev P C (bodyOf Try.f16) (argE [a0, a1, a2]) w (topK P [(ResultVar.tmp 6)] R) by kernel_rfl) h)

end Go.Proofs.Yticncfkpfpkfoaa
