/- The functions' residual programs, printed by gen.py. -/
import Derived.Test.YticncfkpfpkfoaaBaseD
namespace Go.Proofs.Yticncfkpfpkfoaa
open Go
/-! ### moiety/moietylaw19.RollKeeps -/
def F14B1 (e : Env) (w : World) (K : KT) : Prop :=
bindV (pBin P BinOp.lss 3 false (e 72) (e 71) w) fun v73n114 w115 =>
condE v73n114 (fun (K116 : KT) =>
K116 .normal (Env.put e 73 v73n114) w115) (fun (K116 : KT) =>
K116 (.exit 3) (Env.put e 73 v73n114) w115) (thenK (fun e117 w118 =>
bindV (pIndexAddr P 76 (e117 70) (e117 72) w118) fun v75n119 w120 =>
bindV (pLoad P 25 v75n119 w120) fun v76n121 w122 =>
bindV (pAlloc P 25 w122) fun v18n123 w124 =>
bindU (pStore P 25 v18n123 v76n121 w124) fun w125 =>
bindV (pBin P BinOp.sub 3 false (e117 0) (e117 12) w125) fun v81n126 w127 =>
bindV (pBin P BinOp.add 3 false v81n126 (e117 72) w127) fun v83n128 w129 =>
callE P 31 #[(e117 5), v83n128] w129 (fun v84n132 w133 =>
bindV (pExtract P v84n132 0 w133) fun v85n134 w135 =>
bindV (pExtract P v84n132 1 w135) fun v86n136 w137 =>
bindV (pAlloc P 25 w137) fun v19n138 w139 =>
bindU (pStore P 25 v19n138 v85n134 w139) fun w140 =>
bindV (pLoad P 25 v19n138 w140) fun v87n141 w142 =>
bindV (pLoad P 25 v18n123 w142) fun v88n143 w144 =>
bindV (pBin P BinOp.neq 25 false v87n141 v88n143 w144) fun v89n145 w146 =>
condE v89n145 (fun (K147 : KT) =>
K147 .ret (Env.put (Env.put (Env.put (Env.put (Env.put (Env.put (Env.put (Env.put (Env.put (Env.put (Env.put (Env.put (Env.put (Env.put (Env.put (Env.put (Env.put (Env.put (Env.put (Env.put (Env.put e117 74 (e117 72)) 75 v75n119) 76 v76n121) 18 v18n123) 17 (e117 72)) 78 (e117 5)) 79 (e117 0)) 80 (e117 12)) 81 v81n126) 82 (e117 72)) 83 v83n128) 84 v84n132) 77 v84n132) 85 v85n134) 86 v86n136) 19 v19n138) 20 v86n136) 87 v87n141) 88 v88n143) 89 v89n145) 4 (Value.bool false)) w146) (fun (K147 : KT) =>
K147 .normal (Env.put (Env.put (Env.put (Env.put (Env.put (Env.put (Env.put (Env.put (Env.put (Env.put (Env.put (Env.put (Env.put (Env.put (Env.put (Env.put (Env.put (Env.put (Env.put (Env.put e117 74 (e117 72)) 75 v75n119) 76 v76n121) 18 v18n123) 17 (e117 72)) 78 (e117 5)) 79 (e117 0)) 80 (e117 12)) 81 v81n126) 82 (e117 72)) 83 v83n128) 84 v84n132) 77 v84n132) 85 v85n134) 86 v86n136) 19 v19n138) 20 v86n136) 87 v87n141) 88 v88n143) 89 v89n145) w146) (blockK 4 (thenK (fun e148 w149 =>
bindV (pBin P BinOp.add 3 true (e148 72) (Value.int IntKind.i64 1) w149) fun v90n150 w151 =>
K .normal (Env.put (Env.put e148 90 v90n150) 72 v90n150) w151) K))) (fun c130 w131 => K (.panic c130) (Env.put (Env.put (Env.put (Env.put (Env.put (Env.put (Env.put (Env.put (Env.put (Env.put (Env.put e117 74 (e117 72)) 75 v75n119) 76 v76n121) 18 v18n123) 17 (e117 72)) 78 (e117 5)) 79 (e117 0)) 80 (e117 12)) 81 v81n126) 82 (e117 72)) 83 v83n128) w131)) K)
def F14B0 (e : Env) (w : World) (K : KT) : Prop :=
bindV (pBin P BinOp.lss 3 false (e 59) (e 58) w) fun v60n70 w71 =>
condE v60n70 (fun (K72 : KT) =>
K72 .normal (Env.put e 60 v60n70) w71) (fun (K72 : KT) =>
K72 (.exit 0) (Env.put e 60 v60n70) w71) (thenK (fun e73 w74 =>
bindV (pIndexAddr P 67 (e73 57) (e73 59) w74) fun v61n75 w76 =>
bindV (pLoad P 22 v61n75 w76) fun v62n77 w78 =>
bindV (pBuiltin P Builtin.len #[22] 3 [v62n77] w78) fun v64n79 w80 =>
callE P 46 #[v64n79] w80 (fun v65n83 w84 =>
callE P 47 #[(e73 8), v62n77] w84 (fun v68n87 w88 =>
letK (blockK 1 (thenK (fun e90 w91 =>
bindV (pBin P BinOp.add 3 true (e90 59) (Value.int IntKind.i64 1) w91) fun v123n92 w93 =>
K .normal (Env.put (Env.put e90 123 v123n92) 59 v123n92) w93) K)) fun (K89 : KT) =>
bindV (pBuiltin P Builtin.len #[22] 3 [v62n77] w88) fun v109n94 w95 =>
bindV (pBin P BinOp.gtr 3 true v109n94 (Value.int IntKind.i64 3840) w95) fun v110n96 w97 =>
condE v110n96 (fun (K98 : KT) =>
bindV (pBin P BinOp.neq 26 true v68n87 (Value.int IntKind.i64 3) w97) fun v112n99 w100 =>
condE v112n99 (fun (K101 : KT) =>
K101 .ret (Env.put (Env.put (Env.put (Env.put (Env.put (Env.put (Env.put (Env.put (Env.put (Env.put (Env.put (Env.put (Env.put (Env.put (Env.put (Env.put (Env.put (Env.put e73 61 v61n75) 62 v62n77) 14 v62n77) 63 v62n77) 64 v64n79) 65 v65n83) 15 v65n83) 66 (e73 8)) 67 v62n77) 68 v68n87) 16 v68n87) 108 v62n77) 109 v109n94) 110 v110n96) 107 v110n96) 111 v68n87) 112 v112n99) 4 (Value.bool false)) w100) (fun (K101 : KT) =>
K101 .normal (Env.put (Env.put (Env.put (Env.put (Env.put (Env.put (Env.put (Env.put (Env.put (Env.put (Env.put (Env.put (Env.put (Env.put (Env.put (Env.put (Env.put e73 61 v61n75) 62 v62n77) 14 v62n77) 63 v62n77) 64 v64n79) 65 v65n83) 15 v65n83) 66 (e73 8)) 67 v62n77) 68 v68n87) 16 v68n87) 108 v62n77) 109 v109n94) 110 v110n96) 107 v110n96) 111 v68n87) 112 v112n99) w100) K98) (fun (K98 : KT) =>
bindV (pBin P BinOp.gtr 3 false v65n83 (e73 12) w97) fun v116n102 w103 =>
condE v116n102 (fun (K104 : KT) =>
bindV (pBin P BinOp.neq 26 true v68n87 (Value.int IntKind.i64 8) w103) fun v118n105 w106 =>
condE v118n105 (fun (K107 : KT) =>
K107 .ret (Env.put (Env.put (Env.put (Env.put (Env.put (Env.put (Env.put (Env.put (Env.put (Env.put (Env.put (Env.put (Env.put (Env.put (Env.put (Env.put (Env.put (Env.put (Env.put (Env.put (Env.put (Env.put e73 61 v61n75) 62 v62n77) 14 v62n77) 63 v62n77) 64 v64n79) 65 v65n83) 15 v65n83) 66 (e73 8)) 67 v62n77) 68 v68n87) 16 v68n87) 108 v62n77) 109 v109n94) 110 v110n96) 107 v110n96) 114 v65n83) 115 (e73 12)) 116 v116n102) 113 v116n102) 117 v68n87) 118 v118n105) 4 (Value.bool false)) w106) (fun (K107 : KT) =>
K107 .normal (Env.put (Env.put (Env.put (Env.put (Env.put (Env.put (Env.put (Env.put (Env.put (Env.put (Env.put (Env.put (Env.put (Env.put (Env.put (Env.put (Env.put (Env.put (Env.put (Env.put (Env.put e73 61 v61n75) 62 v62n77) 14 v62n77) 63 v62n77) 64 v64n79) 65 v65n83) 15 v65n83) 66 (e73 8)) 67 v62n77) 68 v68n87) 16 v68n87) 108 v62n77) 109 v109n94) 110 v110n96) 107 v110n96) 114 v65n83) 115 (e73 12)) 116 v116n102) 113 v116n102) 117 v68n87) 118 v118n105) w106) K104) (fun (K104 : KT) =>
callE P 55 #[v62n77] w103 (fun v70n110 w111 =>
bindV (pBuiltin P Builtin.len #[76] 3 [v70n110] w111) fun v71n112 w113 =>
loopE F14B1 (Env.put (Env.put (Env.put (Env.put (Env.put (Env.put (Env.put (Env.put (Env.put (Env.put (Env.put (Env.put (Env.put (Env.put (Env.put (Env.put (Env.put (Env.put (Env.put (Env.put (Env.put (Env.put (Env.put e73 61 v61n75) 62 v62n77) 14 v62n77) 63 v62n77) 64 v64n79) 65 v65n83) 15 v65n83) 66 (e73 8)) 67 v62n77) 68 v68n87) 16 v68n87) 108 v62n77) 109 v109n94) 110 v110n96) 107 v110n96) 114 v65n83) 115 (e73 12)) 116 v116n102) 113 v116n102) 69 v62n77) 70 v70n110) 71 v71n112) 72 (Value.int IntKind.i64 0)) w113 (blockK 3 (thenK (fun e152 w153 =>
bindV (pBin P BinOp.neq 26 true (e152 16) (Value.int IntKind.i64 0) w153) fun v92n154 w155 =>
grdE v92n154 false (fun (k156 : Value → World → Prop) => k156 (e152 14) w155) (fun v94n157 w158 =>
grdE v92n154 false (fun (k159 : Value → World → Prop) => bindV (pBuiltin P Builtin.len #[22] 3 [v94n157] w158) k159) (fun v95n160 w161 =>
grdE v92n154 false (fun (k162 : Value → World → Prop) => callE P 56 #[v95n160] w161 k162 (fun c163 w164 => K104 (.panic c163) (Env.put (Env.put (Env.put (Env.put (Env.put e152 91 (e152 16)) 92 v92n154) 93 v92n154) 94 v94n157) 95 v95n160) w164)) (fun v96n165 w166 =>
grdE v92n154 false (fun (k167 : Value → World → Prop) => k167 (e152 15) w166) (fun v97n168 w169 =>
grdE v92n154 false (fun (k170 : Value → World → Prop) => bindV (pBin P BinOp.neq 3 false v96n165 v97n168 w169) k170) (fun v98n171 w172 =>
pickE v92n154 (Value.bool true) v98n171 fun v99n173 =>
condE v99n173 (fun (K174 : KT) =>
K174 .ret (Env.put (Env.put (Env.put (Env.put (Env.put (Env.put (Env.put (Env.put (Env.put (Env.put e152 91 (e152 16)) 92 v92n154) 93 v92n154) 94 v94n157) 95 v95n160) 96 v96n165) 97 v97n168) 98 v98n171) 99 v99n173) 4 (Value.bool false)) w172) (fun (K174 : KT) =>
K174 .normal (Env.put (Env.put (Env.put (Env.put (Env.put (Env.put (Env.put (Env.put (Env.put e152 91 (e152 16)) 92 v92n154) 93 v92n154) 94 v94n157) 95 v95n160) 96 v96n165) 97 v97n168) 98 v98n171) 99 v99n173) w172) (thenK (fun e175 w176 =>
bindV (pBuildSlice P 67 1 [(0, (e175 14))] w176) fun v102n177 w178 =>
bindV (pBuiltin P Builtin.append #[67, 67] 67 [(e175 11), v102n177] w178) fun v103n179 w180 =>
bindV (pBin P BinOp.sub 3 false (e175 12) (e175 15) w180) fun v106n181 w182 =>
K104 .normal (Env.put (Env.put (Env.put (Env.put (Env.put (Env.put (Env.put (Env.put (Env.put e175 100 (e175 11)) 101 (e175 14)) 102 v102n177) 103 v103n179) 11 v103n179) 104 (e175 12)) 105 (e175 15)) 106 v106n181) 12 v106n181) w182) K104)) w169) w166) w161) w158) w155) K104))) (fun c108 w109 => K104 (.panic c108) (Env.put (Env.put (Env.put (Env.put (Env.put (Env.put (Env.put (Env.put (Env.put (Env.put (Env.put (Env.put (Env.put (Env.put (Env.put (Env.put (Env.put (Env.put (Env.put (Env.put e73 61 v61n75) 62 v62n77) 14 v62n77) 63 v62n77) 64 v64n79) 65 v65n83) 15 v65n83) 66 (e73 8)) 67 v62n77) 68 v68n87) 16 v68n87) 108 v62n77) 109 v109n94) 110 v110n96) 107 v110n96) 114 v65n83) 115 (e73 12)) 116 v116n102) 113 v116n102) 69 v62n77) w109)) K98) (blockK 2 (thenK (fun e183 w184 =>
callE P 53 #[(e183 8)] w184 (fun v120n187 w188 =>
bindV (pBin P BinOp.neq 3 false v120n187 (e183 12) w188) fun v122n189 w190 =>
condE v122n189 (fun (K191 : KT) =>
K191 .ret (Env.put (Env.put (Env.put (Env.put (Env.put e183 119 (e183 8)) 120 v120n187) 121 (e183 12)) 122 v122n189) 4 (Value.bool false)) w190) (fun (K191 : KT) =>
K191 .normal (Env.put (Env.put (Env.put (Env.put e183 119 (e183 8)) 120 v120n187) 121 (e183 12)) 122 v122n189) w190) K89) (fun c185 w186 => K89 (.panic c185) (Env.put e183 119 (e183 8)) w186)) K89))) (fun c85 w86 => K (.panic c85) (Env.put (Env.put (Env.put (Env.put (Env.put (Env.put (Env.put (Env.put (Env.put e73 61 v61n75) 62 v62n77) 14 v62n77) 63 v62n77) 64 v64n79) 65 v65n83) 15 v65n83) 66 (e73 8)) 67 v62n77) w86)) (fun c81 w82 => K (.panic c81) (Env.put (Env.put (Env.put (Env.put (Env.put e73 61 v61n75) 62 v62n77) 14 v62n77) 63 v62n77) 64 v64n79) w82)) K)
def F14 (a0 : Value) (a1 : Value) (w : World) (R : Ending → World → Prop) : Prop :=
callE P 44 #[] w (fun v24n3 w4 =>
bindV (pUn P UnOp.not v24n3 w4) fun v25n5 w6 =>
condE v25n5 (fun (K7 : KT) =>
K7 .ret (Env.put (Env.put (Env.put (Env.put (argE [a0, a1]) 4 (Value.bool false)) 24 v24n3) 25 v25n5) 4 (Value.bool false)) w6) (fun (K7 : KT) =>
K7 .normal (Env.put (Env.put (Env.put (argE [a0, a1]) 4 (Value.bool false)) 24 v24n3) 25 v25n5) w6) (thenK (fun e8 w9 =>
callE P 54 #[(e8 1)] w9 (fun v27n12 w13 =>
grdE v27n12 false (fun (k14 : Value → World → Prop) => k14 (e8 0) w13) (fun v29n15 w16 =>
grdE v27n12 false (fun (k17 : Value → World → Prop) => bindV (pBin P BinOp.lss 3 true v29n15 (Value.int IntKind.i64 1) w16) k17) (fun v30n18 w19 =>
pickE v27n12 (Value.bool true) v30n18 fun v31n20 =>
grdE v31n20 false (fun (k21 : Value → World → Prop) => k21 (e8 0) w19) (fun v33n22 w23 =>
grdE v31n20 false (fun (k24 : Value → World → Prop) => bindV (pBin P BinOp.gtr 3 true v33n22 (Value.int IntKind.i64 200) w23) k24) (fun v34n25 w26 =>
pickE v31n20 (Value.bool true) v34n25 fun v35n27 =>
condE v35n27 (fun (K28 : KT) =>
K28 .ret (Env.put (Env.put (Env.put (Env.put (Env.put (Env.put (Env.put (Env.put (Env.put (Env.put (Env.put e8 26 (e8 1)) 27 v27n12) 28 v27n12) 29 v29n15) 30 v30n18) 31 v31n20) 32 v31n20) 33 v33n22) 34 v34n25) 35 v35n27) 4 (Value.bool true)) w26) (fun (K28 : KT) =>
K28 .normal (Env.put (Env.put (Env.put (Env.put (Env.put (Env.put (Env.put (Env.put (Env.put (Env.put e8 26 (e8 1)) 27 v27n12) 28 v27n12) 29 v29n15) 30 v30n18) 31 v31n20) 32 v31n20) 33 v33n22) 34 v34n25) 35 v35n27) w26) (thenK (fun e29 w30 =>
callE P 27 #[(e29 0)] w30 (fun v38n33 w34 =>
bindV (pExtract P v38n33 0 w34) fun v39n35 w36 =>
bindV (pExtract P v38n33 1 w36) fun v40n37 w38 =>
bindV (pBuild P 65 [(1, (e29 0))] w38) fun v42n39 w40 =>
bindV (pAlloc P 65 w40) fun v7n41 w42 =>
bindU (pStore P 65 v7n41 v42n39 w42) fun w43 =>
bindV (pLoad P 65 v7n41 w43) fun v45n44 w45 =>
callE P 45 #[v39n35, v45n44] w45 (fun v46n48 w49 =>
bindV (pExtract P v46n48 0 w49) fun v47n50 w51 =>
bindV (pExtract P v46n48 1 w51) fun v48n52 w53 =>
bindV (pExtract P v46n48 2 w53) fun v49n54 w55 =>
bindV (pBin P BinOp.neq 26 true v49n54 (Value.int IntKind.i64 0) w55) fun v51n56 w57 =>
grdE v51n56 false (fun (k58 : Value → World → Prop) => k58 v47n50 w57) (fun v53n59 w60 =>
grdE v51n56 false (fun (k61 : Value → World → Prop) => bindV (pBin P BinOp.eql 66 true v53n59 (Value.pointer none) w60) k61) (fun v54n62 w63 =>
pickE v51n56 (Value.bool true) v54n62 fun v55n64 =>
condE v55n64 (fun (K65 : KT) =>
K65 .ret (Env.put (Env.put (Env.put (Env.put (Env.put (Env.put (Env.put (Env.put (Env.put (Env.put (Env.put (Env.put (Env.put (Env.put (Env.put (Env.put (Env.put (Env.put (Env.put (Env.put (Env.put (Env.put (Env.put (Env.put (Env.put (Env.put (Env.put e29 37 (e29 0)) 38 v38n33) 36 v38n33) 39 v39n35) 40 v40n37) 5 v39n35) 6 v40n37) 41 (e29 0)) 42 v42n39) 7 v7n41) 44 v39n35) 45 v45n44) 46 v46n48) 43 v46n48) 47 v47n50) 48 v48n52) 49 v49n54) 8 v47n50) 9 v48n52) 10 v49n54) 50 v49n54) 51 v51n56) 52 v51n56) 53 v53n59) 54 v54n62) 55 v55n64) 4 (Value.bool false)) w63) (fun (K65 : KT) =>
K65 .normal (Env.put (Env.put (Env.put (Env.put (Env.put (Env.put (Env.put (Env.put (Env.put (Env.put (Env.put (Env.put (Env.put (Env.put (Env.put (Env.put (Env.put (Env.put (Env.put (Env.put (Env.put (Env.put (Env.put (Env.put (Env.put (Env.put e29 37 (e29 0)) 38 v38n33) 36 v38n33) 39 v39n35) 40 v40n37) 5 v39n35) 6 v40n37) 41 (e29 0)) 42 v42n39) 7 v7n41) 44 v39n35) 45 v45n44) 46 v46n48) 43 v46n48) 47 v47n50) 48 v48n52) 49 v49n54) 8 v47n50) 9 v48n52) 10 v49n54) 50 v49n54) 51 v51n56) 52 v51n56) 53 v53n59) 54 v54n62) 55 v55n64) w63) (thenK (fun e66 w67 =>
bindV (pBuiltin P Builtin.len #[67] 3 [(e66 1)] w67) fun v58n68 w69 =>
loopE F14B0 (Env.put (Env.put (Env.put (Env.put (Env.put (Env.put e66 11 (Value.slice none 0 0)) 56 (e66 0)) 12 (e66 0)) 57 (e66 1)) 58 v58n68) 59 (Value.int IntKind.i64 0)) w69 (blockK 0 (thenK (fun e192 w193 =>
callE P 49 #[(e192 8)] w193 (fun v125n196 w197 =>
bindV (pBin P BinOp.neq 26 true v125n196 (Value.int IntKind.i64 0) w197) fun v126n198 w199 =>
condE v126n198 (fun (K200 : KT) =>
K200 .ret (Env.put (Env.put (Env.put (Env.put e192 124 (e192 8)) 125 v125n196) 126 v126n198) 4 (Value.bool false)) w199) (fun (K200 : KT) =>
K200 .normal (Env.put (Env.put (Env.put e192 124 (e192 8)) 125 v125n196) 126 v126n198) w199) (thenK (fun e201 w202 =>
callE P 30 #[(e201 5), (Value.slice none 0 0)] w202 (fun v128n205 w206 =>
bindV (pLoad P 65 (e201 7) w206) fun v131n207 w208 =>
callE P 48 #[(e201 5), v131n207] w208 (fun v132n211 w212 =>
bindV (pExtract P v132n211 0 w212) fun v133n213 w214 =>
bindV (pExtract P v132n211 1 w214) fun v134n215 w216 =>
bindV (pExtract P v132n211 2 w216) fun v135n217 w218 =>
bindV (pBin P BinOp.eql 26 true v135n217 (Value.int IntKind.i64 0) w218) fun v137n219 w220 =>
grdE v137n219 true (fun (k221 : Value → World → Prop) => k221 v134n215 w220) (fun v139n222 w223 =>
grdE v137n219 true (fun (k224 : Value → World → Prop) => k224 (e201 0) w223) (fun v140n225 w226 =>
grdE v137n219 true (fun (k227 : Value → World → Prop) => k227 (e201 12) w226) (fun v141n228 w229 =>
grdE v137n219 true (fun (k230 : Value → World → Prop) => bindV (pBin P BinOp.sub 3 false v140n225 v141n228 w229) k230) (fun v142n231 w232 =>
grdE v137n219 true (fun (k233 : Value → World → Prop) => bindV (pBin P BinOp.eql 3 false v139n222 v142n231 w232) k233) (fun v143n234 w235 =>
pickE v137n219 v143n234 (Value.bool false) fun v144n236 =>
grdE v144n236 true (fun (k237 : Value → World → Prop) => k237 v133n213 w235) (fun v146n238 w239 =>
grdE v144n236 true (fun (k240 : Value → World → Prop) => k240 (e201 11) w239) (fun v147n241 w242 =>
grdE v144n236 true (fun (k243 : Value → World → Prop) => callE P 52 #[v146n238, v147n241] w242 k243 (fun c244 w245 => R (.panicked c244) w245)) (fun v148n246 w247 =>
pickE v144n236 v148n246 (Value.bool false) fun v149n248 =>
R (.returned v149n248) w247) w242) w239) w235) w232) w229) w226) w223) w220) (fun c209 w210 => R (.panicked c209) w210)) (fun c203 w204 => R (.panicked c203) w204)) (topK P [(ResultVar.tmp 4)] R))) (fun c194 w195 => R (.panicked c194) w195)) (topK P [(ResultVar.tmp 4)] R)))) (topK P [(ResultVar.tmp 4)] R))) w60) w57) (fun c46 w47 => R (.panicked c46) w47)) (fun c31 w32 => R (.panicked c31) w32)) (topK P [(ResultVar.tmp 4)] R))) w23) w19) w16) w13) (fun c10 w11 => R (.panicked c10) w11)) (topK P [(ResultVar.tmp 4)] R))) (fun c1 w2 => R (.panicked c1) w2)
theorem F14ok {w : World} {R : Ending → World → Prop} {a0 : Value} {a1 : Value} (h : F14 a0 a1 w R) : Calls P 14 #[a0, a1] w R :=
  calls_of_ev bodies mixed (c := bodyOf Try.f14) (nt := 150) (rs := [(ResultVar.tmp 4)]) (args := [a0, a1]) (fn := Try.f14) (by kernel_rfl) (by kernel_rfl) (by kernel_rfl) (by kernel_rfl) (by kernel_rfl) (by simp)
    (eq_mp (show F14 a0 a1 w R = ev P C (bodyOf Try.f14) (argE [a0, a1]) w (topK P [(ResultVar.tmp 4)] R) by kernel_rfl) h)

end Go.Proofs.Yticncfkpfpkfoaa
