/- The functions' residual programs, printed by gen.py. -/
import Derived.Test.YtieejbkbdfccdaaBaseD
namespace Go.Proofs.Ytieejbkbdfccdaa
open Go
/-! ### moiety/moietytop.WholeBytes -/
def F3B2 (e : Env) (w : World) (K : KT) : Prop :=
bindV (pBuiltin P Builtin.len #[22] 3 [(e 9)] w) fun v92n163 w164 =>
bindV (pBin P BinOp.lss 3 false (e 14) v92n163 w164) fun v93n165 w166 =>
condE v93n165 (fun (K167 : KT) =>
K167 .normal (Env.put (Env.put (Env.put (Env.put e 90 (e 14)) 91 (e 9)) 92 v92n163) 93 v93n165) w166) (fun (K167 : KT) =>
K167 (.exit 4) (Env.put (Env.put (Env.put (Env.put e 90 (e 14)) 91 (e 9)) 92 v92n163) 93 v93n165) w166) (thenK (fun e168 w169 =>
takeE (fun w172 => some ((e168 9), w172)) (drew w169) fun v96n170 h171 =>
takeE (fun w175 => some ((e168 14), w175)) (drew w169) fun v97n173 h174 =>
takeE (fun w178 => pIndexAddr P 22 v96n170 v97n173 w178) (drew w169) fun v98n176 h177 =>
takeE (fun w181 => pLoad P 25 v98n176 w181) (drew w169) fun v99n179 h180 =>
takeE (fun w184 => some ((e168 9), w184)) (drew w169) fun v100n182 h183 =>
takeE (fun w187 => some ((e168 14), w187)) (drew w169) fun v101n185 h186 =>
takeE (fun w190 => pBin P BinOp.sub 3 true v101n185 (Value.int IntKind.i64 1) w190) (drew w169) fun v102n188 h189 =>
takeE (fun w193 => pIndexAddr P 22 v100n182 v102n188 w193) (drew w169) fun v103n191 h192 =>
takeE (fun w196 => pLoad P 25 v103n191 w196) (drew w169) fun v104n194 h195 =>
callE P 9 #[v99n179, v104n194] (drew w169) (fun v105n200 w201 =>
condE v105n200 (fun (K202 : KT) =>
K202 .ret (Env.put (Env.put (Env.put (Env.put (Env.put (Env.put (Env.put (Env.put (Env.put (Env.put (Env.put e168 96 v96n170) 97 v97n173) 98 v98n176) 99 v99n179) 100 v100n182) 101 v101n185) 102 v102n188) 103 v103n191) 104 v104n194) 105 v105n200) 2 (Value.bool false)) w201) (fun (K202 : KT) =>
K202 .normal (Env.put (Env.put (Env.put (Env.put (Env.put (Env.put (Env.put (Env.put (Env.put (Env.put e168 96 v96n170) 97 v97n173) 98 v98n176) 99 v99n179) 100 v100n182) 101 v101n185) 102 v102n188) 103 v103n191) 104 v104n194) 105 v105n200) w201) (blockK 5 (thenK (fun e203 w204 =>
bindV (pBin P BinOp.add 3 true (e203 14) (Value.int IntKind.i64 1) w204) fun v95n205 w206 =>
K .normal (Env.put (Env.put (Env.put e203 94 (e203 14)) 95 v95n205) 14 v95n205) w206) K))) (fun c198 w199 => ∀ (e197 : Env), agreeOff [96, 97, 98, 99, 100, 101, 102, 103, 104] (Env.put (Env.put (Env.put (Env.put (Env.put (Env.put (Env.put (Env.put (Env.put e168 96 v96n170) 97 v97n173) 98 v98n176) 99 v99n179) 100 v100n182) 101 v101n185) 102 v102n188) 103 v103n191) 104 v104n194) e197 → K (.panic c198) e197 w199)) K)
def F3B1 (e : Env) (w : World) (K : KT) : Prop :=
bindV (pBin P BinOp.lss 3 false (e 64) (e 63) w) fun v65n105 w106 =>
condE v65n105 (fun (K107 : KT) =>
K107 .normal (Env.put e 65 v65n105) w106) (fun (K107 : KT) =>
K107 (.exit 2) (Env.put e 65 v65n105) w106) (thenK (fun e108 w109 =>
bindV (pIndexAddr P 30 (e108 62) (e108 64) w109) fun v66n110 w111 =>
bindV (pLoad P 9 v66n110 w111) fun v67n112 w113 =>
bindV (pConv P 9 23 v67n112 w113) fun v70n114 w115 =>
callE P 8 #[v70n114, (Value.string { data := #[102] }), (Value.int IntKind.i64 0)] w115 (fun v71n118 w119 =>
bindV (pExtract P v71n118 0 w119) fun v72n120 w121 =>
bindV (pExtract P v71n118 1 w121) fun v73n122 w123 =>
bindV (pAlloc P 35 w123) fun v13n124 w125 =>
bindU (pStore P 35 v13n124 v73n122 w125) fun w126 =>
letK (blockK 3 (thenK (fun e128 w129 =>
bindV (pBin P BinOp.add 3 true (e128 64) (Value.int IntKind.i64 1) w129) fun v89n130 w131 =>
K .normal (Env.put (Env.put e128 89 v89n130) 64 v89n130) w131) K)) fun (K127 : KT) =>
bindV (pFieldAddr P 35 v13n124 0 w126) fun v74n132 w133 =>
bindV (pLoad P 33 v74n132 w133) fun v75n134 w135 =>
bindV (pBin P BinOp.neq 33 true v75n134 (Value.int IntKind.i64 0) w135) fun v76n136 w137 =>
grdE v76n136 false (fun (k138 : Value → World → Prop) => k138 v72n120 w137) (fun v78n139 w140 =>
grdE v76n136 false (fun (k141 : Value → World → Prop) => bindV (pBuiltin P Builtin.len #[32] 3 [v78n139] w140) k141) (fun v79n142 w143 =>
grdE v76n136 false (fun (k144 : Value → World → Prop) => bindV (pBin P BinOp.neq 3 true v79n142 (Value.int IntKind.i64 1) w143) k144) (fun v80n145 w146 =>
pickE v76n136 (Value.bool true) v80n145 fun v81n147 =>
condE v81n147 (fun (K148 : KT) =>
K148 .ret (Env.put (Env.put (Env.put (Env.put (Env.put (Env.put (Env.put (Env.put (Env.put (Env.put (Env.put (Env.put (Env.put (Env.put (Env.put (Env.put (Env.put (Env.put (Env.put (Env.put e108 66 v66n110) 67 v67n112) 11 v67n112) 69 v67n112) 70 v70n114) 71 v71n118) 68 v71n118) 72 v72n120) 73 v73n122) 13 v13n124) 12 v72n120) 74 v74n132) 75 v75n134) 76 v76n136) 77 v76n136) 78 v78n139) 79 v79n142) 80 v80n145) 81 v81n147) 2 (Value.bool false)) w146) (fun (K148 : KT) =>
K148 .normal (Env.put (Env.put (Env.put (Env.put (Env.put (Env.put (Env.put (Env.put (Env.put (Env.put (Env.put (Env.put (Env.put (Env.put (Env.put (Env.put (Env.put (Env.put (Env.put e108 66 v66n110) 67 v67n112) 11 v67n112) 69 v67n112) 70 v70n114) 71 v71n118) 68 v71n118) 72 v72n120) 73 v73n122) 13 v13n124) 12 v72n120) 74 v74n132) 75 v75n134) 76 v76n136) 77 v76n136) 78 v78n139) 79 v79n142) 80 v80n145) 81 v81n147) w146) (thenK (fun e149 w150 =>
bindV (pIndexAddr P 32 (e149 12) (Value.int IntKind.i64 0) w150) fun v84n151 w152 =>
bindV (pFieldAddr P 28 v84n151 3 w152) fun v85n153 w154 =>
bindV (pLoad P 25 v85n153 w154) fun v86n155 w156 =>
bindV (pBuildSlice P 22 1 [(0, v86n155)] w156) fun v87n157 w158 =>
bindV (pBuiltin P Builtin.append #[22, 22] 22 [(e149 9), v87n157] w158) fun v88n159 w160 =>
K127 .normal (Env.put (Env.put (Env.put (Env.put (Env.put (Env.put (Env.put (Env.put e149 82 (e149 9)) 83 (e149 12)) 84 v84n151) 85 v85n153) 86 v86n155) 87 v87n157) 88 v88n159) 9 v88n159) w160) K127)) w143) w140) w137) (fun c116 w117 => K (.panic c116) (Env.put (Env.put (Env.put (Env.put (Env.put e108 66 v66n110) 67 v67n112) 11 v67n112) 69 v67n112) 70 v70n114) w117)) K)
def F3B0 (e : Env) (w : World) (K : KT) : Prop :=
bindV (pBin P BinOp.lss 3 false (e 41) (e 40) w) fun v42n64 w65 =>
condE v42n64 (fun (K66 : KT) =>
K66 .normal (Env.put e 42 v42n64) w65) (fun (K66 : KT) =>
K66 (.exit 0) (Env.put e 42 v42n64) w65) (thenK (fun e67 w68 =>
bindV (pIndexAddr P 22 (e67 39) (e67 41) w68) fun v43n69 w70 =>
bindV (pLoad P 25 v43n69 w70) fun v44n71 w72 =>
bindV (pBuild P 28 [(0, (Value.int IntKind.u8 102)), (3, v44n71)] w72) fun v47n73 w74 =>
bindV (pBuildSlice P 32 1 [(0, v47n73)] w74) fun v48n75 w76 =>
callE P 4 #[v48n75] w76 (fun v49n79 w80 =>
bindV (pConv P 23 9 v49n79 w80) fun v50n81 w82 =>
bindV (pBuildSlice P 30 1 [(0, v50n81)] w82) fun v51n83 w84 =>
bindV (pBuiltin P Builtin.append #[30, 30] 30 [(e67 4), v51n83] w84) fun v52n85 w86 =>
callE P 6 #[(e67 5), v44n71] w86 (fun v55n89 w90 =>
callE P 5 #[(e67 6), v44n71] w90 (fun v58n93 w94 =>
bindV (pBin P BinOp.add 3 true (e67 41) (Value.int IntKind.i64 1) w94) fun v59n95 w96 =>
K .normal (Env.put (Env.put (Env.put (Env.put (Env.put (Env.put (Env.put (Env.put (Env.put (Env.put (Env.put (Env.put (Env.put (Env.put (Env.put (Env.put (Env.put (Env.put (Env.put (Env.put (Env.put (Env.put e67 43 v43n69) 44 v44n71) 8 v44n71) 45 (e67 4)) 46 v44n71) 47 v47n73) 48 v48n75) 49 v49n79) 50 v50n81) 51 v51n83) 52 v52n85) 4 v52n85) 53 (e67 5)) 54 v44n71) 55 v55n89) 56 (e67 6)) 57 v44n71) 58 v58n93) 5 v55n89) 6 v58n93) 59 v59n95) 41 v59n95) w96) (fun c91 w92 => K (.panic c91) (Env.put (Env.put (Env.put (Env.put (Env.put (Env.put (Env.put (Env.put (Env.put (Env.put (Env.put (Env.put (Env.put (Env.put (Env.put (Env.put (Env.put e67 43 v43n69) 44 v44n71) 8 v44n71) 45 (e67 4)) 46 v44n71) 47 v47n73) 48 v48n75) 49 v49n79) 50 v50n81) 51 v51n83) 52 v52n85) 4 v52n85) 53 (e67 5)) 54 v44n71) 55 v55n89) 56 (e67 6)) 57 v44n71) w92)) (fun c87 w88 => K (.panic c87) (Env.put (Env.put (Env.put (Env.put (Env.put (Env.put (Env.put (Env.put (Env.put (Env.put (Env.put (Env.put (Env.put (Env.put e67 43 v43n69) 44 v44n71) 8 v44n71) 45 (e67 4)) 46 v44n71) 47 v47n73) 48 v48n75) 49 v49n79) 50 v50n81) 51 v51n83) 52 v52n85) 4 v52n85) 53 (e67 5)) 54 v44n71) w88)) (fun c77 w78 => K (.panic c77) (Env.put (Env.put (Env.put (Env.put (Env.put (Env.put (Env.put e67 43 v43n69) 44 v44n71) 8 v44n71) 45 (e67 4)) 46 v44n71) 47 v47n73) 48 v48n75) w78)) K)
def F3 (a0 : Value) (w : World) (R : Ending → World → Prop) : Prop :=
bindV (pBuild P 28 [(0, (Value.int IntKind.u8 102)), (3, (Value.float FloatKind.f64 4607182418800017408))] w) fun v15n1 w2 =>
bindV (pBuildSlice P 32 1 [(0, v15n1)] w2) fun v16n3 w4 =>
callE P 4 #[v16n3] w4 (fun v17n7 w8 =>
bindV (pConv P 23 9 v17n7 w8) fun v19n9 w10 =>
bindV (pBin P BinOp.neq 9 true v19n9 (Value.string { data := #[191, 240, 0, 0, 0, 0, 0, 0] }) w10) fun v20n11 w12 =>
grdE v20n11 false (fun (k13 : Value → World → Prop) => callE P 5 #[(Value.float FloatKind.f64 4607182418800017408), (Value.float FloatKind.f64 4611686018427387904)] w12 k13 (fun c14 w15 => R (.panicked c14) w15)) (fun v22n16 w17 =>
grdE v20n11 false (fun (k18 : Value → World → Prop) => bindV (pBin P BinOp.neq 25 true v22n16 (Value.float FloatKind.f64 4611686018427387904) w17) k18) (fun v23n19 w20 =>
pickE v20n11 (Value.bool true) v23n19 fun v24n21 =>
condE v24n21 (fun (K22 : KT) =>
K22 .ret (Env.put (Env.put (Env.put (Env.put (Env.put (Env.put (Env.put (Env.put (Env.put (Env.put (Env.put (Env.put (Env.put (argE [a0]) 2 (Value.bool false)) 15 v15n1) 16 v16n3) 17 v17n7) 3 v17n7) 18 v17n7) 19 v19n9) 20 v20n11) 21 v20n11) 22 v22n16) 23 v23n19) 24 v24n21) 2 (Value.bool false)) w20) (fun (K22 : KT) =>
K22 .normal (Env.put (Env.put (Env.put (Env.put (Env.put (Env.put (Env.put (Env.put (Env.put (Env.put (Env.put (Env.put (argE [a0]) 2 (Value.bool false)) 15 v15n1) 16 v16n3) 17 v17n7) 3 v17n7) 18 v17n7) 19 v19n9) 20 v20n11) 21 v20n11) 22 v22n16) 23 v23n19) 24 v24n21) w20) (thenK (fun e23 w24 =>
bindV (pBuiltin P Builtin.len #[22] 3 [(e23 0)] w24) fun v26n25 w26 =>
bindV (pBin P BinOp.eql 3 true v26n25 (Value.int IntKind.i64 0) w26) fun v27n27 w28 =>
grdE v27n27 false (fun (k29 : Value → World → Prop) => k29 (e23 0) w28) (fun v29n30 w31 =>
grdE v27n27 false (fun (k32 : Value → World → Prop) => bindV (pBuiltin P Builtin.len #[22] 3 [v29n30] w31) k32) (fun v30n33 w34 =>
grdE v27n27 false (fun (k35 : Value → World → Prop) => bindV (pBin P BinOp.gtr 3 true v30n33 (Value.int IntKind.i64 200) w34) k35) (fun v31n36 w37 =>
pickE v27n27 (Value.bool true) v31n36 fun v32n38 =>
condE v32n38 (fun (K39 : KT) =>
K39 .ret (Env.put (Env.put (Env.put (Env.put (Env.put (Env.put (Env.put (Env.put (Env.put e23 25 (e23 0)) 26 v26n25) 27 v27n27) 28 v27n27) 29 v29n30) 30 v30n33) 31 v31n36) 32 v32n38) 2 (Value.bool true)) w37) (fun (K39 : KT) =>
K39 .normal (Env.put (Env.put (Env.put (Env.put (Env.put (Env.put (Env.put (Env.put e23 25 (e23 0)) 26 v26n25) 27 v27n27) 28 v27n27) 29 v29n30) 30 v30n33) 31 v31n36) 32 v32n38) w37) (thenK (fun e40 w41 =>
takeE (fun w44 => some ((e40 0), w44)) (drew w41) fun v33n42 h43 =>
takeE (fun w47 => pIndexAddr P 22 v33n42 (Value.int IntKind.i64 0) w47) (drew w41) fun v34n45 h46 =>
takeE (fun w50 => pLoad P 25 v34n45 w50) (drew w41) fun v35n48 h49 =>
takeE (fun w53 => some ((e40 0), w53)) (drew w41) fun v36n51 h52 =>
takeE (fun w56 => pIndexAddr P 22 v36n51 (Value.int IntKind.i64 0) w56) (drew w41) fun v37n54 h55 =>
takeE (fun w59 => pLoad P 25 v37n54 w59) (drew w41) fun v38n57 h58 =>
heldE [h58, h55, h52] (drew w41) (bindV (pBuiltin P Builtin.len #[22] 3 [(e40 0)] (drew w41)) fun v40n62 w63 =>
loopE F3B0 (Env.put (Env.put (Env.put (Env.put (Env.put (Env.put (Env.put (Env.put (Env.put (Env.put (Env.put (Env.put e40 4 (Value.slice none 0 0)) 33 v33n42) 34 v34n45) 35 v35n48) 36 v36n51) 37 v37n54) 38 v38n57) 5 v35n48) 6 v38n57) 39 (e40 0)) 40 v40n62) 41 (Value.int IntKind.i64 0)) w63 (blockK 0 (thenK (fun e97 w98 =>
callE P 7 #[(e97 4)] w98 (fun v61n101 w102 =>
bindV (pBuiltin P Builtin.len #[30] 3 [(e97 4)] w102) fun v63n103 w104 =>
loopE F3B1 (Env.put (Env.put (Env.put (Env.put (Env.put (Env.put e97 60 (e97 4)) 61 v61n101) 9 (Value.slice none 0 0)) 62 (e97 4)) 63 v63n103) 64 (Value.int IntKind.i64 0)) w104 (blockK 2 (thenK (fun e161 w162 =>
loopE F3B2 (Env.put e161 14 (Value.int IntKind.i64 1)) w162 (blockK 4 (thenK (fun e207 w208 =>
bindV (pIndexAddr P 22 (e207 9) (Value.int IntKind.i64 0) w208) fun v107n209 w210 =>
bindV (pLoad P 25 v107n209 w210) fun v108n211 w212 =>
callE P 10 #[v108n211, (e207 5)] w212 (fun v110n215 w216 =>
grdE v110n215 true (fun (k217 : Value → World → Prop) => k217 (e207 9) w216) (fun v112n218 w219 =>
grdE v110n215 true (fun (k220 : Value → World → Prop) => k220 (e207 9) w219) (fun v113n221 w222 =>
grdE v110n215 true (fun (k223 : Value → World → Prop) => bindV (pBuiltin P Builtin.len #[22] 3 [v113n221] w222) k223) (fun v114n224 w225 =>
grdE v110n215 true (fun (k226 : Value → World → Prop) => bindV (pBin P BinOp.sub 3 true v114n224 (Value.int IntKind.i64 1) w225) k226) (fun v115n227 w228 =>
grdE v110n215 true (fun (k229 : Value → World → Prop) => bindV (pIndexAddr P 22 v112n218 v115n227 w228) k229) (fun v116n230 w231 =>
grdE v110n215 true (fun (k232 : Value → World → Prop) => bindV (pLoad P 25 v116n230 w231) k232) (fun v117n233 w234 =>
grdE v110n215 true (fun (k235 : Value → World → Prop) => k235 (e207 6) w234) (fun v118n236 w237 =>
grdE v110n215 true (fun (k238 : Value → World → Prop) => callE P 10 #[v117n233, v118n236] w237 k238 (fun c239 w240 => R (.panicked c239) w240)) (fun v119n241 w242 =>
pickE v110n215 v119n241 (Value.bool false) fun v120n243 =>
R (.returned v120n243) w242) w237) w234) w231) w228) w225) w222) w219) w216) (fun c213 w214 => R (.panicked c213) w214)) (topK P [(ResultVar.tmp 2)] R)))) (topK P [(ResultVar.tmp 2)] R)))) (fun c99 w100 => R (.panicked c99) w100)) (topK P [(ResultVar.tmp 2)] R))))) (topK P [(ResultVar.tmp 2)] R))) w34) w31) w28) (topK P [(ResultVar.tmp 2)] R))) w17) w12) (fun c5 w6 => R (.panicked c5) w6)
theorem F3ok {w : World} {R : Ending → World → Prop} {a0 : Value} (h : F3 a0 w R) : Calls P 3 #[a0] w R :=
  calls_of_ev bodies mixed (c := bodyOf Try.f3) (nt := 121) (rs := [(ResultVar.tmp 2)]) (args := [a0]) (fn := Try.f3) (by kernel_rfl) (by kernel_rfl) (by kernel_rfl) (by kernel_rfl) (by kernel_rfl) (by simp)
    (eq_mp (show F3 a0 w R = ev P C (bodyOf Try.f3) (argE [a0]) w (topK P [(ResultVar.tmp 2)] R) by kernel_rfl) h)

end Go.Proofs.Ytieejbkbdfccdaa
