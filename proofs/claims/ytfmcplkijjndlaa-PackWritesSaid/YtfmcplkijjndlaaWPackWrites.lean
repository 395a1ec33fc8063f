/- The functions' residual programs, printed by gen.py. -/
import Derived.Test.YtfmcplkijjndlaaBaseD
namespace Go.Proofs.Ytfmcplkijjndlaa
open Go
/-! ### moiety/moietylaw02.PackWrites -/
def F15B1 (e : Env) (w : World) (K : KT) : Prop :=
bindV (pBin P BinOp.lss 3 false (e 74) (e 73) w) fun v75n151 w152 =>
condE v75n151 (fun (K153 : KT) =>
K153 .normal (Env.put e 75 v75n151) w152) (fun (K153 : KT) =>
K153 (.exit 3) (Env.put e 75 v75n151) w152) (thenK (fun e154 w155 =>
bindV (pIndexAddr P 40 (e154 9) (e154 74) w155) fun v79n156 w157 =>
bindU (pStore P 5 v79n156 (Value.int IntKind.u8 7) w157) fun w158 =>
bindV (pBin P BinOp.add 3 true (e154 74) (Value.int IntKind.i64 1) w158) fun v80n159 w160 =>
K .normal (Env.put (Env.put (Env.put (Env.put (Env.put (Env.put (Env.put e154 76 (e154 74)) 10 (e154 74)) 77 (e154 9)) 78 (e154 74)) 79 v79n156) 80 v80n159) 74 v80n159) w160) K)
def F15B0 (e : Env) (w : World) (K : KT) : Prop :=
bindV (pBin P BinOp.lss 3 false (e 23) (e 22) w) fun v24n29 w30 =>
condE v24n29 (fun (K31 : KT) =>
K31 .normal (Env.put e 24 v24n29) w30) (fun (K31 : KT) =>
K31 (.exit 0) (Env.put e 24 v24n29) w30) (thenK (fun e32 w33 =>
bindV (pIndexAddr P 37 (e32 21) (e32 23) w33) fun v25n34 w35 =>
bindV (pLoad P 60 v25n34 w35) fun v26n36 w37 =>
bindV (pAlloc P 60 w37) fun v8n38 w39 =>
bindU (pStore P 60 v8n38 v26n36 w39) fun w40 =>
letK (blockK 1 (thenK (fun e42 w43 =>
bindV (pBin P BinOp.add 3 true (e42 23) (Value.int IntKind.i64 1) w43) fun v86n44 w45 =>
K .normal (Env.put (Env.put e42 86 v86n44) 23 v86n44) w45) K)) fun (K41 : KT) =>
bindV (pFieldAddr P 60 v8n38 0 w40) fun v27n46 w47 =>
bindV (pLoad P 5 v27n46 w47) fun v28n48 w49 =>
bindV (pBin P BinOp.eql 5 true v28n48 (Value.int IntKind.u8 117) w49) fun v30n50 w51 =>
condE v30n50 (fun (K52 : KT) =>
bindV (pFieldAddr P 60 v8n38 1 w51) fun v31n53 w54 =>
bindV (pLoad P 25 v31n53 w54) fun v32n55 w56 =>
callE P 47 #[(e32 5), v32n55] w56 (fun v33n59 w60 =>
K52 .normal (Env.put (Env.put (Env.put (Env.put (Env.put (Env.put (Env.put (Env.put (Env.put (Env.put e32 25 v25n34) 26 v26n36) 8 v8n38) 27 v27n46) 28 v28n48) 30 v30n50) 29 v30n50) 31 v31n53) 32 v32n55) 33 v33n59) w60) (fun c57 w58 => K52 (.panic c57) (Env.put (Env.put (Env.put (Env.put (Env.put (Env.put (Env.put (Env.put (Env.put e32 25 v25n34) 26 v26n36) 8 v8n38) 27 v27n46) 28 v28n48) 30 v30n50) 29 v30n50) 31 v31n53) 32 v32n55) w58)) (fun (K52 : KT) =>
bindV (pBin P BinOp.eql 5 true v28n48 (Value.int IntKind.u8 105) w51) fun v35n61 w62 =>
condE v35n61 (fun (K63 : KT) =>
bindV (pFieldAddr P 60 v8n38 2 w62) fun v36n64 w65 =>
bindV (pLoad P 2 v36n64 w65) fun v37n66 w67 =>
callE P 48 #[(e32 5), v37n66] w67 (fun v38n70 w71 =>
K63 .normal (Env.put (Env.put (Env.put (Env.put (Env.put (Env.put (Env.put (Env.put (Env.put (Env.put (Env.put (Env.put e32 25 v25n34) 26 v26n36) 8 v8n38) 27 v27n46) 28 v28n48) 30 v30n50) 29 v30n50) 35 v35n61) 34 v35n61) 36 v36n64) 37 v37n66) 38 v38n70) w71) (fun c68 w69 => K63 (.panic c68) (Env.put (Env.put (Env.put (Env.put (Env.put (Env.put (Env.put (Env.put (Env.put (Env.put (Env.put e32 25 v25n34) 26 v26n36) 8 v8n38) 27 v27n46) 28 v28n48) 30 v30n50) 29 v30n50) 35 v35n61) 34 v35n61) 36 v36n64) 37 v37n66) w69)) (fun (K63 : KT) =>
bindV (pBin P BinOp.eql 5 true v28n48 (Value.int IntKind.u8 102) w62) fun v40n72 w73 =>
condE v40n72 (fun (K74 : KT) =>
bindV (pFieldAddr P 60 v8n38 3 w73) fun v41n75 w76 =>
bindV (pLoad P 22 v41n75 w76) fun v42n77 w78 =>
callE P 49 #[(e32 5), v42n77] w78 (fun v43n81 w82 =>
K74 .normal (Env.put (Env.put (Env.put (Env.put (Env.put (Env.put (Env.put (Env.put (Env.put (Env.put (Env.put (Env.put (Env.put (Env.put e32 25 v25n34) 26 v26n36) 8 v8n38) 27 v27n46) 28 v28n48) 30 v30n50) 29 v30n50) 35 v35n61) 34 v35n61) 40 v40n72) 39 v40n72) 41 v41n75) 42 v42n77) 43 v43n81) w82) (fun c79 w80 => K74 (.panic c79) (Env.put (Env.put (Env.put (Env.put (Env.put (Env.put (Env.put (Env.put (Env.put (Env.put (Env.put (Env.put (Env.put e32 25 v25n34) 26 v26n36) 8 v8n38) 27 v27n46) 28 v28n48) 30 v30n50) 29 v30n50) 35 v35n61) 34 v35n61) 40 v40n72) 39 v40n72) 41 v41n75) 42 v42n77) w80)) (fun (K74 : KT) =>
bindV (pBin P BinOp.eql 5 true v28n48 (Value.int IntKind.u8 115) w73) fun v45n83 w84 =>
condE v45n83 (fun (K85 : KT) =>
bindV (pFieldAddr P 60 v8n38 4 w84) fun v46n86 w87 =>
bindV (pLoad P 9 v46n86 w87) fun v47n88 w89 =>
callE P 50 #[(e32 5), v47n88] w89 (fun v48n92 w93 =>
K85 .normal (Env.put (Env.put (Env.put (Env.put (Env.put (Env.put (Env.put (Env.put (Env.put (Env.put (Env.put (Env.put (Env.put (Env.put (Env.put (Env.put e32 25 v25n34) 26 v26n36) 8 v8n38) 27 v27n46) 28 v28n48) 30 v30n50) 29 v30n50) 35 v35n61) 34 v35n61) 40 v40n72) 39 v40n72) 45 v45n83) 44 v45n83) 46 v46n86) 47 v47n88) 48 v48n92) w93) (fun c90 w91 => K85 (.panic c90) (Env.put (Env.put (Env.put (Env.put (Env.put (Env.put (Env.put (Env.put (Env.put (Env.put (Env.put (Env.put (Env.put (Env.put (Env.put e32 25 v25n34) 26 v26n36) 8 v8n38) 27 v27n46) 28 v28n48) 30 v30n50) 29 v30n50) 35 v35n61) 34 v35n61) 40 v40n72) 39 v40n72) 45 v45n83) 44 v45n83) 46 v46n86) 47 v47n88) w91)) (fun (K85 : KT) =>
bindV (pBin P BinOp.eql 5 true v28n48 (Value.int IntKind.u8 98) w84) fun v50n94 w95 =>
condE v50n94 (fun (K96 : KT) =>
bindV (pFieldAddr P 60 v8n38 5 w95) fun v51n97 w98 =>
bindV (pLoad P 4 v51n97 w98) fun v52n99 w100 =>
callE P 51 #[(e32 5), v52n99] w100 (fun v53n103 w104 =>
K96 .normal (Env.put (Env.put (Env.put (Env.put (Env.put (Env.put (Env.put (Env.put (Env.put (Env.put (Env.put (Env.put (Env.put (Env.put (Env.put (Env.put (Env.put (Env.put e32 25 v25n34) 26 v26n36) 8 v8n38) 27 v27n46) 28 v28n48) 30 v30n50) 29 v30n50) 35 v35n61) 34 v35n61) 40 v40n72) 39 v40n72) 45 v45n83) 44 v45n83) 50 v50n94) 49 v50n94) 51 v51n97) 52 v52n99) 53 v53n103) w104) (fun c101 w102 => K96 (.panic c101) (Env.put (Env.put (Env.put (Env.put (Env.put (Env.put (Env.put (Env.put (Env.put (Env.put (Env.put (Env.put (Env.put (Env.put (Env.put (Env.put (Env.put e32 25 v25n34) 26 v26n36) 8 v8n38) 27 v27n46) 28 v28n48) 30 v30n50) 29 v30n50) 35 v35n61) 34 v35n61) 40 v40n72) 39 v40n72) 45 v45n83) 44 v45n83) 50 v50n94) 49 v50n94) 51 v51n97) 52 v52n99) w102)) (fun (K96 : KT) =>
K96 .normal (Env.put (Env.put (Env.put (Env.put (Env.put (Env.put (Env.put (Env.put (Env.put (Env.put (Env.put (Env.put (Env.put (Env.put (Env.put e32 25 v25n34) 26 v26n36) 8 v8n38) 27 v27n46) 28 v28n48) 30 v30n50) 29 v30n50) 35 v35n61) 34 v35n61) 40 v40n72) 39 v40n72) 45 v45n83) 44 v45n83) 50 v50n94) 49 v50n94) w95) K85) K74) K63) K52) (blockK 2 (thenK (fun e105 w106 =>
bindV (pLoad P 60 (e105 8) w106) fun v55n107 w108 =>
bindV (pBuildSlice P 37 1 [(0, v55n107)] w108) fun v56n109 w110 =>
callE P 44 #[v56n109] w110 (fun v57n113 w114 =>
callE P 43 #[v57n113] w114 (fun v58n117 w118 =>
bindV (pBuiltin P Builtin.append #[40, 40] 40 [(e105 6), v58n117] w118) fun v59n119 w120 =>
callE P 52 #[(e105 5)] w120 (fun v60n123 w124 =>
bindV (pConv P 40 9 v60n123 w124) fun v62n125 w126 =>
bindV (pConv P 40 9 v59n119 w126) fun v64n127 w128 =>
bindV (pBin P BinOp.neq 9 false v62n125 v64n127 w128) fun v65n129 w130 =>
grdE v65n129 false (fun (k131 : Value → World → Prop) => callE P 53 #[(e105 5)] w130 k131 (fun c132 w133 => K41 (.panic c132) (Env.put (Env.put (Env.put (Env.put (Env.put (Env.put (Env.put (Env.put (Env.put (Env.put (Env.put (Env.put (Env.put (Env.put (Env.put e105 54 (e105 6)) 55 v55n107) 56 v56n109) 57 v57n113) 58 v58n117) 59 v59n119) 6 v59n119) 60 v60n123) 9 v60n123) 61 v60n123) 62 v62n125) 63 v59n119) 64 v64n127) 65 v65n129) 66 v65n129) w133)) (fun v67n134 w135 =>
grdE v65n129 false (fun (k136 : Value → World → Prop) => k136 v59n119 w135) (fun v68n137 w138 =>
grdE v65n129 false (fun (k139 : Value → World → Prop) => bindV (pBuiltin P Builtin.len #[40] 3 [v68n137] w138) k139) (fun v69n140 w141 =>
grdE v65n129 false (fun (k142 : Value → World → Prop) => bindV (pBin P BinOp.neq 3 false v67n134 v69n140 w141) k142) (fun v70n143 w144 =>
pickE v65n129 (Value.bool true) v70n143 fun v71n145 =>
condE v71n145 (fun (K146 : KT) =>
K146 .ret (Env.put (Env.put (Env.put (Env.put (Env.put (Env.put (Env.put (Env.put (Env.put (Env.put (Env.put (Env.put (Env.put (Env.put (Env.put (Env.put (Env.put (Env.put (Env.put (Env.put (Env.put e105 54 (e105 6)) 55 v55n107) 56 v56n109) 57 v57n113) 58 v58n117) 59 v59n119) 6 v59n119) 60 v60n123) 9 v60n123) 61 v60n123) 62 v62n125) 63 v59n119) 64 v64n127) 65 v65n129) 66 v65n129) 67 v67n134) 68 v68n137) 69 v69n140) 70 v70n143) 71 v71n145) 2 (Value.bool false)) w144) (fun (K146 : KT) =>
K146 .normal (Env.put (Env.put (Env.put (Env.put (Env.put (Env.put (Env.put (Env.put (Env.put (Env.put (Env.put (Env.put (Env.put (Env.put (Env.put (Env.put (Env.put (Env.put (Env.put (Env.put e105 54 (e105 6)) 55 v55n107) 56 v56n109) 57 v57n113) 58 v58n117) 59 v59n119) 6 v59n119) 60 v60n123) 9 v60n123) 61 v60n123) 62 v62n125) 63 v59n119) 64 v64n127) 65 v65n129) 66 v65n129) 67 v67n134) 68 v68n137) 69 v69n140) 70 v70n143) 71 v71n145) w144) (thenK (fun e147 w148 =>
bindV (pBuiltin P Builtin.len #[40] 3 [(e147 9)] w148) fun v73n149 w150 =>
loopE F15B1 (Env.put (Env.put (Env.put e147 72 (e147 9)) 73 v73n149) 74 (Value.int IntKind.i64 0)) w150 (blockK 3 (thenK (fun e161 w162 =>
takeE (fun w165 => some ((e161 6), w165)) (drew w162) fun v83n163 h164 =>
takeE (fun w168 => pConv P 40 9 v83n163 w168) (drew w162) fun v84n166 h167 =>
callE P 52 #[(e161 5)] (drew w162) (fun v81n172 w173 =>
heldE [h167, h164] w173 (takeE (fun w176 => pConv P 40 9 v81n172 w176) w173 fun v82n174 h175 =>
takeE (fun w179 => pBin P BinOp.neq 9 false v82n174 v84n166 w179) w173 fun v85n177 h178 =>
condE v85n177 (fun (K180 : KT) =>
K180 .ret (Env.put (Env.put (Env.put (Env.put (Env.put (Env.put e161 83 v83n163) 84 v84n166) 81 v81n172) 82 v82n174) 85 v85n177) 2 (Value.bool false)) w173) (fun (K180 : KT) =>
K180 .normal (Env.put (Env.put (Env.put (Env.put (Env.put e161 83 v83n163) 84 v84n166) 81 v81n172) 82 v82n174) 85 v85n177) w173) K41)) (fun c170 w171 => ∀ (e169 : Env), agreeOff [83, 84] (Env.put (Env.put e161 83 v83n163) 84 v84n166) e169 → K41 (.panic c170) e169 w171)) K41))) K41)) w141) w138) w135) w130) (fun c121 w122 => K41 (.panic c121) (Env.put (Env.put (Env.put (Env.put (Env.put (Env.put (Env.put e105 54 (e105 6)) 55 v55n107) 56 v56n109) 57 v57n113) 58 v58n117) 59 v59n119) 6 v59n119) w122)) (fun c115 w116 => K41 (.panic c115) (Env.put (Env.put (Env.put (Env.put e105 54 (e105 6)) 55 v55n107) 56 v56n109) 57 v57n113) w116)) (fun c111 w112 => K41 (.panic c111) (Env.put (Env.put (Env.put e105 54 (e105 6)) 55 v55n107) 56 v56n109) w112)) K41))) K)
def F15 (a0 : Value) (w : World) (R : Ending → World → Prop) : Prop :=
callE P 39 #[] w (fun v11n3 w4 =>
bindV (pUn P UnOp.not v11n3 w4) fun v12n5 w6 =>
condE v12n5 (fun (K7 : KT) =>
K7 .ret (Env.put (Env.put (Env.put (Env.put (argE [a0]) 2 (Value.bool false)) 11 v11n3) 12 v12n5) 2 (Value.bool false)) w6) (fun (K7 : KT) =>
K7 .normal (Env.put (Env.put (Env.put (argE [a0]) 2 (Value.bool false)) 11 v11n3) 12 v12n5) w6) (thenK (fun e8 w9 =>
callE P 40 #[(e8 0)] w9 (fun v15n12 w13 =>
bindV (pExtract P v15n12 0 w13) fun v16n14 w15 =>
bindV (pExtract P v15n12 1 w15) fun v17n16 w17 =>
bindV (pUn P UnOp.not v17n16 w17) fun v19n18 w19 =>
condE v19n18 (fun (K20 : KT) =>
K20 .ret (Env.put (Env.put (Env.put (Env.put (Env.put (Env.put (Env.put (Env.put (Env.put (Env.put e8 14 (e8 0)) 15 v15n12) 13 v15n12) 16 v16n14) 17 v17n16) 3 v16n14) 4 v17n16) 18 v17n16) 19 v19n18) 2 (Value.bool true)) w19) (fun (K20 : KT) =>
K20 .normal (Env.put (Env.put (Env.put (Env.put (Env.put (Env.put (Env.put (Env.put (Env.put e8 14 (e8 0)) 15 v15n12) 13 v15n12) 16 v16n14) 17 v17n16) 3 v16n14) 4 v17n16) 18 v17n16) 19 v19n18) w19) (thenK (fun e21 w22 =>
bindV (pAlloc P 58 w22) fun v5n23 w24 =>
bindV (pBuildSlice P 40 0 [] w24) fun v20n25 w26 =>
bindV (pBuiltin P Builtin.len #[37] 3 [(e21 0)] w26) fun v22n27 w28 =>
loopE F15B0 (Env.put (Env.put (Env.put (Env.put (Env.put (Env.put e21 5 v5n23) 20 v20n25) 6 v20n25) 21 (e21 0)) 22 v22n27) 23 (Value.int IntKind.i64 0)) w28 (blockK 0 (thenK (fun e181 w182 =>
callE P 53 #[(e181 5)] w182 (fun v87n185 w186 =>
bindV (pBuiltin P Builtin.len #[40] 3 [(e181 6)] w186) fun v89n187 w188 =>
bindV (pBin P BinOp.eql 3 false v87n185 v89n187 w188) fun v90n189 w190 =>
R (.returned v90n189) w190) (fun c183 w184 => R (.panicked c183) w184)) (topK P [(ResultVar.tmp 2)] R)))) (topK P [(ResultVar.tmp 2)] R))) (fun c10 w11 => R (.panicked c10) w11)) (topK P [(ResultVar.tmp 2)] R))) (fun c1 w2 => R (.panicked c1) w2)
theorem F15ok {w : World} {R : Ending → World → Prop} {a0 : Value} (h : F15 a0 w R) : Calls P 15 #[a0] w R :=
  calls_of_ev bodies mixed (c := bodyOf Try.f15) (nt := 91) (rs := [(ResultVar.tmp 2)]) (args := [a0]) (fn := Try.f15) (by kernel_rfl) (by kernel_rfl) (by kernel_rfl) (by kernel_rfl) (by kernel_rfl) (by simp)
    (eq_mp (show F15 a0 w R = ev P C (bodyOf Try.f15) (argE [a0]) w (topK P [(ResultVar.tmp 2)] R) by kernel_rfl) h)

end Go.Proofs.Ytfmcplkijjndlaa
