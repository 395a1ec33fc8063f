/- The functions' residual programs, printed by gen.py. -/
import Derived.Test.YtieejbkbdfccdaaDoorBaseD
set_option linter.unusedVariables false
set_option linter.unusedSimpArgs false
namespace Go.Proofs.YtieejbkbdfccdaaDoor
open Go
/-! ### moiety/moietytop.WholePrefix -/
def F3 (a0 : Value) (a1 : Value) (w : World) (R : Ending → World → Prop) : Prop :=
bindV (pBox P 27 a0 w) fun v2n1 w2 =>
bindV (pBox P 27 a1 w2) fun v3n3 w4 =>
bindV (pBuild P 27 [(0, (Value.int IntKind.i64 2)), (1, (Value.string { data := #[97] }))] w4) fun v8n5 w6 =>
callE P 6 #[v8n5] w6 (fun v9n9 w10 =>
bindV (pBuiltin P Builtin.len #[28] 3 [v9n9] w10) fun v10n11 w12 =>
bindV (pBin P BinOp.neq 3 true v10n11 (Value.int IntKind.i64 4) w12) fun v11n13 w14 =>
grdE v11n13 false (fun (k15 : Value → World → Prop) => bindV (pBuild P 25 [(0, (Value.int IntKind.i64 2))] w14) k15) (fun v13n16 w17 =>
grdE v11n13 false (fun (k18 : Value → World → Prop) => callE P 7 #[v13n16] w17 k18 (fun c19 w20 => R (.panicked c19) w20)) (fun v14n21 w22 =>
grdE v11n13 false (fun (k23 : Value → World → Prop) => bindV (pBuiltin P Builtin.len #[28] 3 [v14n21] w22) k23) (fun v15n24 w25 =>
grdE v11n13 false (fun (k26 : Value → World → Prop) => bindV (pBin P BinOp.neq 3 true v15n24 (Value.int IntKind.i64 2) w25) k26) (fun v16n27 w28 =>
pickE v11n13 (Value.bool true) v16n27 fun v17n29 =>
condE v17n29 (fun (K30 : KT) =>
K30 .ret (Env.put (Env.put (Env.put (Env.put (Env.put (Env.put (Env.put (Env.put (Env.put (Env.put (Env.put (Env.put (Env.put (Env.put (argE [a0, a1]) 2 v2n1) 3 v3n3) 4 (Value.bool false)) 8 v8n5) 9 v9n9) 10 v10n11) 11 v11n13) 12 v11n13) 13 v13n16) 14 v14n21) 15 v15n24) 16 v16n27) 17 v17n29) 4 (Value.bool false)) w28) (fun (K30 : KT) =>
K30 .normal (Env.put (Env.put (Env.put (Env.put (Env.put (Env.put (Env.put (Env.put (Env.put (Env.put (Env.put (Env.put (Env.put (argE [a0, a1]) 2 v2n1) 3 v3n3) 4 (Value.bool false)) 8 v8n5) 9 v9n9) 10 v10n11) 11 v11n13) 12 v11n13) 13 v13n16) 14 v14n21) 15 v15n24) 16 v16n27) 17 v17n29) w28) (thenK (fun e31 w32 =>
takeE (fun w35 => pLoad P 27 (e31 2) w35) (drew w32) fun v18n33 h34 =>
takeE (fun w38 => pLoad P 27 (e31 3) w38) (drew w32) fun v20n36 h37 =>
callE P 8 #[v18n33] (drew w32) (fun v19n42 w43 =>
heldE [h37] w43 (callE P 8 #[v20n36] w43 (fun v21n47 w48 =>
takeE (fun w51 => pBin P BinOp.add 3 false v19n42 v21n47 w51) w48 fun v22n49 h50 =>
takeE (fun w54 => pBin P BinOp.gtr 3 true v22n49 (Value.int IntKind.i64 0) w54) w48 fun v23n52 h53 =>
takeE (fun w57 => some (v23n52, w57)) w48 fun v24n55 h56 =>
takeE (fun w60 => qGrd v24n55 false (fun w60 => pLoad P 27 (e31 2) w60) w60) w48 fun v25n58 h59 =>
grdE v24n55 false (fun (k62 : Value → World → Prop) => callE P 9 #[v25n58] w48 k62 (fun c63 w64 => ∀ (e61 : Env), agreeOff [18, 19, 20, 21, 22, 23, 24, 25] (Env.put (Env.put (Env.put (Env.put (Env.put (Env.put (Env.put (Env.put e31 18 v18n33) 20 v20n36) 19 v19n42) 21 v21n47) 22 v22n49) 23 v23n52) 24 v24n55) 25 v25n58) e61 → R (.panicked c63) w64)) (fun v26n65 w66 =>
takeE (fun w69 => qGrd v24n55 false (fun w69 => pBin P BinOp.neq 3 true v26n65 (Value.int IntKind.i64 0) w69) w69) w66 fun v27n67 h68 =>
takeE (fun w72 => qPick v24n55 (Value.bool true) v27n67 w72) w66 fun v28n70 h71 =>
takeE (fun w75 => some (v28n70, w75)) w66 fun v29n73 h74 =>
takeE (fun w78 => qGrd v29n73 false (fun w78 => pLoad P 27 (e31 3) w78) w78) w66 fun v30n76 h77 =>
grdE v29n73 false (fun (k80 : Value → World → Prop) => callE P 9 #[v30n76] w66 k80 (fun c81 w82 => ∀ (e79 : Env), agreeOff [18, 19, 20, 21, 22, 23, 24, 25, 26, 27, 28, 29, 30] (Env.put (Env.put (Env.put (Env.put (Env.put (Env.put (Env.put (Env.put (Env.put (Env.put (Env.put (Env.put (Env.put e31 18 v18n33) 20 v20n36) 19 v19n42) 21 v21n47) 22 v22n49) 23 v23n52) 24 v24n55) 25 v25n58) 26 v26n65) 27 v27n67) 28 v28n70) 29 v29n73) 30 v30n76) e79 → R (.panicked c81) w82)) (fun v31n83 w84 =>
takeE (fun w87 => qGrd v29n73 false (fun w87 => pBin P BinOp.neq 3 true v31n83 (Value.int IntKind.i64 0) w87) w87) w84 fun v32n85 h86 =>
takeE (fun w90 => qPick v29n73 (Value.bool true) v32n85 w90) w84 fun v33n88 h89 =>
condE v33n88 (fun (K91 : KT) =>
K91 .ret (Env.put (Env.put (Env.put (Env.put (Env.put (Env.put (Env.put (Env.put (Env.put (Env.put (Env.put (Env.put (Env.put (Env.put (Env.put (Env.put (Env.put e31 18 v18n33) 20 v20n36) 19 v19n42) 21 v21n47) 22 v22n49) 23 v23n52) 24 v24n55) 25 v25n58) 26 v26n65) 27 v27n67) 28 v28n70) 29 v29n73) 30 v30n76) 31 v31n83) 32 v32n85) 33 v33n88) 4 (Value.bool true)) w84) (fun (K91 : KT) =>
K91 .normal (Env.put (Env.put (Env.put (Env.put (Env.put (Env.put (Env.put (Env.put (Env.put (Env.put (Env.put (Env.put (Env.put (Env.put (Env.put (Env.put e31 18 v18n33) 20 v20n36) 19 v19n42) 21 v21n47) 22 v22n49) 23 v23n52) 24 v24n55) 25 v25n58) 26 v26n65) 27 v27n67) 28 v28n70) 29 v29n73) 30 v30n76) 31 v31n83) 32 v32n85) 33 v33n88) w84) (thenK (fun e92 w93 =>
takeE (fun w96 => pLoad P 27 (e92 2) w96) (drew w93) fun v34n94 h95 =>
takeE (fun w99 => pLoad P 27 (e92 3) w99) (drew w93) fun v37n97 h98 =>
callE P 6 #[v34n94] (drew w93) (fun v35n103 w104 =>
heldE [h98] w104 (takeE (fun w107 => pConv P 28 9 v35n103 w107) w104 fun v36n105 h106 =>
callE P 6 #[v37n97] w104 (fun v38n111 w112 =>
heldE [h106] w112 (takeE (fun w115 => pConv P 28 9 v38n111 w115) w112 fun v39n113 h114 =>
heldE [h114] w112 (bindV (pBuiltin P Builtin.len #[9] 3 [v36n105] w112) fun v41n118 w119 =>
bindV (pBuiltin P Builtin.len #[9] 3 [v39n113] w119) fun v43n120 w121 =>
bindV (pBin P BinOp.leq 3 false v41n118 v43n120 w121) fun v44n122 w123 =>
grdE v44n122 true (fun (k124 : Value → World → Prop) => k124 v39n113 w123) (fun v46n125 w126 =>
grdE v44n122 true (fun (k127 : Value → World → Prop) => k127 v36n105 w126) (fun v47n128 w129 =>
grdE v44n122 true (fun (k130 : Value → World → Prop) => bindV (pBuiltin P Builtin.len #[9] 3 [v47n128] w129) k130) (fun v48n131 w132 =>
grdE v44n122 true (fun (k133 : Value → World → Prop) => bindV (pSlice P 9 v46n125 none (some v48n131) none w132) k133) (fun v49n134 w135 =>
grdE v44n122 true (fun (k136 : Value → World → Prop) => k136 v36n105 w135) (fun v50n137 w138 =>
grdE v44n122 true (fun (k139 : Value → World → Prop) => bindV (pBin P BinOp.eql 9 false v49n134 v50n137 w138) k139) (fun v51n140 w141 =>
pickE v44n122 v51n140 (Value.bool false) fun v52n142 =>
grdE v52n142 true (fun (k143 : Value → World → Prop) => bindV (pLoad P 27 (e92 2) w141) k143) (fun v54n144 w145 =>
grdE v52n142 true (fun (k146 : Value → World → Prop) => bindV (pLoad P 27 (e92 3) w145) k146) (fun v55n147 w148 =>
grdE v52n142 true (fun (k149 : Value → World → Prop) => callE P 10 #[v54n144, v55n147] w148 k149 (fun c150 w151 => R (.panicked c150) w151)) (fun v56n152 w153 =>
grdE v52n142 true (fun (k154 : Value → World → Prop) => bindV (pUn P UnOp.not v56n152 w153) k154) (fun v57n155 w156 =>
pickE v52n142 v57n155 (Value.bool false) fun v58n157 =>
condE v58n157 (fun (K158 : KT) =>
K158 .ret (Env.put (Env.put (Env.put (Env.put (Env.put (Env.put (Env.put (Env.put (Env.put (Env.put (Env.put (Env.put (Env.put (Env.put (Env.put (Env.put (Env.put (Env.put (Env.put (Env.put (Env.put (Env.put (Env.put (Env.put (Env.put (Env.put (Env.put (Env.put e92 34 v34n94) 37 v37n97) 35 v35n103) 36 v36n105) 38 v38n111) 39 v39n113) 5 v36n105) 6 v39n113) 40 v36n105) 41 v41n118) 42 v39n113) 43 v43n120) 44 v44n122) 45 v44n122) 46 v46n125) 47 v47n128) 48 v48n131) 49 v49n134) 50 v50n137) 51 v51n140) 52 v52n142) 53 v52n142) 54 v54n144) 55 v55n147) 56 v56n152) 57 v57n155) 58 v58n157) 4 (Value.bool false)) w156) (fun (K158 : KT) =>
K158 .normal (Env.put (Env.put (Env.put (Env.put (Env.put (Env.put (Env.put (Env.put (Env.put (Env.put (Env.put (Env.put (Env.put (Env.put (Env.put (Env.put (Env.put (Env.put (Env.put (Env.put (Env.put (Env.put (Env.put (Env.put (Env.put (Env.put (Env.put e92 34 v34n94) 37 v37n97) 35 v35n103) 36 v36n105) 38 v38n111) 39 v39n113) 5 v36n105) 6 v39n113) 40 v36n105) 41 v41n118) 42 v39n113) 43 v43n120) 44 v44n122) 45 v44n122) 46 v46n125) 47 v47n128) 48 v48n131) 49 v49n134) 50 v50n137) 51 v51n140) 52 v52n142) 53 v52n142) 54 v54n144) 55 v55n147) 56 v56n152) 57 v57n155) 58 v58n157) w156) (thenK (fun e159 w160 =>
bindV (pFieldAddr P 27 (e159 2) 5 w160) fun v59n161 w162 =>
bindV (pLoad P 25 v59n161 w162) fun v60n163 w164 =>
callE P 7 #[v60n163] w164 (fun v61n167 w168 =>
bindV (pConv P 28 9 v61n167 w168) fun v62n169 w170 =>
bindV (pFieldAddr P 27 (e159 2) 0 w170) fun v63n171 w172 =>
bindV (pLoad P 3 v63n171 w172) fun v64n173 w174 =>
bindV (pBin P BinOp.neq 3 true v64n173 (Value.int IntKind.i64 1) w174) fun v65n175 w176 =>
grdE v65n175 false (fun (k177 : Value → World → Prop) => k177 (e159 5) w176) (fun v67n178 w179 =>
grdE v65n175 false (fun (k180 : Value → World → Prop) => bindV (pBuiltin P Builtin.len #[9] 3 [v67n178] w179) k180) (fun v68n181 w182 =>
grdE v65n175 false (fun (k183 : Value → World → Prop) => k183 v62n169 w182) (fun v69n184 w185 =>
grdE v65n175 false (fun (k186 : Value → World → Prop) => bindV (pBuiltin P Builtin.len #[9] 3 [v69n184] w185) k186) (fun v70n187 w188 =>
grdE v65n175 false (fun (k189 : Value → World → Prop) => bindV (pBin P BinOp.gtr 3 false v68n181 v70n187 w188) k189) (fun v71n190 w191 =>
grdE v65n175 false (fun (k192 : Value → World → Prop) => k192 v71n190 w191) (fun v72n193 w194 =>
grdE v72n193 true (fun (k195 : Value → World → Prop) => k195 (e159 5) w194) (fun v73n196 w197 =>
grdE v72n193 true (fun (k198 : Value → World → Prop) => k198 (e159 5) w197) (fun v74n199 w200 =>
grdE v72n193 true (fun (k201 : Value → World → Prop) => bindV (pBuiltin P Builtin.len #[9] 3 [v74n199] w200) k201) (fun v75n202 w203 =>
grdE v72n193 true (fun (k204 : Value → World → Prop) => k204 v62n169 w203) (fun v76n205 w206 =>
grdE v72n193 true (fun (k207 : Value → World → Prop) => bindV (pBuiltin P Builtin.len #[9] 3 [v76n205] w206) k207) (fun v77n208 w209 =>
grdE v72n193 true (fun (k210 : Value → World → Prop) => bindV (pBin P BinOp.sub 3 false v75n202 v77n208 w209) k210) (fun v78n211 w212 =>
grdE v72n193 true (fun (k213 : Value → World → Prop) => bindV (pSlice P 9 v73n196 (some v78n211) none none w212) k213) (fun v79n214 w215 =>
grdE v72n193 true (fun (k216 : Value → World → Prop) => k216 v62n169 w215) (fun v80n217 w218 =>
grdE v72n193 true (fun (k219 : Value → World → Prop) => bindV (pBin P BinOp.eql 9 false v79n214 v80n217 w218) k219) (fun v81n220 w221 =>
grdE v65n175 false (fun (k222 : Value → World → Prop) => pickE v72n193 v81n220 (Value.bool false) fun v82n223 =>
k222 v82n223 w221) (fun v82n224 w225 =>
pickE v65n175 (Value.bool true) v82n224 fun v83n226 =>
R (.returned v83n226) w225) w221) w218) w215) w212) w209) w206) w203) w200) w197) w194) w191) w188) w185) w182) w179) w176) (fun c165 w166 => R (.panicked c165) w166)) (topK P [(ResultVar.tmp 4)] R))) w153) w148) w145) w141) w138) w135) w132) w129) w126) w123))) (fun c109 w110 => ∀ (e108 : Env), agreeOff [34, 35, 36, 37] (Env.put (Env.put (Env.put (Env.put e92 34 v34n94) 37 v37n97) 35 v35n103) 36 v36n105) e108 → R (.panicked c109) w110))) (fun c101 w102 => ∀ (e100 : Env), agreeOff [34, 37] (Env.put (Env.put e92 34 v34n94) 37 v37n97) e100 → R (.panicked c101) w102)) (topK P [(ResultVar.tmp 4)] R))) w66) w48) (fun c45 w46 => ∀ (e44 : Env), agreeOff [18, 19, 20] (Env.put (Env.put (Env.put e31 18 v18n33) 20 v20n36) 19 v19n42) e44 → R (.panicked c45) w46))) (fun c40 w41 => ∀ (e39 : Env), agreeOff [18, 20] (Env.put (Env.put e31 18 v18n33) 20 v20n36) e39 → R (.panicked c40) w41)) (topK P [(ResultVar.tmp 4)] R))) w25) w22) w17) w14) (fun c7 w8 => R (.panicked c7) w8)
theorem F3ok {w : World} {R : Ending → World → Prop} {a0 : Value} {a1 : Value} (h : F3 a0 a1 w R) : Calls P 3 #[a0, a1] w R :=
  calls_of_ev bodies mixed (c := bodyOf Tryd.f3) (nt := 84) (rs := [(ResultVar.tmp 4)]) (args := [a0, a1]) (fn := Tryd.f3) (by kernel_rfl) (by kernel_rfl) (by kernel_rfl) (by kernel_rfl) (by kernel_rfl) (by simp)
    (eq_mp (show F3 a0 a1 w R = ev P C (bodyOf Tryd.f3) (argE [a0, a1]) w (topK P [(ResultVar.tmp 4)] R) by kernel_rfl) h)

/-! ### moiety/act.Bytes -/
def F6 (a0 : Value) (w : World) (R : Ending → World → Prop) : Prop :=
bindV (pBox P 27 a0 w) fun v1n1 w2 =>
bindV (pLoad P 27 v1n1 w2) fun v4n3 w4 =>
callE P 23 #[v4n3] w4 (fun v5n7 w8 =>
bindV (pBin P BinOp.neq 47 true v5n7 (Value.int IntKind.i64 0) w8) fun v6n9 w10 =>
condE v6n9 (fun (K11 : KT) =>
K11 .ret (Env.put (Env.put (Env.put (Env.put (Env.put (Env.put (argE [a0]) 1 v1n1) 2 (Value.slice none 0 0)) 4 v4n3) 5 v5n7) 6 v6n9) 2 (Value.slice none 0 0)) w10) (fun (K11 : KT) =>
K11 .normal (Env.put (Env.put (Env.put (Env.put (Env.put (argE [a0]) 1 v1n1) 2 (Value.slice none 0 0)) 4 v4n3) 5 v5n7) 6 v6n9) w10) (thenK (fun e12 w13 =>
bindV (pAlloc P 69 w13) fun v3n14 w15 =>
bindV (pLoad P 27 (e12 1) w15) fun v7n16 w17 =>
callE P 24 #[v3n14, v7n16] w17 (fun v8n20 w21 =>
callE P 25 #[v3n14] w21 (fun v9n24 w25 =>
R (.returned v9n24) w25) (fun c22 w23 => R (.panicked c22) w23)) (fun c18 w19 => R (.panicked c18) w19)) (topK P [(ResultVar.tmp 2)] R))) (fun c5 w6 => R (.panicked c5) w6)
theorem F6ok {w : World} {R : Ending → World → Prop} {a0 : Value} (h : F6 a0 w R) : Calls P 6 #[a0] w R :=
  calls_of_ev bodies mixed (c := bodyOf Tryd.f6) (nt := 10) (rs := [(ResultVar.tmp 2)]) (args := [a0]) (fn := Tryd.f6) (by kernel_rfl) (by kernel_rfl) (by kernel_rfl) (by kernel_rfl) (by kernel_rfl) (by simp)
    (eq_mp (show F6 a0 w R = ev P C (bodyOf Tryd.f6) (argE [a0]) w (topK P [(ResultVar.tmp 2)] R) by kernel_rfl) h)

/-! ### moiety/moietylaw04.Big -/
def F8 (a0 : Value) (w : World) (R : Ending → World → Prop) : Prop :=
bindV (pBox P 27 a0 w) fun v1n1 w2 =>
bindV (pFieldAddr P 27 v1n1 1 w2) fun v3n3 w4 =>
bindV (pLoad P 9 v3n3 w4) fun v4n5 w6 =>
bindV (pBuiltin P Builtin.len #[9] 3 [v4n5] w6) fun v5n7 w8 =>
bindV (pBin P BinOp.gtr 3 true v5n7 (Value.int IntKind.i64 200) w8) fun v6n9 w10 =>
grdE v6n9 false (fun (k11 : Value → World → Prop) => bindV (pFieldAddr P 27 v1n1 4 w10) k11) (fun v8n12 w13 =>
grdE v6n9 false (fun (k14 : Value → World → Prop) => bindV (pLoad P 9 v8n12 w13) k14) (fun v9n15 w16 =>
grdE v6n9 false (fun (k17 : Value → World → Prop) => bindV (pBuiltin P Builtin.len #[9] 3 [v9n15] w16) k17) (fun v10n18 w19 =>
grdE v6n9 false (fun (k20 : Value → World → Prop) => bindV (pBin P BinOp.gtr 3 true v10n18 (Value.int IntKind.i64 1000) w19) k20) (fun v11n21 w22 =>
pickE v6n9 (Value.bool true) v11n21 fun v12n23 =>
grdE v12n23 false (fun (k24 : Value → World → Prop) => bindV (pFieldAddr P 27 v1n1 5 w22) k24) (fun v14n25 w26 =>
grdE v12n23 false (fun (k27 : Value → World → Prop) => bindV (pLoad P 25 v14n25 w26) k27) (fun v15n28 w29 =>
grdE v12n23 false (fun (k30 : Value → World → Prop) => callE P 12 #[v15n28] w29 k30 (fun c31 w32 => R (.panicked c31) w32)) (fun v16n33 w34 =>
grdE v12n23 false (fun (k35 : Value → World → Prop) => bindV (pBin P BinOp.gtr 3 true v16n33 (Value.int IntKind.i64 0) w34) k35) (fun v17n36 w37 =>
pickE v12n23 (Value.bool true) v17n36 fun v18n38 =>
condE v18n38 (fun (K39 : KT) =>
K39 .ret (Env.put (Env.put (Env.put (Env.put (Env.put (Env.put (Env.put (Env.put (Env.put (Env.put (Env.put (Env.put (Env.put (Env.put (Env.put (Env.put (Env.put (Env.put (Env.put (argE [a0]) 1 v1n1) 2 (Value.int IntKind.i64 0)) 3 v3n3) 4 v4n5) 5 v5n7) 6 v6n9) 7 v6n9) 8 v8n12) 9 v9n15) 10 v10n18) 11 v11n21) 12 v12n23) 13 v12n23) 14 v14n25) 15 v15n28) 16 v16n33) 17 v17n36) 18 v18n38) 2 (Value.int IntKind.i64 1)) w37) (fun (K39 : KT) =>
K39 .normal (Env.put (Env.put (Env.put (Env.put (Env.put (Env.put (Env.put (Env.put (Env.put (Env.put (Env.put (Env.put (Env.put (Env.put (Env.put (Env.put (Env.put (Env.put (argE [a0]) 1 v1n1) 2 (Value.int IntKind.i64 0)) 3 v3n3) 4 v4n5) 5 v5n7) 6 v6n9) 7 v6n9) 8 v8n12) 9 v9n15) 10 v10n18) 11 v11n21) 12 v12n23) 13 v12n23) 14 v14n25) 15 v15n28) 16 v16n33) 17 v17n36) 18 v18n38) w37) (thenK (fun e40 w41 =>
R (.returned (Value.int IntKind.i64 0)) w41) (topK P [(ResultVar.tmp 2)] R))) w34) w29) w26) w22) w19) w16) w13) w10
theorem F8ok {w : World} {R : Ending → World → Prop} {a0 : Value} (h : F8 a0 w R) : Calls P 8 #[a0] w R :=
  calls_of_ev bodies mixed (c := bodyOf Tryd.f8) (nt := 19) (rs := [(ResultVar.tmp 2)]) (args := [a0]) (fn := Tryd.f8) (by kernel_rfl) (by kernel_rfl) (by kernel_rfl) (by kernel_rfl) (by kernel_rfl) (by simp)
    (eq_mp (show F8 a0 w R = ev P C (bodyOf Tryd.f8) (argE [a0]) w (topK P [(ResultVar.tmp 2)] R) by kernel_rfl) h)

/-! ### moiety/moietyref04.Check -/
def F9 (a0 : Value) (w : World) (R : Ending → World → Prop) : Prop :=
bindV (pBox P 27 a0 w) fun v1n1 w2 =>
bindV (pFieldAddr P 27 v1n1 0 w2) fun v3n3 w4 =>
bindV (pLoad P 3 v3n3 w4) fun v4n5 w6 =>
bindV (pBin P BinOp.lss 3 true v4n5 (Value.int IntKind.i64 1) w6) fun v5n7 w8 =>
grdE v5n7 false (fun (k9 : Value → World → Prop) => bindV (pFieldAddr P 27 v1n1 0 w8) k9) (fun v7n10 w11 =>
grdE v5n7 false (fun (k12 : Value → World → Prop) => bindV (pLoad P 3 v7n10 w11) k12) (fun v8n13 w14 =>
grdE v5n7 false (fun (k15 : Value → World → Prop) => bindV (pBin P BinOp.gtr 3 true v8n13 (Value.int IntKind.i64 21) w14) k15) (fun v9n16 w17 =>
pickE v5n7 (Value.bool true) v9n16 fun v10n18 =>
condE v10n18 (fun (K19 : KT) =>
K19 .ret (Env.put (Env.put (Env.put (Env.put (Env.put (Env.put (Env.put (Env.put (Env.put (Env.put (Env.put (argE [a0]) 1 v1n1) 2 (Value.int IntKind.i64 0)) 3 v3n3) 4 v4n5) 5 v5n7) 6 v5n7) 7 v7n10) 8 v8n13) 9 v9n16) 10 v10n18) 2 (Value.int IntKind.i64 5)) w17) (fun (K19 : KT) =>
K19 .normal (Env.put (Env.put (Env.put (Env.put (Env.put (Env.put (Env.put (Env.put (Env.put (Env.put (argE [a0]) 1 v1n1) 2 (Value.int IntKind.i64 0)) 3 v3n3) 4 v4n5) 5 v5n7) 6 v5n7) 7 v7n10) 8 v8n13) 9 v9n16) 10 v10n18) w17) (thenK (fun e20 w21 =>
bindV (pFieldAddr P 27 (e20 1) 1 w21) fun v11n22 w23 =>
bindV (pLoad P 9 v11n22 w23) fun v12n24 w25 =>
bindV (pBuiltin P Builtin.len #[9] 3 [v12n24] w25) fun v13n26 w27 =>
bindV (pBin P BinOp.lss 3 true v13n26 (Value.int IntKind.i64 1) w27) fun v14n28 w29 =>
grdE v14n28 false (fun (k30 : Value → World → Prop) => bindV (pFieldAddr P 27 (e20 1) 1 w29) k30) (fun v16n31 w32 =>
grdE v14n28 false (fun (k33 : Value → World → Prop) => bindV (pLoad P 9 v16n31 w32) k33) (fun v17n34 w35 =>
grdE v14n28 false (fun (k36 : Value → World → Prop) => bindV (pBuiltin P Builtin.len #[9] 3 [v17n34] w35) k36) (fun v18n37 w38 =>
grdE v14n28 false (fun (k39 : Value → World → Prop) => bindV (pBin P BinOp.gtr 3 true v18n37 (Value.int IntKind.i64 24) w38) k39) (fun v19n40 w41 =>
pickE v14n28 (Value.bool true) v19n40 fun v20n42 =>
condE v20n42 (fun (K43 : KT) =>
K43 .ret (Env.put (Env.put (Env.put (Env.put (Env.put (Env.put (Env.put (Env.put (Env.put (Env.put (Env.put e20 11 v11n22) 12 v12n24) 13 v13n26) 14 v14n28) 15 v14n28) 16 v16n31) 17 v17n34) 18 v18n37) 19 v19n40) 20 v20n42) 2 (Value.int IntKind.i64 1)) w41) (fun (K43 : KT) =>
K43 .normal (Env.put (Env.put (Env.put (Env.put (Env.put (Env.put (Env.put (Env.put (Env.put (Env.put e20 11 v11n22) 12 v12n24) 13 v13n26) 14 v14n28) 15 v14n28) 16 v16n31) 17 v17n34) 18 v18n37) 19 v19n40) 20 v20n42) w41) (thenK (fun e44 w45 =>
bindV (pFieldAddr P 27 (e44 1) 0 w45) fun v21n46 w47 =>
bindV (pLoad P 3 v21n46 w47) fun v22n48 w49 =>
callE P 28 #[v22n48, (Value.int IntKind.u8 110)] w49 (fun v23n52 w53 =>
bindV (pUn P UnOp.not v23n52 w53) fun v24n54 w55 =>
grdE v24n54 true (fun (k56 : Value → World → Prop) => bindV (pFieldAddr P 27 (e44 1) 2 w55) k56) (fun v26n57 w58 =>
grdE v24n54 true (fun (k59 : Value → World → Prop) => bindV (pLoad P 2 v26n57 w58) k59) (fun v27n60 w61 =>
grdE v24n54 true (fun (k62 : Value → World → Prop) => bindV (pBin P BinOp.neq 2 true v27n60 (Value.int IntKind.i64 0) w61) k62) (fun v28n63 w64 =>
pickE v24n54 v28n63 (Value.bool false) fun v29n65 =>
grdE v29n65 false (fun (k66 : Value → World → Prop) => bindV (pFieldAddr P 27 (e44 1) 0 w64) k66) (fun v31n67 w68 =>
grdE v29n65 false (fun (k69 : Value → World → Prop) => bindV (pLoad P 3 v31n67 w68) k69) (fun v32n70 w71 =>
grdE v29n65 false (fun (k72 : Value → World → Prop) => callE P 28 #[v32n70, (Value.int IntKind.u8 120)] w71 k72 (fun c73 w74 => R (.panicked c73) w74)) (fun v33n75 w76 =>
grdE v29n65 false (fun (k77 : Value → World → Prop) => bindV (pUn P UnOp.not v33n75 w76) k77) (fun v34n78 w79 =>
grdE v29n65 false (fun (k80 : Value → World → Prop) => k80 v34n78 w79) (fun v35n81 w82 =>
grdE v35n81 true (fun (k83 : Value → World → Prop) => bindV (pFieldAddr P 27 (e44 1) 3 w82) k83) (fun v36n84 w85 =>
grdE v35n81 true (fun (k86 : Value → World → Prop) => bindV (pLoad P 22 v36n84 w85) k86) (fun v37n87 w88 =>
grdE v35n81 true (fun (k89 : Value → World → Prop) => callE P 29 #[v37n87, (Value.float FloatKind.f64 0)] w88 k89 (fun c90 w91 => R (.panicked c90) w91)) (fun v38n92 w93 =>
grdE v35n81 true (fun (k94 : Value → World → Prop) => bindV (pUn P UnOp.not v38n92 w93) k94) (fun v39n95 w96 =>
grdE v29n65 false (fun (k97 : Value → World → Prop) => pickE v35n81 v39n95 (Value.bool false) fun v40n98 =>
k97 v40n98 w96) (fun v40n99 w100 =>
pickE v29n65 (Value.bool true) v40n99 fun v41n101 =>
grdE v41n101 false (fun (k102 : Value → World → Prop) => bindV (pFieldAddr P 27 (e44 1) 0 w100) k102) (fun v43n103 w104 =>
grdE v41n101 false (fun (k105 : Value → World → Prop) => bindV (pLoad P 3 v43n103 w104) k105) (fun v44n106 w107 =>
grdE v41n101 false (fun (k108 : Value → World → Prop) => callE P 28 #[v44n106, (Value.int IntKind.u8 115)] w107 k108 (fun c109 w110 => R (.panicked c109) w110)) (fun v45n111 w112 =>
grdE v41n101 false (fun (k113 : Value → World → Prop) => bindV (pUn P UnOp.not v45n111 w112) k113) (fun v46n114 w115 =>
grdE v41n101 false (fun (k116 : Value → World → Prop) => k116 v46n114 w115) (fun v47n117 w118 =>
grdE v47n117 true (fun (k119 : Value → World → Prop) => bindV (pFieldAddr P 27 (e44 1) 4 w118) k119) (fun v48n120 w121 =>
grdE v47n117 true (fun (k122 : Value → World → Prop) => bindV (pLoad P 9 v48n120 w121) k122) (fun v49n123 w124 =>
grdE v47n117 true (fun (k125 : Value → World → Prop) => bindV (pBin P BinOp.neq 9 true v49n123 (Value.string { data := #[] }) w124) k125) (fun v50n126 w127 =>
grdE v41n101 false (fun (k128 : Value → World → Prop) => pickE v47n117 v50n126 (Value.bool false) fun v51n129 =>
k128 v51n129 w127) (fun v51n130 w131 =>
pickE v41n101 (Value.bool true) v51n130 fun v52n132 =>
condE v52n132 (fun (K133 : KT) =>
K133 .ret (Env.put (Env.put (Env.put (Env.put (Env.put (Env.put (Env.put (Env.put (Env.put (Env.put (Env.put (Env.put (Env.put (Env.put (Env.put (Env.put (Env.put (Env.put (Env.put (Env.put (Env.put (Env.put (Env.put (Env.put (Env.put (Env.put (Env.put (Env.put (Env.put (Env.put (Env.put (Env.put (Env.put e44 21 v21n46) 22 v22n48) 23 v23n52) 24 v24n54) 25 v24n54) 26 v26n57) 27 v27n60) 28 v28n63) 29 v29n65) 30 v29n65) 31 v31n67) 32 v32n70) 33 v33n75) 34 v34n78) 35 v35n81) 36 v36n84) 37 v37n87) 38 v38n92) 39 v39n95) 40 v40n99) 41 v41n101) 42 v41n101) 43 v43n103) 44 v44n106) 45 v45n111) 46 v46n114) 47 v47n117) 48 v48n120) 49 v49n123) 50 v50n126) 51 v51n130) 52 v52n132) 2 (Value.int IntKind.i64 4)) w131) (fun (K133 : KT) =>
K133 .normal (Env.put (Env.put (Env.put (Env.put (Env.put (Env.put (Env.put (Env.put (Env.put (Env.put (Env.put (Env.put (Env.put (Env.put (Env.put (Env.put (Env.put (Env.put (Env.put (Env.put (Env.put (Env.put (Env.put (Env.put (Env.put (Env.put (Env.put (Env.put (Env.put (Env.put (Env.put (Env.put e44 21 v21n46) 22 v22n48) 23 v23n52) 24 v24n54) 25 v24n54) 26 v26n57) 27 v27n60) 28 v28n63) 29 v29n65) 30 v29n65) 31 v31n67) 32 v32n70) 33 v33n75) 34 v34n78) 35 v35n81) 36 v36n84) 37 v37n87) 38 v38n92) 39 v39n95) 40 v40n99) 41 v41n101) 42 v41n101) 43 v43n103) 44 v44n106) 45 v45n111) 46 v46n114) 47 v47n117) 48 v48n120) 49 v49n123) 50 v50n126) 51 v51n130) 52 v52n132) w131) (thenK (fun e134 w135 =>
bindV (pFieldAddr P 27 (e134 1) 0 w135) fun v53n136 w137 =>
bindV (pLoad P 3 v53n136 w137) fun v54n138 w139 =>
bindV (pBin P BinOp.neq 3 true v54n138 (Value.int IntKind.i64 1) w139) fun v55n140 w141 =>
grdE v55n140 true (fun (k142 : Value → World → Prop) => bindV (pFieldAddr P 27 (e134 1) 5 w141) k142) (fun v57n143 w144 =>
grdE v55n140 true (fun (k145 : Value → World → Prop) => bindV (pLoad P 25 v57n143 w144) k145) (fun v58n146 w147 =>
grdE v55n140 true (fun (k148 : Value → World → Prop) => bindV (pBuild P 25 [] w147) k148) (fun v59n149 w150 =>
grdE v55n140 true (fun (k151 : Value → World → Prop) => callE P 14 #[v58n146, v59n149] w150 k151 (fun c152 w153 => R (.panicked c152) w153)) (fun v60n154 w155 =>
grdE v55n140 true (fun (k156 : Value → World → Prop) => bindV (pUn P UnOp.not v60n154 w155) k156) (fun v61n157 w158 =>
pickE v55n140 v61n157 (Value.bool false) fun v62n159 =>
condE v62n159 (fun (K160 : KT) =>
K160 .ret (Env.put (Env.put (Env.put (Env.put (Env.put (Env.put (Env.put (Env.put (Env.put (Env.put (Env.put e134 53 v53n136) 54 v54n138) 55 v55n140) 56 v55n140) 57 v57n143) 58 v58n146) 59 v59n149) 60 v60n154) 61 v61n157) 62 v62n159) 2 (Value.int IntKind.i64 4)) w158) (fun (K160 : KT) =>
K160 .normal (Env.put (Env.put (Env.put (Env.put (Env.put (Env.put (Env.put (Env.put (Env.put (Env.put e134 53 v53n136) 54 v54n138) 55 v55n140) 56 v55n140) 57 v57n143) 58 v58n146) 59 v59n149) 60 v60n154) 61 v61n157) 62 v62n159) w158) (thenK (fun e161 w162 =>
bindV (pFieldAddr P 27 (e161 1) 0 w162) fun v63n163 w164 =>
bindV (pLoad P 3 v63n163 w164) fun v64n165 w166 =>
callE P 30 #[v64n165] w166 (fun v65n169 w170 =>
bindV (pBin P BinOp.eql 3 true v65n169 (Value.int IntKind.i64 1) w170) fun v66n171 w172 =>
grdE v66n171 true (fun (k173 : Value → World → Prop) => bindV (pFieldAddr P 27 (e161 1) 4 w172) k173) (fun v68n174 w175 =>
grdE v66n171 true (fun (k176 : Value → World → Prop) => bindV (pLoad P 9 v68n174 w175) k176) (fun v69n177 w178 =>
grdE v66n171 true (fun (k179 : Value → World → Prop) => bindV (pBuiltin P Builtin.len #[9] 3 [v69n177] w178) k179) (fun v70n180 w181 =>
grdE v66n171 true (fun (k182 : Value → World → Prop) => bindV (pBin P BinOp.gtr 3 true v70n180 (Value.int IntKind.i64 64) w181) k182) (fun v71n183 w184 =>
pickE v66n171 v71n183 (Value.bool false) fun v72n185 =>
grdE v72n185 false (fun (k186 : Value → World → Prop) => bindV (pFieldAddr P 27 (e161 1) 0 w184) k186) (fun v74n187 w188 =>
grdE v72n185 false (fun (k189 : Value → World → Prop) => bindV (pLoad P 3 v74n187 w188) k189) (fun v75n190 w191 =>
grdE v72n185 false (fun (k192 : Value → World → Prop) => callE P 30 #[v75n190] w191 k192 (fun c193 w194 => R (.panicked c193) w194)) (fun v76n195 w196 =>
grdE v72n185 false (fun (k197 : Value → World → Prop) => bindV (pBin P BinOp.neq 3 true v76n195 (Value.int IntKind.i64 1) w196) k197) (fun v77n198 w199 =>
grdE v72n185 false (fun (k200 : Value → World → Prop) => k200 v77n198 w199) (fun v78n201 w202 =>
grdE v78n201 true (fun (k203 : Value → World → Prop) => bindV (pFieldAddr P 27 (e161 1) 4 w202) k203) (fun v79n204 w205 =>
grdE v78n201 true (fun (k206 : Value → World → Prop) => bindV (pLoad P 9 v79n204 w205) k206) (fun v80n207 w208 =>
grdE v78n201 true (fun (k209 : Value → World → Prop) => bindV (pBuiltin P Builtin.len #[9] 3 [v80n207] w208) k209) (fun v81n210 w211 =>
grdE v78n201 true (fun (k212 : Value → World → Prop) => bindV (pBin P BinOp.gtr 3 true v81n210 (Value.int IntKind.i64 16) w211) k212) (fun v82n213 w214 =>
grdE v72n185 false (fun (k215 : Value → World → Prop) => pickE v78n201 v82n213 (Value.bool false) fun v83n216 =>
k215 v83n216 w214) (fun v83n217 w218 =>
pickE v72n185 (Value.bool true) v83n217 fun v84n219 =>
condE v84n219 (fun (K220 : KT) =>
K220 .ret (Env.put (Env.put (Env.put (Env.put (Env.put (Env.put (Env.put (Env.put (Env.put (Env.put (Env.put (Env.put (Env.put (Env.put (Env.put (Env.put (Env.put (Env.put (Env.put (Env.put (Env.put (Env.put (Env.put e161 63 v63n163) 64 v64n165) 65 v65n169) 66 v66n171) 67 v66n171) 68 v68n174) 69 v69n177) 70 v70n180) 71 v71n183) 72 v72n185) 73 v72n185) 74 v74n187) 75 v75n190) 76 v76n195) 77 v77n198) 78 v78n201) 79 v79n204) 80 v80n207) 81 v81n210) 82 v82n213) 83 v83n217) 84 v84n219) 2 (Value.int IntKind.i64 3)) w218) (fun (K220 : KT) =>
K220 .normal (Env.put (Env.put (Env.put (Env.put (Env.put (Env.put (Env.put (Env.put (Env.put (Env.put (Env.put (Env.put (Env.put (Env.put (Env.put (Env.put (Env.put (Env.put (Env.put (Env.put (Env.put (Env.put e161 63 v63n163) 64 v64n165) 65 v65n169) 66 v66n171) 67 v66n171) 68 v68n174) 69 v69n177) 70 v70n180) 71 v71n183) 72 v72n185) 73 v72n185) 74 v74n187) 75 v75n190) 76 v76n195) 77 v77n198) 78 v78n201) 79 v79n204) 80 v80n207) 81 v81n210) 82 v82n213) 83 v83n217) 84 v84n219) w218) (thenK (fun e221 w222 =>
bindV (pFieldAddr P 27 (e221 1) 0 w222) fun v85n223 w224 =>
bindV (pLoad P 3 v85n223 w224) fun v86n225 w226 =>
bindV (pBin P BinOp.eql 3 true v86n225 (Value.int IntKind.i64 10) w226) fun v87n227 w228 =>
grdE v87n227 false (fun (k229 : Value → World → Prop) => bindV (pFieldAddr P 27 (e221 1) 0 w228) k229) (fun v89n230 w231 =>
grdE v87n227 false (fun (k232 : Value → World → Prop) => bindV (pLoad P 3 v89n230 w231) k232) (fun v90n233 w234 =>
grdE v87n227 false (fun (k235 : Value → World → Prop) => bindV (pBin P BinOp.eql 3 true v90n233 (Value.int IntKind.i64 11) w234) k235) (fun v91n236 w237 =>
pickE v87n227 (Value.bool true) v91n236 fun v92n238 =>
grdE v92n238 true (fun (k239 : Value → World → Prop) => bindV (pFieldAddr P 27 (e221 1) 2 w237) k239) (fun v94n240 w241 =>
grdE v92n238 true (fun (k242 : Value → World → Prop) => bindV (pLoad P 2 v94n240 w241) k242) (fun v95n243 w244 =>
grdE v92n238 true (fun (k245 : Value → World → Prop) => bindV (pBin P BinOp.lss 2 true v95n243 (Value.int IntKind.i64 0) w244) k245) (fun v96n246 w247 =>
grdE v92n238 true (fun (k248 : Value → World → Prop) => k248 v96n246 w247) (fun v97n249 w250 =>
grdE v97n249 false (fun (k251 : Value → World → Prop) => bindV (pFieldAddr P 27 (e221 1) 2 w250) k251) (fun v98n252 w253 =>
grdE v97n249 false (fun (k254 : Value → World → Prop) => bindV (pLoad P 2 v98n252 w253) k254) (fun v99n255 w256 =>
grdE v97n249 false (fun (k257 : Value → World → Prop) => bindV (pBin P BinOp.gtr 2 true v99n255 (Value.int IntKind.i64 2305843009213693952) w256) k257) (fun v100n258 w259 =>
grdE v92n238 true (fun (k260 : Value → World → Prop) => pickE v97n249 (Value.bool true) v100n258 fun v101n261 =>
k260 v101n261 w259) (fun v101n262 w263 =>
pickE v92n238 v101n262 (Value.bool false) fun v102n264 =>
condE v102n264 (fun (K265 : KT) =>
K265 .ret (Env.put (Env.put (Env.put (Env.put (Env.put (Env.put (Env.put (Env.put (Env.put (Env.put (Env.put (Env.put (Env.put (Env.put (Env.put (Env.put (Env.put (Env.put (Env.put e221 85 v85n223) 86 v86n225) 87 v87n227) 88 v87n227) 89 v89n230) 90 v90n233) 91 v91n236) 92 v92n238) 93 v92n238) 94 v94n240) 95 v95n243) 96 v96n246) 97 v97n249) 98 v98n252) 99 v99n255) 100 v100n258) 101 v101n262) 102 v102n264) 2 (Value.int IntKind.i64 1)) w263) (fun (K265 : KT) =>
K265 .normal (Env.put (Env.put (Env.put (Env.put (Env.put (Env.put (Env.put (Env.put (Env.put (Env.put (Env.put (Env.put (Env.put (Env.put (Env.put (Env.put (Env.put (Env.put e221 85 v85n223) 86 v86n225) 87 v87n227) 88 v87n227) 89 v89n230) 90 v90n233) 91 v91n236) 92 v92n238) 93 v92n238) 94 v94n240) 95 v95n243) 96 v96n246) 97 v97n249) 98 v98n252) 99 v99n255) 100 v100n258) 101 v101n262) 102 v102n264) w263) (thenK (fun e266 w267 =>
bindV (pFieldAddr P 27 (e266 1) 3 w267) fun v103n268 w269 =>
bindV (pLoad P 22 v103n268 w269) fun v104n270 w271 =>
callE P 31 #[v104n270] w271 (fun v105n274 w275 =>
bindV (pUn P UnOp.not v105n274 w275) fun v106n276 w277 =>
condE v106n276 (fun (K278 : KT) =>
K278 .ret (Env.put (Env.put (Env.put (Env.put (Env.put e266 103 v103n268) 104 v104n270) 105 v105n274) 106 v106n276) 2 (Value.int IntKind.i64 4)) w277) (fun (K278 : KT) =>
K278 .normal (Env.put (Env.put (Env.put (Env.put e266 103 v103n268) 104 v104n270) 105 v105n274) 106 v106n276) w277) (thenK (fun e279 w280 =>
bindV (pFieldAddr P 27 (e279 1) 0 w280) fun v107n281 w282 =>
bindV (pLoad P 3 v107n281 w282) fun v108n283 w284 =>
bindV (pBin P BinOp.eql 3 true v108n283 (Value.int IntKind.i64 1) w284) fun v109n285 w286 =>
condE v109n285 (fun (K287 : KT) =>
bindV (pFieldAddr P 27 (e279 1) 5 w286) fun v110n288 w289 =>
bindV (pLoad P 25 v110n288 w289) fun v111n290 w291 =>
callE P 32 #[v111n290] w291 (fun v112n294 w295 =>
K287 .ret (Env.put (Env.put (Env.put (Env.put (Env.put (Env.put (Env.put e279 107 v107n281) 108 v108n283) 109 v109n285) 110 v110n288) 111 v111n290) 112 v112n294) 2 v112n294) w295) (fun c292 w293 => K287 (.panic c292) (Env.put (Env.put (Env.put (Env.put (Env.put e279 107 v107n281) 108 v108n283) 109 v109n285) 110 v110n288) 111 v111n290) w293)) (fun (K287 : KT) =>
K287 .normal (Env.put (Env.put (Env.put e279 107 v107n281) 108 v108n283) 109 v109n285) w286) (thenK (fun e296 w297 =>
R (.returned (Value.int IntKind.i64 0)) w297) (topK P [(ResultVar.tmp 2)] R))) (topK P [(ResultVar.tmp 2)] R))) (fun c272 w273 => R (.panicked c272) w273)) (topK P [(ResultVar.tmp 2)] R))) w259) w256) w253) w250) w247) w244) w241) w237) w234) w231) w228) (topK P [(ResultVar.tmp 2)] R))) w214) w211) w208) w205) w202) w199) w196) w191) w188) w184) w181) w178) w175) w172) (fun c167 w168 => R (.panicked c167) w168)) (topK P [(ResultVar.tmp 2)] R))) w155) w150) w147) w144) w141) (topK P [(ResultVar.tmp 2)] R))) w127) w124) w121) w118) w115) w112) w107) w104) w100) w96) w93) w88) w85) w82) w79) w76) w71) w68) w64) w61) w58) w55) (fun c50 w51 => R (.panicked c50) w51)) (topK P [(ResultVar.tmp 2)] R))) w38) w35) w32) w29) (topK P [(ResultVar.tmp 2)] R))) w14) w11) w8
theorem F9ok {w : World} {R : Ending → World → Prop} {a0 : Value} (h : F9 a0 w R) : Calls P 9 #[a0] w R :=
  calls_of_ev bodies mixed (c := bodyOf Tryd.f9) (nt := 113) (rs := [(ResultVar.tmp 2)]) (args := [a0]) (fn := Tryd.f9) (by kernel_rfl) (by kernel_rfl) (by kernel_rfl) (by kernel_rfl) (by kernel_rfl) (by simp)
    (eq_mp (show F9 a0 w R = ev P C (bodyOf Tryd.f9) (argE [a0]) w (topK P [(ResultVar.tmp 2)] R) by kernel_rfl) h)

/-! ### moiety/act.Same -/
def F10 (a0 : Value) (a1 : Value) (w : World) (R : Ending → World → Prop) : Prop :=
bindV (pBox P 27 a0 w) fun v2n1 w2 =>
bindV (pBox P 27 a1 w2) fun v3n3 w4 =>
bindV (pFieldAddr P 27 v2n1 0 w4) fun v5n5 w6 =>
bindV (pLoad P 3 v5n5 w6) fun v6n7 w8 =>
bindV (pFieldAddr P 27 v3n3 0 w8) fun v7n9 w10 =>
bindV (pLoad P 3 v7n9 w10) fun v8n11 w12 =>
bindV (pBin P BinOp.eql 3 false v6n7 v8n11 w12) fun v9n13 w14 =>
grdE v9n13 true (fun (k15 : Value → World → Prop) => bindV (pFieldAddr P 27 v2n1 1 w14) k15) (fun v11n16 w17 =>
grdE v9n13 true (fun (k18 : Value → World → Prop) => bindV (pLoad P 9 v11n16 w17) k18) (fun v12n19 w20 =>
grdE v9n13 true (fun (k21 : Value → World → Prop) => bindV (pFieldAddr P 27 v3n3 1 w20) k21) (fun v13n22 w23 =>
grdE v9n13 true (fun (k24 : Value → World → Prop) => bindV (pLoad P 9 v13n22 w23) k24) (fun v14n25 w26 =>
grdE v9n13 true (fun (k27 : Value → World → Prop) => bindV (pBin P BinOp.eql 9 false v12n19 v14n25 w26) k27) (fun v15n28 w29 =>
pickE v9n13 v15n28 (Value.bool false) fun v16n30 =>
grdE v16n30 true (fun (k31 : Value → World → Prop) => bindV (pFieldAddr P 27 v2n1 2 w29) k31) (fun v18n32 w33 =>
grdE v16n30 true (fun (k34 : Value → World → Prop) => bindV (pLoad P 2 v18n32 w33) k34) (fun v19n35 w36 =>
grdE v16n30 true (fun (k37 : Value → World → Prop) => bindV (pFieldAddr P 27 v3n3 2 w36) k37) (fun v20n38 w39 =>
grdE v16n30 true (fun (k40 : Value → World → Prop) => bindV (pLoad P 2 v20n38 w39) k40) (fun v21n41 w42 =>
grdE v16n30 true (fun (k43 : Value → World → Prop) => bindV (pBin P BinOp.eql 2 false v19n35 v21n41 w42) k43) (fun v22n44 w45 =>
pickE v16n30 v22n44 (Value.bool false) fun v23n46 =>
grdE v23n46 true (fun (k47 : Value → World → Prop) => bindV (pFieldAddr P 27 v2n1 3 w45) k47) (fun v25n48 w49 =>
grdE v23n46 true (fun (k50 : Value → World → Prop) => bindV (pLoad P 22 v25n48 w49) k50) (fun v26n51 w52 =>
grdE v23n46 true (fun (k53 : Value → World → Prop) => bindV (pFieldAddr P 27 v3n3 3 w52) k53) (fun v27n54 w55 =>
grdE v23n46 true (fun (k56 : Value → World → Prop) => bindV (pLoad P 22 v27n54 w55) k56) (fun v28n57 w58 =>
grdE v23n46 true (fun (k59 : Value → World → Prop) => callE P 33 #[v26n51, v28n57] w58 k59 (fun c60 w61 => R (.panicked c60) w61)) (fun v29n62 w63 =>
pickE v23n46 v29n62 (Value.bool false) fun v30n64 =>
grdE v30n64 true (fun (k65 : Value → World → Prop) => bindV (pFieldAddr P 27 v2n1 4 w63) k65) (fun v32n66 w67 =>
grdE v30n64 true (fun (k68 : Value → World → Prop) => bindV (pLoad P 9 v32n66 w67) k68) (fun v33n69 w70 =>
grdE v30n64 true (fun (k71 : Value → World → Prop) => bindV (pFieldAddr P 27 v3n3 4 w70) k71) (fun v34n72 w73 =>
grdE v30n64 true (fun (k74 : Value → World → Prop) => bindV (pLoad P 9 v34n72 w73) k74) (fun v35n75 w76 =>
grdE v30n64 true (fun (k77 : Value → World → Prop) => bindV (pBin P BinOp.eql 9 false v33n69 v35n75 w76) k77) (fun v36n78 w79 =>
pickE v30n64 v36n78 (Value.bool false) fun v37n80 =>
grdE v37n80 true (fun (k81 : Value → World → Prop) => bindV (pFieldAddr P 27 v2n1 5 w79) k81) (fun v39n82 w83 =>
grdE v37n80 true (fun (k84 : Value → World → Prop) => bindV (pLoad P 25 v39n82 w83) k84) (fun v40n85 w86 =>
grdE v37n80 true (fun (k87 : Value → World → Prop) => bindV (pFieldAddr P 27 v3n3 5 w86) k87) (fun v41n88 w89 =>
grdE v37n80 true (fun (k90 : Value → World → Prop) => bindV (pLoad P 25 v41n88 w89) k90) (fun v42n91 w92 =>
grdE v37n80 true (fun (k93 : Value → World → Prop) => callE P 34 #[v40n85, v42n91] w92 k93 (fun c94 w95 => R (.panicked c94) w95)) (fun v43n96 w97 =>
pickE v37n80 v43n96 (Value.bool false) fun v44n98 =>
grdE v44n98 true (fun (k99 : Value → World → Prop) => bindV (pFieldAddr P 27 v2n1 6 w97) k99) (fun v46n100 w101 =>
grdE v44n98 true (fun (k102 : Value → World → Prop) => bindV (pLoad P 4 v46n100 w101) k102) (fun v47n103 w104 =>
grdE v44n98 true (fun (k105 : Value → World → Prop) => bindV (pFieldAddr P 27 v3n3 6 w104) k105) (fun v48n106 w107 =>
grdE v44n98 true (fun (k108 : Value → World → Prop) => bindV (pLoad P 4 v48n106 w107) k108) (fun v49n109 w110 =>
grdE v44n98 true (fun (k111 : Value → World → Prop) => bindV (pBin P BinOp.eql 4 false v47n103 v49n109 w110) k111) (fun v50n112 w113 =>
pickE v44n98 v50n112 (Value.bool false) fun v51n114 =>
R (.returned v51n114) w113) w110) w107) w104) w101) w97) w92) w89) w86) w83) w79) w76) w73) w70) w67) w63) w58) w55) w52) w49) w45) w42) w39) w36) w33) w29) w26) w23) w20) w17) w14
theorem F10ok {w : World} {R : Ending → World → Prop} {a0 : Value} {a1 : Value} (h : F10 a0 a1 w R) : Calls P 10 #[a0, a1] w R :=
  calls_of_ev bodies mixed (c := bodyOf Tryd.f10) (nt := 52) (rs := [(ResultVar.tmp 4)]) (args := [a0, a1]) (fn := Tryd.f10) (by kernel_rfl) (by kernel_rfl) (by kernel_rfl) (by kernel_rfl) (by kernel_rfl) (by simp)
    (eq_mp (show F10 a0 a1 w R = ev P C (bodyOf Tryd.f10) (argE [a0, a1]) w (topK P [(ResultVar.tmp 4)] R) by kernel_rfl) h)

/-! ### moiety/act.Check -/
def F23 (a0 : Value) (w : World) (R : Ending → World → Prop) : Prop :=
bindV (pBox P 27 a0 w) fun v1n1 w2 =>
bindV (pFieldAddr P 27 v1n1 0 w2) fun v4n3 w4 =>
bindV (pLoad P 3 v4n3 w4) fun v5n5 w6 =>
callE P 46 #[v5n5] w6 (fun v6n9 w10 =>
bindV (pAlloc P 97 w10) fun v3n11 w12 =>
bindU (pStore P 97 v3n11 v6n9 w12) fun w13 =>
bindV (pFieldAddr P 97 v3n11 0 w13) fun v8n14 w15 =>
bindV (pLoad P 9 v8n14 w15) fun v9n16 w17 =>
bindV (pBin P BinOp.eql 9 true v9n16 (Value.string { data := #[] }) w17) fun v10n18 w19 =>
condE v10n18 (fun (K20 : KT) =>
K20 .ret (Env.put (Env.put (Env.put (Env.put (Env.put (Env.put (Env.put (Env.put (Env.put (Env.put (Env.put (argE [a0]) 1 v1n1) 2 (Value.int IntKind.i64 0)) 4 v4n3) 5 v5n5) 6 v6n9) 3 v3n11) 8 v8n14) 9 v9n16) 10 v10n18) 7 v10n18) 2 (Value.int IntKind.i64 5)) w19) (fun (K20 : KT) =>
bindV (pFieldAddr P 27 v1n1 1 w19) fun v12n21 w22 =>
bindV (pLoad P 9 v12n21 w22) fun v13n23 w24 =>
bindV (pBin P BinOp.eql 9 true v13n23 (Value.string { data := #[] }) w24) fun v14n25 w26 =>
grdE v14n25 false (fun (k27 : Value → World → Prop) => bindV (pFieldAddr P 27 v1n1 1 w26) k27) (fun v16n28 w29 =>
grdE v14n25 false (fun (k30 : Value → World → Prop) => bindV (pLoad P 9 v16n28 w29) k30) (fun v17n31 w32 =>
grdE v14n25 false (fun (k33 : Value → World → Prop) => bindV (pBuiltin P Builtin.len #[9] 3 [v17n31] w32) k33) (fun v18n34 w35 =>
grdE v14n25 false (fun (k36 : Value → World → Prop) => bindV (pBin P BinOp.gtr 3 true v18n34 (Value.int IntKind.i64 24) w35) k36) (fun v19n37 w38 =>
pickE v14n25 (Value.bool true) v19n37 fun v20n39 =>
condE v20n39 (fun (K40 : KT) =>
K40 .ret (Env.put (Env.put (Env.put (Env.put (Env.put (Env.put (Env.put (Env.put (Env.put (Env.put (Env.put (Env.put (Env.put (Env.put (Env.put (Env.put (Env.put (Env.put (Env.put (Env.put (Env.put (argE [a0]) 1 v1n1) 2 (Value.int IntKind.i64 0)) 4 v4n3) 5 v5n5) 6 v6n9) 3 v3n11) 8 v8n14) 9 v9n16) 10 v10n18) 7 v10n18) 12 v12n21) 13 v13n23) 14 v14n25) 15 v14n25) 16 v16n28) 17 v17n31) 18 v18n34) 19 v19n37) 20 v20n39) 11 v20n39) 2 (Value.int IntKind.i64 1)) w38) (fun (K40 : KT) =>
bindV (pLoad P 27 v1n1 w38) fun v22n41 w42 =>
bindV (pLoad P 97 v3n11 w42) fun v23n43 w44 =>
callE P 47 #[v22n41, v23n43] w44 (fun v24n47 w48 =>
bindV (pUn P UnOp.not v24n47 w48) fun v25n49 w50 =>
condE v25n49 (fun (K51 : KT) =>
K51 .ret (Env.put (Env.put (Env.put (Env.put (Env.put (Env.put (Env.put (Env.put (Env.put (Env.put (Env.put (Env.put (Env.put (Env.put (Env.put (Env.put (Env.put (Env.put (Env.put (Env.put (Env.put (Env.put (Env.put (Env.put (Env.put (Env.put (argE [a0]) 1 v1n1) 2 (Value.int IntKind.i64 0)) 4 v4n3) 5 v5n5) 6 v6n9) 3 v3n11) 8 v8n14) 9 v9n16) 10 v10n18) 7 v10n18) 12 v12n21) 13 v13n23) 14 v14n25) 15 v14n25) 16 v16n28) 17 v17n31) 18 v18n34) 19 v19n37) 20 v20n39) 11 v20n39) 22 v22n41) 23 v23n43) 24 v24n47) 25 v25n49) 21 v25n49) 2 (Value.int IntKind.i64 4)) w50) (fun (K51 : KT) =>
takeE (fun w54 => pFieldAddr P 27 v1n1 4 w54) (drew w50) fun v27n52 h53 =>
takeE (fun w57 => pLoad P 9 v27n52 w57) (drew w50) fun v28n55 h56 =>
takeE (fun w60 => pBuiltin P Builtin.len #[9] 3 [v28n55] w60) (drew w50) fun v29n58 h59 =>
takeE (fun w63 => pLoad P 97 v3n11 w63) (drew w50) fun v30n61 h62 =>
callE P 48 #[v30n61] (drew w50) (fun v31n67 w68 =>
heldE [h59, h56, h53] w68 (takeE (fun w71 => pBin P BinOp.gtr 3 false v29n58 v31n67 w71) w68 fun v32n69 h70 =>
condE v32n69 (fun (K73 : KT) =>
K73 .ret (Env.put (Env.put (Env.put (Env.put (Env.put (Env.put (Env.put (Env.put (Env.put (Env.put (Env.put (Env.put (Env.put (Env.put (Env.put (Env.put (Env.put (Env.put (Env.put (Env.put (Env.put (Env.put (Env.put (Env.put (Env.put (Env.put (Env.put (Env.put (Env.put (Env.put (Env.put (Env.put (Env.put (argE [a0]) 1 v1n1) 2 (Value.int IntKind.i64 0)) 4 v4n3) 5 v5n5) 6 v6n9) 3 v3n11) 8 v8n14) 9 v9n16) 10 v10n18) 7 v10n18) 12 v12n21) 13 v13n23) 14 v14n25) 15 v14n25) 16 v16n28) 17 v17n31) 18 v18n34) 19 v19n37) 20 v20n39) 11 v20n39) 22 v22n41) 23 v23n43) 24 v24n47) 25 v25n49) 21 v25n49) 27 v27n52) 28 v28n55) 29 v29n58) 30 v30n61) 31 v31n67) 32 v32n69) 26 v32n69) 2 (Value.int IntKind.i64 3)) w68) (fun (K73 : KT) =>
bindV (pFieldAddr P 27 v1n1 0 w68) fun v34n74 w75 =>
bindV (pLoad P 3 v34n74 w75) fun v35n76 w77 =>
bindV (pBin P BinOp.eql 3 true v35n76 (Value.int IntKind.i64 10) w77) fun v36n78 w79 =>
grdE v36n78 false (fun (k80 : Value → World → Prop) => bindV (pFieldAddr P 27 v1n1 0 w79) k80) (fun v38n81 w82 =>
grdE v36n78 false (fun (k83 : Value → World → Prop) => bindV (pLoad P 3 v38n81 w82) k83) (fun v39n84 w85 =>
grdE v36n78 false (fun (k86 : Value → World → Prop) => bindV (pBin P BinOp.eql 3 true v39n84 (Value.int IntKind.i64 11) w85) k86) (fun v40n87 w88 =>
pickE v36n78 (Value.bool true) v40n87 fun v41n89 =>
grdE v41n89 true (fun (k90 : Value → World → Prop) => bindV (pFieldAddr P 27 v1n1 2 w88) k90) (fun v43n91 w92 =>
grdE v41n89 true (fun (k93 : Value → World → Prop) => bindV (pLoad P 2 v43n91 w92) k93) (fun v44n94 w95 =>
grdE v41n89 true (fun (k96 : Value → World → Prop) => bindV (pBin P BinOp.lss 2 true v44n94 (Value.int IntKind.i64 0) w95) k96) (fun v45n97 w98 =>
grdE v41n89 true (fun (k99 : Value → World → Prop) => k99 v45n97 w98) (fun v46n100 w101 =>
grdE v46n100 false (fun (k102 : Value → World → Prop) => bindV (pFieldAddr P 27 v1n1 2 w101) k102) (fun v47n103 w104 =>
grdE v46n100 false (fun (k105 : Value → World → Prop) => bindV (pLoad P 2 v47n103 w104) k105) (fun v48n106 w107 =>
grdE v46n100 false (fun (k108 : Value → World → Prop) => bindV (pBin P BinOp.gtr 2 true v48n106 (Value.int IntKind.i64 2305843009213693952) w107) k108) (fun v49n109 w110 =>
grdE v41n89 true (fun (k111 : Value → World → Prop) => pickE v46n100 (Value.bool true) v49n109 fun v50n112 =>
k111 v50n112 w110) (fun v50n113 w114 =>
pickE v41n89 v50n113 (Value.bool false) fun v51n115 =>
condE v51n115 (fun (K116 : KT) =>
K116 .ret (Env.put (Env.put (Env.put (Env.put (Env.put (Env.put (Env.put (Env.put (Env.put (Env.put (Env.put (Env.put (Env.put (Env.put (Env.put (Env.put (Env.put (Env.put (Env.put (Env.put (Env.put (Env.put (Env.put (Env.put (Env.put (Env.put (Env.put (Env.put (Env.put (Env.put (Env.put (Env.put (Env.put (Env.put (Env.put (Env.put (Env.put (Env.put (Env.put (Env.put (Env.put (Env.put (Env.put (Env.put (Env.put (Env.put (Env.put (Env.put (Env.put (Env.put (Env.put (Env.put (argE [a0]) 1 v1n1) 2 (Value.int IntKind.i64 0)) 4 v4n3) 5 v5n5) 6 v6n9) 3 v3n11) 8 v8n14) 9 v9n16) 10 v10n18) 7 v10n18) 12 v12n21) 13 v13n23) 14 v14n25) 15 v14n25) 16 v16n28) 17 v17n31) 18 v18n34) 19 v19n37) 20 v20n39) 11 v20n39) 22 v22n41) 23 v23n43) 24 v24n47) 25 v25n49) 21 v25n49) 27 v27n52) 28 v28n55) 29 v29n58) 30 v30n61) 31 v31n67) 32 v32n69) 26 v32n69) 34 v34n74) 35 v35n76) 36 v36n78) 37 v36n78) 38 v38n81) 39 v39n84) 40 v40n87) 41 v41n89) 42 v41n89) 43 v43n91) 44 v44n94) 45 v45n97) 46 v46n100) 47 v47n103) 48 v48n106) 49 v49n109) 50 v50n113) 51 v51n115) 33 v51n115) 2 (Value.int IntKind.i64 1)) w114) (fun (K116 : KT) =>
bindV (pFieldAddr P 27 v1n1 3 w114) fun v53n117 w118 =>
bindV (pLoad P 22 v53n117 w118) fun v54n119 w120 =>
callE P 49 #[v54n119] w120 (fun v55n123 w124 =>
bindV (pUn P UnOp.not v55n123 w124) fun v56n125 w126 =>
condE v56n125 (fun (K127 : KT) =>
K127 .ret (Env.put (Env.put (Env.put (Env.put (Env.put (Env.put (Env.put (Env.put (Env.put (Env.put (Env.put (Env.put (Env.put (Env.put (Env.put (Env.put (Env.put (Env.put (Env.put (Env.put (Env.put (Env.put (Env.put (Env.put (Env.put (Env.put (Env.put (Env.put (Env.put (Env.put (Env.put (Env.put (Env.put (Env.put (Env.put (Env.put (Env.put (Env.put (Env.put (Env.put (Env.put (Env.put (Env.put (Env.put (Env.put (Env.put (Env.put (Env.put (Env.put (Env.put (Env.put (Env.put (Env.put (Env.put (Env.put (Env.put (Env.put (argE [a0]) 1 v1n1) 2 (Value.int IntKind.i64 0)) 4 v4n3) 5 v5n5) 6 v6n9) 3 v3n11) 8 v8n14) 9 v9n16) 10 v10n18) 7 v10n18) 12 v12n21) 13 v13n23) 14 v14n25) 15 v14n25) 16 v16n28) 17 v17n31) 18 v18n34) 19 v19n37) 20 v20n39) 11 v20n39) 22 v22n41) 23 v23n43) 24 v24n47) 25 v25n49) 21 v25n49) 27 v27n52) 28 v28n55) 29 v29n58) 30 v30n61) 31 v31n67) 32 v32n69) 26 v32n69) 34 v34n74) 35 v35n76) 36 v36n78) 37 v36n78) 38 v38n81) 39 v39n84) 40 v40n87) 41 v41n89) 42 v41n89) 43 v43n91) 44 v44n94) 45 v45n97) 46 v46n100) 47 v47n103) 48 v48n106) 49 v49n109) 50 v50n113) 51 v51n115) 33 v51n115) 53 v53n117) 54 v54n119) 55 v55n123) 56 v56n125) 52 v56n125) 2 (Value.int IntKind.i64 4)) w126) (fun (K127 : KT) =>
bindV (pFieldAddr P 27 v1n1 0 w126) fun v58n128 w129 =>
bindV (pLoad P 3 v58n128 w129) fun v59n130 w131 =>
bindV (pBin P BinOp.eql 3 true v59n130 (Value.int IntKind.i64 1) w131) fun v60n132 w133 =>
condE v60n132 (fun (K134 : KT) =>
bindV (pFieldAddr P 27 v1n1 5 w133) fun v61n135 w136 =>
bindV (pLoad P 25 v61n135 w136) fun v62n137 w138 =>
callE P 26 #[v62n137] w138 (fun v63n141 w142 =>
K134 .ret (Env.put (Env.put (Env.put (Env.put (Env.put (Env.put (Env.put (Env.put (Env.put (Env.put (Env.put (Env.put (Env.put (Env.put (Env.put (Env.put (Env.put (Env.put (Env.put (Env.put (Env.put (Env.put (Env.put (Env.put (Env.put (Env.put (Env.put (Env.put (Env.put (Env.put (Env.put (Env.put (Env.put (Env.put (Env.put (Env.put (Env.put (Env.put (Env.put (Env.put (Env.put (Env.put (Env.put (Env.put (Env.put (Env.put (Env.put (Env.put (Env.put (Env.put (Env.put (Env.put (Env.put (Env.put (Env.put (Env.put (Env.put (Env.put (Env.put (Env.put (Env.put (Env.put (Env.put (Env.put (argE [a0]) 1 v1n1) 2 (Value.int IntKind.i64 0)) 4 v4n3) 5 v5n5) 6 v6n9) 3 v3n11) 8 v8n14) 9 v9n16) 10 v10n18) 7 v10n18) 12 v12n21) 13 v13n23) 14 v14n25) 15 v14n25) 16 v16n28) 17 v17n31) 18 v18n34) 19 v19n37) 20 v20n39) 11 v20n39) 22 v22n41) 23 v23n43) 24 v24n47) 25 v25n49) 21 v25n49) 27 v27n52) 28 v28n55) 29 v29n58) 30 v30n61) 31 v31n67) 32 v32n69) 26 v32n69) 34 v34n74) 35 v35n76) 36 v36n78) 37 v36n78) 38 v38n81) 39 v39n84) 40 v40n87) 41 v41n89) 42 v41n89) 43 v43n91) 44 v44n94) 45 v45n97) 46 v46n100) 47 v47n103) 48 v48n106) 49 v49n109) 50 v50n113) 51 v51n115) 33 v51n115) 53 v53n117) 54 v54n119) 55 v55n123) 56 v56n125) 52 v56n125) 58 v58n128) 59 v59n130) 60 v60n132) 57 v60n132) 61 v61n135) 62 v62n137) 63 v63n141) 2 v63n141) w142) (fun c139 w140 => K134 (.panic c139) (Env.put (Env.put (Env.put (Env.put (Env.put (Env.put (Env.put (Env.put (Env.put (Env.put (Env.put (Env.put (Env.put (Env.put (Env.put (Env.put (Env.put (Env.put (Env.put (Env.put (Env.put (Env.put (Env.put (Env.put (Env.put (Env.put (Env.put (Env.put (Env.put (Env.put (Env.put (Env.put (Env.put (Env.put (Env.put (Env.put (Env.put (Env.put (Env.put (Env.put (Env.put (Env.put (Env.put (Env.put (Env.put (Env.put (Env.put (Env.put (Env.put (Env.put (Env.put (Env.put (Env.put (Env.put (Env.put (Env.put (Env.put (Env.put (Env.put (Env.put (Env.put (Env.put (argE [a0]) 1 v1n1) 2 (Value.int IntKind.i64 0)) 4 v4n3) 5 v5n5) 6 v6n9) 3 v3n11) 8 v8n14) 9 v9n16) 10 v10n18) 7 v10n18) 12 v12n21) 13 v13n23) 14 v14n25) 15 v14n25) 16 v16n28) 17 v17n31) 18 v18n34) 19 v19n37) 20 v20n39) 11 v20n39) 22 v22n41) 23 v23n43) 24 v24n47) 25 v25n49) 21 v25n49) 27 v27n52) 28 v28n55) 29 v29n58) 30 v30n61) 31 v31n67) 32 v32n69) 26 v32n69) 34 v34n74) 35 v35n76) 36 v36n78) 37 v36n78) 38 v38n81) 39 v39n84) 40 v40n87) 41 v41n89) 42 v41n89) 43 v43n91) 44 v44n94) 45 v45n97) 46 v46n100) 47 v47n103) 48 v48n106) 49 v49n109) 50 v50n113) 51 v51n115) 33 v51n115) 53 v53n117) 54 v54n119) 55 v55n123) 56 v56n125) 52 v56n125) 58 v58n128) 59 v59n130) 60 v60n132) 57 v60n132) 61 v61n135) 62 v62n137) w140)) (fun (K134 : KT) =>
K134 .normal (Env.put (Env.put (Env.put (Env.put (Env.put (Env.put (Env.put (Env.put (Env.put (Env.put (Env.put (Env.put (Env.put (Env.put (Env.put (Env.put (Env.put (Env.put (Env.put (Env.put (Env.put (Env.put (Env.put (Env.put (Env.put (Env.put (Env.put (Env.put (Env.put (Env.put (Env.put (Env.put (Env.put (Env.put (Env.put (Env.put (Env.put (Env.put (Env.put (Env.put (Env.put (Env.put (Env.put (Env.put (Env.put (Env.put (Env.put (Env.put (Env.put (Env.put (Env.put (Env.put (Env.put (Env.put (Env.put (Env.put (Env.put (Env.put (Env.put (Env.put (argE [a0]) 1 v1n1) 2 (Value.int IntKind.i64 0)) 4 v4n3) 5 v5n5) 6 v6n9) 3 v3n11) 8 v8n14) 9 v9n16) 10 v10n18) 7 v10n18) 12 v12n21) 13 v13n23) 14 v14n25) 15 v14n25) 16 v16n28) 17 v17n31) 18 v18n34) 19 v19n37) 20 v20n39) 11 v20n39) 22 v22n41) 23 v23n43) 24 v24n47) 25 v25n49) 21 v25n49) 27 v27n52) 28 v28n55) 29 v29n58) 30 v30n61) 31 v31n67) 32 v32n69) 26 v32n69) 34 v34n74) 35 v35n76) 36 v36n78) 37 v36n78) 38 v38n81) 39 v39n84) 40 v40n87) 41 v41n89) 42 v41n89) 43 v43n91) 44 v44n94) 45 v45n97) 46 v46n100) 47 v47n103) 48 v48n106) 49 v49n109) 50 v50n113) 51 v51n115) 33 v51n115) 53 v53n117) 54 v54n119) 55 v55n123) 56 v56n125) 52 v56n125) 58 v58n128) 59 v59n130) 60 v60n132) 57 v60n132) w133) K127) K116) (fun c121 w122 => K116 (.panic c121) (Env.put (Env.put (Env.put (Env.put (Env.put (Env.put (Env.put (Env.put (Env.put (Env.put (Env.put (Env.put (Env.put (Env.put (Env.put (Env.put (Env.put (Env.put (Env.put (Env.put (Env.put (Env.put (Env.put (Env.put (Env.put (Env.put (Env.put (Env.put (Env.put (Env.put (Env.put (Env.put (Env.put (Env.put (Env.put (Env.put (Env.put (Env.put (Env.put (Env.put (Env.put (Env.put (Env.put (Env.put (Env.put (Env.put (Env.put (Env.put (Env.put (Env.put (Env.put (Env.put (Env.put (argE [a0]) 1 v1n1) 2 (Value.int IntKind.i64 0)) 4 v4n3) 5 v5n5) 6 v6n9) 3 v3n11) 8 v8n14) 9 v9n16) 10 v10n18) 7 v10n18) 12 v12n21) 13 v13n23) 14 v14n25) 15 v14n25) 16 v16n28) 17 v17n31) 18 v18n34) 19 v19n37) 20 v20n39) 11 v20n39) 22 v22n41) 23 v23n43) 24 v24n47) 25 v25n49) 21 v25n49) 27 v27n52) 28 v28n55) 29 v29n58) 30 v30n61) 31 v31n67) 32 v32n69) 26 v32n69) 34 v34n74) 35 v35n76) 36 v36n78) 37 v36n78) 38 v38n81) 39 v39n84) 40 v40n87) 41 v41n89) 42 v41n89) 43 v43n91) 44 v44n94) 45 v45n97) 46 v46n100) 47 v47n103) 48 v48n106) 49 v49n109) 50 v50n113) 51 v51n115) 33 v51n115) 53 v53n117) 54 v54n119) w122)) K73) w110) w107) w104) w101) w98) w95) w92) w88) w85) w82) w79) K51)) (fun c65 w66 => ∀ (e64 : Env), agreeOff [27, 28, 29, 30] (Env.put (Env.put (Env.put (Env.put (Env.put (Env.put (Env.put (Env.put (Env.put (Env.put (Env.put (Env.put (Env.put (Env.put (Env.put (Env.put (Env.put (Env.put (Env.put (Env.put (Env.put (Env.put (Env.put (Env.put (Env.put (Env.put (Env.put (Env.put (Env.put (argE [a0]) 1 v1n1) 2 (Value.int IntKind.i64 0)) 4 v4n3) 5 v5n5) 6 v6n9) 3 v3n11) 8 v8n14) 9 v9n16) 10 v10n18) 7 v10n18) 12 v12n21) 13 v13n23) 14 v14n25) 15 v14n25) 16 v16n28) 17 v17n31) 18 v18n34) 19 v19n37) 20 v20n39) 11 v20n39) 22 v22n41) 23 v23n43) 24 v24n47) 25 v25n49) 21 v25n49) 27 v27n52) 28 v28n55) 29 v29n58) 30 v30n61) e64 → K51 (.panic c65) e64 w66)) K40) (fun c45 w46 => K40 (.panic c45) (Env.put (Env.put (Env.put (Env.put (Env.put (Env.put (Env.put (Env.put (Env.put (Env.put (Env.put (Env.put (Env.put (Env.put (Env.put (Env.put (Env.put (Env.put (Env.put (Env.put (Env.put (Env.put (argE [a0]) 1 v1n1) 2 (Value.int IntKind.i64 0)) 4 v4n3) 5 v5n5) 6 v6n9) 3 v3n11) 8 v8n14) 9 v9n16) 10 v10n18) 7 v10n18) 12 v12n21) 13 v13n23) 14 v14n25) 15 v14n25) 16 v16n28) 17 v17n31) 18 v18n34) 19 v19n37) 20 v20n39) 11 v20n39) 22 v22n41) 23 v23n43) w46)) K20) w35) w32) w29) w26) (blockK 0 (thenK (fun e143 w144 =>
R (.returned (Value.int IntKind.i64 0)) w144) (topK P [(ResultVar.tmp 2)] R)))) (fun c7 w8 => R (.panicked c7) w8)
theorem F23ok {w : World} {R : Ending → World → Prop} {a0 : Value} (h : F23 a0 w R) : Calls P 23 #[a0] w R :=
  calls_of_ev bodies mixed (c := bodyOf Tryd.f23) (nt := 64) (rs := [(ResultVar.tmp 2)]) (args := [a0]) (fn := Tryd.f23) (by kernel_rfl) (by kernel_rfl) (by kernel_rfl) (by kernel_rfl) (by kernel_rfl) (by simp)
    (eq_mp (show F23 a0 w R = ev P C (bodyOf Tryd.f23) (argE [a0]) w (topK P [(ResultVar.tmp 2)] R) by kernel_rfl) h)

/-! ### moiety/act.Write -/
def F24 (a0 : Value) (a1 : Value) (w : World) (R : Ending → World → Prop) : Prop :=
bindV (pBox P 27 a1 w) fun v3n1 w2 =>
bindV (pFieldAddr P 27 v3n1 0 w2) fun v5n3 w4 =>
bindV (pLoad P 3 v5n3 w4) fun v6n5 w6 =>
callE P 46 #[v6n5] w6 (fun v7n9 w10 =>
bindV (pAlloc P 97 w10) fun v4n11 w12 =>
bindU (pStore P 97 v4n11 v7n9 w12) fun w13 =>
bindV (pFieldAddr P 27 v3n1 0 w13) fun v9n14 w15 =>
bindV (pLoad P 3 v9n14 w15) fun v10n16 w17 =>
bindV (pConv P 3 58 v10n16 w17) fun v11n18 w19 =>
callE P 50 #[a0, v11n18] w19 (fun v12n22 w23 =>
bindV (pFieldAddr P 27 v3n1 6 w23) fun v14n24 w25 =>
bindV (pLoad P 4 v14n24 w25) fun v15n26 w27 =>
callE P 51 #[a0, v15n26] w27 (fun v16n30 w31 =>
bindV (pFieldAddr P 27 v3n1 1 w31) fun v18n32 w33 =>
bindV (pLoad P 9 v18n32 w33) fun v19n34 w35 =>
callE P 52 #[a0, v19n34] w35 (fun v20n38 w39 =>
bindV (pLoad P 97 v4n11 w39) fun v21n40 w41 =>
callE P 53 #[v21n40, (Value.int IntKind.u8 110)] w41 (fun v22n44 w45 =>
condE v22n44 (fun (K46 : KT) =>
bindV (pFieldAddr P 27 v3n1 2 w45) fun v24n47 w48 =>
bindV (pLoad P 2 v24n47 w48) fun v25n49 w50 =>
callE P 54 #[a0, v25n49] w50 (fun v26n53 w54 =>
K46 .normal (Env.put (Env.put (Env.put (Env.put (Env.put (Env.put (Env.put (Env.put (Env.put (Env.put (Env.put (Env.put (Env.put (Env.put (Env.put (Env.put (Env.put (Env.put (Env.put (Env.put (Env.put (Env.put (Env.put (Env.put (argE [a0, a1]) 3 v3n1) 5 v5n3) 6 v6n5) 7 v7n9) 4 v4n11) 8 a0) 9 v9n14) 10 v10n16) 11 v11n18) 12 v12n22) 13 a0) 14 v14n24) 15 v15n26) 16 v16n30) 17 a0) 18 v18n32) 19 v19n34) 20 v20n38) 21 v21n40) 22 v22n44) 23 a0) 24 v24n47) 25 v25n49) 26 v26n53) w54) (fun c51 w52 => K46 (.panic c51) (Env.put (Env.put (Env.put (Env.put (Env.put (Env.put (Env.put (Env.put (Env.put (Env.put (Env.put (Env.put (Env.put (Env.put (Env.put (Env.put (Env.put (Env.put (Env.put (Env.put (Env.put (Env.put (Env.put (argE [a0, a1]) 3 v3n1) 5 v5n3) 6 v6n5) 7 v7n9) 4 v4n11) 8 a0) 9 v9n14) 10 v10n16) 11 v11n18) 12 v12n22) 13 a0) 14 v14n24) 15 v15n26) 16 v16n30) 17 a0) 18 v18n32) 19 v19n34) 20 v20n38) 21 v21n40) 22 v22n44) 23 a0) 24 v24n47) 25 v25n49) w52)) (fun (K46 : KT) =>
K46 .normal (Env.put (Env.put (Env.put (Env.put (Env.put (Env.put (Env.put (Env.put (Env.put (Env.put (Env.put (Env.put (Env.put (Env.put (Env.put (Env.put (Env.put (Env.put (Env.put (Env.put (argE [a0, a1]) 3 v3n1) 5 v5n3) 6 v6n5) 7 v7n9) 4 v4n11) 8 a0) 9 v9n14) 10 v10n16) 11 v11n18) 12 v12n22) 13 a0) 14 v14n24) 15 v15n26) 16 v16n30) 17 a0) 18 v18n32) 19 v19n34) 20 v20n38) 21 v21n40) 22 v22n44) w45) (thenK (fun e55 w56 =>
bindV (pLoad P 97 (e55 4) w56) fun v27n57 w58 =>
callE P 53 #[v27n57, (Value.int IntKind.u8 120)] w58 (fun v28n61 w62 =>
condE v28n61 (fun (K63 : KT) =>
bindV (pFieldAddr P 27 (e55 3) 3 w62) fun v30n64 w65 =>
bindV (pLoad P 22 v30n64 w65) fun v31n66 w67 =>
callE P 55 #[(e55 0), v31n66] w67 (fun v32n70 w71 =>
K63 .normal (Env.put (Env.put (Env.put (Env.put (Env.put (Env.put e55 27 v27n57) 28 v28n61) 29 (e55 0)) 30 v30n64) 31 v31n66) 32 v32n70) w71) (fun c68 w69 => K63 (.panic c68) (Env.put (Env.put (Env.put (Env.put (Env.put e55 27 v27n57) 28 v28n61) 29 (e55 0)) 30 v30n64) 31 v31n66) w69)) (fun (K63 : KT) =>
K63 .normal (Env.put (Env.put e55 27 v27n57) 28 v28n61) w62) (thenK (fun e72 w73 =>
bindV (pLoad P 97 (e72 4) w73) fun v33n74 w75 =>
callE P 53 #[v33n74, (Value.int IntKind.u8 115)] w75 (fun v34n78 w79 =>
condE v34n78 (fun (K80 : KT) =>
bindV (pFieldAddr P 27 (e72 3) 4 w79) fun v36n81 w82 =>
bindV (pLoad P 9 v36n81 w82) fun v37n83 w84 =>
callE P 52 #[(e72 0), v37n83] w84 (fun v38n87 w88 =>
K80 .normal (Env.put (Env.put (Env.put (Env.put (Env.put (Env.put e72 33 v33n74) 34 v34n78) 35 (e72 0)) 36 v36n81) 37 v37n83) 38 v38n87) w88) (fun c85 w86 => K80 (.panic c85) (Env.put (Env.put (Env.put (Env.put (Env.put e72 33 v33n74) 34 v34n78) 35 (e72 0)) 36 v36n81) 37 v37n83) w86)) (fun (K80 : KT) =>
K80 .normal (Env.put (Env.put e72 33 v33n74) 34 v34n78) w79) (thenK (fun e89 w90 =>
bindV (pLoad P 97 (e89 4) w90) fun v39n91 w92 =>
callE P 53 #[v39n91, (Value.int IntKind.u8 109)] w92 (fun v40n95 w96 =>
condE v40n95 (fun (K97 : KT) =>
bindV (pFieldAddr P 27 (e89 3) 5 w96) fun v42n98 w99 =>
bindV (pLoad P 25 v42n98 w99) fun v43n100 w101 =>
callE P 27 #[(e89 0), v43n100] w101 (fun v44n104 w105 =>
K97 .normal (Env.put (Env.put (Env.put (Env.put (Env.put (Env.put e89 39 v39n91) 40 v40n95) 41 (e89 0)) 42 v42n98) 43 v43n100) 44 v44n104) w105) (fun c102 w103 => K97 (.panic c102) (Env.put (Env.put (Env.put (Env.put (Env.put e89 39 v39n91) 40 v40n95) 41 (e89 0)) 42 v42n98) 43 v43n100) w103)) (fun (K97 : KT) =>
K97 .normal (Env.put (Env.put e89 39 v39n91) 40 v40n95) w96) (topK P [] R)) (fun c93 w94 => R (.panicked c93) w94)) (topK P [] R))) (fun c76 w77 => R (.panicked c76) w77)) (topK P [] R))) (fun c59 w60 => R (.panicked c59) w60)) (topK P [] R))) (fun c42 w43 => R (.panicked c42) w43)) (fun c36 w37 => R (.panicked c36) w37)) (fun c28 w29 => R (.panicked c28) w29)) (fun c20 w21 => R (.panicked c20) w21)) (fun c7 w8 => R (.panicked c7) w8)
theorem F24ok {w : World} {R : Ending → World → Prop} {a0 : Value} {a1 : Value} (h : F24 a0 a1 w R) : Calls P 24 #[a0, a1] w R :=
  calls_of_ev bodies mixed (c := bodyOf Tryd.f24) (nt := 45) (rs := []) (args := [a0, a1]) (fn := Tryd.f24) (by kernel_rfl) (by kernel_rfl) (by kernel_rfl) (by kernel_rfl) (by kernel_rfl) (by simp)
    (eq_mp (show F24 a0 a1 w R = ev P C (bodyOf Tryd.f24) (argE [a0, a1]) w (topK P [] R) by kernel_rfl) h)

/-! ### moiety/moietyref04.Has -/
def F28B0 (e : Env) (w : World) (K : KT) : Prop :=
bindV (pBuiltin P Builtin.len #[9] 3 [(e 5)] w) fun v11n5 w6 =>
bindV (pBin P BinOp.lss 3 false (e 6) v11n5 w6) fun v12n7 w8 =>
condE v12n7 (fun (K9 : KT) =>
K9 .normal (Env.put (Env.put (Env.put (Env.put e 9 (e 6)) 10 (e 5)) 11 v11n5) 12 v12n7) w8) (fun (K9 : KT) =>
K9 (.exit 0) (Env.put (Env.put (Env.put (Env.put e 9 (e 6)) 10 (e 5)) 11 v11n5) 12 v12n7) w8) (thenK (fun e10 w11 =>
bindV (pIndex P 9 (e10 5) (e10 6) w11) fun v17n12 w13 =>
bindV (pBin P BinOp.eql 5 false v17n12 (e10 1) w13) fun v19n14 w15 =>
condE v19n14 (fun (K16 : KT) =>
K16 .ret (Env.put (Env.put (Env.put (Env.put (Env.put (Env.put e10 15 (e10 5)) 16 (e10 6)) 17 v17n12) 18 (e10 1)) 19 v19n14) 4 (Value.bool true)) w15) (fun (K16 : KT) =>
K16 .normal (Env.put (Env.put (Env.put (Env.put (Env.put e10 15 (e10 5)) 16 (e10 6)) 17 v17n12) 18 (e10 1)) 19 v19n14) w15) (blockK 1 (thenK (fun e17 w18 =>
bindV (pBin P BinOp.add 3 true (e17 6) (Value.int IntKind.i64 1) w18) fun v14n19 w20 =>
K .normal (Env.put (Env.put (Env.put e17 13 (e17 6)) 14 v14n19) 6 v14n19) w20) K))) K)
def F28 (a0 : Value) (a1 : Value) (w : World) (R : Ending → World → Prop) : Prop :=
callE P 59 #[a0] w (fun v8n3 w4 =>
loopE F28B0 (Env.put (Env.put (Env.put (Env.put (Env.put (argE [a0, a1]) 4 (Value.bool false)) 7 a0) 8 v8n3) 5 v8n3) 6 (Value.int IntKind.i64 0)) w4 (blockK 0 (thenK (fun e21 w22 =>
R (.returned (Value.bool false)) w22) (topK P [(ResultVar.tmp 4)] R)))) (fun c1 w2 => R (.panicked c1) w2)
theorem F28ok {w : World} {R : Ending → World → Prop} {a0 : Value} {a1 : Value} (h : F28 a0 a1 w R) : Calls P 28 #[a0, a1] w R :=
  calls_of_ev bodies mixed (c := bodyOf Tryd.f28) (nt := 20) (rs := [(ResultVar.tmp 4)]) (args := [a0, a1]) (fn := Tryd.f28) (by kernel_rfl) (by kernel_rfl) (by kernel_rfl) (by kernel_rfl) (by kernel_rfl) (by simp)
    (eq_mp (show F28 a0 a1 w R = ev P C (bodyOf Tryd.f28) (argE [a0, a1]) w (topK P [(ResultVar.tmp 4)] R) by kernel_rfl) h)

/-! ### moiety/moietyref04.On -/
def F30 (a0 : Value) (w : World) (R : Ending → World → Prop) : Prop :=
bindV (pBuildSlice P 35 22 [(0, (Value.int IntKind.i64 0)), (1, (Value.int IntKind.i64 0)), (2, (Value.int IntKind.i64 0)), (3, (Value.int IntKind.i64 0)), (4, (Value.int IntKind.i64 0)), (5, (Value.int IntKind.i64 1)), (6, (Value.int IntKind.i64 1)), (7, (Value.int IntKind.i64 2)), (8, (Value.int IntKind.i64 3)), (9, (Value.int IntKind.i64 3)), (10, (Value.int IntKind.i64 4)), (11, (Value.int IntKind.i64 4)), (12, (Value.int IntKind.i64 4)), (13, (Value.int IntKind.i64 5)), (14, (Value.int IntKind.i64 6)), (15, (Value.int IntKind.i64 7)), (16, (Value.int IntKind.i64 7)), (17, (Value.int IntKind.i64 7)), (18, (Value.int IntKind.i64 8)), (19, (Value.int IntKind.i64 8)), (20, (Value.int IntKind.i64 8)), (21, (Value.int IntKind.i64 9))] w) fun v4n1 w2 =>
bindV (pBin P BinOp.lss 3 true a0 (Value.int IntKind.i64 0) w2) fun v6n3 w4 =>
grdE v6n3 false (fun (k5 : Value → World → Prop) => k5 a0 w4) (fun v8n6 w7 =>
grdE v6n3 false (fun (k8 : Value → World → Prop) => bindV (pBin P BinOp.gtr 3 true v8n6 (Value.int IntKind.i64 21) w7) k8) (fun v9n9 w10 =>
pickE v6n3 (Value.bool true) v9n9 fun v10n11 =>
condE v10n11 (fun (K12 : KT) =>
K12 .ret (Env.put (Env.put (Env.put (Env.put (Env.put (Env.put (Env.put (Env.put (Env.put (Env.put (argE [a0]) 2 (Value.int IntKind.i64 0)) 4 v4n1) 3 v4n1) 5 a0) 6 v6n3) 7 v6n3) 8 v8n6) 9 v9n9) 10 v10n11) 2 (Value.int IntKind.i64 0)) w10) (fun (K12 : KT) =>
K12 .normal (Env.put (Env.put (Env.put (Env.put (Env.put (Env.put (Env.put (Env.put (Env.put (argE [a0]) 2 (Value.int IntKind.i64 0)) 4 v4n1) 3 v4n1) 5 a0) 6 v6n3) 7 v6n3) 8 v8n6) 9 v9n9) 10 v10n11) w10) (thenK (fun e13 w14 =>
bindV (pIndexAddr P 35 (e13 3) (e13 0) w14) fun v13n15 w16 =>
bindV (pLoad P 3 v13n15 w16) fun v14n17 w18 =>
R (.returned v14n17) w18) (topK P [(ResultVar.tmp 2)] R))) w7) w4
theorem F30ok {w : World} {R : Ending → World → Prop} {a0 : Value} (h : F30 a0 w R) : Calls P 30 #[a0] w R :=
  calls_of_ev bodies mixed (c := bodyOf Tryd.f30) (nt := 15) (rs := [(ResultVar.tmp 2)]) (args := [a0]) (fn := Tryd.f30) (by kernel_rfl) (by kernel_rfl) (by kernel_rfl) (by kernel_rfl) (by kernel_rfl) (by simp)
    (eq_mp (show F30 a0 w R = ev P C (bodyOf Tryd.f30) (argE [a0]) w (topK P [(ResultVar.tmp 2)] R) by kernel_rfl) h)

/-! ### moiety/act.of -/
def F46 (a0 : Value) (w : World) (R : Ending → World → Prop) : Prop :=
bindV (pAlloc P 97 w) fun v2n1 w2 =>
bindV (pBin P BinOp.leq 3 true a0 (Value.int IntKind.i64 0) w2) fun v4n3 w4 =>
grdE v4n3 false (fun (k5 : Value → World → Prop) => k5 a0 w4) (fun v6n6 w7 =>
grdE v4n3 false (fun (k8 : Value → World → Prop) => bindV (pBin P BinOp.geq 3 true v6n6 (Value.int IntKind.i64 22) w7) k8) (fun v7n9 w10 =>
pickE v4n3 (Value.bool true) v7n9 fun v8n11 =>
condE v8n11 (fun (K12 : KT) =>
bindV (pBuild P 97 [] w10) fun v9n13 w14 =>
bindU (pStore P 97 v2n1 v9n13 w14) fun w15 =>
K12 .ret (Env.put (Env.put (Env.put (Env.put (Env.put (Env.put (Env.put (Env.put (argE [a0]) 2 v2n1) 3 a0) 4 v4n3) 5 v4n3) 6 v6n6) 7 v7n9) 8 v8n11) 9 v9n13) w15) (fun (K12 : KT) =>
K12 .normal (Env.put (Env.put (Env.put (Env.put (Env.put (Env.put (Env.put (argE [a0]) 2 v2n1) 3 a0) 4 v4n3) 5 v4n3) 6 v6n6) 7 v7n9) 8 v8n11) w10) (thenK (fun e16 w17 =>
bindV (pIndexAddr P 129 (Value.pointer (some ⟨1, 0, none⟩)) (e16 0) w17) fun v11n18 w19 =>
bindV (pLoad P 97 v11n18 w19) fun v12n20 w21 =>
bindU (pStore P 97 (e16 2) v12n20 w21) fun w22 =>
topK P [(ResultVar.cell 2 97)] R .ret (Env.put (Env.put (Env.put e16 10 (e16 0)) 11 v11n18) 12 v12n20) w22) (topK P [(ResultVar.cell 2 97)] R))) w7) w4
theorem F46ok {w : World} {R : Ending → World → Prop} {a0 : Value} (h : F46 a0 w R) : Calls P 46 #[a0] w R :=
  calls_of_ev bodies mixed (c := bodyOf Tryd.f46) (nt := 13) (rs := [(ResultVar.cell 2 97)]) (args := [a0]) (fn := Tryd.f46) (by kernel_rfl) (by kernel_rfl) (by kernel_rfl) (by kernel_rfl) (by kernel_rfl) (by simp)
    (eq_mp (show F46 a0 w R = ev P C (bodyOf Tryd.f46) (argE [a0]) w (topK P [(ResultVar.cell 2 97)] R) by kernel_rfl) h)

/-! ### moiety/act.bare -/
def F47 (a0 : Value) (a1 : Value) (w : World) (R : Ending → World → Prop) : Prop :=
bindV (pBox P 27 a0 w) fun v2n1 w2 =>
bindV (pBox P 97 a1 w2) fun v3n3 w4 =>
bindV (pLoad P 97 v3n3 w4) fun v5n5 w6 =>
callE P 53 #[v5n5, (Value.int IntKind.u8 110)] w6 (fun v6n9 w10 =>
grdE v6n9 false (fun (k11 : Value → World → Prop) => bindV (pFieldAddr P 27 v2n1 2 w10) k11) (fun v8n12 w13 =>
grdE v6n9 false (fun (k14 : Value → World → Prop) => bindV (pLoad P 2 v8n12 w13) k14) (fun v9n15 w16 =>
grdE v6n9 false (fun (k17 : Value → World → Prop) => bindV (pBin P BinOp.eql 2 true v9n15 (Value.int IntKind.i64 0) w16) k17) (fun v10n18 w19 =>
pickE v6n9 (Value.bool true) v10n18 fun v11n20 =>
grdE v11n20 true (fun (k21 : Value → World → Prop) => bindV (pLoad P 97 v3n3 w19) k21) (fun v13n22 w23 =>
grdE v11n20 true (fun (k24 : Value → World → Prop) => callE P 53 #[v13n22, (Value.int IntKind.u8 120)] w23 k24 (fun c25 w26 => R (.panicked c25) w26)) (fun v14n27 w28 =>
grdE v11n20 true (fun (k29 : Value → World → Prop) => k29 v14n27 w28) (fun v15n30 w31 =>
grdE v15n30 false (fun (k32 : Value → World → Prop) => bindV (pFieldAddr P 27 v2n1 3 w31) k32) (fun v16n33 w34 =>
grdE v15n30 false (fun (k35 : Value → World → Prop) => bindV (pLoad P 22 v16n33 w34) k35) (fun v17n36 w37 =>
grdE v15n30 false (fun (k38 : Value → World → Prop) => callE P 33 #[v17n36, (Value.float FloatKind.f64 0)] w37 k38 (fun c39 w40 => R (.panicked c39) w40)) (fun v18n41 w42 =>
grdE v11n20 true (fun (k43 : Value → World → Prop) => pickE v15n30 (Value.bool true) v18n41 fun v19n44 =>
k43 v19n44 w42) (fun v19n45 w46 =>
pickE v11n20 v19n45 (Value.bool false) fun v20n47 =>
grdE v20n47 true (fun (k48 : Value → World → Prop) => bindV (pLoad P 97 v3n3 w46) k48) (fun v22n49 w50 =>
grdE v20n47 true (fun (k51 : Value → World → Prop) => callE P 53 #[v22n49, (Value.int IntKind.u8 115)] w50 k51 (fun c52 w53 => R (.panicked c52) w53)) (fun v23n54 w55 =>
grdE v20n47 true (fun (k56 : Value → World → Prop) => k56 v23n54 w55) (fun v24n57 w58 =>
grdE v24n57 false (fun (k59 : Value → World → Prop) => bindV (pFieldAddr P 27 v2n1 4 w58) k59) (fun v25n60 w61 =>
grdE v24n57 false (fun (k62 : Value → World → Prop) => bindV (pLoad P 9 v25n60 w61) k62) (fun v26n63 w64 =>
grdE v24n57 false (fun (k65 : Value → World → Prop) => bindV (pBin P BinOp.eql 9 true v26n63 (Value.string { data := #[] }) w64) k65) (fun v27n66 w67 =>
grdE v20n47 true (fun (k68 : Value → World → Prop) => pickE v24n57 (Value.bool true) v27n66 fun v28n69 =>
k68 v28n69 w67) (fun v28n70 w71 =>
pickE v20n47 v28n70 (Value.bool false) fun v29n72 =>
grdE v29n72 true (fun (k73 : Value → World → Prop) => bindV (pLoad P 97 v3n3 w71) k73) (fun v31n74 w75 =>
grdE v29n72 true (fun (k76 : Value → World → Prop) => callE P 53 #[v31n74, (Value.int IntKind.u8 109)] w75 k76 (fun c77 w78 => R (.panicked c77) w78)) (fun v32n79 w80 =>
grdE v29n72 true (fun (k81 : Value → World → Prop) => k81 v32n79 w80) (fun v33n82 w83 =>
grdE v33n82 false (fun (k84 : Value → World → Prop) => bindV (pFieldAddr P 27 v2n1 5 w83) k84) (fun v34n85 w86 =>
grdE v33n82 false (fun (k87 : Value → World → Prop) => bindV (pLoad P 25 v34n85 w86) k87) (fun v35n88 w89 =>
grdE v33n82 false (fun (k90 : Value → World → Prop) => bindV (pBuild P 25 [] w89) k90) (fun v36n91 w92 =>
grdE v33n82 false (fun (k93 : Value → World → Prop) => callE P 34 #[v35n88, v36n91] w92 k93 (fun c94 w95 => R (.panicked c94) w95)) (fun v37n96 w97 =>
grdE v29n72 true (fun (k98 : Value → World → Prop) => pickE v33n82 (Value.bool true) v37n96 fun v38n99 =>
k98 v38n99 w97) (fun v38n100 w101 =>
pickE v29n72 v38n100 (Value.bool false) fun v39n102 =>
R (.returned v39n102) w101) w97) w92) w89) w86) w83) w80) w75) w71) w67) w64) w61) w58) w55) w50) w46) w42) w37) w34) w31) w28) w23) w19) w16) w13) w10) (fun c7 w8 => R (.panicked c7) w8)
theorem F47ok {w : World} {R : Ending → World → Prop} {a0 : Value} {a1 : Value} (h : F47 a0 a1 w R) : Calls P 47 #[a0, a1] w R :=
  calls_of_ev bodies mixed (c := bodyOf Tryd.f47) (nt := 40) (rs := [(ResultVar.tmp 4)]) (args := [a0, a1]) (fn := Tryd.f47) (by kernel_rfl) (by kernel_rfl) (by kernel_rfl) (by kernel_rfl) (by kernel_rfl) (by simp)
    (eq_mp (show F47 a0 a1 w R = ev P C (bodyOf Tryd.f47) (argE [a0, a1]) w (topK P [(ResultVar.tmp 4)] R) by kernel_rfl) h)

/-! ### moiety/act.most -/
def F48 (a0 : Value) (w : World) (R : Ending → World → Prop) : Prop :=
bindV (pBox P 97 a0 w) fun v1n1 w2 =>
bindV (pFieldAddr P 97 v1n1 1 w2) fun v3n3 w4 =>
bindV (pLoad P 3 v3n3 w4) fun v4n5 w6 =>
bindV (pBin P BinOp.eql 3 true v4n5 (Value.int IntKind.i64 1) w6) fun v5n7 w8 =>
condE v5n7 (fun (K9 : KT) =>
K9 .ret (Env.put (Env.put (Env.put (Env.put (Env.put (Env.put (argE [a0]) 1 v1n1) 2 (Value.int IntKind.i64 0)) 3 v3n3) 4 v4n5) 5 v5n7) 2 (Value.int IntKind.i64 64)) w8) (fun (K9 : KT) =>
K9 .normal (Env.put (Env.put (Env.put (Env.put (Env.put (argE [a0]) 1 v1n1) 2 (Value.int IntKind.i64 0)) 3 v3n3) 4 v4n5) 5 v5n7) w8) (thenK (fun e10 w11 =>
R (.returned (Value.int IntKind.i64 16)) w11) (topK P [(ResultVar.tmp 2)] R))
theorem F48ok {w : World} {R : Ending → World → Prop} {a0 : Value} (h : F48 a0 w R) : Calls P 48 #[a0] w R :=
  calls_of_ev bodies mixed (c := bodyOf Tryd.f48) (nt := 6) (rs := [(ResultVar.tmp 2)]) (args := [a0]) (fn := Tryd.f48) (by kernel_rfl) (by kernel_rfl) (by kernel_rfl) (by kernel_rfl) (by kernel_rfl) (by simp)
    (eq_mp (show F48 a0 w R = ev P C (bodyOf Tryd.f48) (argE [a0]) w (topK P [(ResultVar.tmp 2)] R) by kernel_rfl) h)

/-! ### (moiety/act.kind).field -/
def F53B0 (e : Env) (w : World) (K : KT) : Prop :=
bindV (pBin P BinOp.lss 3 false (e 9) (e 8) w) fun v10n9 w10 =>
condE v10n9 (fun (K11 : KT) =>
K11 .normal (Env.put e 10 v10n9) w10) (fun (K11 : KT) =>
K11 (.exit 0) (Env.put e 10 v10n9) w10) (thenK (fun e12 w13 =>
bindV (pFieldAddr P 97 (e12 2) 2 w13) fun v12n14 w15 =>
bindV (pLoad P 9 v12n14 w15) fun v13n16 w17 =>
bindV (pIndex P 9 v13n16 (e12 9) w17) fun v15n18 w19 =>
bindV (pBin P BinOp.eql 5 false v15n18 (e12 1) w19) fun v17n20 w21 =>
condE v17n20 (fun (K22 : KT) =>
K22 .ret (Env.put (Env.put (Env.put (Env.put (Env.put (Env.put (Env.put (Env.put (Env.put e12 11 (e12 9)) 5 (e12 9)) 12 v12n14) 13 v13n16) 14 (e12 9)) 15 v15n18) 16 (e12 1)) 17 v17n20) 4 (Value.bool true)) w21) (fun (K22 : KT) =>
K22 .normal (Env.put (Env.put (Env.put (Env.put (Env.put (Env.put (Env.put (Env.put e12 11 (e12 9)) 5 (e12 9)) 12 v12n14) 13 v13n16) 14 (e12 9)) 15 v15n18) 16 (e12 1)) 17 v17n20) w21) (blockK 1 (thenK (fun e23 w24 =>
bindV (pBin P BinOp.add 3 true (e23 9) (Value.int IntKind.i64 1) w24) fun v18n25 w26 =>
K .normal (Env.put (Env.put e23 18 v18n25) 9 v18n25) w26) K))) K)
def F53 (a0 : Value) (a1 : Value) (w : World) (R : Ending → World → Prop) : Prop :=
bindV (pBox P 97 a0 w) fun v2n1 w2 =>
bindV (pFieldAddr P 97 v2n1 2 w2) fun v6n3 w4 =>
bindV (pLoad P 9 v6n3 w4) fun v7n5 w6 =>
bindV (pBuiltin P Builtin.len #[9] 3 [v7n5] w6) fun v8n7 w8 =>
loopE F53B0 (Env.put (Env.put (Env.put (Env.put (Env.put (Env.put (argE [a0, a1]) 2 v2n1) 4 (Value.bool false)) 6 v6n3) 7 v7n5) 8 v8n7) 9 (Value.int IntKind.i64 0)) w8 (blockK 0 (thenK (fun e27 w28 =>
R (.returned (Value.bool false)) w28) (topK P [(ResultVar.tmp 4)] R)))
theorem F53ok {w : World} {R : Ending → World → Prop} {a0 : Value} {a1 : Value} (h : F53 a0 a1 w R) : Calls P 53 #[a0, a1] w R :=
  calls_of_ev bodies mixed (c := bodyOf Tryd.f53) (nt := 19) (rs := [(ResultVar.tmp 4)]) (args := [a0, a1]) (fn := Tryd.f53) (by kernel_rfl) (by kernel_rfl) (by kernel_rfl) (by kernel_rfl) (by kernel_rfl) (by simp)
    (eq_mp (show F53 a0 a1 w R = ev P C (bodyOf Tryd.f53) (argE [a0, a1]) w (topK P [(ResultVar.tmp 4)] R) by kernel_rfl) h)

/-! ### moiety/moietyref04.Fields -/
def F59 (a0 : Value) (w : World) (R : Ending → World → Prop) : Prop :=
bindV (pBuildSlice P 131 22 [(0, (Value.string { data := #[] })), (1, (Value.string { data := #[109] })), (2, (Value.string { data := #[] })), (3, (Value.string { data := #[] })), (4, (Value.string { data := #[] })), (5, (Value.string { data := #[115] })), (6, (Value.string { data := #[115] })), (7, (Value.string { data := #[110] })), (8, (Value.string { data := #[110] })), (9, (Value.string { data := #[110] })), (10, (Value.string { data := #[110] })), (11, (Value.string { data := #[110] })), (12, (Value.string { data := #[110] })), (13, (Value.string { data := #[120] })), (14, (Value.string { data := #[120] })), (15, (Value.string { data := #[120] })), (16, (Value.string { data := #[120] })), (17, (Value.string { data := #[120] })), (18, (Value.string { data := #[115] })), (19, (Value.string { data := #[115] })), (20, (Value.string { data := #[115] })), (21, (Value.string { data := #[120, 115] }))] w) fun v4n1 w2 =>
bindV (pBin P BinOp.lss 3 true a0 (Value.int IntKind.i64 0) w2) fun v6n3 w4 =>
grdE v6n3 false (fun (k5 : Value → World → Prop) => k5 a0 w4) (fun v8n6 w7 =>
grdE v6n3 false (fun (k8 : Value → World → Prop) => bindV (pBin P BinOp.gtr 3 true v8n6 (Value.int IntKind.i64 21) w7) k8) (fun v9n9 w10 =>
pickE v6n3 (Value.bool true) v9n9 fun v10n11 =>
condE v10n11 (fun (K12 : KT) =>
K12 .ret (Env.put (Env.put (Env.put (Env.put (Env.put (Env.put (Env.put (Env.put (Env.put (Env.put (argE [a0]) 2 (Value.string { data := #[] })) 4 v4n1) 3 v4n1) 5 a0) 6 v6n3) 7 v6n3) 8 v8n6) 9 v9n9) 10 v10n11) 2 (Value.string { data := #[] })) w10) (fun (K12 : KT) =>
K12 .normal (Env.put (Env.put (Env.put (Env.put (Env.put (Env.put (Env.put (Env.put (Env.put (argE [a0]) 2 (Value.string { data := #[] })) 4 v4n1) 3 v4n1) 5 a0) 6 v6n3) 7 v6n3) 8 v8n6) 9 v9n9) 10 v10n11) w10) (thenK (fun e13 w14 =>
bindV (pIndexAddr P 131 (e13 3) (e13 0) w14) fun v13n15 w16 =>
bindV (pLoad P 9 v13n15 w16) fun v14n17 w18 =>
R (.returned v14n17) w18) (topK P [(ResultVar.tmp 2)] R))) w7) w4
theorem F59ok {w : World} {R : Ending → World → Prop} {a0 : Value} (h : F59 a0 w R) : Calls P 59 #[a0] w R :=
  calls_of_ev bodies mixed (c := bodyOf Tryd.f59) (nt := 15) (rs := [(ResultVar.tmp 2)]) (args := [a0]) (fn := Tryd.f59) (by kernel_rfl) (by kernel_rfl) (by kernel_rfl) (by kernel_rfl) (by kernel_rfl) (by simp)
    (eq_mp (show F59 a0 w R = ev P C (bodyOf Tryd.f59) (argE [a0]) w (topK P [(ResultVar.tmp 2)] R) by kernel_rfl) h)

end Go.Proofs.YtieejbkbdfccdaaDoor
