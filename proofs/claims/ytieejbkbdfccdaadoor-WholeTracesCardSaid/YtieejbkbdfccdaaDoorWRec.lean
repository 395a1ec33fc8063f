/- The functions' residual programs, printed by gen.py. -/
import Derived.Test.YtieejbkbdfccdaaDoorBaseD
set_option linter.unusedVariables false
set_option linter.unusedSimpArgs false
namespace Go.Proofs.YtieejbkbdfccdaaDoor
open Go
/-! ### moiety/rec.Bytes -/
def F7 (a0 : Value) (w : World) (R : Ending → World → Prop) : Prop :=
bindV (pBox P 25 a0 w) fun v1n1 w2 =>
bindV (pLoad P 25 v1n1 w2) fun v4n3 w4 =>
callE P 26 #[v4n3] w4 (fun v5n7 w8 =>
bindV (pBin P BinOp.neq 47 true v5n7 (Value.int IntKind.i64 0) w8) fun v6n9 w10 =>
condE v6n9 (fun (K11 : KT) =>
K11 .ret (Env.put (Env.put (Env.put (Env.put (Env.put (Env.put (argE [a0]) 1 v1n1) 2 (Value.slice none 0 0)) 4 v4n3) 5 v5n7) 6 v6n9) 2 (Value.slice none 0 0)) w10) (fun (K11 : KT) =>
K11 .normal (Env.put (Env.put (Env.put (Env.put (Env.put (argE [a0]) 1 v1n1) 2 (Value.slice none 0 0)) 4 v4n3) 5 v5n7) 6 v6n9) w10) (thenK (fun e12 w13 =>
bindV (pAlloc P 69 w13) fun v3n14 w15 =>
bindV (pLoad P 25 (e12 1) w15) fun v7n16 w17 =>
callE P 27 #[v3n14, v7n16] w17 (fun v8n20 w21 =>
callE P 25 #[v3n14] w21 (fun v9n24 w25 =>
R (.returned v9n24) w25) (fun c22 w23 => R (.panicked c22) w23)) (fun c18 w19 => R (.panicked c18) w19)) (topK P [(ResultVar.tmp 2)] R))) (fun c5 w6 => R (.panicked c5) w6)
theorem F7ok {w : World} {R : Ending → World → Prop} {a0 : Value} (h : F7 a0 w R) : Calls P 7 #[a0] w R :=
  calls_of_ev bodies mixed (c := bodyOf Tryd.f7) (nt := 10) (rs := [(ResultVar.tmp 2)]) (args := [a0]) (fn := Tryd.f7) (by kernel_rfl) (by kernel_rfl) (by kernel_rfl) (by kernel_rfl) (by kernel_rfl) (by simp)
    (eq_mp (show F7 a0 w R = ev P C (bodyOf Tryd.f7) (argE [a0]) w (topK P [(ResultVar.tmp 2)] R) by kernel_rfl) h)

/-! ### moiety/moietylaw03.Big -/
def F12B0 (e : Env) (w : World) (K : KT) : Prop :=
bindV (pBin P BinOp.lss 3 false (e 18) (e 17) w) fun v19n33 w34 =>
condE v19n33 (fun (K35 : KT) =>
K35 .normal (Env.put e 19 v19n33) w34) (fun (K35 : KT) =>
K35 (.exit 0) (Env.put e 19 v19n33) w34) (thenK (fun e36 w37 =>
bindV (pIndexAddr P 23 (e36 16) (e36 18) w37) fun v20n38 w39 =>
bindV (pLoad P 80 v20n38 w39) fun v21n40 w41 =>
bindV (pAlloc P 80 w41) fun v4n42 w43 =>
bindU (pStore P 80 v4n42 v21n40 w43) fun w44 =>
bindV (pFieldAddr P 80 v4n42 1 w44) fun v22n45 w46 =>
bindV (pLoad P 9 v22n45 w46) fun v23n47 w48 =>
bindV (pBuiltin P Builtin.len #[9] 3 [v23n47] w48) fun v24n49 w50 =>
bindV (pBin P BinOp.gtr 3 true v24n49 (Value.int IntKind.i64 100) w50) fun v25n51 w52 =>
condE v25n51 (fun (K53 : KT) =>
K53 .ret (Env.put (Env.put (Env.put (Env.put (Env.put (Env.put (Env.put (Env.put e36 20 v20n38) 21 v21n40) 4 v4n42) 22 v22n45) 23 v23n47) 24 v24n49) 25 v25n51) 2 (Value.int IntKind.i64 1)) w52) (fun (K53 : KT) =>
K53 .normal (Env.put (Env.put (Env.put (Env.put (Env.put (Env.put (Env.put e36 20 v20n38) 21 v21n40) 4 v4n42) 22 v22n45) 23 v23n47) 24 v24n49) 25 v25n51) w52) (blockK 1 (thenK (fun e54 w55 =>
bindV (pBin P BinOp.add 3 true (e54 18) (Value.int IntKind.i64 1) w55) fun v26n56 w57 =>
K .normal (Env.put (Env.put e54 26 v26n56) 18 v26n56) w57) K))) K)
def F12 (a0 : Value) (w : World) (R : Ending → World → Prop) : Prop :=
bindV (pBox P 25 a0 w) fun v1n1 w2 =>
bindV (pFieldAddr P 25 v1n1 7 w2) fun v5n3 w4 =>
bindV (pLoad P 23 v5n3 w4) fun v6n5 w6 =>
bindV (pBuiltin P Builtin.len #[23] 3 [v6n5] w6) fun v7n7 w8 =>
bindV (pBin P BinOp.gtr 3 true v7n7 (Value.int IntKind.i64 100) w8) fun v8n9 w10 =>
grdE v8n9 false (fun (k11 : Value → World → Prop) => bindV (pFieldAddr P 25 v1n1 6 w10) k11) (fun v10n12 w13 =>
grdE v8n9 false (fun (k14 : Value → World → Prop) => bindV (pLoad P 9 v10n12 w13) k14) (fun v11n15 w16 =>
grdE v8n9 false (fun (k17 : Value → World → Prop) => bindV (pBuiltin P Builtin.len #[9] 3 [v11n15] w16) k17) (fun v12n18 w19 =>
grdE v8n9 false (fun (k20 : Value → World → Prop) => bindV (pBin P BinOp.gtr 3 true v12n18 (Value.int IntKind.i64 1000) w19) k20) (fun v13n21 w22 =>
pickE v8n9 (Value.bool true) v13n21 fun v14n23 =>
condE v14n23 (fun (K24 : KT) =>
K24 .ret (Env.put (Env.put (Env.put (Env.put (Env.put (Env.put (Env.put (Env.put (Env.put (Env.put (Env.put (Env.put (Env.put (argE [a0]) 1 v1n1) 2 (Value.int IntKind.i64 0)) 5 v5n3) 6 v6n5) 7 v7n7) 8 v8n9) 9 v8n9) 10 v10n12) 11 v11n15) 12 v12n18) 13 v13n21) 14 v14n23) 2 (Value.int IntKind.i64 1)) w22) (fun (K24 : KT) =>
K24 .normal (Env.put (Env.put (Env.put (Env.put (Env.put (Env.put (Env.put (Env.put (Env.put (Env.put (Env.put (Env.put (argE [a0]) 1 v1n1) 2 (Value.int IntKind.i64 0)) 5 v5n3) 6 v6n5) 7 v7n7) 8 v8n9) 9 v8n9) 10 v10n12) 11 v11n15) 12 v12n18) 13 v13n21) 14 v14n23) w22) (thenK (fun e25 w26 =>
bindV (pFieldAddr P 25 (e25 1) 7 w26) fun v15n27 w28 =>
bindV (pLoad P 23 v15n27 w28) fun v16n29 w30 =>
bindV (pBuiltin P Builtin.len #[23] 3 [v16n29] w30) fun v17n31 w32 =>
loopE F12B0 (Env.put (Env.put (Env.put (Env.put e25 15 v15n27) 16 v16n29) 17 v17n31) 18 (Value.int IntKind.i64 0)) w32 (blockK 0 (thenK (fun e58 w59 =>
R (.returned (Value.int IntKind.i64 0)) w59) (topK P [(ResultVar.tmp 2)] R)))) (topK P [(ResultVar.tmp 2)] R))) w19) w16) w13) w10
theorem F12ok {w : World} {R : Ending → World → Prop} {a0 : Value} (h : F12 a0 w R) : Calls P 12 #[a0] w R :=
  calls_of_ev bodies mixed (c := bodyOf Tryd.f12) (nt := 27) (rs := [(ResultVar.tmp 2)]) (args := [a0]) (fn := Tryd.f12) (by kernel_rfl) (by kernel_rfl) (by kernel_rfl) (by kernel_rfl) (by kernel_rfl) (by simp)
    (eq_mp (show F12 a0 w R = ev P C (bodyOf Tryd.f12) (argE [a0]) w (topK P [(ResultVar.tmp 2)] R) by kernel_rfl) h)

/-! ### moiety/moietyref03.Same -/
def F14B0 (e : Env) (w : World) (K : KT) : Prop :=
bindV (pFieldAddr P 25 (e 2) 7 w) fun v62n137 w138 =>
bindV (pLoad P 23 v62n137 w138) fun v63n139 w140 =>
bindV (pBuiltin P Builtin.len #[23] 3 [v63n139] w140) fun v64n141 w142 =>
bindV (pBin P BinOp.lss 3 false (e 5) v64n141 w142) fun v65n143 w144 =>
condE v65n143 (fun (K145 : KT) =>
K145 .normal (Env.put (Env.put (Env.put (Env.put (Env.put e 61 (e 5)) 62 v62n137) 63 v63n139) 64 v64n141) 65 v65n143) w144) (fun (K145 : KT) =>
K145 (.exit 0) (Env.put (Env.put (Env.put (Env.put (Env.put e 61 (e 5)) 62 v62n137) 63 v63n139) 64 v64n141) 65 v65n143) w144) (thenK (fun e146 w147 =>
takeE (fun w150 => pFieldAddr P 25 (e146 2) 7 w150) (drew w147) fun v68n148 h149 =>
takeE (fun w153 => pLoad P 23 v68n148 w153) (drew w147) fun v69n151 h152 =>
takeE (fun w156 => some ((e146 5), w156)) (drew w147) fun v70n154 h155 =>
takeE (fun w159 => pIndexAddr P 23 v69n151 v70n154 w159) (drew w147) fun v71n157 h158 =>
takeE (fun w162 => pFieldAddr P 80 v71n157 1 w162) (drew w147) fun v72n160 h161 =>
takeE (fun w165 => pLoad P 9 v72n160 w165) (drew w147) fun v73n163 h164 =>
takeE (fun w168 => pFieldAddr P 25 (e146 3) 7 w168) (drew w147) fun v74n166 h167 =>
takeE (fun w171 => pLoad P 23 v74n166 w171) (drew w147) fun v75n169 h170 =>
takeE (fun w174 => some ((e146 5), w174)) (drew w147) fun v76n172 h173 =>
takeE (fun w177 => pIndexAddr P 23 v75n169 v76n172 w177) (drew w147) fun v77n175 h176 =>
takeE (fun w180 => pFieldAddr P 80 v77n175 1 w180) (drew w147) fun v78n178 h179 =>
takeE (fun w183 => pLoad P 9 v78n178 w183) (drew w147) fun v79n181 h182 =>
takeE (fun w186 => pBin P BinOp.neq 9 false v73n163 v79n181 w186) (drew w147) fun v80n184 h185 =>
takeE (fun w189 => some (v80n184, w189)) (drew w147) fun v81n187 h188 =>
takeE (fun w192 => qGrd v81n187 false (fun w192 => pFieldAddr P 25 (e146 2) 7 w192) w192) (drew w147) fun v82n190 h191 =>
takeE (fun w195 => qGrd v81n187 false (fun w195 => pLoad P 23 v82n190 w195) w195) (drew w147) fun v83n193 h194 =>
takeE (fun w198 => qGrd v81n187 false (fun w198 => some ((e146 5), w198)) w198) (drew w147) fun v84n196 h197 =>
takeE (fun w201 => qGrd v81n187 false (fun w201 => pIndexAddr P 23 v83n193 v84n196 w201) w201) (drew w147) fun v85n199 h200 =>
takeE (fun w204 => qGrd v81n187 false (fun w204 => pFieldAddr P 80 v85n199 0 w204) w204) (drew w147) fun v86n202 h203 =>
takeE (fun w207 => qGrd v81n187 false (fun w207 => pLoad P 22 v86n202 w207) w207) (drew w147) fun v87n205 h206 =>
takeE (fun w210 => qGrd v81n187 false (fun w210 => pFieldAddr P 25 (e146 3) 7 w210) w210) (drew w147) fun v88n208 h209 =>
takeE (fun w213 => qGrd v81n187 false (fun w213 => pLoad P 23 v88n208 w213) w213) (drew w147) fun v89n211 h212 =>
takeE (fun w216 => qGrd v81n187 false (fun w216 => some ((e146 5), w216)) w216) (drew w147) fun v90n214 h215 =>
takeE (fun w219 => qGrd v81n187 false (fun w219 => pIndexAddr P 23 v89n211 v90n214 w219) w219) (drew w147) fun v91n217 h218 =>
takeE (fun w222 => qGrd v81n187 false (fun w222 => pFieldAddr P 80 v91n217 0 w222) w222) (drew w147) fun v92n220 h221 =>
takeE (fun w225 => qGrd v81n187 false (fun w225 => pLoad P 22 v92n220 w225) w225) (drew w147) fun v93n223 h224 =>
grdE v81n187 false (fun (k227 : Value → World → Prop) => callE P 29 #[v87n205, v93n223] (drew w147) k227 (fun c228 w229 => ∀ (e226 : Env), agreeOff [68, 69, 70, 71, 72, 73, 74, 75, 76, 77, 78, 79, 80, 81, 82, 83, 84, 85, 86, 87, 88, 89, 90, 91, 92, 93] (Env.put (Env.put (Env.put (Env.put (Env.put (Env.put (Env.put (Env.put (Env.put (Env.put (Env.put (Env.put (Env.put (Env.put (Env.put (Env.put (Env.put (Env.put (Env.put (Env.put (Env.put (Env.put (Env.put (Env.put (Env.put (Env.put e146 68 v68n148) 69 v69n151) 70 v70n154) 71 v71n157) 72 v72n160) 73 v73n163) 74 v74n166) 75 v75n169) 76 v76n172) 77 v77n175) 78 v78n178) 79 v79n181) 80 v80n184) 81 v81n187) 82 v82n190) 83 v83n193) 84 v84n196) 85 v85n199) 86 v86n202) 87 v87n205) 88 v88n208) 89 v89n211) 90 v90n214) 91 v91n217) 92 v92n220) 93 v93n223) e226 → K (.panic c228) e226 w229)) (fun v94n230 w231 =>
takeE (fun w234 => qGrd v81n187 false (fun w234 => pUn P UnOp.not v94n230 w234) w234) w231 fun v95n232 h233 =>
takeE (fun w237 => qPick v81n187 (Value.bool true) v95n232 w237) w231 fun v96n235 h236 =>
condE v96n235 (fun (K238 : KT) =>
K238 .ret (Env.put (Env.put (Env.put (Env.put (Env.put (Env.put (Env.put (Env.put (Env.put (Env.put (Env.put (Env.put (Env.put (Env.put (Env.put (Env.put (Env.put (Env.put (Env.put (Env.put (Env.put (Env.put (Env.put (Env.put (Env.put (Env.put (Env.put (Env.put (Env.put (Env.put e146 68 v68n148) 69 v69n151) 70 v70n154) 71 v71n157) 72 v72n160) 73 v73n163) 74 v74n166) 75 v75n169) 76 v76n172) 77 v77n175) 78 v78n178) 79 v79n181) 80 v80n184) 81 v81n187) 82 v82n190) 83 v83n193) 84 v84n196) 85 v85n199) 86 v86n202) 87 v87n205) 88 v88n208) 89 v89n211) 90 v90n214) 91 v91n217) 92 v92n220) 93 v93n223) 94 v94n230) 95 v95n232) 96 v96n235) 4 (Value.bool false)) w231) (fun (K238 : KT) =>
K238 .normal (Env.put (Env.put (Env.put (Env.put (Env.put (Env.put (Env.put (Env.put (Env.put (Env.put (Env.put (Env.put (Env.put (Env.put (Env.put (Env.put (Env.put (Env.put (Env.put (Env.put (Env.put (Env.put (Env.put (Env.put (Env.put (Env.put (Env.put (Env.put (Env.put e146 68 v68n148) 69 v69n151) 70 v70n154) 71 v71n157) 72 v72n160) 73 v73n163) 74 v74n166) 75 v75n169) 76 v76n172) 77 v77n175) 78 v78n178) 79 v79n181) 80 v80n184) 81 v81n187) 82 v82n190) 83 v83n193) 84 v84n196) 85 v85n199) 86 v86n202) 87 v87n205) 88 v88n208) 89 v89n211) 90 v90n214) 91 v91n217) 92 v92n220) 93 v93n223) 94 v94n230) 95 v95n232) 96 v96n235) w231) (blockK 1 (thenK (fun e239 w240 =>
bindV (pBin P BinOp.add 3 true (e239 5) (Value.int IntKind.i64 1) w240) fun v67n241 w242 =>
K .normal (Env.put (Env.put (Env.put e239 66 (e239 5)) 67 v67n241) 5 v67n241) w242) K))) (drew w147)) K)
def F14 (a0 : Value) (a1 : Value) (w : World) (R : Ending → World → Prop) : Prop :=
bindV (pBox P 25 a0 w) fun v2n1 w2 =>
bindV (pBox P 25 a1 w2) fun v3n3 w4 =>
bindV (pFieldAddr P 25 v2n1 0 w4) fun v6n5 w6 =>
bindV (pLoad P 3 v6n5 w6) fun v7n7 w8 =>
bindV (pFieldAddr P 25 v3n3 0 w8) fun v8n9 w10 =>
bindV (pLoad P 3 v8n9 w10) fun v9n11 w12 =>
bindV (pBin P BinOp.neq 3 false v7n7 v9n11 w12) fun v10n13 w14 =>
grdE v10n13 false (fun (k15 : Value → World → Prop) => bindV (pFieldAddr P 25 v2n1 1 w14) k15) (fun v12n16 w17 =>
grdE v10n13 false (fun (k18 : Value → World → Prop) => bindV (pLoad P 2 v12n16 w17) k18) (fun v13n19 w20 =>
grdE v10n13 false (fun (k21 : Value → World → Prop) => bindV (pFieldAddr P 25 v3n3 1 w20) k21) (fun v14n22 w23 =>
grdE v10n13 false (fun (k24 : Value → World → Prop) => bindV (pLoad P 2 v14n22 w23) k24) (fun v15n25 w26 =>
grdE v10n13 false (fun (k27 : Value → World → Prop) => bindV (pBin P BinOp.neq 2 false v13n19 v15n25 w26) k27) (fun v16n28 w29 =>
pickE v10n13 (Value.bool true) v16n28 fun v17n30 =>
grdE v17n30 false (fun (k31 : Value → World → Prop) => bindV (pFieldAddr P 25 v2n1 2 w29) k31) (fun v19n32 w33 =>
grdE v17n30 false (fun (k34 : Value → World → Prop) => bindV (pLoad P 2 v19n32 w33) k34) (fun v20n35 w36 =>
grdE v17n30 false (fun (k37 : Value → World → Prop) => bindV (pFieldAddr P 25 v3n3 2 w36) k37) (fun v21n38 w39 =>
grdE v17n30 false (fun (k40 : Value → World → Prop) => bindV (pLoad P 2 v21n38 w39) k40) (fun v22n41 w42 =>
grdE v17n30 false (fun (k43 : Value → World → Prop) => bindV (pBin P BinOp.neq 2 false v20n35 v22n41 w42) k43) (fun v23n44 w45 =>
pickE v17n30 (Value.bool true) v23n44 fun v24n46 =>
grdE v24n46 false (fun (k47 : Value → World → Prop) => bindV (pFieldAddr P 25 v2n1 3 w45) k47) (fun v26n48 w49 =>
grdE v24n46 false (fun (k50 : Value → World → Prop) => bindV (pLoad P 2 v26n48 w49) k50) (fun v27n51 w52 =>
grdE v24n46 false (fun (k53 : Value → World → Prop) => bindV (pFieldAddr P 25 v3n3 3 w52) k53) (fun v28n54 w55 =>
grdE v24n46 false (fun (k56 : Value → World → Prop) => bindV (pLoad P 2 v28n54 w55) k56) (fun v29n57 w58 =>
grdE v24n46 false (fun (k59 : Value → World → Prop) => bindV (pBin P BinOp.neq 2 false v27n51 v29n57 w58) k59) (fun v30n60 w61 =>
pickE v24n46 (Value.bool true) v30n60 fun v31n62 =>
grdE v31n62 false (fun (k63 : Value → World → Prop) => bindV (pFieldAddr P 25 v2n1 5 w61) k63) (fun v33n64 w65 =>
grdE v31n62 false (fun (k66 : Value → World → Prop) => bindV (pLoad P 3 v33n64 w65) k66) (fun v34n67 w68 =>
grdE v31n62 false (fun (k69 : Value → World → Prop) => bindV (pFieldAddr P 25 v3n3 5 w68) k69) (fun v35n70 w71 =>
grdE v31n62 false (fun (k72 : Value → World → Prop) => bindV (pLoad P 3 v35n70 w71) k72) (fun v36n73 w74 =>
grdE v31n62 false (fun (k75 : Value → World → Prop) => bindV (pBin P BinOp.neq 3 false v34n67 v36n73 w74) k75) (fun v37n76 w77 =>
pickE v31n62 (Value.bool true) v37n76 fun v38n78 =>
grdE v38n78 false (fun (k79 : Value → World → Prop) => bindV (pFieldAddr P 25 v2n1 6 w77) k79) (fun v40n80 w81 =>
grdE v38n78 false (fun (k82 : Value → World → Prop) => bindV (pLoad P 9 v40n80 w81) k82) (fun v41n83 w84 =>
grdE v38n78 false (fun (k85 : Value → World → Prop) => bindV (pFieldAddr P 25 v3n3 6 w84) k85) (fun v42n86 w87 =>
grdE v38n78 false (fun (k88 : Value → World → Prop) => bindV (pLoad P 9 v42n86 w87) k88) (fun v43n89 w90 =>
grdE v38n78 false (fun (k91 : Value → World → Prop) => bindV (pBin P BinOp.neq 9 false v41n83 v43n89 w90) k91) (fun v44n92 w93 =>
pickE v38n78 (Value.bool true) v44n92 fun v45n94 =>
condE v45n94 (fun (K95 : KT) =>
K95 .ret (Env.put (Env.put (Env.put (Env.put (Env.put (Env.put (Env.put (Env.put (Env.put (Env.put (Env.put (Env.put (Env.put (Env.put (Env.put (Env.put (Env.put (Env.put (Env.put (Env.put (Env.put (Env.put (Env.put (Env.put (Env.put (Env.put (Env.put (Env.put (Env.put (Env.put (Env.put (Env.put (Env.put (Env.put (Env.put (Env.put (Env.put (Env.put (Env.put (Env.put (Env.put (Env.put (Env.put (Env.put (argE [a0, a1]) 2 v2n1) 3 v3n3) 4 (Value.bool false)) 6 v6n5) 7 v7n7) 8 v8n9) 9 v9n11) 10 v10n13) 11 v10n13) 12 v12n16) 13 v13n19) 14 v14n22) 15 v15n25) 16 v16n28) 17 v17n30) 18 v17n30) 19 v19n32) 20 v20n35) 21 v21n38) 22 v22n41) 23 v23n44) 24 v24n46) 25 v24n46) 26 v26n48) 27 v27n51) 28 v28n54) 29 v29n57) 30 v30n60) 31 v31n62) 32 v31n62) 33 v33n64) 34 v34n67) 35 v35n70) 36 v36n73) 37 v37n76) 38 v38n78) 39 v38n78) 40 v40n80) 41 v41n83) 42 v42n86) 43 v43n89) 44 v44n92) 45 v45n94) 4 (Value.bool false)) w93) (fun (K95 : KT) =>
K95 .normal (Env.put (Env.put (Env.put (Env.put (Env.put (Env.put (Env.put (Env.put (Env.put (Env.put (Env.put (Env.put (Env.put (Env.put (Env.put (Env.put (Env.put (Env.put (Env.put (Env.put (Env.put (Env.put (Env.put (Env.put (Env.put (Env.put (Env.put (Env.put (Env.put (Env.put (Env.put (Env.put (Env.put (Env.put (Env.put (Env.put (Env.put (Env.put (Env.put (Env.put (Env.put (Env.put (Env.put (argE [a0, a1]) 2 v2n1) 3 v3n3) 4 (Value.bool false)) 6 v6n5) 7 v7n7) 8 v8n9) 9 v9n11) 10 v10n13) 11 v10n13) 12 v12n16) 13 v13n19) 14 v14n22) 15 v15n25) 16 v16n28) 17 v17n30) 18 v17n30) 19 v19n32) 20 v20n35) 21 v21n38) 22 v22n41) 23 v23n44) 24 v24n46) 25 v24n46) 26 v26n48) 27 v27n51) 28 v28n54) 29 v29n57) 30 v30n60) 31 v31n62) 32 v31n62) 33 v33n64) 34 v34n67) 35 v35n70) 36 v36n73) 37 v37n76) 38 v38n78) 39 v38n78) 40 v40n80) 41 v41n83) 42 v42n86) 43 v43n89) 44 v44n92) 45 v45n94) w93) (thenK (fun e96 w97 =>
bindV (pFieldAddr P 25 (e96 2) 4 w97) fun v46n98 w99 =>
bindV (pLoad P 22 v46n98 w99) fun v47n100 w101 =>
bindV (pFieldAddr P 25 (e96 3) 4 w101) fun v48n102 w103 =>
bindV (pLoad P 22 v48n102 w103) fun v49n104 w105 =>
callE P 29 #[v47n100, v49n104] w105 (fun v50n108 w109 =>
bindV (pUn P UnOp.not v50n108 w109) fun v51n110 w111 =>
grdE v51n110 false (fun (k112 : Value → World → Prop) => bindV (pFieldAddr P 25 (e96 2) 7 w111) k112) (fun v53n113 w114 =>
grdE v51n110 false (fun (k115 : Value → World → Prop) => bindV (pLoad P 23 v53n113 w114) k115) (fun v54n116 w117 =>
grdE v51n110 false (fun (k118 : Value → World → Prop) => bindV (pBuiltin P Builtin.len #[23] 3 [v54n116] w117) k118) (fun v55n119 w120 =>
grdE v51n110 false (fun (k121 : Value → World → Prop) => bindV (pFieldAddr P 25 (e96 3) 7 w120) k121) (fun v56n122 w123 =>
grdE v51n110 false (fun (k124 : Value → World → Prop) => bindV (pLoad P 23 v56n122 w123) k124) (fun v57n125 w126 =>
grdE v51n110 false (fun (k127 : Value → World → Prop) => bindV (pBuiltin P Builtin.len #[23] 3 [v57n125] w126) k127) (fun v58n128 w129 =>
grdE v51n110 false (fun (k130 : Value → World → Prop) => bindV (pBin P BinOp.neq 3 false v55n119 v58n128 w129) k130) (fun v59n131 w132 =>
pickE v51n110 (Value.bool true) v59n131 fun v60n133 =>
condE v60n133 (fun (K134 : KT) =>
K134 .ret (Env.put (Env.put (Env.put (Env.put (Env.put (Env.put (Env.put (Env.put (Env.put (Env.put (Env.put (Env.put (Env.put (Env.put (Env.put (Env.put e96 46 v46n98) 47 v47n100) 48 v48n102) 49 v49n104) 50 v50n108) 51 v51n110) 52 v51n110) 53 v53n113) 54 v54n116) 55 v55n119) 56 v56n122) 57 v57n125) 58 v58n128) 59 v59n131) 60 v60n133) 4 (Value.bool false)) w132) (fun (K134 : KT) =>
K134 .normal (Env.put (Env.put (Env.put (Env.put (Env.put (Env.put (Env.put (Env.put (Env.put (Env.put (Env.put (Env.put (Env.put (Env.put (Env.put e96 46 v46n98) 47 v47n100) 48 v48n102) 49 v49n104) 50 v50n108) 51 v51n110) 52 v51n110) 53 v53n113) 54 v54n116) 55 v55n119) 56 v56n122) 57 v57n125) 58 v58n128) 59 v59n131) 60 v60n133) w132) (thenK (fun e135 w136 =>
loopE F14B0 (Env.put e135 5 (Value.int IntKind.i64 0)) w136 (blockK 0 (thenK (fun e243 w244 =>
R (.returned (Value.bool true)) w244) (topK P [(ResultVar.tmp 4)] R)))) (topK P [(ResultVar.tmp 4)] R))) w129) w126) w123) w120) w117) w114) w111) (fun c106 w107 => R (.panicked c106) w107)) (topK P [(ResultVar.tmp 4)] R))) w90) w87) w84) w81) w77) w74) w71) w68) w65) w61) w58) w55) w52) w49) w45) w42) w39) w36) w33) w29) w26) w23) w20) w17) w14
theorem F14ok {w : World} {R : Ending → World → Prop} {a0 : Value} {a1 : Value} (h : F14 a0 a1 w R) : Calls P 14 #[a0, a1] w R :=
  calls_of_ev bodies mixed (c := bodyOf Tryd.f14) (nt := 97) (rs := [(ResultVar.tmp 4)]) (args := [a0, a1]) (fn := Tryd.f14) (by kernel_rfl) (by kernel_rfl) (by kernel_rfl) (by kernel_rfl) (by kernel_rfl) (by simp)
    (eq_mp (show F14 a0 a1 w R = ev P C (bodyOf Tryd.f14) (argE [a0, a1]) w (topK P [(ResultVar.tmp 4)] R) by kernel_rfl) h)

/-! ### moiety/rec.Check -/
def F26 (a0 : Value) (w : World) (R : Ending → World → Prop) : Prop :=
bindV (pBox P 25 a0 w) fun v1n1 w2 =>
bindV (pFieldAddr P 25 v1n1 0 w2) fun v4n3 w4 =>
bindV (pLoad P 3 v4n3 w4) fun v5n5 w6 =>
callE P 56 #[v5n5] w6 (fun v6n9 w10 =>
bindV (pAlloc P 108 w10) fun v3n11 w12 =>
bindU (pStore P 108 v3n11 v6n9 w12) fun w13 =>
bindV (pFieldAddr P 25 v1n1 0 w13) fun v8n14 w15 =>
bindV (pLoad P 3 v8n14 w15) fun v9n16 w17 =>
bindV (pBin P BinOp.leq 3 true v9n16 (Value.int IntKind.i64 0) w17) fun v10n18 w19 =>
grdE v10n18 false (fun (k20 : Value → World → Prop) => bindV (pFieldAddr P 25 v1n1 0 w19) k20) (fun v12n21 w22 =>
grdE v10n18 false (fun (k23 : Value → World → Prop) => bindV (pLoad P 3 v12n21 w22) k23) (fun v13n24 w25 =>
grdE v10n18 false (fun (k26 : Value → World → Prop) => bindV (pBin P BinOp.geq 3 true v13n24 (Value.int IntKind.i64 10) w25) k26) (fun v14n27 w28 =>
pickE v10n18 (Value.bool true) v14n27 fun v15n29 =>
condE v15n29 (fun (K30 : KT) =>
K30 .ret (Env.put (Env.put (Env.put (Env.put (Env.put (Env.put (Env.put (Env.put (Env.put (Env.put (Env.put (Env.put (Env.put (Env.put (Env.put (Env.put (argE [a0]) 1 v1n1) 2 (Value.int IntKind.i64 0)) 4 v4n3) 5 v5n5) 6 v6n9) 3 v3n11) 8 v8n14) 9 v9n16) 10 v10n18) 11 v10n18) 12 v12n21) 13 v13n24) 14 v14n27) 15 v15n29) 7 v15n29) 2 (Value.int IntKind.i64 5)) w28) (fun (K30 : KT) =>
bindV (pLoad P 25 v1n1 w28) fun v17n31 w32 =>
bindV (pLoad P 108 v3n11 w32) fun v18n33 w34 =>
callE P 57 #[v17n31, v18n33] w34 (fun v19n37 w38 =>
bindV (pUn P UnOp.not v19n37 w38) fun v20n39 w40 =>
condE v20n39 (fun (K41 : KT) =>
K41 .ret (Env.put (Env.put (Env.put (Env.put (Env.put (Env.put (Env.put (Env.put (Env.put (Env.put (Env.put (Env.put (Env.put (Env.put (Env.put (Env.put (Env.put (Env.put (Env.put (Env.put (Env.put (argE [a0]) 1 v1n1) 2 (Value.int IntKind.i64 0)) 4 v4n3) 5 v5n5) 6 v6n9) 3 v3n11) 8 v8n14) 9 v9n16) 10 v10n18) 11 v10n18) 12 v12n21) 13 v13n24) 14 v14n27) 15 v15n29) 7 v15n29) 17 v17n31) 18 v18n33) 19 v19n37) 20 v20n39) 16 v20n39) 2 (Value.int IntKind.i64 4)) w40) (fun (K41 : KT) =>
bindV (pFieldAddr P 25 v1n1 6 w40) fun v22n42 w43 =>
bindV (pLoad P 9 v22n42 w43) fun v23n44 w45 =>
bindV (pBuiltin P Builtin.len #[9] 3 [v23n44] w45) fun v24n46 w47 =>
bindV (pBin P BinOp.gtr 3 true v24n46 (Value.int IntKind.i64 64) w47) fun v25n48 w49 =>
condE v25n48 (fun (K50 : KT) =>
K50 .ret (Env.put (Env.put (Env.put (Env.put (Env.put (Env.put (Env.put (Env.put (Env.put (Env.put (Env.put (Env.put (Env.put (Env.put (Env.put (Env.put (Env.put (Env.put (Env.put (Env.put (Env.put (Env.put (Env.put (Env.put (Env.put (Env.put (argE [a0]) 1 v1n1) 2 (Value.int IntKind.i64 0)) 4 v4n3) 5 v5n5) 6 v6n9) 3 v3n11) 8 v8n14) 9 v9n16) 10 v10n18) 11 v10n18) 12 v12n21) 13 v13n24) 14 v14n27) 15 v15n29) 7 v15n29) 17 v17n31) 18 v18n33) 19 v19n37) 20 v20n39) 16 v20n39) 22 v22n42) 23 v23n44) 24 v24n46) 25 v25n48) 21 v25n48) 2 (Value.int IntKind.i64 3)) w49) (fun (K50 : KT) =>
bindV (pFieldAddr P 108 v3n11 2 w49) fun v27n51 w52 =>
bindV (pLoad P 4 v27n51 w52) fun v28n53 w54 =>
grdE v28n53 true (fun (k55 : Value → World → Prop) => bindV (pFieldAddr P 25 v1n1 2 w54) k55) (fun v30n56 w57 =>
grdE v28n53 true (fun (k58 : Value → World → Prop) => bindV (pLoad P 2 v30n56 w57) k58) (fun v31n59 w60 =>
grdE v28n53 true (fun (k61 : Value → World → Prop) => bindV (pBin P BinOp.lss 2 true v31n59 (Value.int IntKind.i64 (-2305843009213693952)) w60) k61) (fun v32n62 w63 =>
grdE v28n53 true (fun (k64 : Value → World → Prop) => k64 v32n62 w63) (fun v33n65 w66 =>
grdE v33n65 false (fun (k67 : Value → World → Prop) => bindV (pFieldAddr P 25 v1n1 3 w66) k67) (fun v34n68 w69 =>
grdE v33n65 false (fun (k70 : Value → World → Prop) => bindV (pLoad P 2 v34n68 w69) k70) (fun v35n71 w72 =>
grdE v33n65 false (fun (k73 : Value → World → Prop) => bindV (pBin P BinOp.gtr 2 true v35n71 (Value.int IntKind.i64 2305843009213693952) w72) k73) (fun v36n74 w75 =>
grdE v28n53 true (fun (k76 : Value → World → Prop) => pickE v33n65 (Value.bool true) v36n74 fun v37n77 =>
k76 v37n77 w75) (fun v37n78 w79 =>
grdE v28n53 true (fun (k80 : Value → World → Prop) => k80 v37n78 w79) (fun v38n81 w82 =>
grdE v38n81 false (fun (k83 : Value → World → Prop) => bindV (pFieldAddr P 25 v1n1 1 w82) k83) (fun v39n84 w85 =>
grdE v38n81 false (fun (k86 : Value → World → Prop) => bindV (pLoad P 2 v39n84 w85) k86) (fun v40n87 w88 =>
grdE v38n81 false (fun (k89 : Value → World → Prop) => bindV (pFieldAddr P 25 v1n1 2 w88) k89) (fun v41n90 w91 =>
grdE v38n81 false (fun (k92 : Value → World → Prop) => bindV (pLoad P 2 v41n90 w91) k92) (fun v42n93 w94 =>
grdE v38n81 false (fun (k95 : Value → World → Prop) => bindV (pBin P BinOp.lss 2 false v40n87 v42n93 w94) k95) (fun v43n96 w97 =>
grdE v28n53 true (fun (k98 : Value → World → Prop) => pickE v38n81 (Value.bool true) v43n96 fun v44n99 =>
k98 v44n99 w97) (fun v44n100 w101 =>
grdE v28n53 true (fun (k102 : Value → World → Prop) => k102 v44n100 w101) (fun v45n103 w104 =>
grdE v45n103 false (fun (k105 : Value → World → Prop) => bindV (pFieldAddr P 25 v1n1 1 w104) k105) (fun v46n106 w107 =>
grdE v45n103 false (fun (k108 : Value → World → Prop) => bindV (pLoad P 2 v46n106 w107) k108) (fun v47n109 w110 =>
grdE v45n103 false (fun (k111 : Value → World → Prop) => bindV (pFieldAddr P 25 v1n1 3 w110) k111) (fun v48n112 w113 =>
grdE v45n103 false (fun (k114 : Value → World → Prop) => bindV (pLoad P 2 v48n112 w113) k114) (fun v49n115 w116 =>
grdE v45n103 false (fun (k117 : Value → World → Prop) => bindV (pBin P BinOp.gtr 2 false v47n109 v49n115 w116) k117) (fun v50n118 w119 =>
grdE v28n53 true (fun (k120 : Value → World → Prop) => pickE v45n103 (Value.bool true) v50n118 fun v51n121 =>
k120 v51n121 w119) (fun v51n122 w123 =>
pickE v28n53 v51n122 (Value.bool false) fun v52n124 =>
condE v52n124 (fun (K125 : KT) =>
K125 .ret (Env.put (Env.put (Env.put (Env.put (Env.put (Env.put (Env.put (Env.put (Env.put (Env.put (Env.put (Env.put (Env.put (Env.put (Env.put (Env.put (Env.put (Env.put (Env.put (Env.put (Env.put (Env.put (Env.put (Env.put (Env.put (Env.put (Env.put (Env.put (Env.put (Env.put (Env.put (Env.put (Env.put (Env.put (Env.put (Env.put (Env.put (Env.put (Env.put (Env.put (Env.put (Env.put (Env.put (Env.put (Env.put (Env.put (Env.put (Env.put (Env.put (Env.put (Env.put (Env.put (Env.put (argE [a0]) 1 v1n1) 2 (Value.int IntKind.i64 0)) 4 v4n3) 5 v5n5) 6 v6n9) 3 v3n11) 8 v8n14) 9 v9n16) 10 v10n18) 11 v10n18) 12 v12n21) 13 v13n24) 14 v14n27) 15 v15n29) 7 v15n29) 17 v17n31) 18 v18n33) 19 v19n37) 20 v20n39) 16 v20n39) 22 v22n42) 23 v23n44) 24 v24n46) 25 v25n48) 21 v25n48) 27 v27n51) 28 v28n53) 29 v28n53) 30 v30n56) 31 v31n59) 32 v32n62) 33 v33n65) 34 v34n68) 35 v35n71) 36 v36n74) 37 v37n78) 38 v38n81) 39 v39n84) 40 v40n87) 41 v41n90) 42 v42n93) 43 v43n96) 44 v44n100) 45 v45n103) 46 v46n106) 47 v47n109) 48 v48n112) 49 v49n115) 50 v50n118) 51 v51n122) 52 v52n124) 26 v52n124) 2 (Value.int IntKind.i64 1)) w123) (fun (K125 : KT) =>
bindV (pFieldAddr P 25 v1n1 4 w123) fun v54n126 w127 =>
bindV (pLoad P 22 v54n126 w127) fun v55n128 w129 =>
callE P 49 #[v55n128] w129 (fun v56n132 w133 =>
bindV (pUn P UnOp.not v56n132 w133) fun v57n134 w135 =>
condE v57n134 (fun (K136 : KT) =>
K136 .ret (Env.put (Env.put (Env.put (Env.put (Env.put (Env.put (Env.put (Env.put (Env.put (Env.put (Env.put (Env.put (Env.put (Env.put (Env.put (Env.put (Env.put (Env.put (Env.put (Env.put (Env.put (Env.put (Env.put (Env.put (Env.put (Env.put (Env.put (Env.put (Env.put (Env.put (Env.put (Env.put (Env.put (Env.put (Env.put (Env.put (Env.put (Env.put (Env.put (Env.put (Env.put (Env.put (Env.put (Env.put (Env.put (Env.put (Env.put (Env.put (Env.put (Env.put (Env.put (Env.put (Env.put (Env.put (Env.put (Env.put (Env.put (Env.put (argE [a0]) 1 v1n1) 2 (Value.int IntKind.i64 0)) 4 v4n3) 5 v5n5) 6 v6n9) 3 v3n11) 8 v8n14) 9 v9n16) 10 v10n18) 11 v10n18) 12 v12n21) 13 v13n24) 14 v14n27) 15 v15n29) 7 v15n29) 17 v17n31) 18 v18n33) 19 v19n37) 20 v20n39) 16 v20n39) 22 v22n42) 23 v23n44) 24 v24n46) 25 v25n48) 21 v25n48) 27 v27n51) 28 v28n53) 29 v28n53) 30 v30n56) 31 v31n59) 32 v32n62) 33 v33n65) 34 v34n68) 35 v35n71) 36 v36n74) 37 v37n78) 38 v38n81) 39 v39n84) 40 v40n87) 41 v41n90) 42 v42n93) 43 v43n96) 44 v44n100) 45 v45n103) 46 v46n106) 47 v47n109) 48 v48n112) 49 v49n115) 50 v50n118) 51 v51n122) 52 v52n124) 26 v52n124) 54 v54n126) 55 v55n128) 56 v56n132) 57 v57n134) 53 v57n134) 2 (Value.int IntKind.i64 4)) w135) (fun (K136 : KT) =>
bindV (pFieldAddr P 108 v3n11 4 w135) fun v59n137 w138 =>
bindV (pLoad P 4 v59n137 w138) fun v60n139 w140 =>
bindV (pUn P UnOp.not v60n139 w140) fun v61n141 w142 =>
condE v61n141 (fun (K143 : KT) =>
K143 .ret (Env.put (Env.put (Env.put (Env.put (Env.put (Env.put (Env.put (Env.put (Env.put (Env.put (Env.put (Env.put (Env.put (Env.put (Env.put (Env.put (Env.put (Env.put (Env.put (Env.put (Env.put (Env.put (Env.put (Env.put (Env.put (Env.put (Env.put (Env.put (Env.put (Env.put (Env.put (Env.put (Env.put (Env.put (Env.put (Env.put (Env.put (Env.put (Env.put (Env.put (Env.put (Env.put (Env.put (Env.put (Env.put (Env.put (Env.put (Env.put (Env.put (Env.put (Env.put (Env.put (Env.put (Env.put (Env.put (Env.put (Env.put (Env.put (Env.put (Env.put (Env.put (Env.put (argE [a0]) 1 v1n1) 2 (Value.int IntKind.i64 0)) 4 v4n3) 5 v5n5) 6 v6n9) 3 v3n11) 8 v8n14) 9 v9n16) 10 v10n18) 11 v10n18) 12 v12n21) 13 v13n24) 14 v14n27) 15 v15n29) 7 v15n29) 17 v17n31) 18 v18n33) 19 v19n37) 20 v20n39) 16 v20n39) 22 v22n42) 23 v23n44) 24 v24n46) 25 v25n48) 21 v25n48) 27 v27n51) 28 v28n53) 29 v28n53) 30 v30n56) 31 v31n59) 32 v32n62) 33 v33n65) 34 v34n68) 35 v35n71) 36 v36n74) 37 v37n78) 38 v38n81) 39 v39n84) 40 v40n87) 41 v41n90) 42 v42n93) 43 v43n96) 44 v44n100) 45 v45n103) 46 v46n106) 47 v47n109) 48 v48n112) 49 v49n115) 50 v50n118) 51 v51n122) 52 v52n124) 26 v52n124) 54 v54n126) 55 v55n128) 56 v56n132) 57 v57n134) 53 v57n134) 59 v59n137) 60 v60n139) 61 v61n141) 58 v61n141) 2 (Value.int IntKind.i64 0)) w142) (fun (K143 : KT) =>
bindV (pFieldAddr P 25 v1n1 5 w142) fun v63n144 w145 =>
bindV (pLoad P 3 v63n144 w145) fun v64n146 w147 =>
bindV (pBin P BinOp.lss 3 true v64n146 (Value.int IntKind.i64 1) w147) fun v65n148 w149 =>
grdE v65n148 false (fun (k150 : Value → World → Prop) => bindV (pFieldAddr P 25 v1n1 5 w149) k150) (fun v67n151 w152 =>
grdE v65n148 false (fun (k153 : Value → World → Prop) => bindV (pLoad P 3 v67n151 w152) k153) (fun v68n154 w155 =>
grdE v65n148 false (fun (k156 : Value → World → Prop) => bindV (pBin P BinOp.gtr 3 true v68n154 (Value.int IntKind.i64 32) w155) k156) (fun v69n157 w158 =>
pickE v65n148 (Value.bool true) v69n157 fun v70n159 =>
condE v70n159 (fun (K160 : KT) =>
K160 .ret (Env.put (Env.put (Env.put (Env.put (Env.put (Env.put (Env.put (Env.put (Env.put (Env.put (Env.put (Env.put (Env.put (Env.put (Env.put (Env.put (Env.put (Env.put (Env.put (Env.put (Env.put (Env.put (Env.put (Env.put (Env.put (Env.put (Env.put (Env.put (Env.put (Env.put (Env.put (Env.put (Env.put (Env.put (Env.put (Env.put (Env.put (Env.put (Env.put (Env.put (Env.put (Env.put (Env.put (Env.put (Env.put (Env.put (Env.put (Env.put (Env.put (Env.put (Env.put (Env.put (Env.put (Env.put (Env.put (Env.put (Env.put (Env.put (Env.put (Env.put (Env.put (Env.put (Env.put (Env.put (Env.put (Env.put (Env.put (Env.put (Env.put (Env.put (Env.put (argE [a0]) 1 v1n1) 2 (Value.int IntKind.i64 0)) 4 v4n3) 5 v5n5) 6 v6n9) 3 v3n11) 8 v8n14) 9 v9n16) 10 v10n18) 11 v10n18) 12 v12n21) 13 v13n24) 14 v14n27) 15 v15n29) 7 v15n29) 17 v17n31) 18 v18n33) 19 v19n37) 20 v20n39) 16 v20n39) 22 v22n42) 23 v23n44) 24 v24n46) 25 v25n48) 21 v25n48) 27 v27n51) 28 v28n53) 29 v28n53) 30 v30n56) 31 v31n59) 32 v32n62) 33 v33n65) 34 v34n68) 35 v35n71) 36 v36n74) 37 v37n78) 38 v38n81) 39 v39n84) 40 v40n87) 41 v41n90) 42 v42n93) 43 v43n96) 44 v44n100) 45 v45n103) 46 v46n106) 47 v47n109) 48 v48n112) 49 v49n115) 50 v50n118) 51 v51n122) 52 v52n124) 26 v52n124) 54 v54n126) 55 v55n128) 56 v56n132) 57 v57n134) 53 v57n134) 59 v59n137) 60 v60n139) 61 v61n141) 58 v61n141) 63 v63n144) 64 v64n146) 65 v65n148) 66 v65n148) 67 v67n151) 68 v68n154) 69 v69n157) 70 v70n159) 62 v70n159) 2 (Value.int IntKind.i64 1)) w158) (fun (K160 : KT) =>
bindV (pFieldAddr P 25 v1n1 7 w158) fun v72n161 w162 =>
bindV (pLoad P 23 v72n161 w162) fun v73n163 w164 =>
bindV (pBuiltin P Builtin.len #[23] 3 [v73n163] w164) fun v74n165 w166 =>
bindV (pFieldAddr P 25 v1n1 5 w166) fun v75n167 w168 =>
bindV (pLoad P 3 v75n167 w168) fun v76n169 w170 =>
bindV (pBin P BinOp.gtr 3 false v74n165 v76n169 w170) fun v77n171 w172 =>
condE v77n171 (fun (K173 : KT) =>
K173 .ret (Env.put (Env.put (Env.put (Env.put (Env.put (Env.put (Env.put (Env.put (Env.put (Env.put (Env.put (Env.put (Env.put (Env.put (Env.put (Env.put (Env.put (Env.put (Env.put (Env.put (Env.put (Env.put (Env.put (Env.put (Env.put (Env.put (Env.put (Env.put (Env.put (Env.put (Env.put (Env.put (Env.put (Env.put (Env.put (Env.put (Env.put (Env.put (Env.put (Env.put (Env.put (Env.put (Env.put (Env.put (Env.put (Env.put (Env.put (Env.put (Env.put (Env.put (Env.put (Env.put (Env.put (Env.put (Env.put (Env.put (Env.put (Env.put (Env.put (Env.put (Env.put (Env.put (Env.put (Env.put (Env.put (Env.put (Env.put (Env.put (Env.put (Env.put (Env.put (Env.put (Env.put (Env.put (Env.put (Env.put (Env.put (Env.put (argE [a0]) 1 v1n1) 2 (Value.int IntKind.i64 0)) 4 v4n3) 5 v5n5) 6 v6n9) 3 v3n11) 8 v8n14) 9 v9n16) 10 v10n18) 11 v10n18) 12 v12n21) 13 v13n24) 14 v14n27) 15 v15n29) 7 v15n29) 17 v17n31) 18 v18n33) 19 v19n37) 20 v20n39) 16 v20n39) 22 v22n42) 23 v23n44) 24 v24n46) 25 v25n48) 21 v25n48) 27 v27n51) 28 v28n53) 29 v28n53) 30 v30n56) 31 v31n59) 32 v32n62) 33 v33n65) 34 v34n68) 35 v35n71) 36 v36n74) 37 v37n78) 38 v38n81) 39 v39n84) 40 v40n87) 41 v41n90) 42 v42n93) 43 v43n96) 44 v44n100) 45 v45n103) 46 v46n106) 47 v47n109) 48 v48n112) 49 v49n115) 50 v50n118) 51 v51n122) 52 v52n124) 26 v52n124) 54 v54n126) 55 v55n128) 56 v56n132) 57 v57n134) 53 v57n134) 59 v59n137) 60 v60n139) 61 v61n141) 58 v61n141) 63 v63n144) 64 v64n146) 65 v65n148) 66 v65n148) 67 v67n151) 68 v68n154) 69 v69n157) 70 v70n159) 62 v70n159) 72 v72n161) 73 v73n163) 74 v74n165) 75 v75n167) 76 v76n169) 77 v77n171) 71 v77n171) 2 (Value.int IntKind.i64 8)) w172) (fun (K173 : KT) =>
K173 .normal (Env.put (Env.put (Env.put (Env.put (Env.put (Env.put (Env.put (Env.put (Env.put (Env.put (Env.put (Env.put (Env.put (Env.put (Env.put (Env.put (Env.put (Env.put (Env.put (Env.put (Env.put (Env.put (Env.put (Env.put (Env.put (Env.put (Env.put (Env.put (Env.put (Env.put (Env.put (Env.put (Env.put (Env.put (Env.put (Env.put (Env.put (Env.put (Env.put (Env.put (Env.put (Env.put (Env.put (Env.put (Env.put (Env.put (Env.put (Env.put (Env.put (Env.put (Env.put (Env.put (Env.put (Env.put (Env.put (Env.put (Env.put (Env.put (Env.put (Env.put (Env.put (Env.put (Env.put (Env.put (Env.put (Env.put (Env.put (Env.put (Env.put (Env.put (Env.put (Env.put (Env.put (Env.put (Env.put (Env.put (Env.put (argE [a0]) 1 v1n1) 2 (Value.int IntKind.i64 0)) 4 v4n3) 5 v5n5) 6 v6n9) 3 v3n11) 8 v8n14) 9 v9n16) 10 v10n18) 11 v10n18) 12 v12n21) 13 v13n24) 14 v14n27) 15 v15n29) 7 v15n29) 17 v17n31) 18 v18n33) 19 v19n37) 20 v20n39) 16 v20n39) 22 v22n42) 23 v23n44) 24 v24n46) 25 v25n48) 21 v25n48) 27 v27n51) 28 v28n53) 29 v28n53) 30 v30n56) 31 v31n59) 32 v32n62) 33 v33n65) 34 v34n68) 35 v35n71) 36 v36n74) 37 v37n78) 38 v38n81) 39 v39n84) 40 v40n87) 41 v41n90) 42 v42n93) 43 v43n96) 44 v44n100) 45 v45n103) 46 v46n106) 47 v47n109) 48 v48n112) 49 v49n115) 50 v50n118) 51 v51n122) 52 v52n124) 26 v52n124) 54 v54n126) 55 v55n128) 56 v56n132) 57 v57n134) 53 v57n134) 59 v59n137) 60 v60n139) 61 v61n141) 58 v61n141) 63 v63n144) 64 v64n146) 65 v65n148) 66 v65n148) 67 v67n151) 68 v68n154) 69 v69n157) 70 v70n159) 62 v70n159) 72 v72n161) 73 v73n163) 74 v74n165) 75 v75n167) 76 v76n169) 77 v77n171) 71 v77n171) w172) K160) K143) w155) w152) w149) K136) K125) (fun c130 w131 => K125 (.panic c130) (Env.put (Env.put (Env.put (Env.put (Env.put (Env.put (Env.put (Env.put (Env.put (Env.put (Env.put (Env.put (Env.put (Env.put (Env.put (Env.put (Env.put (Env.put (Env.put (Env.put (Env.put (Env.put (Env.put (Env.put (Env.put (Env.put (Env.put (Env.put (Env.put (Env.put (Env.put (Env.put (Env.put (Env.put (Env.put (Env.put (Env.put (Env.put (Env.put (Env.put (Env.put (Env.put (Env.put (Env.put (Env.put (Env.put (Env.put (Env.put (Env.put (Env.put (Env.put (Env.put (Env.put (Env.put (argE [a0]) 1 v1n1) 2 (Value.int IntKind.i64 0)) 4 v4n3) 5 v5n5) 6 v6n9) 3 v3n11) 8 v8n14) 9 v9n16) 10 v10n18) 11 v10n18) 12 v12n21) 13 v13n24) 14 v14n27) 15 v15n29) 7 v15n29) 17 v17n31) 18 v18n33) 19 v19n37) 20 v20n39) 16 v20n39) 22 v22n42) 23 v23n44) 24 v24n46) 25 v25n48) 21 v25n48) 27 v27n51) 28 v28n53) 29 v28n53) 30 v30n56) 31 v31n59) 32 v32n62) 33 v33n65) 34 v34n68) 35 v35n71) 36 v36n74) 37 v37n78) 38 v38n81) 39 v39n84) 40 v40n87) 41 v41n90) 42 v42n93) 43 v43n96) 44 v44n100) 45 v45n103) 46 v46n106) 47 v47n109) 48 v48n112) 49 v49n115) 50 v50n118) 51 v51n122) 52 v52n124) 26 v52n124) 54 v54n126) 55 v55n128) w131)) K50) w119) w116) w113) w110) w107) w104) w101) w97) w94) w91) w88) w85) w82) w79) w75) w72) w69) w66) w63) w60) w57) w54) K41) K30) (fun c35 w36 => K30 (.panic c35) (Env.put (Env.put (Env.put (Env.put (Env.put (Env.put (Env.put (Env.put (Env.put (Env.put (Env.put (Env.put (Env.put (Env.put (Env.put (Env.put (Env.put (argE [a0]) 1 v1n1) 2 (Value.int IntKind.i64 0)) 4 v4n3) 5 v5n5) 6 v6n9) 3 v3n11) 8 v8n14) 9 v9n16) 10 v10n18) 11 v10n18) 12 v12n21) 13 v13n24) 14 v14n27) 15 v15n29) 7 v15n29) 17 v17n31) 18 v18n33) w36)) (blockK 0 (thenK (fun e174 w175 =>
bindV (pFieldAddr P 25 (e174 1) 0 w175) fun v78n176 w177 =>
bindV (pLoad P 3 v78n176 w177) fun v79n178 w179 =>
bindV (pFieldAddr P 25 (e174 1) 7 w179) fun v80n180 w181 =>
bindV (pLoad P 23 v80n180 w181) fun v81n182 w183 =>
callE P 58 #[v79n178, v81n182] w183 (fun v82n186 w187 =>
R (.returned v82n186) w187) (fun c184 w185 => R (.panicked c184) w185)) (topK P [(ResultVar.tmp 2)] R)))) w25) w22) w19) (fun c7 w8 => R (.panicked c7) w8)
theorem F26ok {w : World} {R : Ending → World → Prop} {a0 : Value} (h : F26 a0 w R) : Calls P 26 #[a0] w R :=
  calls_of_ev bodies mixed (c := bodyOf Tryd.f26) (nt := 83) (rs := [(ResultVar.tmp 2)]) (args := [a0]) (fn := Tryd.f26) (by kernel_rfl) (by kernel_rfl) (by kernel_rfl) (by kernel_rfl) (by kernel_rfl) (by simp)
    (eq_mp (show F26 a0 w R = ev P C (bodyOf Tryd.f26) (argE [a0]) w (topK P [(ResultVar.tmp 2)] R) by kernel_rfl) h)

/-! ### moiety/rec.Put -/
def F27B0 (e : Env) (w : World) (K : KT) : Prop :=
bindV (pBin P BinOp.lss 3 false (e 60) (e 59) w) fun v61n129 w130 =>
condE v61n129 (fun (K131 : KT) =>
K131 .normal (Env.put e 61 v61n129) w130) (fun (K131 : KT) =>
K131 (.exit 0) (Env.put e 61 v61n129) w130) (thenK (fun e132 w133 =>
bindV (pIndexAddr P 23 (e132 58) (e132 60) w133) fun v62n134 w135 =>
bindV (pLoad P 80 v62n134 w135) fun v63n136 w137 =>
bindV (pAlloc P 80 w137) fun v6n138 w139 =>
bindU (pStore P 80 v6n138 v63n136 w139) fun w140 =>
letK (blockK 1 (thenK (fun e142 w143 =>
bindV (pBin P BinOp.add 3 true (e142 60) (Value.int IntKind.i64 1) w143) fun v75n144 w145 =>
K .normal (Env.put (Env.put e142 75 v75n144) 60 v75n144) w145) K)) fun (K141 : KT) =>
bindV (pFieldAddr P 25 (e132 3) 0 w140) fun v64n146 w147 =>
bindV (pLoad P 3 v64n146 w147) fun v65n148 w149 =>
bindV (pBin P BinOp.eql 3 true v65n148 (Value.int IntKind.i64 9) w149) fun v66n150 w151 =>
condE v66n150 (fun (K152 : KT) =>
bindV (pFieldAddr P 80 v6n138 0 w151) fun v68n153 w154 =>
bindV (pLoad P 22 v68n153 w154) fun v69n155 w156 =>
callE P 55 #[(e132 0), v69n155] w156 (fun v70n159 w160 =>
K152 .normal (Env.put (Env.put (Env.put (Env.put (Env.put (Env.put (Env.put (Env.put (Env.put (Env.put e132 62 v62n134) 63 v63n136) 6 v6n138) 64 v64n146) 65 v65n148) 66 v66n150) 67 (e132 0)) 68 v68n153) 69 v69n155) 70 v70n159) w160) (fun c157 w158 => K152 (.panic c157) (Env.put (Env.put (Env.put (Env.put (Env.put (Env.put (Env.put (Env.put (Env.put e132 62 v62n134) 63 v63n136) 6 v6n138) 64 v64n146) 65 v65n148) 66 v66n150) 67 (e132 0)) 68 v68n153) 69 v69n155) w158)) (fun (K152 : KT) =>
K152 .normal (Env.put (Env.put (Env.put (Env.put (Env.put (Env.put e132 62 v62n134) 63 v63n136) 6 v6n138) 64 v64n146) 65 v65n148) 66 v66n150) w151) (thenK (fun e161 w162 =>
bindV (pFieldAddr P 80 (e161 6) 1 w162) fun v72n163 w164 =>
bindV (pLoad P 9 v72n163 w164) fun v73n165 w166 =>
callE P 52 #[(e161 0), v73n165] w166 (fun v74n169 w170 =>
K141 .normal (Env.put (Env.put (Env.put (Env.put e161 71 (e161 0)) 72 v72n163) 73 v73n165) 74 v74n169) w170) (fun c167 w168 => K141 (.panic c167) (Env.put (Env.put (Env.put e161 71 (e161 0)) 72 v72n163) 73 v73n165) w168)) K141)) K)
def F27 (a0 : Value) (a1 : Value) (w : World) (R : Ending → World → Prop) : Prop :=
bindV (pBox P 25 a1 w) fun v3n1 w2 =>
bindV (pFieldAddr P 25 v3n1 0 w2) fun v7n3 w4 =>
bindV (pLoad P 3 v7n3 w4) fun v8n5 w6 =>
callE P 56 #[v8n5] w6 (fun v9n9 w10 =>
bindV (pAlloc P 108 w10) fun v4n11 w12 =>
bindU (pStore P 108 v4n11 v9n9 w12) fun w13 =>
bindV (pFieldAddr P 25 v3n1 0 w13) fun v11n14 w15 =>
bindV (pLoad P 3 v11n14 w15) fun v12n16 w17 =>
bindV (pConv P 3 58 v12n16 w17) fun v13n18 w19 =>
callE P 50 #[a0, v13n18] w19 (fun v14n22 w23 =>
bindV (pFieldAddr P 108 v4n11 0 w23) fun v15n24 w25 =>
bindV (pLoad P 4 v15n24 w25) fun v16n26 w27 =>
condE v16n26 (fun (K28 : KT) =>
bindV (pFieldAddr P 25 v3n1 6 w27) fun v18n29 w30 =>
bindV (pLoad P 9 v18n29 w30) fun v19n31 w32 =>
callE P 52 #[a0, v19n31] w32 (fun v20n35 w36 =>
K28 .normal (Env.put (Env.put (Env.put (Env.put (Env.put (Env.put (Env.put (Env.put (Env.put (Env.put (Env.put (Env.put (Env.put (Env.put (Env.put (Env.put (argE [a0, a1]) 3 v3n1) 7 v7n3) 8 v8n5) 9 v9n9) 4 v4n11) 10 a0) 11 v11n14) 12 v12n16) 13 v13n18) 14 v14n22) 15 v15n24) 16 v16n26) 17 a0) 18 v18n29) 19 v19n31) 20 v20n35) w36) (fun c33 w34 => K28 (.panic c33) (Env.put (Env.put (Env.put (Env.put (Env.put (Env.put (Env.put (Env.put (Env.put (Env.put (Env.put (Env.put (Env.put (Env.put (Env.put (argE [a0, a1]) 3 v3n1) 7 v7n3) 8 v8n5) 9 v9n9) 4 v4n11) 10 a0) 11 v11n14) 12 v12n16) 13 v13n18) 14 v14n22) 15 v15n24) 16 v16n26) 17 a0) 18 v18n29) 19 v19n31) w34)) (fun (K28 : KT) =>
K28 .normal (Env.put (Env.put (Env.put (Env.put (Env.put (Env.put (Env.put (Env.put (Env.put (Env.put (Env.put (Env.put (argE [a0, a1]) 3 v3n1) 7 v7n3) 8 v8n5) 9 v9n9) 4 v4n11) 10 a0) 11 v11n14) 12 v12n16) 13 v13n18) 14 v14n22) 15 v15n24) 16 v16n26) w27) (thenK (fun e37 w38 =>
bindV (pFieldAddr P 108 (e37 4) 2 w38) fun v21n39 w40 =>
bindV (pLoad P 4 v21n39 w40) fun v22n41 w42 =>
condE v22n41 (fun (K43 : KT) =>
bindV (pFieldAddr P 25 (e37 3) 2 w42) fun v24n44 w45 =>
bindV (pLoad P 2 v24n44 w45) fun v25n46 w47 =>
callE P 54 #[(e37 0), v25n46] w47 (fun v26n50 w51 =>
bindV (pFieldAddr P 25 (e37 3) 3 w51) fun v28n52 w53 =>
bindV (pLoad P 2 v28n52 w53) fun v29n54 w55 =>
callE P 54 #[(e37 0), v29n54] w55 (fun v30n58 w59 =>
K43 .normal (Env.put (Env.put (Env.put (Env.put (Env.put (Env.put (Env.put (Env.put (Env.put (Env.put e37 21 v21n39) 22 v22n41) 23 (e37 0)) 24 v24n44) 25 v25n46) 26 v26n50) 27 (e37 0)) 28 v28n52) 29 v29n54) 30 v30n58) w59) (fun c56 w57 => K43 (.panic c56) (Env.put (Env.put (Env.put (Env.put (Env.put (Env.put (Env.put (Env.put (Env.put e37 21 v21n39) 22 v22n41) 23 (e37 0)) 24 v24n44) 25 v25n46) 26 v26n50) 27 (e37 0)) 28 v28n52) 29 v29n54) w57)) (fun c48 w49 => K43 (.panic c48) (Env.put (Env.put (Env.put (Env.put (Env.put e37 21 v21n39) 22 v22n41) 23 (e37 0)) 24 v24n44) 25 v25n46) w49)) (fun (K43 : KT) =>
K43 .normal (Env.put (Env.put e37 21 v21n39) 22 v22n41) w42) (thenK (fun e60 w61 =>
bindV (pFieldAddr P 108 (e60 4) 1 w61) fun v31n62 w63 =>
bindV (pLoad P 4 v31n62 w63) fun v32n64 w65 =>
condE v32n64 (fun (K66 : KT) =>
bindV (pFieldAddr P 25 (e60 3) 1 w65) fun v34n67 w68 =>
bindV (pLoad P 2 v34n67 w68) fun v35n69 w70 =>
callE P 54 #[(e60 0), v35n69] w70 (fun v36n73 w74 =>
K66 .normal (Env.put (Env.put (Env.put (Env.put (Env.put (Env.put e60 31 v31n62) 32 v32n64) 33 (e60 0)) 34 v34n67) 35 v35n69) 36 v36n73) w74) (fun c71 w72 => K66 (.panic c71) (Env.put (Env.put (Env.put (Env.put (Env.put e60 31 v31n62) 32 v32n64) 33 (e60 0)) 34 v34n67) 35 v35n69) w72)) (fun (K66 : KT) =>
K66 .normal (Env.put (Env.put e60 31 v31n62) 32 v32n64) w65) (thenK (fun e75 w76 =>
bindV (pFieldAddr P 108 (e75 4) 3 w76) fun v37n77 w78 =>
bindV (pLoad P 4 v37n77 w78) fun v38n79 w80 =>
condE v38n79 (fun (K81 : KT) =>
bindV (pFieldAddr P 25 (e75 3) 4 w80) fun v40n82 w83 =>
bindV (pLoad P 22 v40n82 w83) fun v41n84 w85 =>
callE P 55 #[(e75 0), v41n84] w85 (fun v42n88 w89 =>
K81 .normal (Env.put (Env.put (Env.put (Env.put (Env.put (Env.put e75 37 v37n77) 38 v38n79) 39 (e75 0)) 40 v40n82) 41 v41n84) 42 v42n88) w89) (fun c86 w87 => K81 (.panic c86) (Env.put (Env.put (Env.put (Env.put (Env.put e75 37 v37n77) 38 v38n79) 39 (e75 0)) 40 v40n82) 41 v41n84) w87)) (fun (K81 : KT) =>
K81 .normal (Env.put (Env.put e75 37 v37n77) 38 v38n79) w80) (thenK (fun e90 w91 =>
bindV (pFieldAddr P 108 (e90 4) 4 w91) fun v43n92 w93 =>
bindV (pLoad P 4 v43n92 w93) fun v44n94 w95 =>
bindV (pUn P UnOp.not v44n94 w95) fun v45n96 w97 =>
condE v45n96 (fun (K98 : KT) =>
K98 .ret (Env.put (Env.put (Env.put e90 43 v43n92) 44 v44n94) 45 v45n96) w97) (fun (K98 : KT) =>
K98 .normal (Env.put (Env.put (Env.put e90 43 v43n92) 44 v44n94) 45 v45n96) w97) (thenK (fun e99 w100 =>
bindV (pFieldAddr P 25 (e99 3) 5 w100) fun v47n101 w102 =>
bindV (pLoad P 3 v47n101 w102) fun v48n103 w104 =>
bindV (pConv P 3 58 v48n103 w104) fun v49n105 w106 =>
callE P 50 #[(e99 0), v49n105] w106 (fun v50n109 w110 =>
bindV (pFieldAddr P 25 (e99 3) 7 w110) fun v52n111 w112 =>
bindV (pLoad P 23 v52n111 w112) fun v53n113 w114 =>
bindV (pBuiltin P Builtin.len #[23] 3 [v53n113] w114) fun v54n115 w116 =>
bindV (pConv P 3 58 v54n115 w116) fun v55n117 w118 =>
callE P 50 #[(e99 0), v55n117] w118 (fun v56n121 w122 =>
bindV (pFieldAddr P 25 (e99 3) 7 w122) fun v57n123 w124 =>
bindV (pLoad P 23 v57n123 w124) fun v58n125 w126 =>
bindV (pBuiltin P Builtin.len #[23] 3 [v58n125] w126) fun v59n127 w128 =>
loopE F27B0 (Env.put (Env.put (Env.put (Env.put (Env.put (Env.put (Env.put (Env.put (Env.put (Env.put (Env.put (Env.put (Env.put (Env.put (Env.put e99 46 (e99 0)) 47 v47n101) 48 v48n103) 49 v49n105) 50 v50n109) 51 (e99 0)) 52 v52n111) 53 v53n113) 54 v54n115) 55 v55n117) 56 v56n121) 57 v57n123) 58 v58n125) 59 v59n127) 60 (Value.int IntKind.i64 0)) w128 (blockK 0 (topK P [] R))) (fun c119 w120 => R (.panicked c119) w120)) (fun c107 w108 => R (.panicked c107) w108)) (topK P [] R))) (topK P [] R))) (topK P [] R))) (topK P [] R))) (topK P [] R))) (fun c20 w21 => R (.panicked c20) w21)) (fun c7 w8 => R (.panicked c7) w8)
theorem F27ok {w : World} {R : Ending → World → Prop} {a0 : Value} {a1 : Value} (h : F27 a0 a1 w R) : Calls P 27 #[a0, a1] w R :=
  calls_of_ev bodies mixed (c := bodyOf Tryd.f27) (nt := 76) (rs := []) (args := [a0, a1]) (fn := Tryd.f27) (by kernel_rfl) (by kernel_rfl) (by kernel_rfl) (by kernel_rfl) (by kernel_rfl) (by simp)
    (eq_mp (show F27 a0 a1 w R = ev P C (bodyOf Tryd.f27) (argE [a0, a1]) w (topK P [] R) by kernel_rfl) h)

/-! ### moiety/moietyref03.Check -/
def F32B0 (e : Env) (w : World) (K : KT) : Prop :=
bindV (pFieldAddr P 25 (e 1) 7 w) fun v81n213 w214 =>
bindV (pLoad P 23 v81n213 w214) fun v82n215 w216 =>
bindV (pBuiltin P Builtin.len #[23] 3 [v82n215] w216) fun v83n217 w218 =>
bindV (pBin P BinOp.lss 3 false (e 4) v83n217 w218) fun v84n219 w220 =>
condE v84n219 (fun (K221 : KT) =>
K221 .normal (Env.put (Env.put (Env.put (Env.put (Env.put e 80 (e 4)) 81 v81n213) 82 v82n215) 83 v83n217) 84 v84n219) w220) (fun (K221 : KT) =>
K221 (.exit 0) (Env.put (Env.put (Env.put (Env.put (Env.put e 80 (e 4)) 81 v81n213) 82 v82n215) 83 v83n217) 84 v84n219) w220) (thenK (fun e222 w223 =>
bindV (pFieldAddr P 25 (e222 1) 0 w223) fun v87n224 w225 =>
bindV (pLoad P 3 v87n224 w225) fun v88n226 w227 =>
bindV (pFieldAddr P 25 (e222 1) 7 w227) fun v89n228 w229 =>
bindV (pLoad P 23 v89n228 w229) fun v90n230 w231 =>
callE P 65 #[v88n226, v90n230, (e222 4)] w231 (fun v92n234 w235 =>
bindV (pBin P BinOp.neq 3 true v92n234 (Value.int IntKind.i64 0) w235) fun v94n236 w237 =>
condE v94n236 (fun (K238 : KT) =>
K238 .ret (Env.put (Env.put (Env.put (Env.put (Env.put (Env.put (Env.put (Env.put (Env.put (Env.put (Env.put e222 87 v87n224) 88 v88n226) 89 v89n228) 90 v90n230) 91 (e222 4)) 92 v92n234) 5 v92n234) 93 v92n234) 94 v94n236) 95 v92n234) 2 v92n234) w237) (fun (K238 : KT) =>
K238 .normal (Env.put (Env.put (Env.put (Env.put (Env.put (Env.put (Env.put (Env.put (Env.put e222 87 v87n224) 88 v88n226) 89 v89n228) 90 v90n230) 91 (e222 4)) 92 v92n234) 5 v92n234) 93 v92n234) 94 v94n236) w237) (blockK 1 (thenK (fun e239 w240 =>
bindV (pBin P BinOp.add 3 true (e239 4) (Value.int IntKind.i64 1) w240) fun v86n241 w242 =>
K .normal (Env.put (Env.put (Env.put e239 85 (e239 4)) 86 v86n241) 4 v86n241) w242) K))) (fun c232 w233 => K (.panic c232) (Env.put (Env.put (Env.put (Env.put (Env.put e222 87 v87n224) 88 v88n226) 89 v89n228) 90 v90n230) 91 (e222 4)) w233)) K)
def F32 (a0 : Value) (w : World) (R : Ending → World → Prop) : Prop :=
bindV (pBox P 25 a0 w) fun v1n1 w2 =>
bindV (pFieldAddr P 25 v1n1 0 w2) fun v6n3 w4 =>
bindV (pLoad P 3 v6n3 w4) fun v7n5 w6 =>
bindV (pBin P BinOp.lss 3 true v7n5 (Value.int IntKind.i64 1) w6) fun v8n7 w8 =>
grdE v8n7 false (fun (k9 : Value → World → Prop) => bindV (pFieldAddr P 25 v1n1 0 w8) k9) (fun v10n10 w11 =>
grdE v8n7 false (fun (k12 : Value → World → Prop) => bindV (pLoad P 3 v10n10 w11) k12) (fun v11n13 w14 =>
grdE v8n7 false (fun (k15 : Value → World → Prop) => bindV (pBin P BinOp.gtr 3 true v11n13 (Value.int IntKind.i64 9) w14) k15) (fun v12n16 w17 =>
pickE v8n7 (Value.bool true) v12n16 fun v13n18 =>
condE v13n18 (fun (K19 : KT) =>
K19 .ret (Env.put (Env.put (Env.put (Env.put (Env.put (Env.put (Env.put (Env.put (Env.put (Env.put (Env.put (argE [a0]) 1 v1n1) 2 (Value.int IntKind.i64 0)) 6 v6n3) 7 v7n5) 8 v8n7) 9 v8n7) 10 v10n10) 11 v11n13) 12 v12n16) 13 v13n18) 2 (Value.int IntKind.i64 5)) w17) (fun (K19 : KT) =>
K19 .normal (Env.put (Env.put (Env.put (Env.put (Env.put (Env.put (Env.put (Env.put (Env.put (Env.put (argE [a0]) 1 v1n1) 2 (Value.int IntKind.i64 0)) 6 v6n3) 7 v7n5) 8 v8n7) 9 v8n7) 10 v10n10) 11 v11n13) 12 v12n16) 13 v13n18) w17) (thenK (fun e20 w21 =>
takeE (fun w24 => pLoad P 25 (e20 1) w24) (drew w21) fun v14n22 h23 =>
takeE (fun w27 => pFieldAddr P 25 (e20 1) 0 w27) (drew w21) fun v15n25 h26 =>
takeE (fun w30 => pLoad P 3 v15n25 w30) (drew w21) fun v16n28 h29 =>
callE P 64 #[v16n28] (drew w21) (fun v17n34 w35 =>
heldE [h23] w35 (callE P 63 #[v14n22, v17n34] w35 (fun v18n39 w40 =>
takeE (fun w43 => pUn P UnOp.not v18n39 w43) w40 fun v19n41 h42 =>
condE v19n41 (fun (K44 : KT) =>
K44 .ret (Env.put (Env.put (Env.put (Env.put (Env.put (Env.put (Env.put e20 14 v14n22) 15 v15n25) 16 v16n28) 17 v17n34) 18 v18n39) 19 v19n41) 2 (Value.int IntKind.i64 4)) w40) (fun (K44 : KT) =>
K44 .normal (Env.put (Env.put (Env.put (Env.put (Env.put (Env.put e20 14 v14n22) 15 v15n25) 16 v16n28) 17 v17n34) 18 v18n39) 19 v19n41) w40) (thenK (fun e45 w46 =>
bindV (pFieldAddr P 25 (e45 1) 0 w46) fun v20n47 w48 =>
bindV (pLoad P 3 v20n47 w48) fun v21n49 w50 =>
bindV (pBin P BinOp.eql 3 true v21n49 (Value.int IntKind.i64 1) w50) fun v22n51 w52 =>
grdE v22n51 true (fun (k53 : Value → World → Prop) => bindV (pFieldAddr P 25 (e45 1) 6 w52) k53) (fun v24n54 w55 =>
grdE v22n51 true (fun (k56 : Value → World → Prop) => bindV (pLoad P 9 v24n54 w55) k56) (fun v25n57 w58 =>
grdE v22n51 true (fun (k59 : Value → World → Prop) => bindV (pBuiltin P Builtin.len #[9] 3 [v25n57] w58) k59) (fun v26n60 w61 =>
grdE v22n51 true (fun (k62 : Value → World → Prop) => bindV (pBin P BinOp.gtr 3 true v26n60 (Value.int IntKind.i64 64) w61) k62) (fun v27n63 w64 =>
pickE v22n51 v27n63 (Value.bool false) fun v28n65 =>
condE v28n65 (fun (K66 : KT) =>
K66 .ret (Env.put (Env.put (Env.put (Env.put (Env.put (Env.put (Env.put (Env.put (Env.put (Env.put e45 20 v20n47) 21 v21n49) 22 v22n51) 23 v22n51) 24 v24n54) 25 v25n57) 26 v26n60) 27 v27n63) 28 v28n65) 2 (Value.int IntKind.i64 3)) w64) (fun (K66 : KT) =>
K66 .normal (Env.put (Env.put (Env.put (Env.put (Env.put (Env.put (Env.put (Env.put (Env.put e45 20 v20n47) 21 v21n49) 22 v22n51) 23 v22n51) 24 v24n54) 25 v25n57) 26 v26n60) 27 v27n63) 28 v28n65) w64) (thenK (fun e67 w68 =>
bindV (pFieldAddr P 25 (e67 1) 0 w68) fun v29n69 w70 =>
bindV (pLoad P 3 v29n69 w70) fun v30n71 w72 =>
bindV (pBin P BinOp.eql 3 true v30n71 (Value.int IntKind.i64 4) w72) fun v31n73 w74 =>
grdE v31n73 true (fun (k75 : Value → World → Prop) => bindV (pFieldAddr P 25 (e67 1) 2 w74) k75) (fun v33n76 w77 =>
grdE v31n73 true (fun (k78 : Value → World → Prop) => bindV (pLoad P 2 v33n76 w77) k78) (fun v34n79 w80 =>
grdE v31n73 true (fun (k81 : Value → World → Prop) => k81 (Value.int IntKind.i64 2305843009213693952) w80) (fun v35n82 w83 =>
grdE v31n73 true (fun (k84 : Value → World → Prop) => bindV (pUn P UnOp.neg v35n82 w83) k84) (fun v36n85 w86 =>
grdE v31n73 true (fun (k87 : Value → World → Prop) => bindV (pBin P BinOp.lss 2 false v34n79 v36n85 w86) k87) (fun v37n88 w89 =>
grdE v31n73 true (fun (k90 : Value → World → Prop) => k90 v37n88 w89) (fun v38n91 w92 =>
grdE v38n91 false (fun (k93 : Value → World → Prop) => bindV (pFieldAddr P 25 (e67 1) 3 w92) k93) (fun v39n94 w95 =>
grdE v38n91 false (fun (k96 : Value → World → Prop) => bindV (pLoad P 2 v39n94 w95) k96) (fun v40n97 w98 =>
grdE v38n91 false (fun (k99 : Value → World → Prop) => k99 (Value.int IntKind.i64 2305843009213693952) w98) (fun v41n100 w101 =>
grdE v38n91 false (fun (k102 : Value → World → Prop) => bindV (pBin P BinOp.gtr 2 false v40n97 v41n100 w101) k102) (fun v42n103 w104 =>
grdE v31n73 true (fun (k105 : Value → World → Prop) => pickE v38n91 (Value.bool true) v42n103 fun v43n106 =>
k105 v43n106 w104) (fun v43n107 w108 =>
grdE v31n73 true (fun (k109 : Value → World → Prop) => k109 v43n107 w108) (fun v44n110 w111 =>
grdE v44n110 false (fun (k112 : Value → World → Prop) => bindV (pFieldAddr P 25 (e67 1) 1 w111) k112) (fun v45n113 w114 =>
grdE v44n110 false (fun (k115 : Value → World → Prop) => bindV (pLoad P 2 v45n113 w114) k115) (fun v46n116 w117 =>
grdE v44n110 false (fun (k118 : Value → World → Prop) => bindV (pFieldAddr P 25 (e67 1) 2 w117) k118) (fun v47n119 w120 =>
grdE v44n110 false (fun (k121 : Value → World → Prop) => bindV (pLoad P 2 v47n119 w120) k121) (fun v48n122 w123 =>
grdE v44n110 false (fun (k124 : Value → World → Prop) => bindV (pBin P BinOp.lss 2 false v46n116 v48n122 w123) k124) (fun v49n125 w126 =>
grdE v31n73 true (fun (k127 : Value → World → Prop) => pickE v44n110 (Value.bool true) v49n125 fun v50n128 =>
k127 v50n128 w126) (fun v50n129 w130 =>
grdE v31n73 true (fun (k131 : Value → World → Prop) => k131 v50n129 w130) (fun v51n132 w133 =>
grdE v51n132 false (fun (k134 : Value → World → Prop) => bindV (pFieldAddr P 25 (e67 1) 1 w133) k134) (fun v52n135 w136 =>
grdE v51n132 false (fun (k137 : Value → World → Prop) => bindV (pLoad P 2 v52n135 w136) k137) (fun v53n138 w139 =>
grdE v51n132 false (fun (k140 : Value → World → Prop) => bindV (pFieldAddr P 25 (e67 1) 3 w139) k140) (fun v54n141 w142 =>
grdE v51n132 false (fun (k143 : Value → World → Prop) => bindV (pLoad P 2 v54n141 w142) k143) (fun v55n144 w145 =>
grdE v51n132 false (fun (k146 : Value → World → Prop) => bindV (pBin P BinOp.gtr 2 false v53n138 v55n144 w145) k146) (fun v56n147 w148 =>
grdE v31n73 true (fun (k149 : Value → World → Prop) => pickE v51n132 (Value.bool true) v56n147 fun v57n150 =>
k149 v57n150 w148) (fun v57n151 w152 =>
pickE v31n73 v57n151 (Value.bool false) fun v58n153 =>
condE v58n153 (fun (K154 : KT) =>
K154 .ret (Env.put (Env.put (Env.put (Env.put (Env.put (Env.put (Env.put (Env.put (Env.put (Env.put (Env.put (Env.put (Env.put (Env.put (Env.put (Env.put (Env.put (Env.put (Env.put (Env.put (Env.put (Env.put (Env.put (Env.put (Env.put (Env.put (Env.put (Env.put (Env.put (Env.put (Env.put (Env.put e67 3 (Value.int IntKind.i64 2305843009213693952)) 29 v29n69) 30 v30n71) 31 v31n73) 32 v31n73) 33 v33n76) 34 v34n79) 35 v35n82) 36 v36n85) 37 v37n88) 38 v38n91) 39 v39n94) 40 v40n97) 41 v41n100) 42 v42n103) 43 v43n107) 44 v44n110) 45 v45n113) 46 v46n116) 47 v47n119) 48 v48n122) 49 v49n125) 50 v50n129) 51 v51n132) 52 v52n135) 53 v53n138) 54 v54n141) 55 v55n144) 56 v56n147) 57 v57n151) 58 v58n153) 2 (Value.int IntKind.i64 1)) w152) (fun (K154 : KT) =>
K154 .normal (Env.put (Env.put (Env.put (Env.put (Env.put (Env.put (Env.put (Env.put (Env.put (Env.put (Env.put (Env.put (Env.put (Env.put (Env.put (Env.put (Env.put (Env.put (Env.put (Env.put (Env.put (Env.put (Env.put (Env.put (Env.put (Env.put (Env.put (Env.put (Env.put (Env.put (Env.put e67 3 (Value.int IntKind.i64 2305843009213693952)) 29 v29n69) 30 v30n71) 31 v31n73) 32 v31n73) 33 v33n76) 34 v34n79) 35 v35n82) 36 v36n85) 37 v37n88) 38 v38n91) 39 v39n94) 40 v40n97) 41 v41n100) 42 v42n103) 43 v43n107) 44 v44n110) 45 v45n113) 46 v46n116) 47 v47n119) 48 v48n122) 49 v49n125) 50 v50n129) 51 v51n132) 52 v52n135) 53 v53n138) 54 v54n141) 55 v55n144) 56 v56n147) 57 v57n151) 58 v58n153) w152) (thenK (fun e155 w156 =>
bindV (pFieldAddr P 25 (e155 1) 4 w156) fun v59n157 w158 =>
bindV (pLoad P 22 v59n157 w158) fun v60n159 w160 =>
callE P 31 #[v60n159] w160 (fun v61n163 w164 =>
bindV (pUn P UnOp.not v61n163 w164) fun v62n165 w166 =>
condE v62n165 (fun (K167 : KT) =>
K167 .ret (Env.put (Env.put (Env.put (Env.put (Env.put e155 59 v59n157) 60 v60n159) 61 v61n163) 62 v62n165) 2 (Value.int IntKind.i64 4)) w166) (fun (K167 : KT) =>
K167 .normal (Env.put (Env.put (Env.put (Env.put e155 59 v59n157) 60 v60n159) 61 v61n163) 62 v62n165) w166) (thenK (fun e168 w169 =>
bindV (pFieldAddr P 25 (e168 1) 0 w169) fun v63n170 w171 =>
bindV (pLoad P 3 v63n170 w171) fun v64n172 w173 =>
bindV (pBin P BinOp.lss 3 true v64n172 (Value.int IntKind.i64 8) w173) fun v65n174 w175 =>
condE v65n174 (fun (K176 : KT) =>
K176 .ret (Env.put (Env.put (Env.put (Env.put e168 63 v63n170) 64 v64n172) 65 v65n174) 2 (Value.int IntKind.i64 0)) w175) (fun (K176 : KT) =>
K176 .normal (Env.put (Env.put (Env.put e168 63 v63n170) 64 v64n172) 65 v65n174) w175) (thenK (fun e177 w178 =>
bindV (pFieldAddr P 25 (e177 1) 5 w178) fun v66n179 w180 =>
bindV (pLoad P 3 v66n179 w180) fun v67n181 w182 =>
bindV (pBin P BinOp.lss 3 true v67n181 (Value.int IntKind.i64 1) w182) fun v68n183 w184 =>
grdE v68n183 false (fun (k185 : Value → World → Prop) => bindV (pFieldAddr P 25 (e177 1) 5 w184) k185) (fun v70n186 w187 =>
grdE v68n183 false (fun (k188 : Value → World → Prop) => bindV (pLoad P 3 v70n186 w187) k188) (fun v71n189 w190 =>
grdE v68n183 false (fun (k191 : Value → World → Prop) => bindV (pBin P BinOp.gtr 3 true v71n189 (Value.int IntKind.i64 32) w190) k191) (fun v72n192 w193 =>
pickE v68n183 (Value.bool true) v72n192 fun v73n194 =>
condE v73n194 (fun (K195 : KT) =>
K195 .ret (Env.put (Env.put (Env.put (Env.put (Env.put (Env.put (Env.put (Env.put (Env.put e177 66 v66n179) 67 v67n181) 68 v68n183) 69 v68n183) 70 v70n186) 71 v71n189) 72 v72n192) 73 v73n194) 2 (Value.int IntKind.i64 1)) w193) (fun (K195 : KT) =>
K195 .normal (Env.put (Env.put (Env.put (Env.put (Env.put (Env.put (Env.put (Env.put e177 66 v66n179) 67 v67n181) 68 v68n183) 69 v68n183) 70 v70n186) 71 v71n189) 72 v72n192) 73 v73n194) w193) (thenK (fun e196 w197 =>
bindV (pFieldAddr P 25 (e196 1) 7 w197) fun v74n198 w199 =>
bindV (pLoad P 23 v74n198 w199) fun v75n200 w201 =>
bindV (pBuiltin P Builtin.len #[23] 3 [v75n200] w201) fun v76n202 w203 =>
bindV (pFieldAddr P 25 (e196 1) 5 w203) fun v77n204 w205 =>
bindV (pLoad P 3 v77n204 w205) fun v78n206 w207 =>
bindV (pBin P BinOp.gtr 3 false v76n202 v78n206 w207) fun v79n208 w209 =>
condE v79n208 (fun (K210 : KT) =>
K210 .ret (Env.put (Env.put (Env.put (Env.put (Env.put (Env.put (Env.put e196 74 v74n198) 75 v75n200) 76 v76n202) 77 v77n204) 78 v78n206) 79 v79n208) 2 (Value.int IntKind.i64 8)) w209) (fun (K210 : KT) =>
K210 .normal (Env.put (Env.put (Env.put (Env.put (Env.put (Env.put e196 74 v74n198) 75 v75n200) 76 v76n202) 77 v77n204) 78 v78n206) 79 v79n208) w209) (thenK (fun e211 w212 =>
loopE F32B0 (Env.put e211 4 (Value.int IntKind.i64 0)) w212 (blockK 0 (thenK (fun e243 w244 =>
R (.returned (Value.int IntKind.i64 0)) w244) (topK P [(ResultVar.tmp 2)] R)))) (topK P [(ResultVar.tmp 2)] R))) (topK P [(ResultVar.tmp 2)] R))) w190) w187) w184) (topK P [(ResultVar.tmp 2)] R))) (topK P [(ResultVar.tmp 2)] R))) (fun c161 w162 => R (.panicked c161) w162)) (topK P [(ResultVar.tmp 2)] R))) w148) w145) w142) w139) w136) w133) w130) w126) w123) w120) w117) w114) w111) w108) w104) w101) w98) w95) w92) w89) w86) w83) w80) w77) w74) (topK P [(ResultVar.tmp 2)] R))) w61) w58) w55) w52) (topK P [(ResultVar.tmp 2)] R))) (fun c37 w38 => ∀ (e36 : Env), agreeOff [14, 15, 16, 17] (Env.put (Env.put (Env.put (Env.put e20 14 v14n22) 15 v15n25) 16 v16n28) 17 v17n34) e36 → R (.panicked c37) w38))) (fun c32 w33 => ∀ (e31 : Env), agreeOff [14, 15, 16] (Env.put (Env.put (Env.put e20 14 v14n22) 15 v15n25) 16 v16n28) e31 → R (.panicked c32) w33)) (topK P [(ResultVar.tmp 2)] R))) w14) w11) w8
theorem F32ok {w : World} {R : Ending → World → Prop} {a0 : Value} (h : F32 a0 w R) : Calls P 32 #[a0] w R :=
  calls_of_ev bodies mixed (c := bodyOf Tryd.f32) (nt := 96) (rs := [(ResultVar.tmp 2)]) (args := [a0]) (fn := Tryd.f32) (by kernel_rfl) (by kernel_rfl) (by kernel_rfl) (by kernel_rfl) (by kernel_rfl) (by simp)
    (eq_mp (show F32 a0 w R = ev P C (bodyOf Tryd.f32) (argE [a0]) w (topK P [(ResultVar.tmp 2)] R) by kernel_rfl) h)

/-! ### moiety/rec.Same -/
def F34 (a0 : Value) (a1 : Value) (w : World) (R : Ending → World → Prop) : Prop :=
bindV (pBox P 25 a0 w) fun v2n1 w2 =>
bindV (pBox P 25 a1 w2) fun v3n3 w4 =>
bindV (pFieldAddr P 25 v2n1 0 w4) fun v5n5 w6 =>
bindV (pLoad P 3 v5n5 w6) fun v6n7 w8 =>
bindV (pFieldAddr P 25 v3n3 0 w8) fun v7n9 w10 =>
bindV (pLoad P 3 v7n9 w10) fun v8n11 w12 =>
bindV (pBin P BinOp.eql 3 false v6n7 v8n11 w12) fun v9n13 w14 =>
grdE v9n13 true (fun (k15 : Value → World → Prop) => bindV (pFieldAddr P 25 v2n1 1 w14) k15) (fun v11n16 w17 =>
grdE v9n13 true (fun (k18 : Value → World → Prop) => bindV (pLoad P 2 v11n16 w17) k18) (fun v12n19 w20 =>
grdE v9n13 true (fun (k21 : Value → World → Prop) => bindV (pFieldAddr P 25 v3n3 1 w20) k21) (fun v13n22 w23 =>
grdE v9n13 true (fun (k24 : Value → World → Prop) => bindV (pLoad P 2 v13n22 w23) k24) (fun v14n25 w26 =>
grdE v9n13 true (fun (k27 : Value → World → Prop) => bindV (pBin P BinOp.eql 2 false v12n19 v14n25 w26) k27) (fun v15n28 w29 =>
pickE v9n13 v15n28 (Value.bool false) fun v16n30 =>
grdE v16n30 true (fun (k31 : Value → World → Prop) => bindV (pFieldAddr P 25 v2n1 2 w29) k31) (fun v18n32 w33 =>
grdE v16n30 true (fun (k34 : Value → World → Prop) => bindV (pLoad P 2 v18n32 w33) k34) (fun v19n35 w36 =>
grdE v16n30 true (fun (k37 : Value → World → Prop) => bindV (pFieldAddr P 25 v3n3 2 w36) k37) (fun v20n38 w39 =>
grdE v16n30 true (fun (k40 : Value → World → Prop) => bindV (pLoad P 2 v20n38 w39) k40) (fun v21n41 w42 =>
grdE v16n30 true (fun (k43 : Value → World → Prop) => bindV (pBin P BinOp.eql 2 false v19n35 v21n41 w42) k43) (fun v22n44 w45 =>
pickE v16n30 v22n44 (Value.bool false) fun v23n46 =>
grdE v23n46 true (fun (k47 : Value → World → Prop) => bindV (pFieldAddr P 25 v2n1 3 w45) k47) (fun v25n48 w49 =>
grdE v23n46 true (fun (k50 : Value → World → Prop) => bindV (pLoad P 2 v25n48 w49) k50) (fun v26n51 w52 =>
grdE v23n46 true (fun (k53 : Value → World → Prop) => bindV (pFieldAddr P 25 v3n3 3 w52) k53) (fun v27n54 w55 =>
grdE v23n46 true (fun (k56 : Value → World → Prop) => bindV (pLoad P 2 v27n54 w55) k56) (fun v28n57 w58 =>
grdE v23n46 true (fun (k59 : Value → World → Prop) => bindV (pBin P BinOp.eql 2 false v26n51 v28n57 w58) k59) (fun v29n60 w61 =>
pickE v23n46 v29n60 (Value.bool false) fun v30n62 =>
grdE v30n62 true (fun (k63 : Value → World → Prop) => bindV (pFieldAddr P 25 v2n1 4 w61) k63) (fun v32n64 w65 =>
grdE v30n62 true (fun (k66 : Value → World → Prop) => bindV (pLoad P 22 v32n64 w65) k66) (fun v33n67 w68 =>
grdE v30n62 true (fun (k69 : Value → World → Prop) => bindV (pFieldAddr P 25 v3n3 4 w68) k69) (fun v34n70 w71 =>
grdE v30n62 true (fun (k72 : Value → World → Prop) => bindV (pLoad P 22 v34n70 w71) k72) (fun v35n73 w74 =>
grdE v30n62 true (fun (k75 : Value → World → Prop) => callE P 33 #[v33n67, v35n73] w74 k75 (fun c76 w77 => R (.panicked c76) w77)) (fun v36n78 w79 =>
pickE v30n62 v36n78 (Value.bool false) fun v37n80 =>
grdE v37n80 true (fun (k81 : Value → World → Prop) => bindV (pFieldAddr P 25 v2n1 5 w79) k81) (fun v39n82 w83 =>
grdE v37n80 true (fun (k84 : Value → World → Prop) => bindV (pLoad P 3 v39n82 w83) k84) (fun v40n85 w86 =>
grdE v37n80 true (fun (k87 : Value → World → Prop) => bindV (pFieldAddr P 25 v3n3 5 w86) k87) (fun v41n88 w89 =>
grdE v37n80 true (fun (k90 : Value → World → Prop) => bindV (pLoad P 3 v41n88 w89) k90) (fun v42n91 w92 =>
grdE v37n80 true (fun (k93 : Value → World → Prop) => bindV (pBin P BinOp.eql 3 false v40n85 v42n91 w92) k93) (fun v43n94 w95 =>
pickE v37n80 v43n94 (Value.bool false) fun v44n96 =>
grdE v44n96 true (fun (k97 : Value → World → Prop) => bindV (pFieldAddr P 25 v2n1 6 w95) k97) (fun v46n98 w99 =>
grdE v44n96 true (fun (k100 : Value → World → Prop) => bindV (pLoad P 9 v46n98 w99) k100) (fun v47n101 w102 =>
grdE v44n96 true (fun (k103 : Value → World → Prop) => bindV (pFieldAddr P 25 v3n3 6 w102) k103) (fun v48n104 w105 =>
grdE v44n96 true (fun (k106 : Value → World → Prop) => bindV (pLoad P 9 v48n104 w105) k106) (fun v49n107 w108 =>
grdE v44n96 true (fun (k109 : Value → World → Prop) => bindV (pBin P BinOp.eql 9 false v47n101 v49n107 w108) k109) (fun v50n110 w111 =>
pickE v44n96 v50n110 (Value.bool false) fun v51n112 =>
grdE v51n112 true (fun (k113 : Value → World → Prop) => bindV (pFieldAddr P 25 v2n1 7 w111) k113) (fun v53n114 w115 =>
grdE v51n112 true (fun (k116 : Value → World → Prop) => bindV (pLoad P 23 v53n114 w115) k116) (fun v54n117 w118 =>
grdE v51n112 true (fun (k119 : Value → World → Prop) => bindV (pFieldAddr P 25 v3n3 7 w118) k119) (fun v55n120 w121 =>
grdE v51n112 true (fun (k122 : Value → World → Prop) => bindV (pLoad P 23 v55n120 w121) k122) (fun v56n123 w124 =>
grdE v51n112 true (fun (k125 : Value → World → Prop) => callE P 67 #[v54n117, v56n123, (Value.func (.func 68) #[] #[])] w124 k125 (fun c126 w127 => R (.panicked c126) w127)) (fun v57n128 w129 =>
pickE v51n112 v57n128 (Value.bool false) fun v58n130 =>
R (.returned v58n130) w129) w124) w121) w118) w115) w111) w108) w105) w102) w99) w95) w92) w89) w86) w83) w79) w74) w71) w68) w65) w61) w58) w55) w52) w49) w45) w42) w39) w36) w33) w29) w26) w23) w20) w17) w14
theorem F34ok {w : World} {R : Ending → World → Prop} {a0 : Value} {a1 : Value} (h : F34 a0 a1 w R) : Calls P 34 #[a0, a1] w R :=
  calls_of_ev bodies mixed (c := bodyOf Tryd.f34) (nt := 59) (rs := [(ResultVar.tmp 4)]) (args := [a0, a1]) (fn := Tryd.f34) (by kernel_rfl) (by kernel_rfl) (by kernel_rfl) (by kernel_rfl) (by kernel_rfl) (by simp)
    (eq_mp (show F34 a0 a1 w R = ev P C (bodyOf Tryd.f34) (argE [a0, a1]) w (topK P [(ResultVar.tmp 4)] R) by kernel_rfl) h)

/-! ### moiety/rec.shaped -/
def F56 (a0 : Value) (w : World) (R : Ending → World → Prop) : Prop :=
bindV (pAlloc P 108 w) fun v2n1 w2 =>
bindV (pBin P BinOp.eql 3 true a0 (Value.int IntKind.i64 1) w2) fun v5n3 w4 =>
condE v5n3 (fun (K5 : KT) =>
bindV (pBuild P 108 [(0, (Value.bool true))] w4) fun v6n6 w7 =>
bindU (pStore P 108 v2n1 v6n6 w7) fun w8 =>
K5 .ret (Env.put (Env.put (Env.put (Env.put (Env.put (argE [a0]) 2 v2n1) 3 a0) 5 v5n3) 4 v5n3) 6 v6n6) w8) (fun (K5 : KT) =>
bindV (pBin P BinOp.eql 3 true a0 (Value.int IntKind.i64 2) w4) fun v8n9 w10 =>
condE v8n9 (fun (K11 : KT) =>
K11 .normal (Env.put (Env.put (Env.put (Env.put (Env.put (Env.put (argE [a0]) 2 v2n1) 3 a0) 5 v5n3) 4 v5n3) 8 v8n9) 7 v8n9) w10) (fun (K11 : KT) =>
bindV (pBin P BinOp.eql 3 true a0 (Value.int IntKind.i64 3) w10) fun v9n12 w13 =>
K11 .normal (Env.put (Env.put (Env.put (Env.put (Env.put (Env.put (Env.put (Env.put (argE [a0]) 2 v2n1) 3 a0) 5 v5n3) 4 v5n3) 8 v8n9) 7 v8n9) 9 v9n12) 7 v9n12) w13) (thenK (fun e14 w15 =>
condE (e14 7) (fun (K16 : KT) =>
bindV (pBuild P 108 [(1, (Value.bool true))] w15) fun v10n17 w18 =>
bindU (pStore P 108 (e14 2) v10n17 w18) fun w19 =>
K16 .ret (Env.put e14 10 v10n17) w19) (fun (K16 : KT) =>
bindV (pBin P BinOp.eql 3 true (e14 3) (Value.int IntKind.i64 4) w15) fun v12n20 w21 =>
condE v12n20 (fun (K22 : KT) =>
bindV (pBuild P 108 [(1, (Value.bool true)), (2, (Value.bool true))] w21) fun v13n23 w24 =>
bindU (pStore P 108 (e14 2) v13n23 w24) fun w25 =>
K22 .ret (Env.put (Env.put (Env.put e14 12 v12n20) 11 v12n20) 13 v13n23) w25) (fun (K22 : KT) =>
bindV (pBin P BinOp.eql 3 true (e14 3) (Value.int IntKind.i64 5) w21) fun v15n26 w27 =>
condE v15n26 (fun (K28 : KT) =>
K28 .normal (Env.put (Env.put (Env.put (Env.put e14 12 v12n20) 11 v12n20) 15 v15n26) 14 v15n26) w27) (fun (K28 : KT) =>
bindV (pBin P BinOp.eql 3 true (e14 3) (Value.int IntKind.i64 6) w27) fun v16n29 w30 =>
condE v16n29 (fun (K31 : KT) =>
K31 .normal (Env.put (Env.put (Env.put (Env.put (Env.put (Env.put e14 12 v12n20) 11 v12n20) 15 v15n26) 14 v15n26) 16 v16n29) 14 v16n29) w30) (fun (K31 : KT) =>
bindV (pBin P BinOp.eql 3 true (e14 3) (Value.int IntKind.i64 7) w30) fun v17n32 w33 =>
K31 .normal (Env.put (Env.put (Env.put (Env.put (Env.put (Env.put (Env.put (Env.put e14 12 v12n20) 11 v12n20) 15 v15n26) 14 v15n26) 16 v16n29) 14 v16n29) 17 v17n32) 14 v17n32) w33) K28) (thenK (fun e34 w35 =>
condE (e34 14) (fun (K36 : KT) =>
bindV (pBuild P 108 [(3, (Value.bool true))] w35) fun v18n37 w38 =>
bindU (pStore P 108 (e34 2) v18n37 w38) fun w39 =>
K36 .ret (Env.put e34 18 v18n37) w39) (fun (K36 : KT) =>
bindV (pBin P BinOp.eql 3 true (e34 3) (Value.int IntKind.i64 8) w35) fun v20n40 w41 =>
condE v20n40 (fun (K42 : KT) =>
K42 .normal (Env.put (Env.put e34 20 v20n40) 19 v20n40) w41) (fun (K42 : KT) =>
bindV (pBin P BinOp.eql 3 true (e34 3) (Value.int IntKind.i64 9) w41) fun v21n43 w44 =>
K42 .normal (Env.put (Env.put (Env.put (Env.put e34 20 v20n40) 19 v20n40) 21 v21n43) 19 v21n43) w44) (thenK (fun e45 w46 =>
condE (e45 19) (fun (K47 : KT) =>
bindV (pBuild P 108 [(4, (Value.bool true))] w46) fun v22n48 w49 =>
bindU (pStore P 108 (e45 2) v22n48 w49) fun w50 =>
K47 .ret (Env.put e45 22 v22n48) w50) (fun (K47 : KT) =>
K47 .normal e45 w46) K36) K36)) K22) K22)) K16) K5) K5)) (blockK 0 (thenK (fun e51 w52 =>
bindV (pBuild P 108 [] w52) fun v23n53 w54 =>
bindU (pStore P 108 (e51 2) v23n53 w54) fun w55 =>
topK P [(ResultVar.cell 2 108)] R .ret (Env.put e51 23 v23n53) w55) (topK P [(ResultVar.cell 2 108)] R)))
theorem F56ok {w : World} {R : Ending → World → Prop} {a0 : Value} (h : F56 a0 w R) : Calls P 56 #[a0] w R :=
  calls_of_ev bodies mixed (c := bodyOf Tryd.f56) (nt := 24) (rs := [(ResultVar.cell 2 108)]) (args := [a0]) (fn := Tryd.f56) (by kernel_rfl) (by kernel_rfl) (by kernel_rfl) (by kernel_rfl) (by kernel_rfl) (by simp)
    (eq_mp (show F56 a0 w R = ev P C (bodyOf Tryd.f56) (argE [a0]) w (topK P [(ResultVar.cell 2 108)] R) by kernel_rfl) h)

/-! ### moiety/rec.bare -/
def F57 (a0 : Value) (a1 : Value) (w : World) (R : Ending → World → Prop) : Prop :=
bindV (pBox P 25 a0 w) fun v2n1 w2 =>
bindV (pBox P 108 a1 w2) fun v3n3 w4 =>
bindV (pFieldAddr P 108 v3n3 0 w4) fun v5n5 w6 =>
bindV (pLoad P 4 v5n5 w6) fun v6n7 w8 =>
grdE v6n7 false (fun (k9 : Value → World → Prop) => bindV (pFieldAddr P 25 v2n1 6 w8) k9) (fun v8n10 w11 =>
grdE v6n7 false (fun (k12 : Value → World → Prop) => bindV (pLoad P 9 v8n10 w11) k12) (fun v9n13 w14 =>
grdE v6n7 false (fun (k15 : Value → World → Prop) => bindV (pBin P BinOp.eql 9 true v9n13 (Value.string { data := #[] }) w14) k15) (fun v10n16 w17 =>
pickE v6n7 (Value.bool true) v10n16 fun v11n18 =>
grdE v11n18 true (fun (k19 : Value → World → Prop) => bindV (pFieldAddr P 108 v3n3 1 w17) k19) (fun v13n20 w21 =>
grdE v11n18 true (fun (k22 : Value → World → Prop) => bindV (pLoad P 4 v13n20 w21) k22) (fun v14n23 w24 =>
grdE v11n18 true (fun (k25 : Value → World → Prop) => k25 v14n23 w24) (fun v15n26 w27 =>
grdE v15n26 false (fun (k28 : Value → World → Prop) => bindV (pFieldAddr P 25 v2n1 1 w27) k28) (fun v16n29 w30 =>
grdE v15n26 false (fun (k31 : Value → World → Prop) => bindV (pLoad P 2 v16n29 w30) k31) (fun v17n32 w33 =>
grdE v15n26 false (fun (k34 : Value → World → Prop) => bindV (pBin P BinOp.eql 2 true v17n32 (Value.int IntKind.i64 0) w33) k34) (fun v18n35 w36 =>
grdE v11n18 true (fun (k37 : Value → World → Prop) => pickE v15n26 (Value.bool true) v18n35 fun v19n38 =>
k37 v19n38 w36) (fun v19n39 w40 =>
pickE v11n18 v19n39 (Value.bool false) fun v20n41 =>
grdE v20n41 true (fun (k42 : Value → World → Prop) => bindV (pFieldAddr P 108 v3n3 2 w40) k42) (fun v22n43 w44 =>
grdE v20n41 true (fun (k45 : Value → World → Prop) => bindV (pLoad P 4 v22n43 w44) k45) (fun v23n46 w47 =>
grdE v20n41 true (fun (k48 : Value → World → Prop) => k48 v23n46 w47) (fun v24n49 w50 =>
grdE v24n49 false (fun (k51 : Value → World → Prop) => bindV (pFieldAddr P 25 v2n1 2 w50) k51) (fun v25n52 w53 =>
grdE v24n49 false (fun (k54 : Value → World → Prop) => bindV (pLoad P 2 v25n52 w53) k54) (fun v26n55 w56 =>
grdE v24n49 false (fun (k57 : Value → World → Prop) => bindV (pBin P BinOp.eql 2 true v26n55 (Value.int IntKind.i64 0) w56) k57) (fun v27n58 w59 =>
grdE v24n49 false (fun (k60 : Value → World → Prop) => k60 v27n58 w59) (fun v28n61 w62 =>
grdE v28n61 true (fun (k63 : Value → World → Prop) => bindV (pFieldAddr P 25 v2n1 3 w62) k63) (fun v29n64 w65 =>
grdE v28n61 true (fun (k66 : Value → World → Prop) => bindV (pLoad P 2 v29n64 w65) k66) (fun v30n67 w68 =>
grdE v28n61 true (fun (k69 : Value → World → Prop) => bindV (pBin P BinOp.eql 2 true v30n67 (Value.int IntKind.i64 0) w68) k69) (fun v31n70 w71 =>
grdE v24n49 false (fun (k72 : Value → World → Prop) => pickE v28n61 v31n70 (Value.bool false) fun v32n73 =>
k72 v32n73 w71) (fun v32n74 w75 =>
grdE v20n41 true (fun (k76 : Value → World → Prop) => pickE v24n49 (Value.bool true) v32n74 fun v33n77 =>
k76 v33n77 w75) (fun v33n78 w79 =>
pickE v20n41 v33n78 (Value.bool false) fun v34n80 =>
grdE v34n80 true (fun (k81 : Value → World → Prop) => bindV (pFieldAddr P 108 v3n3 3 w79) k81) (fun v36n82 w83 =>
grdE v34n80 true (fun (k84 : Value → World → Prop) => bindV (pLoad P 4 v36n82 w83) k84) (fun v37n85 w86 =>
grdE v34n80 true (fun (k87 : Value → World → Prop) => k87 v37n85 w86) (fun v38n88 w89 =>
grdE v38n88 false (fun (k90 : Value → World → Prop) => bindV (pFieldAddr P 25 v2n1 4 w89) k90) (fun v39n91 w92 =>
grdE v38n88 false (fun (k93 : Value → World → Prop) => bindV (pLoad P 22 v39n91 w92) k93) (fun v40n94 w95 =>
grdE v38n88 false (fun (k96 : Value → World → Prop) => callE P 33 #[v40n94, (Value.float FloatKind.f64 0)] w95 k96 (fun c97 w98 => R (.panicked c97) w98)) (fun v41n99 w100 =>
grdE v34n80 true (fun (k101 : Value → World → Prop) => pickE v38n88 (Value.bool true) v41n99 fun v42n102 =>
k101 v42n102 w100) (fun v42n103 w104 =>
pickE v34n80 v42n103 (Value.bool false) fun v43n105 =>
grdE v43n105 true (fun (k106 : Value → World → Prop) => bindV (pFieldAddr P 108 v3n3 4 w104) k106) (fun v45n107 w108 =>
grdE v43n105 true (fun (k109 : Value → World → Prop) => bindV (pLoad P 4 v45n107 w108) k109) (fun v46n110 w111 =>
grdE v43n105 true (fun (k112 : Value → World → Prop) => k112 v46n110 w111) (fun v47n113 w114 =>
grdE v47n113 false (fun (k115 : Value → World → Prop) => bindV (pFieldAddr P 25 v2n1 5 w114) k115) (fun v48n116 w117 =>
grdE v47n113 false (fun (k118 : Value → World → Prop) => bindV (pLoad P 3 v48n116 w117) k118) (fun v49n119 w120 =>
grdE v47n113 false (fun (k121 : Value → World → Prop) => bindV (pBin P BinOp.eql 3 true v49n119 (Value.int IntKind.i64 0) w120) k121) (fun v50n122 w123 =>
grdE v47n113 false (fun (k124 : Value → World → Prop) => k124 v50n122 w123) (fun v51n125 w126 =>
grdE v51n125 true (fun (k127 : Value → World → Prop) => bindV (pFieldAddr P 25 v2n1 7 w126) k127) (fun v52n128 w129 =>
grdE v51n125 true (fun (k130 : Value → World → Prop) => bindV (pLoad P 23 v52n128 w129) k130) (fun v53n131 w132 =>
grdE v51n125 true (fun (k133 : Value → World → Prop) => bindV (pBuiltin P Builtin.len #[23] 3 [v53n131] w132) k133) (fun v54n134 w135 =>
grdE v51n125 true (fun (k136 : Value → World → Prop) => bindV (pBin P BinOp.eql 3 true v54n134 (Value.int IntKind.i64 0) w135) k136) (fun v55n137 w138 =>
grdE v47n113 false (fun (k139 : Value → World → Prop) => pickE v51n125 v55n137 (Value.bool false) fun v56n140 =>
k139 v56n140 w138) (fun v56n141 w142 =>
grdE v43n105 true (fun (k143 : Value → World → Prop) => pickE v47n113 (Value.bool true) v56n141 fun v57n144 =>
k143 v57n144 w142) (fun v57n145 w146 =>
pickE v43n105 v57n145 (Value.bool false) fun v58n147 =>
R (.returned v58n147) w146) w142) w138) w135) w132) w129) w126) w123) w120) w117) w114) w111) w108) w104) w100) w95) w92) w89) w86) w83) w79) w75) w71) w68) w65) w62) w59) w56) w53) w50) w47) w44) w40) w36) w33) w30) w27) w24) w21) w17) w14) w11) w8
theorem F57ok {w : World} {R : Ending → World → Prop} {a0 : Value} {a1 : Value} (h : F57 a0 a1 w R) : Calls P 57 #[a0, a1] w R :=
  calls_of_ev bodies mixed (c := bodyOf Tryd.f57) (nt := 59) (rs := [(ResultVar.tmp 4)]) (args := [a0, a1]) (fn := Tryd.f57) (by kernel_rfl) (by kernel_rfl) (by kernel_rfl) (by kernel_rfl) (by kernel_rfl) (by simp)
    (eq_mp (show F57 a0 a1 w R = ev P C (bodyOf Tryd.f57) (argE [a0, a1]) w (topK P [(ResultVar.tmp 4)] R) by kernel_rfl) h)

/-! ### moiety/rec.items -/
def F58B0 (e : Env) (w : World) (K : KT) : Prop :=
bindV (pBin P BinOp.lss 3 false (e 9) (e 8) w) fun v10n3 w4 =>
condE v10n3 (fun (K5 : KT) =>
K5 .normal (Env.put e 10 v10n3) w4) (fun (K5 : KT) =>
K5 (.exit 0) (Env.put e 10 v10n3) w4) (thenK (fun e6 w7 =>
bindV (pIndexAddr P 23 (e6 7) (e6 9) w7) fun v12n8 w9 =>
bindV (pLoad P 80 v12n8 w9) fun v13n10 w11 =>
bindV (pAlloc P 80 w11) fun v6n12 w13 =>
bindU (pStore P 80 v6n12 v13n10 w13) fun w14 =>
bindV (pFieldAddr P 80 v6n12 1 w14) fun v15n15 w16 =>
bindV (pLoad P 9 v15n15 w16) fun v16n17 w18 =>
bindV (pBuiltin P Builtin.len #[9] 3 [v16n17] w18) fun v17n19 w20 =>
bindV (pBin P BinOp.gtr 3 true v17n19 (Value.int IntKind.i64 16) w20) fun v18n21 w22 =>
condE v18n21 (fun (K23 : KT) =>
K23 .ret (Env.put (Env.put (Env.put (Env.put (Env.put (Env.put (Env.put (Env.put (Env.put (Env.put (Env.put e6 11 (e6 9)) 12 v12n8) 13 v13n10) 6 v6n12) 5 (e6 9)) 15 v15n15) 16 v16n17) 17 v17n19) 18 v18n21) 14 v18n21) 4 (Value.int IntKind.i64 3)) w22) (fun (K23 : KT) =>
bindV (pBin P BinOp.eql 3 true (e6 0) (Value.int IntKind.i64 8) w22) fun v21n24 w25 =>
grdE v21n24 true (fun (k26 : Value → World → Prop) => bindV (pFieldAddr P 80 v6n12 0 w25) k26) (fun v23n27 w28 =>
grdE v21n24 true (fun (k29 : Value → World → Prop) => bindV (pLoad P 22 v23n27 w28) k29) (fun v24n30 w31 =>
grdE v21n24 true (fun (k32 : Value → World → Prop) => callE P 33 #[v24n30, (Value.float FloatKind.f64 0)] w31 k32 (fun c33 w34 => K23 (.panic c33) (Env.put (Env.put (Env.put (Env.put (Env.put (Env.put (Env.put (Env.put (Env.put (Env.put (Env.put (Env.put (Env.put (Env.put (Env.put e6 11 (e6 9)) 12 v12n8) 13 v13n10) 6 v6n12) 5 (e6 9)) 15 v15n15) 16 v16n17) 17 v17n19) 18 v18n21) 14 v18n21) 20 (e6 0)) 21 v21n24) 22 v21n24) 23 v23n27) 24 v24n30) w34)) (fun v25n35 w36 =>
grdE v21n24 true (fun (k37 : Value → World → Prop) => bindV (pUn P UnOp.not v25n35 w36) k37) (fun v26n38 w39 =>
pickE v21n24 v26n38 (Value.bool false) fun v27n40 =>
grdE v27n40 false (fun (k41 : Value → World → Prop) => bindV (pFieldAddr P 80 v6n12 0 w39) k41) (fun v29n42 w43 =>
grdE v27n40 false (fun (k44 : Value → World → Prop) => bindV (pLoad P 22 v29n42 w43) k44) (fun v30n45 w46 =>
grdE v27n40 false (fun (k47 : Value → World → Prop) => callE P 49 #[v30n45] w46 k47 (fun c48 w49 => K23 (.panic c48) (Env.put (Env.put (Env.put (Env.put (Env.put (Env.put (Env.put (Env.put (Env.put (Env.put (Env.put (Env.put (Env.put (Env.put (Env.put (Env.put (Env.put (Env.put (Env.put (Env.put (Env.put e6 11 (e6 9)) 12 v12n8) 13 v13n10) 6 v6n12) 5 (e6 9)) 15 v15n15) 16 v16n17) 17 v17n19) 18 v18n21) 14 v18n21) 20 (e6 0)) 21 v21n24) 22 v21n24) 23 v23n27) 24 v24n30) 25 v25n35) 26 v26n38) 27 v27n40) 28 v27n40) 29 v29n42) 30 v30n45) w49)) (fun v31n50 w51 =>
grdE v27n40 false (fun (k52 : Value → World → Prop) => bindV (pUn P UnOp.not v31n50 w51) k52) (fun v32n53 w54 =>
pickE v27n40 (Value.bool true) v32n53 fun v33n55 =>
condE v33n55 (fun (K56 : KT) =>
K56 .ret (Env.put (Env.put (Env.put (Env.put (Env.put (Env.put (Env.put (Env.put (Env.put (Env.put (Env.put (Env.put (Env.put (Env.put (Env.put (Env.put (Env.put (Env.put (Env.put (Env.put (Env.put (Env.put (Env.put (Env.put (Env.put (Env.put e6 11 (e6 9)) 12 v12n8) 13 v13n10) 6 v6n12) 5 (e6 9)) 15 v15n15) 16 v16n17) 17 v17n19) 18 v18n21) 14 v18n21) 20 (e6 0)) 21 v21n24) 22 v21n24) 23 v23n27) 24 v24n30) 25 v25n35) 26 v26n38) 27 v27n40) 28 v27n40) 29 v29n42) 30 v30n45) 31 v31n50) 32 v32n53) 33 v33n55) 19 v33n55) 4 (Value.int IntKind.i64 4)) w54) (fun (K56 : KT) =>
takeE (fun w59 => some ((e6 9), w59)) (drew w54) fun v35n57 h58 =>
takeE (fun w62 => pBin P BinOp.gtr 3 true v35n57 (Value.int IntKind.i64 0) w62) (drew w54) fun v36n60 h61 =>
takeE (fun w65 => some (v36n60, w65)) (drew w54) fun v37n63 h64 =>
takeE (fun w68 => qGrd v37n63 true (fun w68 => some ((e6 0), w68)) w68) (drew w54) fun v38n66 h67 =>
takeE (fun w71 => qGrd v37n63 true (fun w71 => pBin P BinOp.eql 3 true v38n66 (Value.int IntKind.i64 8) w71) w71) (drew w54) fun v39n69 h70 =>
takeE (fun w74 => qPick v37n63 v39n69 (Value.bool false) w74) (drew w54) fun v40n72 h73 =>
takeE (fun w77 => some (v40n72, w77)) (drew w54) fun v41n75 h76 =>
takeE (fun w80 => qGrd v41n75 true (fun w80 => some ((e6 1), w80)) w80) (drew w54) fun v42n78 h79 =>
takeE (fun w83 => qGrd v41n75 true (fun w83 => some ((e6 9), w83)) w83) (drew w54) fun v43n81 h82 =>
takeE (fun w86 => qGrd v41n75 true (fun w86 => pBin P BinOp.sub 3 true v43n81 (Value.int IntKind.i64 1) w86) w86) (drew w54) fun v44n84 h85 =>
takeE (fun w89 => qGrd v41n75 true (fun w89 => pIndexAddr P 23 v42n78 v44n84 w89) w89) (drew w54) fun v45n87 h88 =>
takeE (fun w92 => qGrd v41n75 true (fun w92 => pFieldAddr P 80 v45n87 1 w92) w92) (drew w54) fun v46n90 h91 =>
takeE (fun w95 => qGrd v41n75 true (fun w95 => pLoad P 9 v46n90 w95) w95) (drew w54) fun v47n93 h94 =>
takeE (fun w98 => qGrd v41n75 true (fun w98 => pFieldAddr P 80 v6n12 1 w98) w98) (drew w54) fun v48n96 h97 =>
takeE (fun w101 => qGrd v41n75 true (fun w101 => pLoad P 9 v48n96 w101) w101) (drew w54) fun v49n99 h100 =>
takeE (fun w104 => qGrd v41n75 true (fun w104 => pBin P BinOp.geq 9 false v47n93 v49n99 w104) w104) (drew w54) fun v50n102 h103 =>
takeE (fun w107 => qPick v41n75 v50n102 (Value.bool false) w107) (drew w54) fun v51n105 h106 =>
condE v51n105 (fun (K109 : KT) =>
K109 .ret (Env.put (Env.put (Env.put (Env.put (Env.put (Env.put (Env.put (Env.put (Env.put (Env.put (Env.put (Env.put (Env.put (Env.put (Env.put (Env.put (Env.put (Env.put (Env.put (Env.put (Env.put (Env.put (Env.put (Env.put (Env.put (Env.put (Env.put (Env.put (Env.put (Env.put (Env.put (Env.put (Env.put (Env.put (Env.put (Env.put (Env.put (Env.put (Env.put (Env.put (Env.put (Env.put (Env.put (Env.put e6 11 (e6 9)) 12 v12n8) 13 v13n10) 6 v6n12) 5 (e6 9)) 15 v15n15) 16 v16n17) 17 v17n19) 18 v18n21) 14 v18n21) 20 (e6 0)) 21 v21n24) 22 v21n24) 23 v23n27) 24 v24n30) 25 v25n35) 26 v26n38) 27 v27n40) 28 v27n40) 29 v29n42) 30 v30n45) 31 v31n50) 32 v32n53) 33 v33n55) 19 v33n55) 35 v35n57) 36 v36n60) 37 v37n63) 38 v38n66) 39 v39n69) 40 v40n72) 41 v41n75) 42 v42n78) 43 v43n81) 44 v44n84) 45 v45n87) 46 v46n90) 47 v47n93) 48 v48n96) 49 v49n99) 50 v50n102) 51 v51n105) 34 v51n105) 4 (Value.int IntKind.i64 4)) (drew w54)) (fun (K109 : KT) =>
takeE (fun w112 => some ((e6 9), w112)) (drew (drew w54)) fun v53n110 h111 =>
takeE (fun w115 => pBin P BinOp.gtr 3 true v53n110 (Value.int IntKind.i64 0) w115) (drew (drew w54)) fun v54n113 h114 =>
takeE (fun w118 => some (v54n113, w118)) (drew (drew w54)) fun v55n116 h117 =>
takeE (fun w121 => qGrd v55n116 true (fun w121 => some ((e6 0), w121)) w121) (drew (drew w54)) fun v56n119 h120 =>
takeE (fun w124 => qGrd v55n116 true (fun w124 => pBin P BinOp.eql 3 true v56n119 (Value.int IntKind.i64 9) w124) w124) (drew (drew w54)) fun v57n122 h123 =>
takeE (fun w127 => qPick v55n116 v57n122 (Value.bool false) w127) (drew (drew w54)) fun v58n125 h126 =>
takeE (fun w130 => some (v58n125, w130)) (drew (drew w54)) fun v59n128 h129 =>
takeE (fun w133 => qGrd v59n128 true (fun w133 => some ((e6 1), w133)) w133) (drew (drew w54)) fun v60n131 h132 =>
takeE (fun w136 => qGrd v59n128 true (fun w136 => some ((e6 9), w136)) w136) (drew (drew w54)) fun v61n134 h135 =>
takeE (fun w139 => qGrd v59n128 true (fun w139 => pBin P BinOp.sub 3 true v61n134 (Value.int IntKind.i64 1) w139) w139) (drew (drew w54)) fun v62n137 h138 =>
takeE (fun w142 => qGrd v59n128 true (fun w142 => pIndexAddr P 23 v60n131 v62n137 w142) w142) (drew (drew w54)) fun v63n140 h141 =>
takeE (fun w145 => qGrd v59n128 true (fun w145 => pLoad P 80 v63n140 w145) w145) (drew (drew w54)) fun v64n143 h144 =>
takeE (fun w148 => qGrd v59n128 true (fun w148 => pLoad P 80 v6n12 w148) w148) (drew (drew w54)) fun v65n146 h147 =>
grdE v59n128 true (fun (k150 : Value → World → Prop) => callE P 77 #[v64n143, v65n146] (drew (drew w54)) k150 (fun c151 w152 => ∀ (e149 : Env), agreeOff [53, 54, 55, 56, 57, 58, 59, 60, 61, 62, 63, 64, 65] (Env.put (Env.put (Env.put (Env.put (Env.put (Env.put (Env.put (Env.put (Env.put (Env.put (Env.put (Env.put (Env.put (Env.put (Env.put (Env.put (Env.put (Env.put (Env.put (Env.put (Env.put (Env.put (Env.put (Env.put (Env.put (Env.put (Env.put (Env.put (Env.put (Env.put (Env.put (Env.put (Env.put (Env.put (Env.put (Env.put (Env.put (Env.put (Env.put (Env.put (Env.put (Env.put (Env.put (Env.put (Env.put (Env.put (Env.put (Env.put (Env.put (Env.put (Env.put (Env.put (Env.put (Env.put (Env.put (Env.put e6 11 (e6 9)) 12 v12n8) 13 v13n10) 6 v6n12) 5 (e6 9)) 15 v15n15) 16 v16n17) 17 v17n19) 18 v18n21) 14 v18n21) 20 (e6 0)) 21 v21n24) 22 v21n24) 23 v23n27) 24 v24n30) 25 v25n35) 26 v26n38) 27 v27n40) 28 v27n40) 29 v29n42) 30 v30n45) 31 v31n50) 32 v32n53) 33 v33n55) 19 v33n55) 35 v35n57) 36 v36n60) 37 v37n63) 38 v38n66) 39 v39n69) 40 v40n72) 41 v41n75) 42 v42n78) 43 v43n81) 44 v44n84) 45 v45n87) 46 v46n90) 47 v47n93) 48 v48n96) 49 v49n99) 50 v50n102) 51 v51n105) 34 v51n105) 53 v53n110) 54 v54n113) 55 v55n116) 56 v56n119) 57 v57n122) 58 v58n125) 59 v59n128) 60 v60n131) 61 v61n134) 62 v62n137) 63 v63n140) 64 v64n143) 65 v65n146) e149 → K109 (.panic c151) e149 w152)) (fun v66n153 w154 =>
takeE (fun w157 => qGrd v59n128 true (fun w157 => pUn P UnOp.not v66n153 w157) w157) w154 fun v67n155 h156 =>
takeE (fun w160 => qPick v59n128 v67n155 (Value.bool false) w160) w154 fun v68n158 h159 =>
condE v68n158 (fun (K162 : KT) =>
K162 .ret (Env.put (Env.put (Env.put (Env.put (Env.put (Env.put (Env.put (Env.put (Env.put (Env.put (Env.put (Env.put (Env.put (Env.put (Env.put (Env.put (Env.put (Env.put (Env.put (Env.put (Env.put (Env.put (Env.put (Env.put (Env.put (Env.put (Env.put (Env.put (Env.put (Env.put (Env.put (Env.put (Env.put (Env.put (Env.put (Env.put (Env.put (Env.put (Env.put (Env.put (Env.put (Env.put (Env.put (Env.put (Env.put (Env.put (Env.put (Env.put (Env.put (Env.put (Env.put (Env.put (Env.put (Env.put (Env.put (Env.put (Env.put (Env.put (Env.put (Env.put (Env.put e6 11 (e6 9)) 12 v12n8) 13 v13n10) 6 v6n12) 5 (e6 9)) 15 v15n15) 16 v16n17) 17 v17n19) 18 v18n21) 14 v18n21) 20 (e6 0)) 21 v21n24) 22 v21n24) 23 v23n27) 24 v24n30) 25 v25n35) 26 v26n38) 27 v27n40) 28 v27n40) 29 v29n42) 30 v30n45) 31 v31n50) 32 v32n53) 33 v33n55) 19 v33n55) 35 v35n57) 36 v36n60) 37 v37n63) 38 v38n66) 39 v39n69) 40 v40n72) 41 v41n75) 42 v42n78) 43 v43n81) 44 v44n84) 45 v45n87) 46 v46n90) 47 v47n93) 48 v48n96) 49 v49n99) 50 v50n102) 51 v51n105) 34 v51n105) 53 v53n110) 54 v54n113) 55 v55n116) 56 v56n119) 57 v57n122) 58 v58n125) 59 v59n128) 60 v60n131) 61 v61n134) 62 v62n137) 63 v63n140) 64 v64n143) 65 v65n146) 66 v66n153) 67 v67n155) 68 v68n158) 52 v68n158) 4 (Value.int IntKind.i64 4)) w154) (fun (K162 : KT) =>
K162 .normal (Env.put (Env.put (Env.put (Env.put (Env.put (Env.put (Env.put (Env.put (Env.put (Env.put (Env.put (Env.put (Env.put (Env.put (Env.put (Env.put (Env.put (Env.put (Env.put (Env.put (Env.put (Env.put (Env.put (Env.put (Env.put (Env.put (Env.put (Env.put (Env.put (Env.put (Env.put (Env.put (Env.put (Env.put (Env.put (Env.put (Env.put (Env.put (Env.put (Env.put (Env.put (Env.put (Env.put (Env.put (Env.put (Env.put (Env.put (Env.put (Env.put (Env.put (Env.put (Env.put (Env.put (Env.put (Env.put (Env.put (Env.put (Env.put (Env.put (Env.put e6 11 (e6 9)) 12 v12n8) 13 v13n10) 6 v6n12) 5 (e6 9)) 15 v15n15) 16 v16n17) 17 v17n19) 18 v18n21) 14 v18n21) 20 (e6 0)) 21 v21n24) 22 v21n24) 23 v23n27) 24 v24n30) 25 v25n35) 26 v26n38) 27 v27n40) 28 v27n40) 29 v29n42) 30 v30n45) 31 v31n50) 32 v32n53) 33 v33n55) 19 v33n55) 35 v35n57) 36 v36n60) 37 v37n63) 38 v38n66) 39 v39n69) 40 v40n72) 41 v41n75) 42 v42n78) 43 v43n81) 44 v44n84) 45 v45n87) 46 v46n90) 47 v47n93) 48 v48n96) 49 v49n99) 50 v50n102) 51 v51n105) 34 v51n105) 53 v53n110) 54 v54n113) 55 v55n116) 56 v56n119) 57 v57n122) 58 v58n125) 59 v59n128) 60 v60n131) 61 v61n134) 62 v62n137) 63 v63n140) 64 v64n143) 65 v65n146) 66 v66n153) 67 v67n155) 68 v68n158) 52 v68n158) w154) K109) (drew (drew w54))) K56) K23) w51) w46) w43) w39) w36) w31) w28) w25) (blockK 2 (blockK 1 (thenK (fun e163 w164 =>
bindV (pBin P BinOp.add 3 true (e163 9) (Value.int IntKind.i64 1) w164) fun v69n165 w166 =>
K .normal (Env.put (Env.put e163 69 v69n165) 9 v69n165) w166) K)))) K)
def F58 (a0 : Value) (a1 : Value) (w : World) (R : Ending → World → Prop) : Prop :=
bindV (pBuiltin P Builtin.len #[23] 3 [a1] w) fun v8n1 w2 =>
loopE F58B0 (Env.put (Env.put (Env.put (Env.put (argE [a0, a1]) 4 (Value.int IntKind.i64 0)) 7 a1) 8 v8n1) 9 (Value.int IntKind.i64 0)) w2 (blockK 0 (thenK (fun e167 w168 =>
R (.returned (Value.int IntKind.i64 0)) w168) (topK P [(ResultVar.tmp 4)] R)))
theorem F58ok {w : World} {R : Ending → World → Prop} {a0 : Value} {a1 : Value} (h : F58 a0 a1 w R) : Calls P 58 #[a0, a1] w R :=
  calls_of_ev bodies mixed (c := bodyOf Tryd.f58) (nt := 70) (rs := [(ResultVar.tmp 4)]) (args := [a0, a1]) (fn := Tryd.f58) (by kernel_rfl) (by kernel_rfl) (by kernel_rfl) (by kernel_rfl) (by kernel_rfl) (by simp)
    (eq_mp (show F58 a0 a1 w R = ev P C (bodyOf Tryd.f58) (argE [a0, a1]) w (topK P [(ResultVar.tmp 4)] R) by kernel_rfl) h)

/-! ### moiety/moietyref03.only -/
def F63B0 (e : Env) (w : World) (K : KT) : Prop :=
bindV (pBuiltin P Builtin.len #[9] 3 [(e 1)] w) fun v13n3 w4 =>
bindV (pBin P BinOp.lss 3 false (e 10) v13n3 w4) fun v14n5 w6 =>
condE v14n5 (fun (K7 : KT) =>
K7 .normal (Env.put (Env.put (Env.put (Env.put e 11 (e 10)) 12 (e 1)) 13 v13n3) 14 v14n5) w6) (fun (K7 : KT) =>
K7 (.exit 0) (Env.put (Env.put (Env.put (Env.put e 11 (e 10)) 12 (e 1)) 13 v13n3) 14 v14n5) w6) (thenK (fun e8 w9 =>
grdE (e8 5) false (fun (k10 : Value → World → Prop) => k10 (e8 1) w9) (fun v19n11 w12 =>
grdE (e8 5) false (fun (k13 : Value → World → Prop) => k13 (e8 10) w12) (fun v20n14 w15 =>
grdE (e8 5) false (fun (k16 : Value → World → Prop) => bindV (pIndex P 9 v19n11 v20n14 w15) k16) (fun v21n17 w18 =>
grdE (e8 5) false (fun (k19 : Value → World → Prop) => bindV (pBin P BinOp.eql 5 true v21n17 (Value.int IntKind.u8 116) w18) k19) (fun v22n20 w21 =>
pickE (e8 5) (Value.bool true) v22n20 fun v23n22 =>
grdE (e8 6) false (fun (k23 : Value → World → Prop) => k23 (e8 1) w21) (fun v26n24 w25 =>
grdE (e8 6) false (fun (k26 : Value → World → Prop) => k26 (e8 10) w25) (fun v27n27 w28 =>
grdE (e8 6) false (fun (k29 : Value → World → Prop) => bindV (pIndex P 9 v26n24 v27n27 w28) k29) (fun v28n30 w31 =>
grdE (e8 6) false (fun (k32 : Value → World → Prop) => bindV (pBin P BinOp.eql 5 true v28n30 (Value.int IntKind.u8 110) w31) k32) (fun v29n33 w34 =>
pickE (e8 6) (Value.bool true) v29n33 fun v30n35 =>
grdE (e8 7) false (fun (k36 : Value → World → Prop) => k36 (e8 1) w34) (fun v33n37 w38 =>
grdE (e8 7) false (fun (k39 : Value → World → Prop) => k39 (e8 10) w38) (fun v34n40 w41 =>
grdE (e8 7) false (fun (k42 : Value → World → Prop) => bindV (pIndex P 9 v33n37 v34n40 w41) k42) (fun v35n43 w44 =>
grdE (e8 7) false (fun (k45 : Value → World → Prop) => bindV (pBin P BinOp.eql 5 true v35n43 (Value.int IntKind.u8 98) w44) k45) (fun v36n46 w47 =>
pickE (e8 7) (Value.bool true) v36n46 fun v37n48 =>
grdE (e8 8) false (fun (k49 : Value → World → Prop) => k49 (e8 1) w47) (fun v40n50 w51 =>
grdE (e8 8) false (fun (k52 : Value → World → Prop) => k52 (e8 10) w51) (fun v41n53 w54 =>
grdE (e8 8) false (fun (k55 : Value → World → Prop) => bindV (pIndex P 9 v40n50 v41n53 w54) k55) (fun v42n56 w57 =>
grdE (e8 8) false (fun (k58 : Value → World → Prop) => bindV (pBin P BinOp.eql 5 true v42n56 (Value.int IntKind.u8 114) w57) k58) (fun v43n59 w60 =>
pickE (e8 8) (Value.bool true) v43n59 fun v44n61 =>
grdE (e8 9) false (fun (k62 : Value → World → Prop) => k62 (e8 1) w60) (fun v47n63 w64 =>
grdE (e8 9) false (fun (k65 : Value → World → Prop) => k65 (e8 10) w64) (fun v48n66 w67 =>
grdE (e8 9) false (fun (k68 : Value → World → Prop) => bindV (pIndex P 9 v47n63 v48n66 w67) k68) (fun v49n69 w70 =>
grdE (e8 9) false (fun (k71 : Value → World → Prop) => bindV (pBin P BinOp.eql 5 true v49n69 (Value.int IntKind.u8 108) w70) k71) (fun v50n72 w73 =>
pickE (e8 9) (Value.bool true) v50n72 fun v51n74 =>
bindV (pBin P BinOp.add 3 true (e8 10) (Value.int IntKind.i64 1) w73) fun v16n75 w76 =>
K .normal (Env.put (Env.put (Env.put (Env.put (Env.put (Env.put (Env.put (Env.put (Env.put (Env.put (Env.put (Env.put (Env.put (Env.put (Env.put (Env.put (Env.put (Env.put (Env.put (Env.put (Env.put (Env.put (Env.put (Env.put (Env.put (Env.put (Env.put (Env.put (Env.put (Env.put (Env.put (Env.put (Env.put (Env.put (Env.put (Env.put (Env.put (Env.put (Env.put (Env.put (Env.put (Env.put (Env.put e8 17 (e8 5)) 18 (e8 5)) 19 v19n11) 20 v20n14) 21 v21n17) 22 v22n20) 23 v23n22) 5 v23n22) 24 (e8 6)) 25 (e8 6)) 26 v26n24) 27 v27n27) 28 v28n30) 29 v29n33) 30 v30n35) 6 v30n35) 31 (e8 7)) 32 (e8 7)) 33 v33n37) 34 v34n40) 35 v35n43) 36 v36n46) 37 v37n48) 7 v37n48) 38 (e8 8)) 39 (e8 8)) 40 v40n50) 41 v41n53) 42 v42n56) 43 v43n59) 44 v44n61) 8 v44n61) 45 (e8 9)) 46 (e8 9)) 47 v47n63) 48 v48n66) 49 v49n69) 50 v50n72) 51 v51n74) 9 v51n74) 15 (e8 10)) 16 v16n75) 10 v16n75) w76) w70) w67) w64) w60) w57) w54) w51) w47) w44) w41) w38) w34) w31) w28) w25) w21) w18) w15) w12) w9) K)
def F63 (a0 : Value) (a1 : Value) (w : World) (R : Ending → World → Prop) : Prop :=
bindV (pBox P 25 a0 w) fun v2n1 w2 =>
loopE F63B0 (Env.put (Env.put (Env.put (Env.put (Env.put (Env.put (Env.put (Env.put (argE [a0, a1]) 2 v2n1) 4 (Value.bool false)) 5 (Value.bool false)) 6 (Value.bool false)) 7 (Value.bool false)) 8 (Value.bool false)) 9 (Value.bool false)) 10 (Value.int IntKind.i64 0)) w2 (blockK 0 (thenK (fun e77 w78 =>
bindV (pUn P UnOp.not (e77 5) w78) fun v53n79 w80 =>
grdE v53n79 true (fun (k81 : Value → World → Prop) => bindV (pFieldAddr P 25 (e77 2) 6 w80) k81) (fun v55n82 w83 =>
grdE v53n79 true (fun (k84 : Value → World → Prop) => bindV (pLoad P 9 v55n82 w83) k84) (fun v56n85 w86 =>
grdE v53n79 true (fun (k87 : Value → World → Prop) => bindV (pBin P BinOp.neq 9 true v56n85 (Value.string { data := #[] }) w86) k87) (fun v57n88 w89 =>
pickE v53n79 v57n88 (Value.bool false) fun v58n90 =>
grdE v58n90 false (fun (k91 : Value → World → Prop) => k91 (e77 6) w89) (fun v60n92 w93 =>
grdE v58n90 false (fun (k94 : Value → World → Prop) => bindV (pUn P UnOp.not v60n92 w93) k94) (fun v61n95 w96 =>
grdE v58n90 false (fun (k97 : Value → World → Prop) => k97 v61n95 w96) (fun v62n98 w99 =>
grdE v62n98 true (fun (k100 : Value → World → Prop) => bindV (pFieldAddr P 25 (e77 2) 1 w99) k100) (fun v63n101 w102 =>
grdE v62n98 true (fun (k103 : Value → World → Prop) => bindV (pLoad P 2 v63n101 w102) k103) (fun v64n104 w105 =>
grdE v62n98 true (fun (k106 : Value → World → Prop) => bindV (pBin P BinOp.neq 2 true v64n104 (Value.int IntKind.i64 0) w105) k106) (fun v65n107 w108 =>
grdE v58n90 false (fun (k109 : Value → World → Prop) => pickE v62n98 v65n107 (Value.bool false) fun v66n110 =>
k109 v66n110 w108) (fun v66n111 w112 =>
pickE v58n90 (Value.bool true) v66n111 fun v67n113 =>
grdE v67n113 false (fun (k114 : Value → World → Prop) => k114 (e77 7) w112) (fun v69n115 w116 =>
grdE v67n113 false (fun (k117 : Value → World → Prop) => bindV (pUn P UnOp.not v69n115 w116) k117) (fun v70n118 w119 =>
grdE v67n113 false (fun (k120 : Value → World → Prop) => k120 v70n118 w119) (fun v71n121 w122 =>
grdE v71n121 true (fun (k123 : Value → World → Prop) => bindV (pFieldAddr P 25 (e77 2) 2 w122) k123) (fun v72n124 w125 =>
grdE v71n121 true (fun (k126 : Value → World → Prop) => bindV (pLoad P 2 v72n124 w125) k126) (fun v73n127 w128 =>
grdE v71n121 true (fun (k129 : Value → World → Prop) => bindV (pBin P BinOp.neq 2 true v73n127 (Value.int IntKind.i64 0) w128) k129) (fun v74n130 w131 =>
grdE v67n113 false (fun (k132 : Value → World → Prop) => pickE v71n121 v74n130 (Value.bool false) fun v75n133 =>
k132 v75n133 w131) (fun v75n134 w135 =>
pickE v67n113 (Value.bool true) v75n134 fun v76n136 =>
grdE v76n136 false (fun (k137 : Value → World → Prop) => k137 (e77 7) w135) (fun v78n138 w139 =>
grdE v76n136 false (fun (k140 : Value → World → Prop) => bindV (pUn P UnOp.not v78n138 w139) k140) (fun v79n141 w142 =>
grdE v76n136 false (fun (k143 : Value → World → Prop) => k143 v79n141 w142) (fun v80n144 w145 =>
grdE v80n144 true (fun (k146 : Value → World → Prop) => bindV (pFieldAddr P 25 (e77 2) 3 w145) k146) (fun v81n147 w148 =>
grdE v80n144 true (fun (k149 : Value → World → Prop) => bindV (pLoad P 2 v81n147 w148) k149) (fun v82n150 w151 =>
grdE v80n144 true (fun (k152 : Value → World → Prop) => bindV (pBin P BinOp.neq 2 true v82n150 (Value.int IntKind.i64 0) w151) k152) (fun v83n153 w154 =>
grdE v76n136 false (fun (k155 : Value → World → Prop) => pickE v80n144 v83n153 (Value.bool false) fun v84n156 =>
k155 v84n156 w154) (fun v84n157 w158 =>
pickE v76n136 (Value.bool true) v84n157 fun v85n159 =>
condE v85n159 (fun (K160 : KT) =>
K160 .ret (Env.put (Env.put (Env.put (Env.put (Env.put (Env.put (Env.put (Env.put (Env.put (Env.put (Env.put (Env.put (Env.put (Env.put (Env.put (Env.put (Env.put (Env.put (Env.put (Env.put (Env.put (Env.put (Env.put (Env.put (Env.put (Env.put (Env.put (Env.put (Env.put (Env.put (Env.put (Env.put (Env.put (Env.put (Env.put e77 52 (e77 5)) 53 v53n79) 54 v53n79) 55 v55n82) 56 v56n85) 57 v57n88) 58 v58n90) 59 v58n90) 60 v60n92) 61 v61n95) 62 v62n98) 63 v63n101) 64 v64n104) 65 v65n107) 66 v66n111) 67 v67n113) 68 v67n113) 69 v69n115) 70 v70n118) 71 v71n121) 72 v72n124) 73 v73n127) 74 v74n130) 75 v75n134) 76 v76n136) 77 v76n136) 78 v78n138) 79 v79n141) 80 v80n144) 81 v81n147) 82 v82n150) 83 v83n153) 84 v84n157) 85 v85n159) 4 (Value.bool false)) w158) (fun (K160 : KT) =>
K160 .normal (Env.put (Env.put (Env.put (Env.put (Env.put (Env.put (Env.put (Env.put (Env.put (Env.put (Env.put (Env.put (Env.put (Env.put (Env.put (Env.put (Env.put (Env.put (Env.put (Env.put (Env.put (Env.put (Env.put (Env.put (Env.put (Env.put (Env.put (Env.put (Env.put (Env.put (Env.put (Env.put (Env.put (Env.put e77 52 (e77 5)) 53 v53n79) 54 v53n79) 55 v55n82) 56 v56n85) 57 v57n88) 58 v58n90) 59 v58n90) 60 v60n92) 61 v61n95) 62 v62n98) 63 v63n101) 64 v64n104) 65 v65n107) 66 v66n111) 67 v67n113) 68 v67n113) 69 v69n115) 70 v70n118) 71 v71n121) 72 v72n124) 73 v73n127) 74 v74n130) 75 v75n134) 76 v76n136) 77 v76n136) 78 v78n138) 79 v79n141) 80 v80n144) 81 v81n147) 82 v82n150) 83 v83n153) 84 v84n157) 85 v85n159) w158) (thenK (fun e161 w162 =>
grdE (e161 8) false (fun (k163 : Value → World → Prop) => bindV (pFieldAddr P 25 (e161 2) 4 w162) k163) (fun v88n164 w165 =>
grdE (e161 8) false (fun (k166 : Value → World → Prop) => bindV (pLoad P 22 v88n164 w165) k166) (fun v89n167 w168 =>
grdE (e161 8) false (fun (k169 : Value → World → Prop) => callE P 79 #[v89n167] w168 k169 (fun c170 w171 => R (.panicked c170) w171)) (fun v90n172 w173 =>
pickE (e161 8) (Value.bool true) v90n172 fun v91n174 =>
grdE v91n174 true (fun (k175 : Value → World → Prop) => k175 (e161 9) w173) (fun v93n176 w177 =>
grdE v91n174 true (fun (k178 : Value → World → Prop) => k178 v93n176 w177) (fun v94n179 w180 =>
grdE v94n179 false (fun (k181 : Value → World → Prop) => bindV (pFieldAddr P 25 (e161 2) 5 w180) k181) (fun v95n182 w183 =>
grdE v94n179 false (fun (k184 : Value → World → Prop) => bindV (pLoad P 3 v95n182 w183) k184) (fun v96n185 w186 =>
grdE v94n179 false (fun (k187 : Value → World → Prop) => bindV (pBin P BinOp.eql 3 true v96n185 (Value.int IntKind.i64 0) w186) k187) (fun v97n188 w189 =>
grdE v94n179 false (fun (k190 : Value → World → Prop) => k190 v97n188 w189) (fun v98n191 w192 =>
grdE v98n191 true (fun (k193 : Value → World → Prop) => bindV (pFieldAddr P 25 (e161 2) 7 w192) k193) (fun v99n194 w195 =>
grdE v98n191 true (fun (k196 : Value → World → Prop) => bindV (pLoad P 23 v99n194 w195) k196) (fun v100n197 w198 =>
grdE v98n191 true (fun (k199 : Value → World → Prop) => bindV (pBuiltin P Builtin.len #[23] 3 [v100n197] w198) k199) (fun v101n200 w201 =>
grdE v98n191 true (fun (k202 : Value → World → Prop) => bindV (pBin P BinOp.eql 3 true v101n200 (Value.int IntKind.i64 0) w201) k202) (fun v102n203 w204 =>
grdE v94n179 false (fun (k205 : Value → World → Prop) => pickE v98n191 v102n203 (Value.bool false) fun v103n206 =>
k205 v103n206 w204) (fun v103n207 w208 =>
grdE v91n174 true (fun (k209 : Value → World → Prop) => pickE v94n179 (Value.bool true) v103n207 fun v104n210 =>
k209 v104n210 w208) (fun v104n211 w212 =>
pickE v91n174 v104n211 (Value.bool false) fun v105n213 =>
R (.returned v105n213) w212) w208) w204) w201) w198) w195) w192) w189) w186) w183) w180) w177) w173) w168) w165) w162) (topK P [(ResultVar.tmp 4)] R))) w154) w151) w148) w145) w142) w139) w135) w131) w128) w125) w122) w119) w116) w112) w108) w105) w102) w99) w96) w93) w89) w86) w83) w80) (topK P [(ResultVar.tmp 4)] R)))
theorem F63ok {w : World} {R : Ending → World → Prop} {a0 : Value} {a1 : Value} (h : F63 a0 a1 w R) : Calls P 63 #[a0, a1] w R :=
  calls_of_ev bodies mixed (c := bodyOf Tryd.f63) (nt := 106) (rs := [(ResultVar.tmp 4)]) (args := [a0, a1]) (fn := Tryd.f63) (by kernel_rfl) (by kernel_rfl) (by kernel_rfl) (by kernel_rfl) (by kernel_rfl) (by simp)
    (eq_mp (show F63 a0 a1 w R = ev P C (bodyOf Tryd.f63) (argE [a0, a1]) w (topK P [(ResultVar.tmp 4)] R) by kernel_rfl) h)

/-! ### moiety/moietyref03.Fields -/
def F64 (a0 : Value) (w : World) (R : Ending → World → Prop) : Prop :=
bindV (pBuildSlice P 131 10 [(0, (Value.string { data := #[] })), (1, (Value.string { data := #[116] })), (2, (Value.string { data := #[110] })), (3, (Value.string { data := #[110] })), (4, (Value.string { data := #[110, 98] })), (5, (Value.string { data := #[114] })), (6, (Value.string { data := #[114] })), (7, (Value.string { data := #[114] })), (8, (Value.string { data := #[108] })), (9, (Value.string { data := #[108] }))] w) fun v4n1 w2 =>
bindV (pBin P BinOp.lss 3 true a0 (Value.int IntKind.i64 1) w2) fun v6n3 w4 =>
grdE v6n3 false (fun (k5 : Value → World → Prop) => k5 a0 w4) (fun v8n6 w7 =>
grdE v6n3 false (fun (k8 : Value → World → Prop) => bindV (pBin P BinOp.gtr 3 true v8n6 (Value.int IntKind.i64 9) w7) k8) (fun v9n9 w10 =>
pickE v6n3 (Value.bool true) v9n9 fun v10n11 =>
condE v10n11 (fun (K12 : KT) =>
K12 .ret (Env.put (Env.put (Env.put (Env.put (Env.put (Env.put (Env.put (Env.put (Env.put (Env.put (argE [a0]) 2 (Value.string { data := #[] })) 4 v4n1) 3 v4n1) 5 a0) 6 v6n3) 7 v6n3) 8 v8n6) 9 v9n9) 10 v10n11) 2 (Value.string { data := #[] })) w10) (fun (K12 : KT) =>
K12 .normal (Env.put (Env.put (Env.put (Env.put (Env.put (Env.put (Env.put (Env.put (Env.put (argE [a0]) 2 (Value.string { data := #[] })) 4 v4n1) 3 v4n1) 5 a0) 6 v6n3) 7 v6n3) 8 v8n6) 9 v9n9) 10 v10n11) w10) (thenK (fun e13 w14 =>
bindV (pIndexAddr P 131 (e13 3) (e13 0) w14) fun v13n15 w16 =>
bindV (pLoad P 9 v13n15 w16) fun v14n17 w18 =>
R (.returned v14n17) w18) (topK P [(ResultVar.tmp 2)] R))) w7) w4
theorem F64ok {w : World} {R : Ending → World → Prop} {a0 : Value} (h : F64 a0 w R) : Calls P 64 #[a0] w R :=
  calls_of_ev bodies mixed (c := bodyOf Tryd.f64) (nt := 15) (rs := [(ResultVar.tmp 2)]) (args := [a0]) (fn := Tryd.f64) (by kernel_rfl) (by kernel_rfl) (by kernel_rfl) (by kernel_rfl) (by kernel_rfl) (by simp)
    (eq_mp (show F64 a0 w R = ev P C (bodyOf Tryd.f64) (argE [a0]) w (topK P [(ResultVar.tmp 2)] R) by kernel_rfl) h)

/-! ### moiety/moietyref03.item -/
def F65 (a0 : Value) (a1 : Value) (a2 : Value) (w : World) (R : Ending → World → Prop) : Prop :=
bindV (pIndexAddr P 23 a1 a2 w) fun v10n1 w2 =>
bindV (pLoad P 80 v10n1 w2) fun v11n3 w4 =>
bindV (pAlloc P 80 w4) fun v7n5 w6 =>
bindU (pStore P 80 v7n5 v11n3 w6) fun w7 =>
bindV (pFieldAddr P 80 v7n5 1 w7) fun v12n8 w9 =>
bindV (pLoad P 9 v12n8 w9) fun v13n10 w11 =>
bindV (pBuiltin P Builtin.len #[9] 3 [v13n10] w11) fun v14n12 w13 =>
bindV (pBin P BinOp.gtr 3 true v14n12 (Value.int IntKind.i64 16) w13) fun v15n14 w15 =>
condE v15n14 (fun (K16 : KT) =>
K16 .ret (Env.put (Env.put (Env.put (Env.put (Env.put (Env.put (Env.put (Env.put (Env.put (Env.put (Env.put (argE [a0, a1, a2]) 6 (Value.int IntKind.i64 0)) 8 a1) 9 a2) 10 v10n1) 11 v11n3) 7 v7n5) 12 v12n8) 13 v13n10) 14 v14n12) 15 v15n14) 6 (Value.int IntKind.i64 3)) w15) (fun (K16 : KT) =>
K16 .normal (Env.put (Env.put (Env.put (Env.put (Env.put (Env.put (Env.put (Env.put (Env.put (Env.put (argE [a0, a1, a2]) 6 (Value.int IntKind.i64 0)) 8 a1) 9 a2) 10 v10n1) 11 v11n3) 7 v7n5) 12 v12n8) 13 v13n10) 14 v14n12) 15 v15n14) w15) (thenK (fun e17 w18 =>
bindV (pBin P BinOp.eql 3 true (e17 0) (Value.int IntKind.i64 8) w18) fun v17n19 w20 =>
grdE v17n19 true (fun (k21 : Value → World → Prop) => bindV (pFieldAddr P 80 (e17 7) 0 w20) k21) (fun v19n22 w23 =>
grdE v17n19 true (fun (k24 : Value → World → Prop) => bindV (pLoad P 22 v19n22 w23) k24) (fun v20n25 w26 =>
grdE v17n19 true (fun (k27 : Value → World → Prop) => callE P 79 #[v20n25] w26 k27 (fun c28 w29 => R (.panicked c28) w29)) (fun v21n30 w31 =>
grdE v17n19 true (fun (k32 : Value → World → Prop) => bindV (pUn P UnOp.not v21n30 w31) k32) (fun v22n33 w34 =>
pickE v17n19 v22n33 (Value.bool false) fun v23n35 =>
grdE v23n35 false (fun (k36 : Value → World → Prop) => bindV (pFieldAddr P 80 (e17 7) 0 w34) k36) (fun v25n37 w38 =>
grdE v23n35 false (fun (k39 : Value → World → Prop) => bindV (pLoad P 22 v25n37 w38) k39) (fun v26n40 w41 =>
grdE v23n35 false (fun (k42 : Value → World → Prop) => callE P 31 #[v26n40] w41 k42 (fun c43 w44 => R (.panicked c43) w44)) (fun v27n45 w46 =>
grdE v23n35 false (fun (k47 : Value → World → Prop) => bindV (pUn P UnOp.not v27n45 w46) k47) (fun v28n48 w49 =>
pickE v23n35 (Value.bool true) v28n48 fun v29n50 =>
condE v29n50 (fun (K51 : KT) =>
K51 .ret (Env.put (Env.put (Env.put (Env.put (Env.put (Env.put (Env.put (Env.put (Env.put (Env.put (Env.put (Env.put (Env.put (Env.put (Env.put e17 16 (e17 0)) 17 v17n19) 18 v17n19) 19 v19n22) 20 v20n25) 21 v21n30) 22 v22n33) 23 v23n35) 24 v23n35) 25 v25n37) 26 v26n40) 27 v27n45) 28 v28n48) 29 v29n50) 6 (Value.int IntKind.i64 4)) w49) (fun (K51 : KT) =>
K51 .normal (Env.put (Env.put (Env.put (Env.put (Env.put (Env.put (Env.put (Env.put (Env.put (Env.put (Env.put (Env.put (Env.put (Env.put e17 16 (e17 0)) 17 v17n19) 18 v17n19) 19 v19n22) 20 v20n25) 21 v21n30) 22 v22n33) 23 v23n35) 24 v23n35) 25 v25n37) 26 v26n40) 27 v27n45) 28 v28n48) 29 v29n50) w49) (thenK (fun e52 w53 =>
takeE (fun w56 => some ((e52 2), w56)) (drew w53) fun v30n54 h55 =>
takeE (fun w59 => pBin P BinOp.gtr 3 true v30n54 (Value.int IntKind.i64 0) w59) (drew w53) fun v31n57 h58 =>
takeE (fun w62 => some (v31n57, w62)) (drew w53) fun v32n60 h61 =>
takeE (fun w65 => qGrd v32n60 true (fun w65 => some ((e52 0), w65)) w65) (drew w53) fun v33n63 h64 =>
takeE (fun w68 => qGrd v32n60 true (fun w68 => pBin P BinOp.eql 3 true v33n63 (Value.int IntKind.i64 8) w68) w68) (drew w53) fun v34n66 h67 =>
takeE (fun w71 => qPick v32n60 v34n66 (Value.bool false) w71) (drew w53) fun v35n69 h70 =>
takeE (fun w74 => some (v35n69, w74)) (drew w53) fun v36n72 h73 =>
takeE (fun w77 => qGrd v36n72 true (fun w77 => some ((e52 1), w77)) w77) (drew w53) fun v37n75 h76 =>
takeE (fun w80 => qGrd v36n72 true (fun w80 => some ((e52 2), w80)) w80) (drew w53) fun v38n78 h79 =>
takeE (fun w83 => qGrd v36n72 true (fun w83 => pBin P BinOp.sub 3 true v38n78 (Value.int IntKind.i64 1) w83) w83) (drew w53) fun v39n81 h82 =>
takeE (fun w86 => qGrd v36n72 true (fun w86 => pIndexAddr P 23 v37n75 v39n81 w86) w86) (drew w53) fun v40n84 h85 =>
takeE (fun w89 => qGrd v36n72 true (fun w89 => pFieldAddr P 80 v40n84 1 w89) w89) (drew w53) fun v41n87 h88 =>
takeE (fun w92 => qGrd v36n72 true (fun w92 => pLoad P 9 v41n87 w92) w92) (drew w53) fun v42n90 h91 =>
takeE (fun w95 => qGrd v36n72 true (fun w95 => pFieldAddr P 80 (e52 7) 1 w95) w95) (drew w53) fun v43n93 h94 =>
takeE (fun w98 => qGrd v36n72 true (fun w98 => pLoad P 9 v43n93 w98) w98) (drew w53) fun v44n96 h97 =>
takeE (fun w101 => qGrd v36n72 true (fun w101 => pBin P BinOp.lss 9 false v42n90 v44n96 w101) w101) (drew w53) fun v45n99 h100 =>
takeE (fun w104 => qGrd v36n72 true (fun w104 => pUn P UnOp.not v45n99 w104) w104) (drew w53) fun v46n102 h103 =>
takeE (fun w107 => qPick v36n72 v46n102 (Value.bool false) w107) (drew w53) fun v47n105 h106 =>
condE v47n105 (fun (K108 : KT) =>
K108 .ret (Env.put (Env.put (Env.put (Env.put (Env.put (Env.put (Env.put (Env.put (Env.put (Env.put (Env.put (Env.put (Env.put (Env.put (Env.put (Env.put (Env.put (Env.put (Env.put e52 30 v30n54) 31 v31n57) 32 v32n60) 33 v33n63) 34 v34n66) 35 v35n69) 36 v36n72) 37 v37n75) 38 v38n78) 39 v39n81) 40 v40n84) 41 v41n87) 42 v42n90) 43 v43n93) 44 v44n96) 45 v45n99) 46 v46n102) 47 v47n105) 6 (Value.int IntKind.i64 4)) (drew w53)) (fun (K108 : KT) =>
K108 .normal (Env.put (Env.put (Env.put (Env.put (Env.put (Env.put (Env.put (Env.put (Env.put (Env.put (Env.put (Env.put (Env.put (Env.put (Env.put (Env.put (Env.put (Env.put e52 30 v30n54) 31 v31n57) 32 v32n60) 33 v33n63) 34 v34n66) 35 v35n69) 36 v36n72) 37 v37n75) 38 v38n78) 39 v39n81) 40 v40n84) 41 v41n87) 42 v42n90) 43 v43n93) 44 v44n96) 45 v45n99) 46 v46n102) 47 v47n105) (drew w53)) (thenK (fun e109 w110 =>
takeE (fun w113 => some ((e109 2), w113)) (drew w110) fun v48n111 h112 =>
takeE (fun w116 => pBin P BinOp.gtr 3 true v48n111 (Value.int IntKind.i64 0) w116) (drew w110) fun v49n114 h115 =>
takeE (fun w119 => some (v49n114, w119)) (drew w110) fun v50n117 h118 =>
takeE (fun w122 => qGrd v50n117 true (fun w122 => some ((e109 0), w122)) w122) (drew w110) fun v51n120 h121 =>
takeE (fun w125 => qGrd v50n117 true (fun w125 => pBin P BinOp.eql 3 true v51n120 (Value.int IntKind.i64 9) w125) w125) (drew w110) fun v52n123 h124 =>
takeE (fun w128 => qPick v50n117 v52n123 (Value.bool false) w128) (drew w110) fun v53n126 h127 =>
takeE (fun w131 => some (v53n126, w131)) (drew w110) fun v54n129 h130 =>
takeE (fun w134 => qGrd v54n129 true (fun w134 => some ((e109 1), w134)) w134) (drew w110) fun v55n132 h133 =>
takeE (fun w137 => qGrd v54n129 true (fun w137 => some ((e109 2), w137)) w137) (drew w110) fun v56n135 h136 =>
takeE (fun w140 => qGrd v54n129 true (fun w140 => pBin P BinOp.sub 3 true v56n135 (Value.int IntKind.i64 1) w140) w140) (drew w110) fun v57n138 h139 =>
takeE (fun w143 => qGrd v54n129 true (fun w143 => pIndexAddr P 23 v55n132 v57n138 w143) w143) (drew w110) fun v58n141 h142 =>
takeE (fun w146 => qGrd v54n129 true (fun w146 => pLoad P 80 v58n141 w146) w146) (drew w110) fun v59n144 h145 =>
takeE (fun w149 => qGrd v54n129 true (fun w149 => pLoad P 80 (e109 7) w149) w149) (drew w110) fun v60n147 h148 =>
grdE v54n129 true (fun (k151 : Value → World → Prop) => callE P 80 #[v59n144, v60n147] (drew w110) k151 (fun c152 w153 => ∀ (e150 : Env), agreeOff [48, 49, 50, 51, 52, 53, 54, 55, 56, 57, 58, 59, 60] (Env.put (Env.put (Env.put (Env.put (Env.put (Env.put (Env.put (Env.put (Env.put (Env.put (Env.put (Env.put (Env.put e109 48 v48n111) 49 v49n114) 50 v50n117) 51 v51n120) 52 v52n123) 53 v53n126) 54 v54n129) 55 v55n132) 56 v56n135) 57 v57n138) 58 v58n141) 59 v59n144) 60 v60n147) e150 → R (.panicked c152) w153)) (fun v61n154 w155 =>
takeE (fun w158 => qGrd v54n129 true (fun w158 => pUn P UnOp.not v61n154 w158) w158) w155 fun v62n156 h157 =>
takeE (fun w161 => qPick v54n129 v62n156 (Value.bool false) w161) w155 fun v63n159 h160 =>
condE v63n159 (fun (K162 : KT) =>
K162 .ret (Env.put (Env.put (Env.put (Env.put (Env.put (Env.put (Env.put (Env.put (Env.put (Env.put (Env.put (Env.put (Env.put (Env.put (Env.put (Env.put (Env.put e109 48 v48n111) 49 v49n114) 50 v50n117) 51 v51n120) 52 v52n123) 53 v53n126) 54 v54n129) 55 v55n132) 56 v56n135) 57 v57n138) 58 v58n141) 59 v59n144) 60 v60n147) 61 v61n154) 62 v62n156) 63 v63n159) 6 (Value.int IntKind.i64 4)) w155) (fun (K162 : KT) =>
K162 .normal (Env.put (Env.put (Env.put (Env.put (Env.put (Env.put (Env.put (Env.put (Env.put (Env.put (Env.put (Env.put (Env.put (Env.put (Env.put (Env.put e109 48 v48n111) 49 v49n114) 50 v50n117) 51 v51n120) 52 v52n123) 53 v53n126) 54 v54n129) 55 v55n132) 56 v56n135) 57 v57n138) 58 v58n141) 59 v59n144) 60 v60n147) 61 v61n154) 62 v62n156) 63 v63n159) w155) (thenK (fun e163 w164 =>
R (.returned (Value.int IntKind.i64 0)) w164) (topK P [(ResultVar.tmp 6)] R))) (drew w110)) (topK P [(ResultVar.tmp 6)] R))) (topK P [(ResultVar.tmp 6)] R))) w46) w41) w38) w34) w31) w26) w23) w20) (topK P [(ResultVar.tmp 6)] R))
theorem F65ok {w : World} {R : Ending → World → Prop} {a0 : Value} {a1 : Value} {a2 : Value} (h : F65 a0 a1 a2 w R) : Calls P 65 #[a0, a1, a2] w R :=
  calls_of_ev bodies mixed (c := bodyOf Tryd.f65) (nt := 64) (rs := [(ResultVar.tmp 6)]) (args := [a0, a1, a2]) (fn := Tryd.f65) (by kernel_rfl) (by kernel_rfl) (by kernel_rfl) (by kernel_rfl) (by kernel_rfl) (by simp)
    (eq_mp (show F65 a0 a1 a2 w R = ev P C (bodyOf Tryd.f65) (argE [a0, a1, a2]) w (topK P [(ResultVar.tmp 6)] R) by kernel_rfl) h)

/-! ### slices.EqualFunc[[]moiety/api.Item,[]moiety/api.Item,moiety/api.Item,moiety/api.Item] -/
def F67B0 (e : Env) (w : World) (K : KT) : Prop :=
bindV (pBin P BinOp.lss 3 false (e 17) (e 16) w) fun v18n12 w13 =>
condE v18n12 (fun (K14 : KT) =>
K14 .normal (Env.put e 18 v18n12) w13) (fun (K14 : KT) =>
K14 (.exit 0) (Env.put e 18 v18n12) w13) (thenK (fun e15 w16 =>
bindV (pIndexAddr P 23 (e15 15) (e15 17) w16) fun v20n17 w18 =>
bindV (pLoad P 80 v20n17 w18) fun v21n19 w20 =>
bindV (pAlloc P 80 w20) fun v8n21 w22 =>
bindU (pStore P 80 v8n21 v21n19 w22) fun w23 =>
bindV (pIndexAddr P 23 (e15 1) (e15 17) w23) fun v24n24 w25 =>
bindV (pLoad P 80 v24n24 w25) fun v25n26 w27 =>
bindV (pAlloc P 80 w27) fun v9n28 w29 =>
bindU (pStore P 80 v9n28 v25n26 w29) fun w30 =>
bindV (pLoad P 80 v8n21 w30) fun v27n31 w32 =>
bindV (pLoad P 80 v9n28 w32) fun v28n33 w34 =>
callVE P C (e15 2) [v27n31, v28n33] w34 (fun v29n37 w38 =>
bindV (pUn P UnOp.not v29n37 w38) fun v30n39 w40 =>
condE v30n39 (fun (K41 : KT) =>
K41 .ret (Env.put (Env.put (Env.put (Env.put (Env.put (Env.put (Env.put (Env.put (Env.put (Env.put (Env.put (Env.put (Env.put (Env.put (Env.put (Env.put e15 19 (e15 17)) 20 v20n17) 21 v21n19) 8 v8n21) 7 (e15 17)) 22 (e15 1)) 23 (e15 17)) 24 v24n24) 25 v25n26) 9 v9n28) 26 (e15 2)) 27 v27n31) 28 v28n33) 29 v29n37) 30 v30n39) 6 (Value.bool false)) w40) (fun (K41 : KT) =>
K41 .normal (Env.put (Env.put (Env.put (Env.put (Env.put (Env.put (Env.put (Env.put (Env.put (Env.put (Env.put (Env.put (Env.put (Env.put (Env.put e15 19 (e15 17)) 20 v20n17) 21 v21n19) 8 v8n21) 7 (e15 17)) 22 (e15 1)) 23 (e15 17)) 24 v24n24) 25 v25n26) 9 v9n28) 26 (e15 2)) 27 v27n31) 28 v28n33) 29 v29n37) 30 v30n39) w40) (blockK 1 (thenK (fun e42 w43 =>
bindV (pBin P BinOp.add 3 true (e42 17) (Value.int IntKind.i64 1) w43) fun v31n44 w45 =>
K .normal (Env.put (Env.put e42 31 v31n44) 17 v31n44) w45) K))) (fun c35 w36 => K (.panic c35) (Env.put (Env.put (Env.put (Env.put (Env.put (Env.put (Env.put (Env.put (Env.put (Env.put (Env.put (Env.put (Env.put e15 19 (e15 17)) 20 v20n17) 21 v21n19) 8 v8n21) 7 (e15 17)) 22 (e15 1)) 23 (e15 17)) 24 v24n24) 25 v25n26) 9 v9n28) 26 (e15 2)) 27 v27n31) 28 v28n33) w36)) K)
def F67 (a0 : Value) (a1 : Value) (a2 : Value) (w : World) (R : Ending → World → Prop) : Prop :=
bindV (pBuiltin P Builtin.len #[23] 3 [a0] w) fun v11n1 w2 =>
bindV (pBuiltin P Builtin.len #[23] 3 [a1] w2) fun v13n3 w4 =>
bindV (pBin P BinOp.neq 3 false v11n1 v13n3 w4) fun v14n5 w6 =>
condE v14n5 (fun (K7 : KT) =>
K7 .ret (Env.put (Env.put (Env.put (Env.put (Env.put (Env.put (Env.put (argE [a0, a1, a2]) 6 (Value.bool false)) 10 a0) 11 v11n1) 12 a1) 13 v13n3) 14 v14n5) 6 (Value.bool false)) w6) (fun (K7 : KT) =>
K7 .normal (Env.put (Env.put (Env.put (Env.put (Env.put (Env.put (argE [a0, a1, a2]) 6 (Value.bool false)) 10 a0) 11 v11n1) 12 a1) 13 v13n3) 14 v14n5) w6) (thenK (fun e8 w9 =>
bindV (pBuiltin P Builtin.len #[23] 3 [(e8 0)] w9) fun v16n10 w11 =>
loopE F67B0 (Env.put (Env.put (Env.put e8 15 (e8 0)) 16 v16n10) 17 (Value.int IntKind.i64 0)) w11 (blockK 0 (thenK (fun e46 w47 =>
R (.returned (Value.bool true)) w47) (topK P [(ResultVar.tmp 6)] R)))) (topK P [(ResultVar.tmp 6)] R))
theorem F67ok {w : World} {R : Ending → World → Prop} {a0 : Value} {a1 : Value} {a2 : Value} (h : F67 a0 a1 a2 w R) : Calls P 67 #[a0, a1, a2] w R :=
  calls_of_ev bodies mixed (c := bodyOf Tryd.f67) (nt := 32) (rs := [(ResultVar.tmp 6)]) (args := [a0, a1, a2]) (fn := Tryd.f67) (by kernel_rfl) (by kernel_rfl) (by kernel_rfl) (by kernel_rfl) (by kernel_rfl) (by simp)
    (eq_mp (show F67 a0 a1 a2 w R = ev P C (bodyOf Tryd.f67) (argE [a0, a1, a2]) w (topK P [(ResultVar.tmp 6)] R) by kernel_rfl) h)

/-! ### moiety/rec.Same$1 -/
def F68 (a0 : Value) (a1 : Value) (w : World) (R : Ending → World → Prop) : Prop :=
bindV (pBox P 80 a0 w) fun v2n1 w2 =>
bindV (pBox P 80 a1 w2) fun v3n3 w4 =>
bindV (pFieldAddr P 80 v2n1 1 w4) fun v5n5 w6 =>
bindV (pLoad P 9 v5n5 w6) fun v6n7 w8 =>
bindV (pFieldAddr P 80 v3n3 1 w8) fun v7n9 w10 =>
bindV (pLoad P 9 v7n9 w10) fun v8n11 w12 =>
bindV (pBin P BinOp.eql 9 false v6n7 v8n11 w12) fun v9n13 w14 =>
grdE v9n13 true (fun (k15 : Value → World → Prop) => bindV (pFieldAddr P 80 v2n1 0 w14) k15) (fun v11n16 w17 =>
grdE v9n13 true (fun (k18 : Value → World → Prop) => bindV (pLoad P 22 v11n16 w17) k18) (fun v12n19 w20 =>
grdE v9n13 true (fun (k21 : Value → World → Prop) => bindV (pFieldAddr P 80 v3n3 0 w20) k21) (fun v13n22 w23 =>
grdE v9n13 true (fun (k24 : Value → World → Prop) => bindV (pLoad P 22 v13n22 w23) k24) (fun v14n25 w26 =>
grdE v9n13 true (fun (k27 : Value → World → Prop) => callE P 33 #[v12n19, v14n25] w26 k27 (fun c28 w29 => R (.panicked c28) w29)) (fun v15n30 w31 =>
pickE v9n13 v15n30 (Value.bool false) fun v16n32 =>
R (.returned v16n32) w31) w26) w23) w20) w17) w14
theorem F68ok {w : World} {R : Ending → World → Prop} {a0 : Value} {a1 : Value} (h : F68 a0 a1 w R) : Calls P 68 #[a0, a1] w R :=
  calls_of_ev bodies mixed (c := bodyOf Tryd.f68) (nt := 17) (rs := [(ResultVar.tmp 4)]) (args := [a0, a1]) (fn := Tryd.f68) (by kernel_rfl) (by kernel_rfl) (by kernel_rfl) (by kernel_rfl) (by kernel_rfl) (by simp)
    (eq_mp (show F68 a0 a1 w R = ev P C (bodyOf Tryd.f68) (argE [a0, a1]) w (topK P [(ResultVar.tmp 4)] R) by kernel_rfl) h)

/-! ### moiety/rec.Better -/
def F77 (a0 : Value) (a1 : Value) (w : World) (R : Ending → World → Prop) : Prop :=
bindV (pBox P 80 a0 w) fun v2n1 w2 =>
bindV (pBox P 80 a1 w2) fun v3n3 w4 =>
bindV (pFieldAddr P 80 v2n1 0 w4) fun v5n5 w6 =>
bindV (pLoad P 22 v5n5 w6) fun v6n7 w8 =>
bindV (pFieldAddr P 80 v3n3 0 w8) fun v7n9 w10 =>
bindV (pLoad P 22 v7n9 w10) fun v8n11 w12 =>
callE P 33 #[v6n7, v8n11] w12 (fun v9n15 w16 =>
bindV (pUn P UnOp.not v9n15 w16) fun v10n17 w18 =>
condE v10n17 (fun (K19 : KT) =>
bindV (pFieldAddr P 80 v3n3 0 w18) fun v11n20 w21 =>
bindV (pLoad P 22 v11n20 w21) fun v12n22 w23 =>
bindV (pFieldAddr P 80 v2n1 0 w23) fun v13n24 w25 =>
bindV (pLoad P 22 v13n24 w25) fun v14n26 w27 =>
callE P 75 #[v12n22, v14n26] w27 (fun v15n30 w31 =>
K19 .ret (Env.put (Env.put (Env.put (Env.put (Env.put (Env.put (Env.put (Env.put (Env.put (Env.put (Env.put (Env.put (Env.put (Env.put (Env.put (argE [a0, a1]) 2 v2n1) 3 v3n3) 4 (Value.bool false)) 5 v5n5) 6 v6n7) 7 v7n9) 8 v8n11) 9 v9n15) 10 v10n17) 11 v11n20) 12 v12n22) 13 v13n24) 14 v14n26) 15 v15n30) 4 v15n30) w31) (fun c28 w29 => K19 (.panic c28) (Env.put (Env.put (Env.put (Env.put (Env.put (Env.put (Env.put (Env.put (Env.put (Env.put (Env.put (Env.put (Env.put (argE [a0, a1]) 2 v2n1) 3 v3n3) 4 (Value.bool false)) 5 v5n5) 6 v6n7) 7 v7n9) 8 v8n11) 9 v9n15) 10 v10n17) 11 v11n20) 12 v12n22) 13 v13n24) 14 v14n26) w29)) (fun (K19 : KT) =>
K19 .normal (Env.put (Env.put (Env.put (Env.put (Env.put (Env.put (Env.put (Env.put (Env.put (argE [a0, a1]) 2 v2n1) 3 v3n3) 4 (Value.bool false)) 5 v5n5) 6 v6n7) 7 v7n9) 8 v8n11) 9 v9n15) 10 v10n17) w18) (thenK (fun e32 w33 =>
bindV (pFieldAddr P 80 (e32 2) 1 w33) fun v16n34 w35 =>
bindV (pLoad P 9 v16n34 w35) fun v17n36 w37 =>
bindV (pFieldAddr P 80 (e32 3) 1 w37) fun v18n38 w39 =>
bindV (pLoad P 9 v18n38 w39) fun v19n40 w41 =>
bindV (pBin P BinOp.lss 9 false v17n36 v19n40 w41) fun v20n42 w43 =>
R (.returned v20n42) w43) (topK P [(ResultVar.tmp 4)] R))) (fun c13 w14 => R (.panicked c13) w14)
theorem F77ok {w : World} {R : Ending → World → Prop} {a0 : Value} {a1 : Value} (h : F77 a0 a1 w R) : Calls P 77 #[a0, a1] w R :=
  calls_of_ev bodies mixed (c := bodyOf Tryd.f77) (nt := 21) (rs := [(ResultVar.tmp 4)]) (args := [a0, a1]) (fn := Tryd.f77) (by kernel_rfl) (by kernel_rfl) (by kernel_rfl) (by kernel_rfl) (by kernel_rfl) (by simp)
    (eq_mp (show F77 a0 a1 w R = ev P C (bodyOf Tryd.f77) (argE [a0, a1]) w (topK P [(ResultVar.tmp 4)] R) by kernel_rfl) h)

/-! ### moiety/moietyref03.zero -/
def F79 (a0 : Value) (w : World) (R : Ending → World → Prop) : Prop :=
callE P 29 #[a0, (Value.float FloatKind.f64 0)] w (fun v4n3 w4 =>
R (.returned v4n3) w4) (fun c1 w2 => R (.panicked c1) w2)
theorem F79ok {w : World} {R : Ending → World → Prop} {a0 : Value} (h : F79 a0 w R) : Calls P 79 #[a0] w R :=
  calls_of_ev bodies mixed (c := bodyOf Tryd.f79) (nt := 5) (rs := [(ResultVar.tmp 2)]) (args := [a0]) (fn := Tryd.f79) (by kernel_rfl) (by kernel_rfl) (by kernel_rfl) (by kernel_rfl) (by kernel_rfl) (by simp)
    (eq_mp (show F79 a0 w R = ev P C (bodyOf Tryd.f79) (argE [a0]) w (topK P [(ResultVar.tmp 2)] R) by kernel_rfl) h)

/-! ### moiety/moietyref03.Ahead -/
def F80 (a0 : Value) (a1 : Value) (w : World) (R : Ending → World → Prop) : Prop :=
bindV (pBox P 80 a0 w) fun v2n1 w2 =>
bindV (pBox P 80 a1 w2) fun v3n3 w4 =>
bindV (pFieldAddr P 80 v3n3 0 w4) fun v5n5 w6 =>
bindV (pLoad P 22 v5n5 w6) fun v6n7 w8 =>
bindV (pFieldAddr P 80 v2n1 0 w8) fun v7n9 w10 =>
bindV (pLoad P 22 v7n9 w10) fun v8n11 w12 =>
callE P 60 #[v6n7, v8n11] w12 (fun v9n15 w16 =>
condE v9n15 (fun (K17 : KT) =>
K17 .ret (Env.put (Env.put (Env.put (Env.put (Env.put (Env.put (Env.put (Env.put (Env.put (argE [a0, a1]) 2 v2n1) 3 v3n3) 4 (Value.bool false)) 5 v5n5) 6 v6n7) 7 v7n9) 8 v8n11) 9 v9n15) 4 (Value.bool true)) w16) (fun (K17 : KT) =>
K17 .normal (Env.put (Env.put (Env.put (Env.put (Env.put (Env.put (Env.put (Env.put (argE [a0, a1]) 2 v2n1) 3 v3n3) 4 (Value.bool false)) 5 v5n5) 6 v6n7) 7 v7n9) 8 v8n11) 9 v9n15) w16) (thenK (fun e18 w19 =>
bindV (pFieldAddr P 80 (e18 2) 0 w19) fun v10n20 w21 =>
bindV (pLoad P 22 v10n20 w21) fun v11n22 w23 =>
bindV (pFieldAddr P 80 (e18 3) 0 w23) fun v12n24 w25 =>
bindV (pLoad P 22 v12n24 w25) fun v13n26 w27 =>
callE P 29 #[v11n22, v13n26] w27 (fun v14n30 w31 =>
grdE v14n30 true (fun (k32 : Value → World → Prop) => bindV (pFieldAddr P 80 (e18 2) 1 w31) k32) (fun v16n33 w34 =>
grdE v14n30 true (fun (k35 : Value → World → Prop) => bindV (pLoad P 9 v16n33 w34) k35) (fun v17n36 w37 =>
grdE v14n30 true (fun (k38 : Value → World → Prop) => bindV (pFieldAddr P 80 (e18 3) 1 w37) k38) (fun v18n39 w40 =>
grdE v14n30 true (fun (k41 : Value → World → Prop) => bindV (pLoad P 9 v18n39 w40) k41) (fun v19n42 w43 =>
grdE v14n30 true (fun (k44 : Value → World → Prop) => bindV (pBin P BinOp.lss 9 false v17n36 v19n42 w43) k44) (fun v20n45 w46 =>
pickE v14n30 v20n45 (Value.bool false) fun v21n47 =>
R (.returned v21n47) w46) w43) w40) w37) w34) w31) (fun c28 w29 => R (.panicked c28) w29)) (topK P [(ResultVar.tmp 4)] R))) (fun c13 w14 => R (.panicked c13) w14)
theorem F80ok {w : World} {R : Ending → World → Prop} {a0 : Value} {a1 : Value} (h : F80 a0 a1 w R) : Calls P 80 #[a0, a1] w R :=
  calls_of_ev bodies mixed (c := bodyOf Tryd.f80) (nt := 22) (rs := [(ResultVar.tmp 4)]) (args := [a0, a1]) (fn := Tryd.f80) (by kernel_rfl) (by kernel_rfl) (by kernel_rfl) (by kernel_rfl) (by kernel_rfl) (by simp)
    (eq_mp (show F80 a0 a1 w R = ev P C (bodyOf Tryd.f80) (argE [a0, a1]) w (topK P [(ResultVar.tmp 4)] R) by kernel_rfl) h)

end Go.Proofs.YtieejbkbdfccdaaDoor
