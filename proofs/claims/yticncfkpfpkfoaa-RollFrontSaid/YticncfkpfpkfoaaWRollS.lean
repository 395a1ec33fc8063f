/- The functions' residual programs, printed by gen.py. -/
import Derived.Test.YticncfkpfpkfoaaBaseD
namespace Go.Proofs.Yticncfkpfpkfoaa
open Go
/-! ### moiety/moietylaw19.speaks -/
def F44 (w : World) (R : Ending → World → Prop) : Prop :=
callE P 27 #[(Value.int IntKind.i64 4)] w (fun v11n3 w4 =>
bindV (pExtract P v11n3 0 w4) fun v12n5 w6 =>
bindV (pExtract P v11n3 1 w6) fun v13n7 w8 =>
bindV (pBuild P 65 [(0, (Value.int IntKind.i64 1)), (1, (Value.int IntKind.i64 3))] w8) fun v16n9 w10 =>
callE P 45 #[v12n5, v16n9] w10 (fun v17n13 w14 =>
bindV (pExtract P v17n13 0 w14) fun v18n15 w16 =>
bindV (pExtract P v17n13 1 w16) fun v19n17 w18 =>
bindV (pExtract P v17n13 2 w18) fun v20n19 w20 =>
bindV (pBin P BinOp.neq 26 true v20n19 (Value.int IntKind.i64 0) w20) fun v22n21 w22 =>
grdE v22n21 false (fun (k23 : Value → World → Prop) => k23 v18n15 w22) (fun v24n24 w25 =>
grdE v22n21 false (fun (k26 : Value → World → Prop) => bindV (pBin P BinOp.eql 66 true v24n24 (Value.pointer none) w25) k26) (fun v25n27 w28 =>
pickE v22n21 (Value.bool true) v25n27 fun v26n29 =>
grdE v26n29 false (fun (k30 : Value → World → Prop) => k30 v19n17 w28) (fun v28n31 w32 =>
grdE v26n29 false (fun (k33 : Value → World → Prop) => bindV (pBuiltin P Builtin.len #[67] 3 [v28n31] w32) k33) (fun v29n34 w35 =>
grdE v26n29 false (fun (k36 : Value → World → Prop) => bindV (pBin P BinOp.neq 3 true v29n34 (Value.int IntKind.i64 0) w35) k36) (fun v30n37 w38 =>
pickE v26n29 (Value.bool true) v30n37 fun v31n39 =>
grdE v31n39 false (fun (k40 : Value → World → Prop) => k40 v18n15 w38) (fun v33n41 w42 =>
grdE v31n39 false (fun (k43 : Value → World → Prop) => callE P 53 #[v33n41] w42 k43 (fun c44 w45 => R (.panicked c44) w45)) (fun v34n46 w47 =>
grdE v31n39 false (fun (k48 : Value → World → Prop) => bindV (pBin P BinOp.neq 3 true v34n46 (Value.int IntKind.i64 3) w47) k48) (fun v35n49 w50 =>
pickE v31n39 (Value.bool true) v35n49 fun v36n51 =>
grdE v36n51 false (fun (k52 : Value → World → Prop) => callE P 56 #[(Value.int IntKind.i64 61)] w50 k52 (fun c53 w54 => R (.panicked c53) w54)) (fun v38n55 w56 =>
grdE v36n51 false (fun (k57 : Value → World → Prop) => bindV (pBin P BinOp.neq 3 true v38n55 (Value.int IntKind.i64 2) w56) k57) (fun v39n58 w59 =>
pickE v36n51 (Value.bool true) v39n58 fun v40n60 =>
condE v40n60 (fun (K61 : KT) =>
K61 .ret (Env.put (Env.put (Env.put (Env.put (Env.put (Env.put (Env.put (Env.put (Env.put (Env.put (Env.put (Env.put (Env.put (Env.put (Env.put (Env.put (Env.put (Env.put (Env.put (Env.put (Env.put (Env.put (Env.put (Env.put (Env.put (Env.put (Env.put (Env.put (Env.put (Env.put (Env.put (Env.put (Env.put (Env.put (Env.put (Env.put (Env.put (Env.put (argE []) 0 (Value.bool false)) 11 v11n3) 10 v11n3) 12 v12n5) 13 v13n7) 1 v12n5) 2 v13n7) 15 v12n5) 16 v16n9) 17 v17n13) 14 v17n13) 18 v18n15) 19 v19n17) 20 v20n19) 3 v18n15) 4 v19n17) 5 v20n19) 21 v20n19) 22 v22n21) 23 v22n21) 24 v24n24) 25 v25n27) 26 v26n29) 27 v26n29) 28 v28n31) 29 v29n34) 30 v30n37) 31 v31n39) 32 v31n39) 33 v33n41) 34 v34n46) 35 v35n49) 36 v36n51) 37 v36n51) 38 v38n55) 39 v39n58) 40 v40n60) 0 (Value.bool false)) w59) (fun (K61 : KT) =>
K61 .normal (Env.put (Env.put (Env.put (Env.put (Env.put (Env.put (Env.put (Env.put (Env.put (Env.put (Env.put (Env.put (Env.put (Env.put (Env.put (Env.put (Env.put (Env.put (Env.put (Env.put (Env.put (Env.put (Env.put (Env.put (Env.put (Env.put (Env.put (Env.put (Env.put (Env.put (Env.put (Env.put (Env.put (Env.put (Env.put (Env.put (Env.put (argE []) 0 (Value.bool false)) 11 v11n3) 10 v11n3) 12 v12n5) 13 v13n7) 1 v12n5) 2 v13n7) 15 v12n5) 16 v16n9) 17 v17n13) 14 v17n13) 18 v18n15) 19 v19n17) 20 v20n19) 3 v18n15) 4 v19n17) 5 v20n19) 21 v20n19) 22 v22n21) 23 v22n21) 24 v24n24) 25 v25n27) 26 v26n29) 27 v26n29) 28 v28n31) 29 v29n34) 30 v30n37) 31 v31n39) 32 v31n39) 33 v33n41) 34 v34n46) 35 v35n49) 36 v36n51) 37 v36n51) 38 v38n55) 39 v39n58) 40 v40n60) w59) (thenK (fun e62 w63 =>
bindV (pMake P 22 (Value.int IntKind.i64 61) (Value.int IntKind.i64 61) w63) fun v41n64 w65 =>
callE P 47 #[(e62 3), v41n64] w65 (fun v44n68 w69 =>
bindV (pBin P BinOp.neq 26 true v44n68 (Value.int IntKind.i64 0) w69) fun v45n70 w71 =>
grdE v45n70 false (fun (k72 : Value → World → Prop) => k72 (e62 3) w71) (fun v47n73 w74 =>
grdE v45n70 false (fun (k75 : Value → World → Prop) => callE P 49 #[v47n73] w74 k75 (fun c76 w77 => R (.panicked c76) w77)) (fun v48n78 w79 =>
grdE v45n70 false (fun (k80 : Value → World → Prop) => bindV (pBin P BinOp.neq 26 true v48n78 (Value.int IntKind.i64 0) w79) k80) (fun v49n81 w82 =>
pickE v45n70 (Value.bool true) v49n81 fun v50n83 =>
grdE v50n83 false (fun (k84 : Value → World → Prop) => k84 (e62 3) w82) (fun v52n85 w86 =>
grdE v50n83 false (fun (k87 : Value → World → Prop) => k87 v41n64 w86) (fun v53n88 w89 =>
grdE v50n83 false (fun (k90 : Value → World → Prop) => callE P 47 #[v52n85, v53n88] w89 k90 (fun c91 w92 => R (.panicked c91) w92)) (fun v54n93 w94 =>
grdE v50n83 false (fun (k95 : Value → World → Prop) => bindV (pBin P BinOp.neq 26 true v54n93 (Value.int IntKind.i64 8) w94) k95) (fun v55n96 w97 =>
pickE v50n83 (Value.bool true) v55n96 fun v56n98 =>
grdE v56n98 false (fun (k99 : Value → World → Prop) => k99 (e62 3) w97) (fun v58n100 w101 =>
grdE v56n98 false (fun (k102 : Value → World → Prop) => callE P 53 #[v58n100] w101 k102 (fun c103 w104 => R (.panicked c103) w104)) (fun v59n105 w106 =>
grdE v56n98 false (fun (k107 : Value → World → Prop) => bindV (pBin P BinOp.neq 3 true v59n105 (Value.int IntKind.i64 1) w106) k107) (fun v60n108 w109 =>
pickE v56n98 (Value.bool true) v60n108 fun v61n110 =>
condE v61n110 (fun (K111 : KT) =>
K111 .ret (Env.put (Env.put (Env.put (Env.put (Env.put (Env.put (Env.put (Env.put (Env.put (Env.put (Env.put (Env.put (Env.put (Env.put (Env.put (Env.put (Env.put (Env.put (Env.put (Env.put (Env.put (Env.put (Env.put e62 41 v41n64) 6 v41n64) 42 (e62 3)) 43 v41n64) 44 v44n68) 45 v45n70) 46 v45n70) 47 v47n73) 48 v48n78) 49 v49n81) 50 v50n83) 51 v50n83) 52 v52n85) 53 v53n88) 54 v54n93) 55 v55n96) 56 v56n98) 57 v56n98) 58 v58n100) 59 v59n105) 60 v60n108) 61 v61n110) 0 (Value.bool false)) w109) (fun (K111 : KT) =>
K111 .normal (Env.put (Env.put (Env.put (Env.put (Env.put (Env.put (Env.put (Env.put (Env.put (Env.put (Env.put (Env.put (Env.put (Env.put (Env.put (Env.put (Env.put (Env.put (Env.put (Env.put (Env.put (Env.put e62 41 v41n64) 6 v41n64) 42 (e62 3)) 43 v41n64) 44 v44n68) 45 v45n70) 46 v45n70) 47 v47n73) 48 v48n78) 49 v49n81) 50 v50n83) 51 v50n83) 52 v52n85) 53 v53n88) 54 v54n93) 55 v55n96) 56 v56n98) 57 v56n98) 58 v58n100) 59 v59n105) 60 v60n108) 61 v61n110) w109) (thenK (fun e112 w113 =>
bindV (pBuild P 65 [(0, (Value.int IntKind.i64 1)), (1, (Value.int IntKind.i64 3))] w113) fun v64n114 w115 =>
callE P 48 #[(e112 1), v64n114] w115 (fun v65n118 w119 =>
bindV (pExtract P v65n118 0 w119) fun v66n120 w121 =>
bindV (pExtract P v65n118 1 w121) fun v67n122 w123 =>
bindV (pExtract P v65n118 2 w123) fun v68n124 w125 =>
takeE (fun w128 => some (v68n124, w128)) (drew w125) fun v69n126 h127 =>
takeE (fun w131 => pBin P BinOp.eql 26 true v69n126 (Value.int IntKind.i64 0) w131) (drew w125) fun v70n129 h130 =>
takeE (fun w134 => some (v70n129, w134)) (drew w125) fun v71n132 h133 =>
takeE (fun w137 => qGrd v71n132 true (fun w137 => some (v67n122, w137)) w137) (drew w125) fun v72n135 h136 =>
takeE (fun w140 => qGrd v71n132 true (fun w140 => pBin P BinOp.eql 3 true v72n135 (Value.int IntKind.i64 2) w140) w140) (drew w125) fun v73n138 h139 =>
takeE (fun w143 => qPick v71n132 v73n138 (Value.bool false) w143) (drew w125) fun v74n141 h142 =>
takeE (fun w146 => some (v74n141, w146)) (drew w125) fun v75n144 h145 =>
takeE (fun w149 => qGrd v75n144 true (fun w149 => some (v66n120, w149)) w149) (drew w125) fun v76n147 h148 =>
takeE (fun w152 => qGrd v75n144 true (fun w152 => pBuiltin P Builtin.len #[67] 3 [v76n147] w152) w152) (drew w125) fun v77n150 h151 =>
takeE (fun w155 => qGrd v75n144 true (fun w155 => pBin P BinOp.eql 3 true v77n150 (Value.int IntKind.i64 1) w155) w155) (drew w125) fun v78n153 h154 =>
takeE (fun w158 => qPick v75n144 v78n153 (Value.bool false) w158) (drew w125) fun v79n156 h157 =>
takeE (fun w161 => some (v79n156, w161)) (drew w125) fun v80n159 h160 =>
takeE (fun w164 => qGrd v80n159 true (fun w164 => some (v66n120, w164)) w164) (drew w125) fun v81n162 h163 =>
takeE (fun w167 => qGrd v80n159 true (fun w167 => pIndexAddr P 67 v81n162 (Value.int IntKind.i64 0) w167) w167) (drew w125) fun v82n165 h166 =>
takeE (fun w170 => qGrd v80n159 true (fun w170 => pLoad P 22 v82n165 w170) w170) (drew w125) fun v83n168 h169 =>
takeE (fun w173 => qGrd v80n159 true (fun w173 => pConv P 22 9 v83n168 w173) w173) (drew w125) fun v84n171 h172 =>
takeE (fun w176 => qGrd v80n159 true (fun w176 => some ((e112 6), w176)) w176) (drew w125) fun v85n174 h175 =>
takeE (fun w179 => qGrd v80n159 true (fun w179 => pConv P 22 9 v85n174 w179) w179) (drew w125) fun v86n177 h178 =>
takeE (fun w182 => qGrd v80n159 true (fun w182 => pBin P BinOp.eql 9 false v84n171 v86n177 w182) w182) (drew w125) fun v87n180 h181 =>
takeE (fun w185 => qPick v80n159 v87n180 (Value.bool false) w185) (drew w125) fun v88n183 h184 =>
takeE (fun w188 => some (v88n183, w188)) (drew w125) fun v89n186 h187 =>
takeE (fun w191 => qGrd v89n186 true (fun w191 => some ((e112 1), w191)) w191) (drew w125) fun v90n189 h190 =>
grdE v89n186 true (fun (k193 : Value → World → Prop) => bindV (pBuild P 65 [(0, (Value.int IntKind.i64 1)), (1, (Value.int IntKind.i64 3))] (drew w125)) k193) (fun v91n194 w195 =>
heldE [h190] w195 (grdE v89n186 true (fun (k197 : Value → World → Prop) => callE P 50 #[v90n189, v91n194] w195 k197 (fun c198 w199 => ∀ (e196 : Env), agreeOff [69, 70, 71, 72, 73, 74, 75, 76, 77, 78, 79, 80, 81, 82, 83, 84, 85, 86, 87, 88, 89, 90, 91] (Env.put (Env.put (Env.put (Env.put (Env.put (Env.put (Env.put (Env.put (Env.put (Env.put (Env.put (Env.put (Env.put (Env.put (Env.put (Env.put (Env.put (Env.put (Env.put (Env.put (Env.put (Env.put (Env.put (Env.put (Env.put (Env.put (Env.put (Env.put (Env.put (Env.put (Env.put (Env.put (Env.put e112 63 (e112 1)) 64 v64n114) 65 v65n118) 62 v65n118) 66 v66n120) 67 v67n122) 68 v68n124) 7 v66n120) 8 v67n122) 9 v68n124) 69 v69n126) 70 v70n129) 71 v71n132) 72 v72n135) 73 v73n138) 74 v74n141) 75 v75n144) 76 v76n147) 77 v77n150) 78 v78n153) 79 v79n156) 80 v80n159) 81 v81n162) 82 v82n165) 83 v83n168) 84 v84n171) 85 v85n174) 86 v86n177) 87 v87n180) 88 v88n183) 89 v89n186) 90 v90n189) 91 v91n194) e196 → R (.panicked c198) w199)) (fun v92n200 w201 =>
takeE (fun w204 => qGrd v89n186 true (fun w204 => pBin P BinOp.eql 26 true v92n200 (Value.int IntKind.i64 0) w204) w204) w201 fun v93n202 h203 =>
takeE (fun w207 => qPick v89n186 v93n202 (Value.bool false) w207) w201 fun v94n205 h206 =>
R (.returned v94n205) w201) w195)) (drew w125)) (fun c116 w117 => R (.panicked c116) w117)) (topK P [(ResultVar.tmp 0)] R))) w106) w101) w97) w94) w89) w86) w82) w79) w74) w71) (fun c66 w67 => R (.panicked c66) w67)) (topK P [(ResultVar.tmp 0)] R))) w56) w50) w47) w42) w38) w35) w32) w28) w25) w22) (fun c11 w12 => R (.panicked c11) w12)) (fun c1 w2 => R (.panicked c1) w2)
theorem F44ok {w : World} {R : Ending → World → Prop} (h : F44  w R) : Calls P 44 #[] w R :=
  calls_of_ev bodies mixed (c := bodyOf Try.f44) (nt := 95) (rs := [(ResultVar.tmp 0)]) (args := []) (fn := Try.f44) (by kernel_rfl) (by kernel_rfl) (by kernel_rfl) (by kernel_rfl) (by kernel_rfl) (by simp)
    (eq_mp (show F44  w R = ev P C (bodyOf Try.f44) (argE []) w (topK P [(ResultVar.tmp 0)] R) by kernel_rfl) h)

/-! ### moiety/moietylaw19.RollDown -/
def F12 (a0 : Value) (a1 : Value) (w : World) (R : Ending → World → Prop) : Prop :=
callE P 44 #[] w (fun v22n3 w4 =>
bindV (pUn P UnOp.not v22n3 w4) fun v23n5 w6 =>
condE v23n5 (fun (K7 : KT) =>
K7 .ret (Env.put (Env.put (Env.put (Env.put (argE [a0, a1]) 4 (Value.bool false)) 22 v22n3) 23 v23n5) 4 (Value.bool false)) w6) (fun (K7 : KT) =>
K7 .normal (Env.put (Env.put (Env.put (argE [a0, a1]) 4 (Value.bool false)) 22 v22n3) 23 v23n5) w6) (thenK (fun e8 w9 =>
bindV (pBuiltin P Builtin.len #[22] 3 [(e8 0)] w9) fun v25n10 w11 =>
bindV (pBin P BinOp.gtr 3 true v25n10 (Value.int IntKind.i64 3000) w11) fun v26n12 w13 =>
condE v26n12 (fun (K14 : KT) =>
K14 .ret (Env.put (Env.put (Env.put (Env.put e8 24 (e8 0)) 25 v25n10) 26 v26n12) 4 (Value.bool true)) w13) (fun (K14 : KT) =>
K14 .normal (Env.put (Env.put (Env.put e8 24 (e8 0)) 25 v25n10) 26 v26n12) w13) (thenK (fun e15 w16 =>
callE P 27 #[(Value.int IntKind.i64 80)] w16 (fun v28n19 w20 =>
bindV (pExtract P v28n19 0 w20) fun v29n21 w22 =>
bindV (pExtract P v28n19 1 w22) fun v30n23 w24 =>
bindV (pBuild P 65 [(1, (Value.int IntKind.i64 80))] w24) fun v31n25 w26 =>
bindV (pAlloc P 65 w26) fun v7n27 w28 =>
bindU (pStore P 65 v7n27 v31n25 w28) fun w29 =>
bindV (pLoad P 65 v7n27 w29) fun v34n30 w31 =>
callE P 45 #[v29n21, v34n30] w31 (fun v35n34 w35 =>
bindV (pExtract P v35n34 0 w35) fun v36n36 w37 =>
bindV (pExtract P v35n34 1 w37) fun v37n38 w39 =>
bindV (pExtract P v35n34 2 w39) fun v38n40 w41 =>
bindV (pBuiltin P Builtin.len #[22] 3 [(e15 0)] w41) fun v40n42 w43 =>
callE P 46 #[v40n42] w43 (fun v41n46 w47 =>
bindV (pConv P 5 3 (e15 1) w47) fun v43n48 w49 =>
bindV (pBin P BinOp.rem 3 true v43n48 (Value.int IntKind.i64 60) w49) fun v44n50 w51 =>
bindV (pBin P BinOp.add 3 true (Value.int IntKind.i64 1) v44n50 w51) fun v45n52 w53 =>
callE P 41 #[v29n21, v45n52] w53 (fun v48n56 w57 =>
callE P 47 #[v36n36, (e15 0)] w57 (fun v51n60 w61 =>
bindV (pBin P BinOp.gtr 3 false v45n52 v41n46 w61) fun v54n62 w63 =>
condE v54n62 (fun (K64 : KT) =>
bindV (pBin P BinOp.eql 26 true v51n60 (Value.int IntKind.i64 0) w63) fun v56n65 w66 =>
K64 .ret (Env.put (Env.put (Env.put (Env.put (Env.put (Env.put (Env.put (Env.put (Env.put (Env.put (Env.put (Env.put (Env.put (Env.put (Env.put (Env.put (Env.put (Env.put (Env.put (Env.put (Env.put (Env.put (Env.put (Env.put (Env.put (Env.put (Env.put (Env.put (Env.put (Env.put (Env.put (Env.put (Env.put (Env.put (Env.put (Env.put (Env.put (Env.put (Env.put (Env.put e15 28 v28n19) 27 v28n19) 29 v29n21) 30 v30n23) 5 v29n21) 6 v30n23) 31 v31n25) 7 v7n27) 33 v29n21) 34 v34n30) 35 v35n34) 32 v35n34) 36 v36n36) 37 v37n38) 38 v38n40) 8 v36n36) 9 v37n38) 10 v38n40) 39 (e15 0)) 40 v40n42) 41 v41n46) 11 v41n46) 42 (e15 1)) 43 v43n48) 44 v44n50) 45 v45n52) 12 v45n52) 46 v29n21) 47 v45n52) 48 v48n56) 49 v36n36) 50 (e15 0)) 51 v51n60) 13 v51n60) 52 v45n52) 53 v41n46) 54 v54n62) 55 v51n60) 56 v56n65) 4 v56n65) w66) (fun (K64 : KT) =>
K64 .normal (Env.put (Env.put (Env.put (Env.put (Env.put (Env.put (Env.put (Env.put (Env.put (Env.put (Env.put (Env.put (Env.put (Env.put (Env.put (Env.put (Env.put (Env.put (Env.put (Env.put (Env.put (Env.put (Env.put (Env.put (Env.put (Env.put (Env.put (Env.put (Env.put (Env.put (Env.put (Env.put (Env.put (Env.put (Env.put (Env.put (Env.put e15 28 v28n19) 27 v28n19) 29 v29n21) 30 v30n23) 5 v29n21) 6 v30n23) 31 v31n25) 7 v7n27) 33 v29n21) 34 v34n30) 35 v35n34) 32 v35n34) 36 v36n36) 37 v37n38) 38 v38n40) 8 v36n36) 9 v37n38) 10 v38n40) 39 (e15 0)) 40 v40n42) 41 v41n46) 11 v41n46) 42 (e15 1)) 43 v43n48) 44 v44n50) 45 v45n52) 12 v45n52) 46 v29n21) 47 v45n52) 48 v48n56) 49 v36n36) 50 (e15 0)) 51 v51n60) 13 v51n60) 52 v45n52) 53 v41n46) 54 v54n62) w63) (thenK (fun e67 w68 =>
bindV (pLoad P 65 (e67 7) w68) fun v59n69 w70 =>
callE P 48 #[(e67 5), v59n69] w70 (fun v60n73 w74 =>
bindV (pExtract P v60n73 0 w74) fun v61n75 w76 =>
bindV (pExtract P v60n73 1 w76) fun v62n77 w78 =>
bindV (pExtract P v60n73 2 w78) fun v63n79 w80 =>
bindV (pLoad P 65 (e67 7) w80) fun v66n81 w82 =>
callE P 45 #[(e67 5), v66n81] w82 (fun v67n85 w86 =>
bindV (pExtract P v67n85 0 w86) fun v68n87 w88 =>
bindV (pExtract P v67n85 1 w88) fun v69n89 w90 =>
bindV (pExtract P v67n85 2 w90) fun v70n91 w92 =>
bindV (pBuild P 25 [] w92) fun v72n93 w94 =>
callE P 25 #[v72n93] w94 (fun v73n97 w98 =>
bindV (pExtract P v73n97 0 w98) fun v74n99 w100 =>
bindV (pExtract P v73n97 1 w100) fun v75n101 w102 =>
bindV (pBin P BinOp.eql 26 true (e67 13) (Value.int IntKind.i64 14) w102) fun v77n103 w104 =>
grdE v77n103 true (fun (k105 : Value → World → Prop) => k105 v63n79 w104) (fun v79n106 w107 =>
grdE v77n103 true (fun (k108 : Value → World → Prop) => bindV (pBin P BinOp.eql 26 true v79n106 (Value.int IntKind.i64 14) w107) k108) (fun v80n109 w110 =>
pickE v77n103 v80n109 (Value.bool false) fun v81n111 =>
grdE v81n111 true (fun (k112 : Value → World → Prop) => k112 v70n91 w110) (fun v83n113 w114 =>
grdE v81n111 true (fun (k115 : Value → World → Prop) => bindV (pBin P BinOp.eql 26 true v83n113 (Value.int IntKind.i64 14) w114) k115) (fun v84n116 w117 =>
pickE v81n111 v84n116 (Value.bool false) fun v85n118 =>
grdE v85n118 true (fun (k119 : Value → World → Prop) => k119 (e67 8) w117) (fun v87n120 w121 =>
grdE v85n118 true (fun (k122 : Value → World → Prop) => k122 (e67 0) w121) (fun v88n123 w124 =>
grdE v85n118 true (fun (k125 : Value → World → Prop) => callE P 47 #[v87n120, v88n123] w124 k125 (fun c126 w127 => R (.panicked c126) w127)) (fun v89n128 w129 =>
grdE v85n118 true (fun (k130 : Value → World → Prop) => bindV (pBin P BinOp.eql 26 true v89n128 (Value.int IntKind.i64 14) w129) k130) (fun v90n131 w132 =>
pickE v85n118 v90n131 (Value.bool false) fun v91n133 =>
grdE v91n133 true (fun (k134 : Value → World → Prop) => k134 (e67 8) w132) (fun v93n135 w136 =>
grdE v91n133 true (fun (k137 : Value → World → Prop) => callE P 49 #[v93n135] w136 k137 (fun c138 w139 => R (.panicked c138) w139)) (fun v94n140 w141 =>
grdE v91n133 true (fun (k142 : Value → World → Prop) => bindV (pBin P BinOp.eql 26 true v94n140 (Value.int IntKind.i64 14) w141) k142) (fun v95n143 w144 =>
pickE v91n133 v95n143 (Value.bool false) fun v96n145 =>
grdE v96n145 true (fun (k146 : Value → World → Prop) => k146 (e67 5) w144) (fun v98n147 w148 =>
grdE v96n145 true (fun (k149 : Value → World → Prop) => bindV (pLoad P 65 (e67 7) w148) k149) (fun v99n150 w151 =>
grdE v96n145 true (fun (k152 : Value → World → Prop) => callE P 50 #[v98n147, v99n150] w151 k152 (fun c153 w154 => R (.panicked c153) w154)) (fun v100n155 w156 =>
grdE v96n145 true (fun (k157 : Value → World → Prop) => bindV (pBin P BinOp.eql 26 true v100n155 (Value.int IntKind.i64 14) w156) k157) (fun v101n158 w159 =>
pickE v96n145 v101n158 (Value.bool false) fun v102n160 =>
grdE v102n160 true (fun (k161 : Value → World → Prop) => k161 v75n101 w159) (fun v104n162 w163 =>
grdE v102n160 true (fun (k164 : Value → World → Prop) => bindV (pUn P UnOp.not v104n162 w163) k164) (fun v105n165 w166 =>
pickE v102n160 v105n165 (Value.bool false) fun v106n167 =>
R (.returned v106n167) w166) w163) w159) w156) w151) w148) w144) w141) w136) w132) w129) w124) w121) w117) w114) w110) w107) w104) (fun c95 w96 => R (.panicked c95) w96)) (fun c83 w84 => R (.panicked c83) w84)) (fun c71 w72 => R (.panicked c71) w72)) (topK P [(ResultVar.tmp 4)] R))) (fun c58 w59 => R (.panicked c58) w59)) (fun c54 w55 => R (.panicked c54) w55)) (fun c44 w45 => R (.panicked c44) w45)) (fun c32 w33 => R (.panicked c32) w33)) (fun c17 w18 => R (.panicked c17) w18)) (topK P [(ResultVar.tmp 4)] R))) (topK P [(ResultVar.tmp 4)] R))) (fun c1 w2 => R (.panicked c1) w2)
theorem F12ok {w : World} {R : Ending → World → Prop} {a0 : Value} {a1 : Value} (h : F12 a0 a1 w R) : Calls P 12 #[a0, a1] w R :=
  calls_of_ev bodies mixed (c := bodyOf Try.f12) (nt := 107) (rs := [(ResultVar.tmp 4)]) (args := [a0, a1]) (fn := Try.f12) (by kernel_rfl) (by kernel_rfl) (by kernel_rfl) (by kernel_rfl) (by kernel_rfl) (by simp)
    (eq_mp (show F12 a0 a1 w R = ev P C (bodyOf Try.f12) (argE [a0, a1]) w (topK P [(ResultVar.tmp 4)] R) by kernel_rfl) h)

end Go.Proofs.Yticncfkpfpkfoaa
