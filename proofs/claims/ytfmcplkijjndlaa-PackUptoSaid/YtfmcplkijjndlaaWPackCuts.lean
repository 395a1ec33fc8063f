/- The functions' residual programs, printed by gen.py. -/
import Derived.Test.YtfmcplkijjndlaaBaseD
namespace Go.Proofs.Ytfmcplkijjndlaa
open Go
/-! ### moiety/moietylaw02.PackCuts -/
def F14 (a0 : Value) (a1 : Value) (a2 : Value) (w : World) (R : Ending → World → Prop) : Prop :=
callE P 39 #[] w (fun v14n3 w4 =>
bindV (pUn P UnOp.not v14n3 w4) fun v15n5 w6 =>
condE v15n5 (fun (K7 : KT) =>
K7 .ret (Env.put (Env.put (Env.put (Env.put (argE [a0, a1, a2]) 6 (Value.bool false)) 14 v14n3) 15 v15n5) 6 (Value.bool false)) w6) (fun (K7 : KT) =>
K7 .normal (Env.put (Env.put (Env.put (argE [a0, a1, a2]) 6 (Value.bool false)) 14 v14n3) 15 v15n5) w6) (thenK (fun e8 w9 =>
callE P 40 #[(e8 0)] w9 (fun v18n12 w13 =>
bindV (pExtract P v18n12 0 w13) fun v19n14 w15 =>
bindV (pExtract P v18n12 1 w15) fun v20n16 w17 =>
bindV (pUn P UnOp.not v20n16 w17) fun v22n18 w19 =>
grdE v22n18 false (fun (k20 : Value → World → Prop) => k20 (e8 2) w19) (fun v24n21 w22 =>
grdE v22n18 false (fun (k23 : Value → World → Prop) => bindV (pBuiltin P Builtin.len #[40] 3 [v24n21] w22) k23) (fun v25n24 w25 =>
grdE v22n18 false (fun (k26 : Value → World → Prop) => bindV (pBin P BinOp.gtr 3 true v25n24 (Value.int IntKind.i64 100) w25) k26) (fun v26n27 w28 =>
pickE v22n18 (Value.bool true) v26n27 fun v27n29 =>
condE v27n29 (fun (K30 : KT) =>
K30 .ret (Env.put (Env.put (Env.put (Env.put (Env.put (Env.put (Env.put (Env.put (Env.put (Env.put (Env.put (Env.put (Env.put (Env.put (Env.put e8 17 (e8 0)) 18 v18n12) 16 v18n12) 19 v19n14) 20 v20n16) 7 v19n14) 8 v20n16) 21 v20n16) 22 v22n18) 23 v22n18) 24 v24n21) 25 v25n24) 26 v26n27) 27 v27n29) 6 (Value.bool true)) w28) (fun (K30 : KT) =>
K30 .normal (Env.put (Env.put (Env.put (Env.put (Env.put (Env.put (Env.put (Env.put (Env.put (Env.put (Env.put (Env.put (Env.put (Env.put e8 17 (e8 0)) 18 v18n12) 16 v18n12) 19 v19n14) 20 v20n16) 7 v19n14) 8 v20n16) 21 v20n16) 22 v22n18) 23 v22n18) 24 v24n21) 25 v25n24) 26 v26n27) 27 v27n29) w28) (thenK (fun e31 w32 =>
callE P 41 #[(e31 0)] w32 (fun v29n35 w36 =>
bindV (pBuiltin P Builtin.len #[40] 3 [(e31 2)] w36) fun v31n37 w38 =>
bindV (pBin P BinOp.gtr 3 true v31n37 (Value.int IntKind.i64 0) w38) fun v32n39 w40 =>
condE v32n39 (fun (K41 : KT) =>
bindV (pBuildSlice P 40 0 [] w40) fun v34n42 w43 =>
bindV (pBuiltin P Builtin.append #[40, 40] 40 [v34n42, v29n35] w43) fun v36n44 w45 =>
bindV (pBuiltin P Builtin.append #[40, 40] 40 [v36n44, (e31 2)] w45) fun v38n46 w47 =>
callE P 42 #[v38n46, (e31 7), (Value.int IntKind.i64 1000)] w47 (fun v40n50 w51 =>
bindV (pExtract P v40n50 0 w51) fun v41n52 w53 =>
bindV (pExtract P v40n50 1 w53) fun v42n54 w55 =>
bindV (pAlloc P 44 w55) fun v11n56 w57 =>
bindU (pStore P 44 v11n56 v42n54 w57) fun w58 =>
bindV (pFieldAddr P 44 v11n56 0 w58) fun v43n59 w60 =>
bindV (pLoad P 42 v43n59 w60) fun v44n61 w62 =>
bindV (pBin P BinOp.neq 42 true v44n61 (Value.int IntKind.i64 3) w62) fun v45n63 w64 =>
grdE v45n63 false (fun (k65 : Value → World → Prop) => bindV (pFieldAddr P 44 v11n56 1 w64) k65) (fun v47n66 w67 =>
grdE v45n63 false (fun (k68 : Value → World → Prop) => bindV (pLoad P 3 v47n66 w67) k68) (fun v48n69 w70 =>
grdE v45n63 false (fun (k71 : Value → World → Prop) => k71 v29n35 w70) (fun v49n72 w73 =>
grdE v45n63 false (fun (k74 : Value → World → Prop) => bindV (pBuiltin P Builtin.len #[40] 3 [v49n72] w73) k74) (fun v50n75 w76 =>
grdE v45n63 false (fun (k77 : Value → World → Prop) => bindV (pBin P BinOp.neq 3 false v48n69 v50n75 w76) k77) (fun v51n78 w79 =>
pickE v45n63 (Value.bool true) v51n78 fun v52n80 =>
condE v52n80 (fun (K81 : KT) =>
K81 .ret (Env.put (Env.put (Env.put (Env.put (Env.put (Env.put (Env.put (Env.put (Env.put (Env.put (Env.put (Env.put (Env.put (Env.put (Env.put (Env.put (Env.put (Env.put (Env.put (Env.put (Env.put (Env.put (Env.put (Env.put (Env.put (Env.put (Env.put (Env.put (Env.put e31 28 (e31 0)) 29 v29n35) 9 v29n35) 30 (e31 2)) 31 v31n37) 32 v32n39) 34 v34n42) 35 v29n35) 36 v36n44) 37 (e31 2)) 38 v38n46) 39 (e31 7)) 40 v40n50) 33 v40n50) 41 v41n52) 42 v42n54) 11 v11n56) 10 v41n52) 43 v43n59) 44 v44n61) 45 v45n63) 46 v45n63) 47 v47n66) 48 v48n69) 49 v49n72) 50 v50n75) 51 v51n78) 52 v52n80) 6 (Value.bool false)) w79) (fun (K81 : KT) =>
K81 .normal (Env.put (Env.put (Env.put (Env.put (Env.put (Env.put (Env.put (Env.put (Env.put (Env.put (Env.put (Env.put (Env.put (Env.put (Env.put (Env.put (Env.put (Env.put (Env.put (Env.put (Env.put (Env.put (Env.put (Env.put (Env.put (Env.put (Env.put (Env.put e31 28 (e31 0)) 29 v29n35) 9 v29n35) 30 (e31 2)) 31 v31n37) 32 v32n39) 34 v34n42) 35 v29n35) 36 v36n44) 37 (e31 2)) 38 v38n46) 39 (e31 7)) 40 v40n50) 33 v40n50) 41 v41n52) 42 v42n54) 11 v11n56) 10 v41n52) 43 v43n59) 44 v44n61) 45 v45n63) 46 v45n63) 47 v47n66) 48 v48n69) 49 v49n72) 50 v50n75) 51 v51n78) 52 v52n80) w79) K41) w76) w73) w70) w67) w64) (fun c48 w49 => K41 (.panic c48) (Env.put (Env.put (Env.put (Env.put (Env.put (Env.put (Env.put (Env.put (Env.put (Env.put (Env.put (Env.put e31 28 (e31 0)) 29 v29n35) 9 v29n35) 30 (e31 2)) 31 v31n37) 32 v32n39) 34 v34n42) 35 v29n35) 36 v36n44) 37 (e31 2)) 38 v38n46) 39 (e31 7)) w49)) (fun (K41 : KT) =>
K41 .normal (Env.put (Env.put (Env.put (Env.put (Env.put (Env.put e31 28 (e31 0)) 29 v29n35) 9 v29n35) 30 (e31 2)) 31 v31n37) 32 v32n39) w40) (thenK (fun e82 w83 =>
bindV (pBin P BinOp.lss 3 true (e82 1) (Value.int IntKind.i64 0) w83) fun v54n84 w85 =>
grdE v54n84 false (fun (k86 : Value → World → Prop) => k86 (e82 1) w85) (fun v56n87 w88 =>
grdE v54n84 false (fun (k89 : Value → World → Prop) => k89 (e82 9) w88) (fun v57n90 w91 =>
grdE v54n84 false (fun (k92 : Value → World → Prop) => bindV (pBuiltin P Builtin.len #[40] 3 [v57n90] w91) k92) (fun v58n93 w94 =>
grdE v54n84 false (fun (k95 : Value → World → Prop) => bindV (pBin P BinOp.geq 3 false v56n87 v58n93 w94) k95) (fun v59n96 w97 =>
pickE v54n84 (Value.bool true) v59n96 fun v60n98 =>
condE v60n98 (fun (K99 : KT) =>
K99 .ret (Env.put (Env.put (Env.put (Env.put (Env.put (Env.put (Env.put (Env.put (Env.put e82 53 (e82 1)) 54 v54n84) 55 v54n84) 56 v56n87) 57 v57n90) 58 v58n93) 59 v59n96) 60 v60n98) 6 (Value.bool true)) w97) (fun (K99 : KT) =>
K99 .normal (Env.put (Env.put (Env.put (Env.put (Env.put (Env.put (Env.put (Env.put e82 53 (e82 1)) 54 v54n84) 55 v54n84) 56 v56n87) 57 v57n90) 58 v58n93) 59 v59n96) 60 v60n98) w97) (thenK (fun e100 w101 =>
bindV (pSlice P 40 (e100 9) none (some (e100 1)) none w101) fun v64n102 w103 =>
callE P 42 #[v64n102, (e100 7), (Value.int IntKind.i64 1000)] w103 (fun v66n106 w107 =>
bindV (pExtract P v66n106 0 w107) fun v67n108 w109 =>
bindV (pExtract P v66n106 1 w109) fun v68n110 w111 =>
bindV (pAlloc P 44 w111) fun v13n112 w113 =>
bindU (pStore P 44 v13n112 v68n110 w113) fun w114 =>
bindV (pFieldAddr P 44 v13n112 0 w114) fun v69n115 w116 =>
bindV (pLoad P 42 v69n115 w116) fun v70n117 w118 =>
bindV (pBin P BinOp.eql 42 true v70n117 (Value.int IntKind.i64 2) w118) fun v71n119 w120 =>
grdE v71n119 true (fun (k121 : Value → World → Prop) => k121 v67n108 w120) (fun v73n122 w123 =>
grdE v71n119 true (fun (k124 : Value → World → Prop) => bindV (pBuiltin P Builtin.len #[37] 3 [v73n122] w123) k124) (fun v74n125 w126 =>
grdE v71n119 true (fun (k127 : Value → World → Prop) => bindV (pBin P BinOp.eql 3 true v74n125 (Value.int IntKind.i64 0) w126) k127) (fun v75n128 w129 =>
pickE v71n119 v75n128 (Value.bool false) fun v76n130 =>
grdE v76n130 true (fun (k131 : Value → World → Prop) => bindV (pFieldAddr P 44 v13n112 1 w129) k131) (fun v78n132 w133 =>
grdE v76n130 true (fun (k134 : Value → World → Prop) => bindV (pLoad P 3 v78n132 w133) k134) (fun v79n135 w136 =>
grdE v76n130 true (fun (k137 : Value → World → Prop) => k137 (e100 1) w136) (fun v80n138 w139 =>
grdE v76n130 true (fun (k140 : Value → World → Prop) => bindV (pBin P BinOp.leq 3 false v79n135 v80n138 w139) k140) (fun v81n141 w142 =>
pickE v76n130 v81n141 (Value.bool false) fun v82n143 =>
R (.returned v82n143) w142) w139) w136) w133) w129) w126) w123) w120) (fun c104 w105 => R (.panicked c104) w105)) (topK P [(ResultVar.tmp 6)] R))) w94) w91) w88) w85) (topK P [(ResultVar.tmp 6)] R))) (fun c33 w34 => R (.panicked c33) w34)) (topK P [(ResultVar.tmp 6)] R))) w25) w22) w19) (fun c10 w11 => R (.panicked c10) w11)) (topK P [(ResultVar.tmp 6)] R))) (fun c1 w2 => R (.panicked c1) w2)
theorem F14ok {w : World} {R : Ending → World → Prop} {a0 : Value} {a1 : Value} {a2 : Value} (h : F14 a0 a1 a2 w R) : Calls P 14 #[a0, a1, a2] w R :=
  calls_of_ev bodies mixed (c := bodyOf Try.f14) (nt := 83) (rs := [(ResultVar.tmp 6)]) (args := [a0, a1, a2]) (fn := Try.f14) (by kernel_rfl) (by kernel_rfl) (by kernel_rfl) (by kernel_rfl) (by kernel_rfl) (by simp)
    (eq_mp (show F14 a0 a1 a2 w R = ev P C (bodyOf Try.f14) (argE [a0, a1, a2]) w (topK P [(ResultVar.tmp 6)] R) by kernel_rfl) h)

end Go.Proofs.Ytfmcplkijjndlaa
