/- The functions' residual programs, printed by gen.py. -/
import Derived.Test.YticncfkpfpkfoaaBase
namespace Go.Proofs.Yticncfkpfpkfoaa
open Go
/-! ### moiety/moietylaw18.SealBack -/
def F3 (a0 : Value) (w : World) (R : Ending → World → Prop) : Prop :=
callE P 20 #[] w (fun v7n3 w4 =>
bindV (pUn P UnOp.not v7n3 w4) fun v8n5 w6 =>
condE v8n5 (fun (K7 : KT) =>
K7 .ret (Env.put (Env.put (Env.put (Env.put (argE [a0]) 2 (Value.bool false)) 7 v7n3) 8 v8n5) 2 (Value.bool false)) w6) (fun (K7 : KT) =>
K7 .normal (Env.put (Env.put (Env.put (argE [a0]) 2 (Value.bool false)) 7 v7n3) 8 v8n5) w6) (thenK (fun e8 w9 =>
bindV (pBuiltin P Builtin.len #[22] 3 [(e8 0)] w9) fun v10n10 w11 =>
bindV (pBin P BinOp.gtr 3 true v10n10 (Value.int IntKind.i64 1000) w11) fun v11n12 w13 =>
condE v11n12 (fun (K14 : KT) =>
K14 .ret (Env.put (Env.put (Env.put (Env.put e8 9 (e8 0)) 10 v10n10) 11 v11n12) 2 (Value.bool true)) w13) (fun (K14 : KT) =>
K14 .normal (Env.put (Env.put (Env.put e8 9 (e8 0)) 10 v10n10) 11 v11n12) w13) (thenK (fun e15 w16 =>
callE P 21 #[(e15 0)] w16 (fun v14n19 w20 =>
bindV (pExtract P v14n19 0 w20) fun v15n21 w22 =>
bindV (pExtract P v14n19 1 w22) fun v16n23 w24 =>
bindV (pAlloc P 25 w24) fun v3n25 w26 =>
bindU (pStore P 25 v3n25 v15n21 w26) fun w27 =>
bindV (pBuiltin P Builtin.len #[22] 3 [(e15 0)] w27) fun v18n28 w29 =>
bindV (pBin P BinOp.gtr 3 true v18n28 (Value.int IntKind.i64 61) w29) fun v19n30 w31 =>
condE v19n30 (fun (K32 : KT) =>
bindV (pBin P BinOp.eql 26 true v16n23 (Value.int IntKind.i64 3) w31) fun v21n33 w34 =>
grdE v21n33 true (fun (k35 : Value → World → Prop) => bindV (pLoad P 25 v3n25 w34) k35) (fun v23n36 w37 =>
grdE v21n33 true (fun (k38 : Value → World → Prop) => callE P 22 #[v23n36] w37 k38 (fun c39 w40 => K32 (.panic c39) (Env.put (Env.put (Env.put (Env.put (Env.put (Env.put (Env.put (Env.put (Env.put (Env.put (Env.put (Env.put (Env.put (Env.put e15 13 (e15 0)) 14 v14n19) 12 v14n19) 15 v15n21) 16 v16n23) 3 v3n25) 4 v16n23) 17 (e15 0)) 18 v18n28) 19 v19n30) 20 v16n23) 21 v21n33) 22 v21n33) 23 v23n36) w40)) (fun v24n41 w42 =>
pickE v21n33 v24n41 (Value.bool false) fun v25n43 =>
K32 .ret (Env.put (Env.put (Env.put (Env.put (Env.put (Env.put (Env.put (Env.put (Env.put (Env.put (Env.put (Env.put (Env.put (Env.put (Env.put (Env.put (Env.put e15 13 (e15 0)) 14 v14n19) 12 v14n19) 15 v15n21) 16 v16n23) 3 v3n25) 4 v16n23) 17 (e15 0)) 18 v18n28) 19 v19n30) 20 v16n23) 21 v21n33) 22 v21n33) 23 v23n36) 24 v24n41) 25 v25n43) 2 v25n43) w42) w37) w34) (fun (K32 : KT) =>
K32 .normal (Env.put (Env.put (Env.put (Env.put (Env.put (Env.put (Env.put (Env.put (Env.put (Env.put e15 13 (e15 0)) 14 v14n19) 12 v14n19) 15 v15n21) 16 v16n23) 3 v3n25) 4 v16n23) 17 (e15 0)) 18 v18n28) 19 v19n30) w31) (thenK (fun e44 w45 =>
bindV (pLoad P 25 (e44 3) w45) fun v27n46 w47 =>
callE P 23 #[v27n46] w47 (fun v28n50 w51 =>
bindV (pExtract P v28n50 0 w51) fun v29n52 w53 =>
bindV (pExtract P v28n50 1 w53) fun v30n54 w55 =>
takeE (fun w58 => some ((e44 4), w58)) (drew w55) fun v31n56 h57 =>
takeE (fun w61 => pBin P BinOp.eql 26 true v31n56 (Value.int IntKind.i64 0) w61) (drew w55) fun v32n59 h60 =>
takeE (fun w64 => some (v32n59, w64)) (drew w55) fun v33n62 h63 =>
takeE (fun w67 => qGrd v33n62 true (fun w67 => pLoad P 25 (e44 3) w67) w67) (drew w55) fun v34n65 h66 =>
takeE (fun w70 => qGrd v33n62 true (fun w70 => some ((e44 0), w70)) w70) (drew w55) fun v35n68 h69 =>
grdE v33n62 true (fun (k72 : Value → World → Prop) => callE P 24 #[v35n68] (drew w55) k72 (fun c73 w74 => ∀ (e71 : Env), agreeOff [31, 32, 33, 34, 35] (Env.put (Env.put (Env.put (Env.put (Env.put (Env.put (Env.put (Env.put (Env.put (Env.put (Env.put (Env.put e44 27 v27n46) 28 v28n50) 26 v28n50) 29 v29n52) 30 v30n54) 5 v29n52) 6 v30n54) 31 v31n56) 32 v32n59) 33 v33n62) 34 v34n65) 35 v35n68) e71 → R (.panicked c73) w74)) (fun v36n75 w76 =>
heldE [h66] w76 (takeE (fun w79 => qGrd v33n62 true (fun w79 => pBin P BinOp.eql 25 false v34n65 v36n75 w79) w79) w76 fun v37n77 h78 =>
takeE (fun w82 => qPick v33n62 v37n77 (Value.bool false) w82) w76 fun v38n80 h81 =>
takeE (fun w85 => some (v38n80, w85)) w76 fun v39n83 h84 =>
takeE (fun w88 => qGrd v39n83 true (fun w88 => some (v30n54, w88)) w88) w76 fun v40n86 h87 =>
takeE (fun w91 => qPick v39n83 v40n86 (Value.bool false) w91) w76 fun v41n89 h90 =>
takeE (fun w94 => some (v41n89, w94)) w76 fun v42n92 h93 =>
takeE (fun w97 => qGrd v42n92 true (fun w97 => some (v29n52, w97)) w97) w76 fun v43n95 h96 =>
takeE (fun w100 => qGrd v42n92 true (fun w100 => pConv P 22 9 v43n95 w100) w100) w76 fun v44n98 h99 =>
takeE (fun w103 => qGrd v42n92 true (fun w103 => some ((e44 0), w103)) w103) w76 fun v45n101 h102 =>
takeE (fun w106 => qGrd v42n92 true (fun w106 => pConv P 22 9 v45n101 w106) w106) w76 fun v46n104 h105 =>
takeE (fun w109 => qGrd v42n92 true (fun w109 => pBin P BinOp.eql 9 false v44n98 v46n104 w109) w109) w76 fun v47n107 h108 =>
takeE (fun w112 => qPick v42n92 v47n107 (Value.bool false) w112) w76 fun v48n110 h111 =>
takeE (fun w115 => some (v48n110, w115)) w76 fun v49n113 h114 =>
takeE (fun w118 => qGrd v49n113 true (fun w118 => pLoad P 25 (e44 3) w118) w118) w76 fun v50n116 h117 =>
grdE v49n113 true (fun (k120 : Value → World → Prop) => callE P 22 #[v50n116] w76 k120 (fun c121 w122 => ∀ (e119 : Env), agreeOff [31, 32, 33, 34, 35, 36, 37, 38, 39, 40, 41, 42, 43, 44, 45, 46, 47, 48, 49, 50] (Env.put (Env.put (Env.put (Env.put (Env.put (Env.put (Env.put (Env.put (Env.put (Env.put (Env.put (Env.put (Env.put (Env.put (Env.put (Env.put (Env.put (Env.put (Env.put (Env.put (Env.put (Env.put (Env.put (Env.put (Env.put (Env.put (Env.put e44 27 v27n46) 28 v28n50) 26 v28n50) 29 v29n52) 30 v30n54) 5 v29n52) 6 v30n54) 31 v31n56) 32 v32n59) 33 v33n62) 34 v34n65) 35 v35n68) 36 v36n75) 37 v37n77) 38 v38n80) 39 v39n83) 40 v40n86) 41 v41n89) 42 v42n92) 43 v43n95) 44 v44n98) 45 v45n101) 46 v46n104) 47 v47n107) 48 v48n110) 49 v49n113) 50 v50n116) e119 → R (.panicked c121) w122)) (fun v51n123 w124 =>
takeE (fun w127 => qGrd v49n113 true (fun w127 => pUn P UnOp.not v51n123 w127) w127) w124 fun v52n125 h126 =>
takeE (fun w130 => qPick v49n113 v52n125 (Value.bool false) w130) w124 fun v53n128 h129 =>
R (.returned v53n128) w124) w76)) (drew w55)) (fun c48 w49 => R (.panicked c48) w49)) (topK P [(ResultVar.tmp 2)] R))) (fun c17 w18 => R (.panicked c17) w18)) (topK P [(ResultVar.tmp 2)] R))) (topK P [(ResultVar.tmp 2)] R))) (fun c1 w2 => R (.panicked c1) w2)
theorem F3ok {w : World} {R : Ending → World → Prop} {a0 : Value} (h : F3 a0 w R) : Calls P 3 #[a0] w R :=
  calls_of_ev bodies mixed (c := bodyOf Try.f3) (nt := 54) (rs := [(ResultVar.tmp 2)]) (args := [a0]) (fn := Try.f3) (by kernel_rfl) (by kernel_rfl) (by kernel_rfl) (by kernel_rfl) (by kernel_rfl) (by simp)
    (eq_mp (show F3 a0 w R = ev P C (bodyOf Try.f3) (argE [a0]) w (topK P [(ResultVar.tmp 2)] R) by kernel_rfl) h)

/-! ### moiety/moietylaw18.SealOpens -/
def F4 (a0 : Value) (w : World) (R : Ending → World → Prop) : Prop :=
bindV (pBox P 25 a0 w) fun v1n1 w2 =>
callE P 20 #[] w2 (fun v7n5 w6 =>
bindV (pUn P UnOp.not v7n5 w6) fun v8n7 w8 =>
condE v8n7 (fun (K9 : KT) =>
K9 .ret (Env.put (Env.put (Env.put (Env.put (Env.put (argE [a0]) 1 v1n1) 2 (Value.bool false)) 7 v7n5) 8 v8n7) 2 (Value.bool false)) w8) (fun (K9 : KT) =>
K9 .normal (Env.put (Env.put (Env.put (Env.put (argE [a0]) 1 v1n1) 2 (Value.bool false)) 7 v7n5) 8 v8n7) w8) (thenK (fun e10 w11 =>
bindV (pLoad P 25 (e10 1) w11) fun v10n12 w13 =>
callE P 23 #[v10n12] w13 (fun v11n16 w17 =>
bindV (pExtract P v11n16 0 w17) fun v12n18 w19 =>
bindV (pExtract P v11n16 1 w19) fun v13n20 w21 =>
bindV (pLoad P 25 (e10 1) w21) fun v15n22 w23 =>
callE P 25 #[v15n22] w23 (fun v16n26 w27 =>
bindV (pExtract P v16n26 0 w27) fun v17n28 w29 =>
bindV (pExtract P v16n26 1 w29) fun v18n30 w31 =>
letK (thenK (fun e33 w34 =>
grdE (e33 4) true (fun (k35 : Value → World → Prop) => k35 (e33 3) w34) (fun v32n36 w37 =>
grdE (e33 4) true (fun (k38 : Value → World → Prop) => bindV (pConv P 22 9 v32n36 w37) k38) (fun v33n39 w40 =>
grdE (e33 4) true (fun (k41 : Value → World → Prop) => k41 (e33 5) w40) (fun v34n42 w43 =>
grdE (e33 4) true (fun (k44 : Value → World → Prop) => bindV (pConv P 22 9 v34n42 w43) k44) (fun v35n45 w46 =>
grdE (e33 4) true (fun (k47 : Value → World → Prop) => bindV (pBin P BinOp.eql 9 false v33n39 v35n45 w46) k47) (fun v36n48 w49 =>
pickE (e33 4) v36n48 (Value.bool false) fun v37n50 =>
grdE v37n50 false (fun (k51 : Value → World → Prop) => k51 (e33 4) w49) (fun v39n52 w53 =>
grdE v37n50 false (fun (k54 : Value → World → Prop) => bindV (pUn P UnOp.not v39n52 w53) k54) (fun v40n55 w56 =>
grdE v37n50 false (fun (k57 : Value → World → Prop) => k57 v40n55 w56) (fun v41n58 w59 =>
grdE v41n58 true (fun (k60 : Value → World → Prop) => k60 (e33 3) w59) (fun v42n61 w62 =>
grdE v41n58 true (fun (k63 : Value → World → Prop) => bindV (pBuiltin P Builtin.len #[22] 3 [v42n61] w62) k63) (fun v43n64 w65 =>
grdE v41n58 true (fun (k66 : Value → World → Prop) => bindV (pBin P BinOp.eql 3 true v43n64 (Value.int IntKind.i64 0) w65) k66) (fun v44n67 w68 =>
grdE v37n50 false (fun (k69 : Value → World → Prop) => pickE v41n58 v44n67 (Value.bool false) fun v45n70 =>
k69 v45n70 w68) (fun v45n71 w72 =>
pickE v37n50 (Value.bool true) v45n71 fun v46n73 =>
R (.returned v46n73) w72) w68) w65) w62) w59) w56) w53) w49) w46) w43) w40) w37) w34) (topK P [(ResultVar.tmp 2)] R)) fun (K32 : KT) =>
drawE (fun (k74 : Env → World → Prop) (kp75 : List PanicEntry → Env → World → Prop) =>
takeE (fun w78 => some (v13n20, w78)) (drew w31) fun v19n76 h77 =>
takeE (fun w81 => some (v18n30, w81)) (drew w31) fun v20n79 h80 =>
takeE (fun w84 => pBin P BinOp.neq 4 false v19n76 v20n79 w84) (drew w31) fun v21n82 h83 =>
takeE (fun w87 => some (v21n82, w87)) (drew w31) fun v22n85 h86 =>
takeE (fun w90 => qGrd v22n85 false (fun w90 => pLoad P 25 (e10 1) w90) w90) (drew w31) fun v23n88 h89 =>
takeE (fun w93 => qGrd v22n85 false (fun w93 => pLoad P 25 (e10 1) w93) w93) (drew w31) fun v25n91 h92 =>
(grdE v22n85 false (fun (k95 : Value → World → Prop) => callE P 22 #[v23n88] (drew w31) k95 (fun c96 w97 => ∀ (e94 : Env), agreeOff [19, 20, 21, 22, 23, 25] (Env.put (Env.put (Env.put (Env.put (Env.put (Env.put (Env.put (Env.put (Env.put (Env.put (Env.put (Env.put (Env.put (Env.put (Env.put (Env.put (Env.put (Env.put (Env.put (Env.put e10 10 v10n12) 11 v11n16) 9 v11n16) 12 v12n18) 13 v13n20) 3 v12n18) 4 v13n20) 15 v15n22) 16 v16n26) 14 v16n26) 17 v17n28) 18 v18n30) 5 v17n28) 6 v18n30) 19 v19n76) 20 v20n79) 21 v21n82) 22 v22n85) 23 v23n88) 25 v25n91) e94 → kp75 c96 e94 w97)) (fun v24n98 w99 =>
heldE [h92] w99 (grdE v22n85 false (fun (k101 : Value → World → Prop) => bindV (pBuild P 25 [] w99) k101) (fun v26n102 w103 =>
heldE [h92] w103 (takeE (fun w106 => qGrd v22n85 false (fun w106 => pBin P BinOp.eql 25 false v25n91 v26n102 w106) w106) w103 fun v27n104 h105 =>
takeE (fun w109 => qGrd v22n85 false (fun w109 => pBin P BinOp.neq 4 false v24n98 v27n104 w109) w109) w103 fun v28n107 h108 =>
takeE (fun w112 => qPick v22n85 (Value.bool true) v28n107 w112) w103 fun v29n110 h111 =>
k74 (Env.put (Env.put (Env.put (Env.put (Env.put (Env.put (Env.put (Env.put (Env.put (Env.put (Env.put (Env.put (Env.put (Env.put (Env.put (Env.put (Env.put (Env.put (Env.put (Env.put (Env.put (Env.put (Env.put (Env.put (Env.put e10 10 v10n12) 11 v11n16) 9 v11n16) 12 v12n18) 13 v13n20) 3 v12n18) 4 v13n20) 15 v15n22) 16 v16n26) 14 v16n26) 17 v17n28) 18 v18n30) 5 v17n28) 6 v18n30) 19 v19n76) 20 v20n79) 21 v21n82) 22 v22n85) 23 v23n88) 25 v25n91) 24 v24n98) 26 v26n102) 27 v27n104) 28 v28n107) 29 v29n110) w103)) w99)) (drew w31)) ∧
(grdE v22n85 false (fun (k114 : Value → World → Prop) => bindV (pBuild P 25 [] (drew w31)) k114) (fun v26n115 w116 =>
heldE [h92, h89] w116 (takeE (fun w119 => qGrd v22n85 false (fun w119 => pBin P BinOp.eql 25 false v25n91 v26n115 w119) w119) w116 fun v27n117 h118 =>
grdE v22n85 false (fun (k121 : Value → World → Prop) => callE P 22 #[v23n88] w116 k121 (fun c122 w123 => ∀ (e120 : Env), agreeOff [19, 20, 21, 22, 23, 25, 26, 27] (Env.put (Env.put (Env.put (Env.put (Env.put (Env.put (Env.put (Env.put (Env.put (Env.put (Env.put (Env.put (Env.put (Env.put (Env.put (Env.put (Env.put (Env.put (Env.put (Env.put (Env.put (Env.put e10 10 v10n12) 11 v11n16) 9 v11n16) 12 v12n18) 13 v13n20) 3 v12n18) 4 v13n20) 15 v15n22) 16 v16n26) 14 v16n26) 17 v17n28) 18 v18n30) 5 v17n28) 6 v18n30) 19 v19n76) 20 v20n79) 21 v21n82) 22 v22n85) 23 v23n88) 25 v25n91) 26 v26n115) 27 v27n117) e120 → kp75 c122 e120 w123)) (fun v24n124 w125 =>
heldE [h118, h92] w125 (takeE (fun w128 => qGrd v22n85 false (fun w128 => pBin P BinOp.neq 4 false v24n124 v27n117 w128) w128) w125 fun v28n126 h127 =>
takeE (fun w131 => qPick v22n85 (Value.bool true) v28n126 w131) w125 fun v29n129 h130 =>
k74 (Env.put (Env.put (Env.put (Env.put (Env.put (Env.put (Env.put (Env.put (Env.put (Env.put (Env.put (Env.put (Env.put (Env.put (Env.put (Env.put (Env.put (Env.put (Env.put (Env.put (Env.put (Env.put (Env.put (Env.put (Env.put e10 10 v10n12) 11 v11n16) 9 v11n16) 12 v12n18) 13 v13n20) 3 v12n18) 4 v13n20) 15 v15n22) 16 v16n26) 14 v16n26) 17 v17n28) 18 v18n30) 5 v17n28) 6 v18n30) 19 v19n76) 20 v20n79) 21 v21n82) 22 v22n85) 23 v23n88) 25 v25n91) 26 v26n115) 27 v27n117) 24 v24n124) 28 v28n126) 29 v29n129) w125)) w116)) (drew w31))) (fun e132 w133 =>
condE (e132 29) (fun (K137 : KT) =>
K137 .ret (Env.put e132 2 (Value.bool false)) w133) (fun (K137 : KT) =>
K137 .normal e132 w133) K32) (fun c134 e135 w136 => K32 (.panic c134) e135 w136)) (fun c24 w25 => R (.panicked c24) w25)) (fun c14 w15 => R (.panicked c14) w15)) (topK P [(ResultVar.tmp 2)] R))) (fun c3 w4 => R (.panicked c3) w4)
theorem F4ok {w : World} {R : Ending → World → Prop} {a0 : Value} (h : F4 a0 w R) : Calls P 4 #[a0] w R :=
  calls_of_ev bodies mixed (c := bodyOf Try.f4) (nt := 47) (rs := [(ResultVar.tmp 2)]) (args := [a0]) (fn := Try.f4) (by kernel_rfl) (by kernel_rfl) (by kernel_rfl) (by kernel_rfl) (by kernel_rfl) (by simp)
    (eq_mp (show F4 a0 w R = ev P C (bodyOf Try.f4) (argE [a0]) w (topK P [(ResultVar.tmp 2)] R) by kernel_rfl) h)

/-! ### moiety/moietylaw18.speaks -/
def F20 (w : World) (R : Ending → World → Prop) : Prop :=
bindV (pBuildSlice P 22 1 [(0, (Value.int IntKind.u8 97))] w) fun v6n1 w2 =>
bindV (pConv P 22 22 v6n1 w2) fun v7n3 w4 =>
callE P 21 #[v7n3] w4 (fun v8n7 w8 =>
bindV (pExtract P v8n7 0 w8) fun v9n9 w10 =>
bindV (pExtract P v8n7 1 w10) fun v10n11 w12 =>
bindV (pAlloc P 25 w12) fun v1n13 w14 =>
bindU (pStore P 25 v1n13 v9n9 w14) fun w15 =>
bindV (pLoad P 25 v1n13 w15) fun v12n16 w17 =>
callE P 23 #[v12n16] w17 (fun v13n20 w21 =>
bindV (pExtract P v13n20 0 w21) fun v14n22 w23 =>
bindV (pExtract P v13n20 1 w23) fun v15n24 w25 =>
bindV (pBin P BinOp.eql 26 true v10n11 (Value.int IntKind.i64 0) w25) fun v17n26 w27 =>
grdE v17n26 true (fun (k28 : Value → World → Prop) => bindV (pLoad P 25 v1n13 w27) k28) (fun v19n29 w30 =>
grdE v17n26 true (fun (k31 : Value → World → Prop) => bindV (pBuild P 25 [(0, (Value.int IntKind.u8 1)), (1, (Value.int IntKind.u8 1)), (2, (Value.int IntKind.u8 97)), (63, (Value.int IntKind.u8 1))] w30) k31) (fun v20n32 w33 =>
grdE v17n26 true (fun (k34 : Value → World → Prop) => bindV (pBin P BinOp.eql 25 false v19n29 v20n32 w33) k34) (fun v21n35 w36 =>
pickE v17n26 v21n35 (Value.bool false) fun v22n37 =>
grdE v22n37 true (fun (k38 : Value → World → Prop) => k38 v14n22 w36) (fun v24n39 w40 =>
grdE v22n37 true (fun (k41 : Value → World → Prop) => bindV (pConv P 22 9 v24n39 w40) k41) (fun v25n42 w43 =>
grdE v22n37 true (fun (k44 : Value → World → Prop) => bindV (pBin P BinOp.eql 9 true v25n42 (Value.string { data := #[97] }) w43) k44) (fun v26n45 w46 =>
pickE v22n37 v26n45 (Value.bool false) fun v27n47 =>
grdE v27n47 true (fun (k48 : Value → World → Prop) => k48 v15n24 w46) (fun v29n49 w50 =>
pickE v27n47 v29n49 (Value.bool false) fun v30n51 =>
grdE v30n51 true (fun (k52 : Value → World → Prop) => bindV (pBuild P 25 [] w50) k52) (fun v32n53 w54 =>
grdE v30n51 true (fun (k55 : Value → World → Prop) => callE P 22 #[v32n53] w54 k55 (fun c56 w57 => R (.panicked c56) w57)) (fun v33n58 w59 =>
pickE v30n51 v33n58 (Value.bool false) fun v34n60 =>
grdE v34n60 true (fun (k61 : Value → World → Prop) => bindV (pLoad P 25 v1n13 w59) k61) (fun v36n62 w63 =>
grdE v34n60 true (fun (k64 : Value → World → Prop) => callE P 22 #[v36n62] w63 k64 (fun c65 w66 => R (.panicked c65) w66)) (fun v37n67 w68 =>
grdE v34n60 true (fun (k69 : Value → World → Prop) => bindV (pUn P UnOp.not v37n67 w68) k69) (fun v38n70 w71 =>
pickE v34n60 v38n70 (Value.bool false) fun v39n72 =>
R (.returned v39n72) w71) w68) w63) w59) w54) w50) w46) w43) w40) w36) w33) w30) w27) (fun c18 w19 => R (.panicked c18) w19)) (fun c5 w6 => R (.panicked c5) w6)
theorem F20ok {w : World} {R : Ending → World → Prop} (h : F20  w R) : Calls P 20 #[] w R :=
  calls_of_ev bodies mixed (c := bodyOf Try.f20) (nt := 40) (rs := [(ResultVar.tmp 0)]) (args := []) (fn := Try.f20) (by kernel_rfl) (by kernel_rfl) (by kernel_rfl) (by kernel_rfl) (by kernel_rfl) (by simp)
    (eq_mp (show F20  w R = ev P C (bodyOf Try.f20) (argE []) w (topK P [(ResultVar.tmp 0)] R) by kernel_rfl) h)

/-! ### moiety/seal.Seal -/
def F21 (a0 : Value) (w : World) (R : Ending → World → Prop) : Prop :=
bindV (pAlloc P 25 w) fun v2n1 w2 =>
bindV (pBuiltin P Builtin.len #[22] 3 [a0] w2) fun v6n3 w4 =>
bindV (pBin P BinOp.gtr 3 true v6n3 (Value.int IntKind.i64 61) w4) fun v7n5 w6 =>
condE v7n5 (fun (K7 : KT) =>
bindV (pBuild P 25 [] w6) fun v8n8 w9 =>
bindU (pStore P 25 v2n1 v8n8 w9) fun w10 =>
K7 .ret (Env.put (Env.put (Env.put (Env.put (Env.put (Env.put (Env.put (argE [a0]) 2 v2n1) 3 (Value.int IntKind.i64 0)) 5 a0) 6 v6n3) 7 v7n5) 8 v8n8) 3 (Value.int IntKind.i64 3)) w10) (fun (K7 : KT) =>
K7 .normal (Env.put (Env.put (Env.put (Env.put (Env.put (argE [a0]) 2 v2n1) 3 (Value.int IntKind.i64 0)) 5 a0) 6 v6n3) 7 v7n5) w6) (thenK (fun e11 w12 =>
bindV (pBuiltin P Builtin.len #[22] 3 [(e11 0)] w12) fun v10n13 w14 =>
bindV (pConv P 3 5 v10n13 w14) fun v11n15 w16 =>
bindV (pBuild P 25 [(0, (Value.int IntKind.u8 1)), (1, v11n15), (63, (Value.int IntKind.u8 1))] w16) fun v12n17 w18 =>
bindV (pAlloc P 25 w18) fun v4n19 w20 =>
bindU (pStore P 25 v4n19 v12n17 w20) fun w21 =>
bindV (pSlice P 25 v4n19 (some (Value.int IntKind.i64 2)) none none w21) fun v13n22 w23 =>
bindV (pBuiltin P Builtin.copy #[22, 22] 3 [v13n22, (e11 0)] w23) fun v15n24 w25 =>
bindV (pLoad P 25 v4n19 w25) fun v16n26 w27 =>
bindU (pStore P 25 (e11 2) v16n26 w27) fun w28 =>
topK P [(ResultVar.cell 2 25), (ResultVar.tmp 3)] R .ret (Env.put (Env.put (Env.put (Env.put (Env.put (Env.put (Env.put (Env.put (Env.put (Env.put e11 9 (e11 0)) 10 v10n13) 11 v11n15) 12 v12n17) 4 v4n19) 13 v13n22) 14 (e11 0)) 15 v15n24) 16 v16n26) 3 (Value.int IntKind.i64 0)) w28) (topK P [(ResultVar.cell 2 25), (ResultVar.tmp 3)] R))
theorem F21ok {w : World} {R : Ending → World → Prop} {a0 : Value} (h : F21 a0 w R) : Calls P 21 #[a0] w R :=
  calls_of_ev bodies mixed (c := bodyOf Try.f21) (nt := 17) (rs := [(ResultVar.cell 2 25), (ResultVar.tmp 3)]) (args := [a0]) (fn := Try.f21) (by kernel_rfl) (by kernel_rfl) (by kernel_rfl) (by kernel_rfl) (by kernel_rfl) (by simp)
    (eq_mp (show F21 a0 w R = ev P C (bodyOf Try.f21) (argE [a0]) w (topK P [(ResultVar.cell 2 25), (ResultVar.tmp 3)] R) by kernel_rfl) h)

/-! ### moiety/seal.Blank -/
def F22 (a0 : Value) (w : World) (R : Ending → World → Prop) : Prop :=
bindV (pBox P 25 a0 w) fun v1n1 w2 =>
bindV (pLoad P 25 v1n1 w2) fun v3n3 w4 =>
bindV (pBuild P 25 [] w4) fun v4n5 w6 =>
bindV (pBin P BinOp.eql 25 false v3n3 v4n5 w6) fun v5n7 w8 =>
R (.returned v5n7) w8
theorem F22ok {w : World} {R : Ending → World → Prop} {a0 : Value} (h : F22 a0 w R) : Calls P 22 #[a0] w R :=
  calls_of_ev bodies mixed (c := bodyOf Try.f22) (nt := 6) (rs := [(ResultVar.tmp 2)]) (args := [a0]) (fn := Try.f22) (by kernel_rfl) (by kernel_rfl) (by kernel_rfl) (by kernel_rfl) (by kernel_rfl) (by simp)
    (eq_mp (show F22 a0 w R = ev P C (bodyOf Try.f22) (argE [a0]) w (topK P [(ResultVar.tmp 2)] R) by kernel_rfl) h)

/-! ### moiety/seal.Open -/
def F23B0 (e : Env) (w : World) (K : KT) : Prop :=
bindV (pBin P BinOp.lss 3 false (e 26) (e 25) w) fun v27n41 w42 =>
condE v27n41 (fun (K43 : KT) =>
K43 .normal (Env.put e 27 v27n41) w42) (fun (K43 : KT) =>
K43 (.exit 0) (Env.put e 27 v27n41) w42) (thenK (fun e44 w45 =>
bindV (pIndexAddr P 22 (e44 24) (e44 26) w45) fun v28n46 w47 =>
bindV (pLoad P 5 v28n46 w47) fun v29n48 w49 =>
bindV (pBin P BinOp.neq 5 true v29n48 (Value.int IntKind.u8 0) w49) fun v31n50 w51 =>
condE v31n50 (fun (K52 : KT) =>
K52 .ret (Env.put (Env.put (Env.put (Env.put (Env.put (Env.put (Env.put e44 28 v28n46) 29 v29n48) 6 v29n48) 30 v29n48) 31 v31n50) 2 (Value.slice none 0 0)) 3 (Value.bool false)) w51) (fun (K52 : KT) =>
K52 .normal (Env.put (Env.put (Env.put (Env.put (Env.put e44 28 v28n46) 29 v29n48) 6 v29n48) 30 v29n48) 31 v31n50) w51) (blockK 1 (thenK (fun e53 w54 =>
bindV (pBin P BinOp.add 3 true (e53 26) (Value.int IntKind.i64 1) w54) fun v32n55 w56 =>
K .normal (Env.put (Env.put e53 32 v32n55) 26 v32n55) w56) K))) K)
def F23 (a0 : Value) (w : World) (R : Ending → World → Prop) : Prop :=
bindV (pBox P 25 a0 w) fun v1n1 w2 =>
bindV (pIndexAddr P 25 v1n1 (Value.int IntKind.i64 1) w2) fun v7n3 w4 =>
bindV (pLoad P 5 v7n3 w4) fun v8n5 w6 =>
bindV (pConv P 5 3 v8n5 w6) fun v9n7 w8 =>
bindV (pIndexAddr P 25 v1n1 (Value.int IntKind.i64 0) w8) fun v10n9 w10 =>
bindV (pLoad P 5 v10n9 w10) fun v11n11 w12 =>
bindV (pBin P BinOp.neq 5 true v11n11 (Value.int IntKind.u8 1) w12) fun v12n13 w14 =>
grdE v12n13 false (fun (k15 : Value → World → Prop) => bindV (pIndexAddr P 25 v1n1 (Value.int IntKind.i64 63) w14) k15) (fun v14n16 w17 =>
grdE v12n13 false (fun (k18 : Value → World → Prop) => bindV (pLoad P 5 v14n16 w17) k18) (fun v15n19 w20 =>
grdE v12n13 false (fun (k21 : Value → World → Prop) => bindV (pBin P BinOp.neq 5 true v15n19 (Value.int IntKind.u8 1) w20) k21) (fun v16n22 w23 =>
pickE v12n13 (Value.bool true) v16n22 fun v17n24 =>
grdE v17n24 false (fun (k25 : Value → World → Prop) => k25 v9n7 w23) (fun v19n26 w27 =>
grdE v17n24 false (fun (k28 : Value → World → Prop) => bindV (pBin P BinOp.gtr 3 true v19n26 (Value.int IntKind.i64 61) w27) k28) (fun v20n29 w30 =>
pickE v17n24 (Value.bool true) v20n29 fun v21n31 =>
condE v21n31 (fun (K32 : KT) =>
K32 .ret (Env.put (Env.put (Env.put (Env.put (Env.put (Env.put (Env.put (Env.put (Env.put (Env.put (Env.put (Env.put (Env.put (Env.put (Env.put (Env.put (Env.put (Env.put (Env.put (Env.put (Env.put (argE [a0]) 1 v1n1) 2 (Value.slice none 0 0)) 3 (Value.bool false)) 7 v7n3) 8 v8n5) 9 v9n7) 4 v9n7) 10 v10n9) 11 v11n11) 12 v12n13) 13 v12n13) 14 v14n16) 15 v15n19) 16 v16n22) 17 v17n24) 18 v17n24) 19 v19n26) 20 v20n29) 21 v21n31) 2 (Value.slice none 0 0)) 3 (Value.bool false)) w30) (fun (K32 : KT) =>
K32 .normal (Env.put (Env.put (Env.put (Env.put (Env.put (Env.put (Env.put (Env.put (Env.put (Env.put (Env.put (Env.put (Env.put (Env.put (Env.put (Env.put (Env.put (Env.put (Env.put (argE [a0]) 1 v1n1) 2 (Value.slice none 0 0)) 3 (Value.bool false)) 7 v7n3) 8 v8n5) 9 v9n7) 4 v9n7) 10 v10n9) 11 v11n11) 12 v12n13) 13 v12n13) 14 v14n16) 15 v15n19) 16 v16n22) 17 v17n24) 18 v17n24) 19 v19n26) 20 v20n29) 21 v21n31) w30) (thenK (fun e33 w34 =>
bindV (pBin P BinOp.add 3 true (Value.int IntKind.i64 2) (e33 4) w34) fun v23n35 w36 =>
bindV (pSlice P 25 (e33 1) (some v23n35) (some (Value.int IntKind.i64 63)) none w36) fun v24n37 w38 =>
bindV (pBuiltin P Builtin.len #[22] 3 [v24n37] w38) fun v25n39 w40 =>
loopE F23B0 (Env.put (Env.put (Env.put (Env.put (Env.put e33 22 (e33 4)) 23 v23n35) 24 v24n37) 25 v25n39) 26 (Value.int IntKind.i64 0)) w40 (blockK 0 (thenK (fun e57 w58 =>
bindV (pBuildSlice P 22 0 [] w58) fun v33n59 w60 =>
bindV (pBin P BinOp.add 3 true (Value.int IntKind.i64 2) (e57 4) w60) fun v35n61 w62 =>
bindV (pSlice P 25 (e57 1) (some (Value.int IntKind.i64 2)) (some v35n61) none w62) fun v36n63 w64 =>
bindV (pBuiltin P Builtin.append #[22, 22] 22 [v33n59, v36n63] w64) fun v37n65 w66 =>
R (.returned (.tuple #[v37n65, (Value.bool true)])) w66) (topK P [(ResultVar.tmp 2), (ResultVar.tmp 3)] R)))) (topK P [(ResultVar.tmp 2), (ResultVar.tmp 3)] R))) w27) w23) w20) w17) w14
theorem F23ok {w : World} {R : Ending → World → Prop} {a0 : Value} (h : F23 a0 w R) : Calls P 23 #[a0] w R :=
  calls_of_ev bodies mixed (c := bodyOf Try.f23) (nt := 38) (rs := [(ResultVar.tmp 2), (ResultVar.tmp 3)]) (args := [a0]) (fn := Try.f23) (by kernel_rfl) (by kernel_rfl) (by kernel_rfl) (by kernel_rfl) (by kernel_rfl) (by simp)
    (eq_mp (show F23 a0 w R = ev P C (bodyOf Try.f23) (argE [a0]) w (topK P [(ResultVar.tmp 2), (ResultVar.tmp 3)] R) by kernel_rfl) h)

/-! ### moiety/moietyref18.Seal -/
def F24B0 (e : Env) (w : World) (K : KT) : Prop :=
bindV (pBuiltin P Builtin.len #[22] 3 [(e 0)] w) fun v13n18 w19 =>
bindV (pBin P BinOp.lss 3 false (e 4) v13n18 w19) fun v14n20 w21 =>
condE v14n20 (fun (K22 : KT) =>
K22 .normal (Env.put (Env.put (Env.put (Env.put e 11 (e 4)) 12 (e 0)) 13 v13n18) 14 v14n20) w21) (fun (K22 : KT) =>
K22 (.exit 0) (Env.put (Env.put (Env.put (Env.put e 11 (e 4)) 12 (e 0)) 13 v13n18) 14 v14n20) w21) (thenK (fun e23 w24 =>
bindV (pBin P BinOp.add 3 true (Value.int IntKind.i64 2) (e23 4) w24) fun v18n25 w26 =>
bindV (pIndexAddr P 22 (e23 0) (e23 4) w26) fun v21n27 w28 =>
bindV (pLoad P 5 v21n27 w28) fun v22n29 w30 =>
bindV (pIndexAddr P 25 (e23 3) v18n25 w30) fun v23n31 w32 =>
bindU (pStore P 5 v23n31 v22n29 w32) fun w33 =>
bindV (pBin P BinOp.add 3 true (e23 4) (Value.int IntKind.i64 1) w33) fun v16n34 w35 =>
K .normal (Env.put (Env.put (Env.put (Env.put (Env.put (Env.put (Env.put (Env.put (Env.put (Env.put e23 17 (e23 4)) 18 v18n25) 19 (e23 0)) 20 (e23 4)) 21 v21n27) 22 v22n29) 23 v23n31) 15 (e23 4)) 16 v16n34) 4 v16n34) w35) K)
def F24 (a0 : Value) (w : World) (R : Ending → World → Prop) : Prop :=
bindV (pAlloc P 25 w) fun v2n1 w2 =>
bindV (pBuild P 25 [] w2) fun v5n3 w4 =>
bindV (pAlloc P 25 w4) fun v3n5 w6 =>
bindU (pStore P 25 v3n5 v5n3 w6) fun w7 =>
bindV (pIndexAddr P 25 v3n5 (Value.int IntKind.i64 0) w7) fun v6n8 w9 =>
bindU (pStore P 5 v6n8 (Value.int IntKind.u8 1) w9) fun w10 =>
bindV (pBuiltin P Builtin.len #[22] 3 [a0] w10) fun v8n11 w12 =>
bindV (pConv P 3 5 v8n11 w12) fun v9n13 w14 =>
bindV (pIndexAddr P 25 v3n5 (Value.int IntKind.i64 1) w14) fun v10n15 w16 =>
bindU (pStore P 5 v10n15 v9n13 w16) fun w17 =>
loopE F24B0 (Env.put (Env.put (Env.put (Env.put (Env.put (Env.put (Env.put (Env.put (Env.put (argE [a0]) 2 v2n1) 5 v5n3) 3 v3n5) 6 v6n8) 7 a0) 8 v8n11) 9 v9n13) 10 v10n15) 4 (Value.int IntKind.i64 0)) w17 (blockK 0 (thenK (fun e36 w37 =>
bindV (pIndexAddr P 25 (e36 3) (Value.int IntKind.i64 63) w37) fun v24n38 w39 =>
bindU (pStore P 5 v24n38 (Value.int IntKind.u8 1) w39) fun w40 =>
bindV (pLoad P 25 (e36 3) w40) fun v25n41 w42 =>
bindU (pStore P 25 (e36 2) v25n41 w42) fun w43 =>
topK P [(ResultVar.cell 2 25)] R .ret (Env.put (Env.put e36 24 v24n38) 25 v25n41) w43) (topK P [(ResultVar.cell 2 25)] R)))
theorem F24ok {w : World} {R : Ending → World → Prop} {a0 : Value} (h : F24 a0 w R) : Calls P 24 #[a0] w R :=
  calls_of_ev bodies mixed (c := bodyOf Try.f24) (nt := 26) (rs := [(ResultVar.cell 2 25)]) (args := [a0]) (fn := Try.f24) (by kernel_rfl) (by kernel_rfl) (by kernel_rfl) (by kernel_rfl) (by kernel_rfl) (by simp)
    (eq_mp (show F24 a0 w R = ev P C (bodyOf Try.f24) (argE [a0]) w (topK P [(ResultVar.cell 2 25)] R) by kernel_rfl) h)

/-! ### moiety/moietyref18.Open -/
def F25B0 (e : Env) (w : World) (K : KT) : Prop :=
bindV (pBin P BinOp.lss 3 false (e 6) (e 4) w) fun v15n16 w17 =>
condE v15n16 (fun (K18 : KT) =>
K18 .normal (Env.put (Env.put (Env.put e 13 (e 6)) 14 (e 4)) 15 v15n16) w17) (fun (K18 : KT) =>
K18 (.exit 0) (Env.put (Env.put (Env.put e 13 (e 6)) 14 (e 4)) 15 v15n16) w17) (thenK (fun e19 w20 =>
bindV (pBin P BinOp.add 3 true (Value.int IntKind.i64 2) (e19 6) w20) fun v20n21 w22 =>
bindV (pIndexAddr P 25 (e19 1) v20n21 w22) fun v21n23 w24 =>
bindV (pLoad P 5 v21n23 w24) fun v22n25 w26 =>
bindV (pBuildSlice P 22 1 [(0, v22n25)] w26) fun v23n27 w28 =>
bindV (pBuiltin P Builtin.append #[22, 22] 22 [(e19 5), v23n27] w28) fun v24n29 w30 =>
bindV (pBin P BinOp.add 3 true (e19 6) (Value.int IntKind.i64 1) w30) fun v17n31 w32 =>
K .normal (Env.put (Env.put (Env.put (Env.put (Env.put (Env.put (Env.put (Env.put (Env.put (Env.put (Env.put e19 18 (e19 5)) 19 (e19 6)) 20 v20n21) 21 v21n23) 22 v22n25) 23 v23n27) 24 v24n29) 5 v24n29) 16 (e19 6)) 17 v17n31) 6 v17n31) w32) K)
def F25 (a0 : Value) (w : World) (R : Ending → World → Prop) : Prop :=
bindV (pBox P 25 a0 w) fun v1n1 w2 =>
bindV (pIndexAddr P 25 v1n1 (Value.int IntKind.i64 1) w2) fun v7n3 w4 =>
bindV (pLoad P 5 v7n3 w4) fun v8n5 w6 =>
bindV (pConv P 5 3 v8n5 w6) fun v9n7 w8 =>
bindV (pBin P BinOp.gtr 3 true v9n7 (Value.int IntKind.i64 61) w8) fun v11n9 w10 =>
condE v11n9 (fun (K11 : KT) =>
K11 .ret (Env.put (Env.put (Env.put (Env.put (Env.put (Env.put (Env.put (Env.put (Env.put (Env.put (Env.put (argE [a0]) 1 v1n1) 2 (Value.slice none 0 0)) 3 (Value.bool false)) 7 v7n3) 8 v8n5) 9 v9n7) 4 v9n7) 10 v9n7) 11 v11n9) 2 (Value.slice none 0 0)) 3 (Value.bool false)) w10) (fun (K11 : KT) =>
K11 .normal (Env.put (Env.put (Env.put (Env.put (Env.put (Env.put (Env.put (Env.put (Env.put (argE [a0]) 1 v1n1) 2 (Value.slice none 0 0)) 3 (Value.bool false)) 7 v7n3) 8 v8n5) 9 v9n7) 4 v9n7) 10 v9n7) 11 v11n9) w10) (thenK (fun e12 w13 =>
bindV (pBuildSlice P 22 0 [] w13) fun v12n14 w15 =>
loopE F25B0 (Env.put (Env.put (Env.put e12 12 v12n14) 5 v12n14) 6 (Value.int IntKind.i64 0)) w15 (blockK 0 (thenK (fun e33 w34 =>
takeE (fun w37 => some ((e33 5), w37)) (drew w34) fun v25n35 h36 =>
takeE (fun w40 => pLoad P 25 (e33 1) w40) (drew w34) fun v27n38 h39 =>
callE P 24 #[v25n35] (drew w34) (fun v26n44 w45 =>
heldE [h39] w45 (takeE (fun w48 => pBin P BinOp.neq 25 false v26n44 v27n38 w48) w45 fun v28n46 h47 =>
condE v28n46 (fun (K49 : KT) =>
K49 .ret (Env.put (Env.put (Env.put (Env.put (Env.put (Env.put e33 25 v25n35) 27 v27n38) 26 v26n44) 28 v28n46) 2 (Value.slice none 0 0)) 3 (Value.bool false)) w45) (fun (K49 : KT) =>
K49 .normal (Env.put (Env.put (Env.put (Env.put e33 25 v25n35) 27 v27n38) 26 v26n44) 28 v28n46) w45) (thenK (fun e50 w51 =>
R (.returned (.tuple #[(e50 5), (Value.bool true)])) w51) (topK P [(ResultVar.tmp 2), (ResultVar.tmp 3)] R)))) (fun c42 w43 => ∀ (e41 : Env), agreeOff [25, 27] (Env.put (Env.put e33 25 v25n35) 27 v27n38) e41 → R (.panicked c42) w43)) (topK P [(ResultVar.tmp 2), (ResultVar.tmp 3)] R)))) (topK P [(ResultVar.tmp 2), (ResultVar.tmp 3)] R))
theorem F25ok {w : World} {R : Ending → World → Prop} {a0 : Value} (h : F25 a0 w R) : Calls P 25 #[a0] w R :=
  calls_of_ev bodies mixed (c := bodyOf Try.f25) (nt := 30) (rs := [(ResultVar.tmp 2), (ResultVar.tmp 3)]) (args := [a0]) (fn := Try.f25) (by kernel_rfl) (by kernel_rfl) (by kernel_rfl) (by kernel_rfl) (by kernel_rfl) (by simp)
    (eq_mp (show F25 a0 w R = ev P C (bodyOf Try.f25) (argE [a0]) w (topK P [(ResultVar.tmp 2), (ResultVar.tmp 3)] R) by kernel_rfl) h)

end Go.Proofs.Yticncfkpfpkfoaa
