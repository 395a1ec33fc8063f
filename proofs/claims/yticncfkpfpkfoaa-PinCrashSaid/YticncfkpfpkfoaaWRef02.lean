/- The functions' residual programs, printed by gen.py. -/
import Derived.Test.YticncfkpfpkfoaaBaseD
namespace Go.Proofs.Yticncfkpfpkfoaa
open Go
/-! ### moiety/moietyref02.Read -/
def F78B0 (e : Env) (w : World) (K : KT) : Prop :=
bindV (pBuiltin P Builtin.len #[9] 3 [(e 1)] w) fun v18n3 w4 =>
bindV (pBin P BinOp.lss 3 false (e 11) v18n3 w4) fun v19n5 w6 =>
condE v19n5 (fun (K7 : KT) =>
K7 .normal (Env.put (Env.put (Env.put (Env.put e 16 (e 11)) 17 (e 1)) 18 v18n3) 19 v19n5) w6) (fun (K7 : KT) =>
K7 (.exit 0) (Env.put (Env.put (Env.put (Env.put e 16 (e 11)) 17 (e 1)) 18 v18n3) 19 v19n5) w6) (thenK (fun e8 w9 =>
letK (blockK 1 (thenK (fun e11 w12 =>
bindV (pBin P BinOp.add 3 true (e11 11) (Value.int IntKind.i64 1) w12) fun v21n13 w14 =>
K .normal (Env.put (Env.put (Env.put e11 20 (e11 11)) 21 v21n13) 11 v21n13) w14) K)) fun (K10 : KT) =>
drawE (fun (k15 : Env → World → Prop) (kp16 : List PanicEntry → Env → World → Prop) =>
takeE (fun w19 => some ((e8 0), w19)) (drew w9) fun v23n17 h18 =>
takeE (fun w22 => some ((e8 10), w22)) (drew w9) fun v24n20 h21 =>
takeE (fun w25 => pSlice P 22 v23n17 (some v24n20) none none w25) (drew w9) fun v25n23 h24 =>
takeE (fun w28 => some ((e8 1), w28)) (drew w9) fun v26n26 h27 =>
takeE (fun w31 => some ((e8 11), w31)) (drew w9) fun v27n29 h30 =>
takeE (fun w34 => pIndex P 9 v26n26 v27n29 w34) (drew w9) fun v28n32 h33 =>
takeE (fun w37 => some ((e8 2), w37)) (drew w9) fun v29n35 h36 =>
(callE P 83 #[v25n23, v28n32, v29n35] (drew w9) (fun v30n41 w42 =>
takeE (fun w45 => some (v30n41, w45)) w42 fun v22n43 h44 =>
takeE (fun w48 => pExtract P v22n43 0 w48) w42 fun v31n46 h47 =>
takeE (fun w51 => pExtract P v22n43 1 w51) w42 fun v32n49 h50 =>
takeE (fun w54 => pExtract P v22n43 2 w54) w42 fun v33n52 h53 =>
bindV (pAlloc P 134 w42) fun v12n56 w57 =>
heldE [h53, h50, h47, h44] w57 (bindU (pStore P 134 v12n56 v31n46 w57) fun w59 =>
heldE [h53, h50] w59 (heldE [h53] w59 (k15 (Env.put (Env.put (Env.put (Env.put (Env.put (Env.put (Env.put (Env.put (Env.put (Env.put (Env.put (Env.put (Env.put (Env.put (Env.put e8 23 v23n17) 24 v24n20) 25 v25n23) 26 v26n26) 27 v27n29) 28 v28n32) 29 v29n35) 30 v30n41) 22 v22n43) 31 v31n46) 32 v32n49) 33 v33n52) 12 v12n56) 13 v32n49) 14 v33n52) w59)))) (fun c39 w40 => ∀ (e38 : Env), agreeOff [23, 24, 25, 26, 27, 28, 29] (Env.put (Env.put (Env.put (Env.put (Env.put (Env.put (Env.put e8 23 v23n17) 24 v24n20) 25 v25n23) 26 v26n26) 27 v27n29) 28 v28n32) 29 v29n35) e38 → kp16 c39 e38 w40)) ∧
(bindV (pAlloc P 134 (drew w9)) fun v12n63 w64 =>
heldE [h36, h33, h30, h27, h24, h21, h18] w64 (callE P 83 #[v25n23, v28n32, v29n35] w64 (fun v30n68 w69 =>
takeE (fun w72 => some (v30n68, w72)) w69 fun v22n70 h71 =>
takeE (fun w75 => pExtract P v22n70 0 w75) w69 fun v31n73 h74 =>
takeE (fun w78 => pExtract P v22n70 1 w78) w69 fun v32n76 h77 =>
takeE (fun w81 => pExtract P v22n70 2 w81) w69 fun v33n79 h80 =>
bindU (pStore P 134 v12n63 v31n73 w69) fun w83 =>
heldE [h80, h77] w83 (heldE [h80] w83 (k15 (Env.put (Env.put (Env.put (Env.put (Env.put (Env.put (Env.put (Env.put (Env.put (Env.put (Env.put (Env.put (Env.put (Env.put (Env.put e8 23 v23n17) 24 v24n20) 25 v25n23) 26 v26n26) 27 v27n29) 28 v28n32) 29 v29n35) 12 v12n63) 30 v30n68) 22 v22n70) 31 v31n73) 32 v32n76) 33 v33n79) 13 v32n76) 14 v33n79) w83))) (fun c66 w67 => ∀ (e65 : Env), agreeOff [23, 24, 25, 26, 27, 28, 29, 12] (Env.put (Env.put (Env.put (Env.put (Env.put (Env.put (Env.put (Env.put e8 23 v23n17) 24 v24n20) 25 v25n23) 26 v26n26) 27 v27n29) 28 v28n32) 29 v29n35) 12 v12n63) e65 → kp16 c66 e65 w67)))) (fun e86 w87 =>
bindV (pBin P BinOp.add 3 false (e86 10) (e86 13) w87) fun v36n91 w92 =>
bindV (pBin P BinOp.neq 3 true (e86 14) (Value.int IntKind.i64 0) w92) fun v38n93 w94 =>
condE v38n93 (fun (K95 : KT) =>
K95 .ret (Env.put (Env.put (Env.put (Env.put (Env.put (Env.put (Env.put (Env.put (Env.put (Env.put (Env.put e86 34 (e86 10)) 35 (e86 13)) 36 v36n91) 10 v36n91) 37 (e86 14)) 38 v38n93) 39 (e86 14)) 40 v36n91) 6 (Value.slice none 0 0)) 7 (e86 14)) 8 v36n91) w94) (fun (K95 : KT) =>
K95 .normal (Env.put (Env.put (Env.put (Env.put (Env.put (Env.put e86 34 (e86 10)) 35 (e86 13)) 36 v36n91) 10 v36n91) 37 (e86 14)) 38 v38n93) w94) (thenK (fun e96 w97 =>
bindV (pLoad P 134 (e96 12) w97) fun v42n98 w99 =>
bindV (pBuildSlice P 129 1 [(0, v42n98)] w99) fun v43n100 w101 =>
bindV (pBuiltin P Builtin.append #[129, 129] 129 [(e96 9), v43n100] w101) fun v44n102 w103 =>
K10 .normal (Env.put (Env.put (Env.put (Env.put (Env.put e96 41 (e96 9)) 42 v42n98) 43 v43n100) 44 v44n102) 9 v44n102) w103) K10)) (fun c88 e89 w90 => K10 (.panic c88) e89 w90)) K)
def F78 (a0 : Value) (a1 : Value) (a2 : Value) (w : World) (R : Ending → World → Prop) : Prop :=
bindV (pBuildSlice P 129 0 [] w) fun v15n1 w2 =>
loopE F78B0 (Env.put (Env.put (Env.put (Env.put (Env.put (Env.put (Env.put (argE [a0, a1, a2]) 6 (Value.slice none 0 0)) 7 (Value.int IntKind.i64 0)) 8 (Value.int IntKind.i64 0)) 15 v15n1) 9 v15n1) 10 (Value.int IntKind.i64 0)) 11 (Value.int IntKind.i64 0)) w2 (blockK 0 (thenK (fun e104 w105 =>
bindV (pBuiltin P Builtin.len #[22] 3 [(e104 0)] w105) fun v47n106 w107 =>
bindV (pBin P BinOp.lss 3 false (e104 10) v47n106 w107) fun v48n108 w109 =>
condE v48n108 (fun (K110 : KT) =>
K110 .ret (Env.put (Env.put (Env.put (Env.put (Env.put (Env.put (Env.put (Env.put e104 45 (e104 10)) 46 (e104 0)) 47 v47n106) 48 v48n108) 49 (e104 10)) 6 (Value.slice none 0 0)) 7 (Value.int IntKind.i64 3)) 8 (e104 10)) w109) (fun (K110 : KT) =>
K110 .normal (Env.put (Env.put (Env.put (Env.put e104 45 (e104 10)) 46 (e104 0)) 47 v47n106) 48 v48n108) w109) (thenK (fun e111 w112 =>
R (.returned (.tuple #[(e111 9), (Value.int IntKind.i64 0), (Value.int IntKind.i64 0)])) w112) (topK P [(ResultVar.tmp 6), (ResultVar.tmp 7), (ResultVar.tmp 8)] R))) (topK P [(ResultVar.tmp 6), (ResultVar.tmp 7), (ResultVar.tmp 8)] R)))
theorem F78ok {w : World} {R : Ending → World → Prop} {a0 : Value} {a1 : Value} {a2 : Value} (h : F78 a0 a1 a2 w R) : Calls P 78 #[a0, a1, a2] w R :=
  calls_of_ev bodies mixed (c := bodyOf Try.f78) (nt := 51) (rs := [(ResultVar.tmp 6), (ResultVar.tmp 7), (ResultVar.tmp 8)]) (args := [a0, a1, a2]) (fn := Try.f78) (by kernel_rfl) (by kernel_rfl) (by kernel_rfl) (by kernel_rfl) (by kernel_rfl) (by simp)
    (eq_mp (show F78 a0 a1 a2 w R = ev P C (bodyOf Try.f78) (argE [a0, a1, a2]) w (topK P [(ResultVar.tmp 6), (ResultVar.tmp 7), (ResultVar.tmp 8)] R) by kernel_rfl) h)

/-! ### moiety/moietyref02.Write -/
def F79B0 (e : Env) (w : World) (K : KT) : Prop :=
bindV (pBuiltin P Builtin.len #[129] 3 [(e 0)] w) fun v8n3 w4 =>
bindV (pBin P BinOp.lss 3 false (e 4) v8n3 w4) fun v9n5 w6 =>
condE v9n5 (fun (K7 : KT) =>
K7 .normal (Env.put (Env.put (Env.put (Env.put e 6 (e 4)) 7 (e 0)) 8 v8n3) 9 v9n5) w6) (fun (K7 : KT) =>
K7 (.exit 0) (Env.put (Env.put (Env.put (Env.put e 6 (e 4)) 7 (e 0)) 8 v8n3) 9 v9n5) w6) (thenK (fun e8 w9 =>
bindV (pIndexAddr P 129 (e8 0) (e8 4) w9) fun v15n10 w11 =>
bindV (pLoad P 134 v15n10 w11) fun v16n12 w13 =>
callE P 84 #[v16n12] w13 (fun v17n16 w17 =>
bindV (pBuiltin P Builtin.append #[22, 22] 22 [(e8 3), v17n16] w17) fun v18n18 w19 =>
bindV (pBin P BinOp.add 3 true (e8 4) (Value.int IntKind.i64 1) w19) fun v11n20 w21 =>
K .normal (Env.put (Env.put (Env.put (Env.put (Env.put (Env.put (Env.put (Env.put (Env.put (Env.put (Env.put e8 12 (e8 3)) 13 (e8 0)) 14 (e8 4)) 15 v15n10) 16 v16n12) 17 v17n16) 18 v18n18) 3 v18n18) 10 (e8 4)) 11 v11n20) 4 v11n20) w21) (fun c14 w15 => K (.panic c14) (Env.put (Env.put (Env.put (Env.put (Env.put e8 12 (e8 3)) 13 (e8 0)) 14 (e8 4)) 15 v15n10) 16 v16n12) w15)) K)
def F79 (a0 : Value) (w : World) (R : Ending → World → Prop) : Prop :=
bindV (pBuildSlice P 22 0 [] w) fun v5n1 w2 =>
loopE F79B0 (Env.put (Env.put (Env.put (Env.put (argE [a0]) 2 (Value.slice none 0 0)) 5 v5n1) 3 v5n1) 4 (Value.int IntKind.i64 0)) w2 (blockK 0 (thenK (fun e22 w23 =>
R (.returned (e22 3)) w23) (topK P [(ResultVar.tmp 2)] R)))
theorem F79ok {w : World} {R : Ending → World → Prop} {a0 : Value} (h : F79 a0 w R) : Calls P 79 #[a0] w R :=
  calls_of_ev bodies mixed (c := bodyOf Try.f79) (nt := 20) (rs := [(ResultVar.tmp 2)]) (args := [a0]) (fn := Try.f79) (by kernel_rfl) (by kernel_rfl) (by kernel_rfl) (by kernel_rfl) (by kernel_rfl) (by simp)
    (eq_mp (show F79 a0 w R = ev P C (bodyOf Try.f79) (argE [a0]) w (topK P [(ResultVar.tmp 2)] R) by kernel_rfl) h)

/-! ### moiety/moietyref02.First -/
def F83B0 (e : Env) (w : World) (K : KT) : Prop :=
bindV (pBin P BinOp.lss 3 true (e 11) (Value.int IntKind.i64 8) w) fun v47n64 w65 =>
condE v47n64 (fun (K66 : KT) =>
K66 .normal (Env.put (Env.put e 46 (e 11)) 47 v47n64) w65) (fun (K66 : KT) =>
K66 (.exit 0) (Env.put (Env.put e 46 (e 11)) 47 v47n64) w65) (thenK (fun e67 w68 =>
takeE (fun w71 => pFieldAddr P 134 (e67 9) 3 w71) (drew w68) fun v50n69 h70 =>
takeE (fun w74 => pLoad P 132 v50n69 w74) (drew w68) fun v51n72 h73 =>
takeE (fun w77 => pBin P BinOp.mul 132 true v51n72 (Value.int IntKind.u64 256) w77) (drew w68) fun v52n75 h76 =>
takeE (fun w80 => some ((e67 0), w80)) (drew w68) fun v53n78 h79 =>
takeE (fun w83 => some ((e67 11), w83)) (drew w68) fun v54n81 h82 =>
takeE (fun w86 => pIndexAddr P 22 v53n78 v54n81 w86) (drew w68) fun v55n84 h85 =>
takeE (fun w89 => pLoad P 5 v55n84 w89) (drew w68) fun v56n87 h88 =>
takeE (fun w92 => pConv P 5 132 v56n87 w92) (drew w68) fun v57n90 h91 =>
takeE (fun w95 => pBin P BinOp.add 132 false v52n75 v57n90 w95) (drew w68) fun v58n93 h94 =>
takeE (fun w98 => pFieldAddr P 134 (e67 9) 3 w98) (drew w68) fun v59n96 h97 =>
bindU (pStore P 132 v59n96 v58n93 (drew w68)) fun w100 =>
bindV (pBin P BinOp.add 3 true (e67 11) (Value.int IntKind.i64 1) w100) fun v49n101 w102 =>
K .normal (Env.put (Env.put (Env.put (Env.put (Env.put (Env.put (Env.put (Env.put (Env.put (Env.put (Env.put (Env.put (Env.put e67 50 v50n69) 51 v51n72) 52 v52n75) 53 v53n78) 54 v54n81) 55 v55n84) 56 v56n87) 57 v57n90) 58 v58n93) 59 v59n96) 48 (e67 11)) 49 v49n101) 11 v49n101) w102) K)
def F83 (a0 : Value) (a1 : Value) (a2 : Value) (w : World) (R : Ending → World → Prop) : Prop :=
bindV (pAlloc P 134 w) fun v6n1 w2 =>
bindV (pBuild P 134 [(0, a1)] w2) fun v17n3 w4 =>
bindV (pAlloc P 134 w4) fun v9n5 w6 =>
bindU (pStore P 134 v9n5 v17n3 w6) fun w7 =>
bindV (pBin P BinOp.eql 5 true a1 (Value.int IntKind.u8 98) w7) fun v19n8 w9 =>
grdE v19n8 false (fun (k10 : Value → World → Prop) => k10 a1 w9) (fun v21n11 w12 =>
grdE v19n8 false (fun (k13 : Value → World → Prop) => bindV (pBin P BinOp.eql 5 true v21n11 (Value.int IntKind.u8 102) w12) k13) (fun v22n14 w15 =>
pickE v19n8 (Value.bool true) v22n14 fun v23n16 =>
condE v23n16 (fun (K17 : KT) =>
bindV (pBin P BinOp.eql 5 true a1 (Value.int IntKind.u8 102) w15) fun v25n18 w19 =>
condE v25n18 (fun (K20 : KT) =>
K20 .normal (Env.put (Env.put (Env.put (Env.put (Env.put (Env.put (Env.put (Env.put (Env.put (Env.put (Env.put (Env.put (Env.put (Env.put (Env.put (Env.put (argE [a0, a1, a2]) 6 v6n1) 7 (Value.int IntKind.i64 0)) 8 (Value.int IntKind.i64 0)) 16 a1) 17 v17n3) 9 v9n5) 18 a1) 19 v19n8) 20 v19n8) 21 v21n11) 22 v22n14) 23 v23n16) 10 (Value.int IntKind.i64 1)) 24 a1) 25 v25n18) 10 (Value.int IntKind.i64 8)) w19) (fun (K20 : KT) =>
K20 .normal (Env.put (Env.put (Env.put (Env.put (Env.put (Env.put (Env.put (Env.put (Env.put (Env.put (Env.put (Env.put (Env.put (Env.put (Env.put (argE [a0, a1, a2]) 6 v6n1) 7 (Value.int IntKind.i64 0)) 8 (Value.int IntKind.i64 0)) 16 a1) 17 v17n3) 9 v9n5) 18 a1) 19 v19n8) 20 v19n8) 21 v21n11) 22 v22n14) 23 v23n16) 10 (Value.int IntKind.i64 1)) 24 a1) 25 v25n18) w19) (thenK (fun e21 w22 =>
bindV (pBuiltin P Builtin.len #[22] 3 [(e21 0)] w22) fun v27n23 w24 =>
bindV (pBin P BinOp.lss 3 false v27n23 (e21 10) w24) fun v29n25 w26 =>
condE v29n25 (fun (K27 : KT) =>
bindV (pLoad P 134 (e21 9) w26) fun v30n28 w29 =>
bindV (pBuiltin P Builtin.len #[22] 3 [(e21 0)] w29) fun v32n30 w31 =>
bindU (pStore P 134 (e21 6) v30n28 w31) fun w32 =>
K27 .ret (Env.put (Env.put (Env.put (Env.put (Env.put (Env.put (Env.put (Env.put (Env.put e21 26 (e21 0)) 27 v27n23) 28 (e21 10)) 29 v29n25) 30 v30n28) 31 (e21 0)) 32 v32n30) 7 v32n30) 8 (Value.int IntKind.i64 2)) w32) (fun (K27 : KT) =>
K27 .normal (Env.put (Env.put (Env.put (Env.put e21 26 (e21 0)) 27 v27n23) 28 (e21 10)) 29 v29n25) w26) (thenK (fun e33 w34 =>
bindV (pBin P BinOp.eql 5 true (e33 1) (Value.int IntKind.u8 98) w34) fun v34n35 w36 =>
condE v34n35 (fun (K37 : KT) =>
bindV (pIndexAddr P 22 (e33 0) (Value.int IntKind.i64 0) w36) fun v36n38 w39 =>
bindV (pLoad P 5 v36n38 w39) fun v37n40 w41 =>
bindV (pBin P BinOp.eql 5 true v37n40 (Value.int IntKind.u8 1) w41) fun v38n42 w43 =>
bindV (pFieldAddr P 134 (e33 9) 5 w43) fun v39n44 w45 =>
bindU (pStore P 4 v39n44 v38n42 w45) fun w46 =>
bindV (pIndexAddr P 22 (e33 0) (Value.int IntKind.i64 0) w46) fun v41n47 w48 =>
bindV (pLoad P 5 v41n47 w48) fun v42n49 w50 =>
bindV (pBin P BinOp.gtr 5 true v42n49 (Value.int IntKind.u8 1) w50) fun v43n51 w52 =>
condE v43n51 (fun (K53 : KT) =>
bindV (pLoad P 134 (e33 9) w52) fun v44n54 w55 =>
bindU (pStore P 134 (e33 6) v44n54 w55) fun w56 =>
K53 .ret (Env.put (Env.put (Env.put (Env.put (Env.put (Env.put (Env.put (Env.put (Env.put (Env.put (Env.put (Env.put (Env.put (Env.put e33 33 (e33 1)) 34 v34n35) 35 (e33 0)) 36 v36n38) 37 v37n40) 38 v38n42) 39 v39n44) 40 (e33 0)) 41 v41n47) 42 v42n49) 43 v43n51) 44 v44n54) 7 (Value.int IntKind.i64 1)) 8 (Value.int IntKind.i64 4)) w56) (fun (K53 : KT) =>
K53 .normal (Env.put (Env.put (Env.put (Env.put (Env.put (Env.put (Env.put (Env.put (Env.put (Env.put (Env.put e33 33 (e33 1)) 34 v34n35) 35 (e33 0)) 36 v36n38) 37 v37n40) 38 v38n42) 39 v39n44) 40 (e33 0)) 41 v41n47) 42 v42n49) 43 v43n51) w52) (thenK (fun e57 w58 =>
bindV (pLoad P 134 (e57 9) w58) fun v45n59 w60 =>
bindU (pStore P 134 (e57 6) v45n59 w60) fun w61 =>
K37 .ret (Env.put (Env.put (Env.put e57 45 v45n59) 7 (Value.int IntKind.i64 1)) 8 (Value.int IntKind.i64 0)) w61) K37)) (fun (K37 : KT) =>
K37 .normal (Env.put (Env.put e33 33 (e33 1)) 34 v34n35) w36) (thenK (fun e62 w63 =>
loopE F83B0 (Env.put e62 11 (Value.int IntKind.i64 0)) w63 (blockK 0 (thenK (fun e103 w104 =>
bindV (pFieldAddr P 134 (e103 9) 3 w104) fun v60n105 w106 =>
bindV (pLoad P 132 v60n105 w106) fun v61n107 w108 =>
callE P 90 #[v61n107] w108 (fun v62n111 w112 =>
bindV (pUn P UnOp.not v62n111 w112) fun v63n113 w114 =>
condE v63n113 (fun (K115 : KT) =>
bindV (pLoad P 134 (e103 9) w114) fun v64n116 w117 =>
bindU (pStore P 134 (e103 6) v64n116 w117) fun w118 =>
K115 .ret (Env.put (Env.put (Env.put (Env.put (Env.put (Env.put (Env.put e103 60 v60n105) 61 v61n107) 62 v62n111) 63 v63n113) 64 v64n116) 7 (Value.int IntKind.i64 8)) 8 (Value.int IntKind.i64 4)) w118) (fun (K115 : KT) =>
K115 .normal (Env.put (Env.put (Env.put (Env.put e103 60 v60n105) 61 v61n107) 62 v62n111) 63 v63n113) w114) (thenK (fun e119 w120 =>
bindV (pLoad P 134 (e119 9) w120) fun v65n121 w122 =>
bindU (pStore P 134 (e119 6) v65n121 w122) fun w123 =>
K17 .ret (Env.put (Env.put (Env.put e119 65 v65n121) 7 (Value.int IntKind.i64 8)) 8 (Value.int IntKind.i64 0)) w123) K17)) (fun c109 w110 => K17 (.panic c109) (Env.put (Env.put e103 60 v60n105) 61 v61n107) w110)) K17))) K17)) K17)) K17)) (fun (K17 : KT) =>
K17 .normal (Env.put (Env.put (Env.put (Env.put (Env.put (Env.put (Env.put (Env.put (Env.put (Env.put (Env.put (Env.put (argE [a0, a1, a2]) 6 v6n1) 7 (Value.int IntKind.i64 0)) 8 (Value.int IntKind.i64 0)) 16 a1) 17 v17n3) 9 v9n5) 18 a1) 19 v19n8) 20 v19n8) 21 v21n11) 22 v22n14) 23 v23n16) w15) (thenK (fun e124 w125 =>
bindV (pBin P BinOp.neq 5 true (e124 1) (Value.int IntKind.u8 117) w125) fun v67n126 w127 =>
grdE v67n126 true (fun (k128 : Value → World → Prop) => k128 (e124 1) w127) (fun v69n129 w130 =>
grdE v67n126 true (fun (k131 : Value → World → Prop) => bindV (pBin P BinOp.neq 5 true v69n129 (Value.int IntKind.u8 105) w130) k131) (fun v70n132 w133 =>
pickE v67n126 v70n132 (Value.bool false) fun v71n134 =>
grdE v71n134 true (fun (k135 : Value → World → Prop) => k135 (e124 1) w133) (fun v73n136 w137 =>
grdE v71n134 true (fun (k138 : Value → World → Prop) => bindV (pBin P BinOp.neq 5 true v73n136 (Value.int IntKind.u8 115) w137) k138) (fun v74n139 w140 =>
pickE v71n134 v74n139 (Value.bool false) fun v75n141 =>
condE v75n141 (fun (K142 : KT) =>
bindV (pLoad P 134 (e124 9) w140) fun v76n143 w144 =>
bindU (pStore P 134 (e124 6) v76n143 w144) fun w145 =>
K142 .ret (Env.put (Env.put (Env.put (Env.put (Env.put (Env.put (Env.put (Env.put (Env.put (Env.put (Env.put (Env.put (Env.put e124 66 (e124 1)) 67 v67n126) 68 v67n126) 69 v69n129) 70 v70n132) 71 v71n134) 72 v71n134) 73 v73n136) 74 v74n139) 75 v75n141) 76 v76n143) 7 (Value.int IntKind.i64 0)) 8 (Value.int IntKind.i64 5)) w145) (fun (K142 : KT) =>
K142 .normal (Env.put (Env.put (Env.put (Env.put (Env.put (Env.put (Env.put (Env.put (Env.put (Env.put e124 66 (e124 1)) 67 v67n126) 68 v67n126) 69 v69n129) 70 v70n132) 71 v71n134) 72 v71n134) 73 v73n136) 74 v74n139) 75 v75n141) w140) (thenK (fun e146 w147 =>
callE P 91 #[(e146 0)] w147 (fun v79n150 w151 =>
bindV (pExtract P v79n150 0 w151) fun v80n152 w153 =>
bindV (pExtract P v79n150 1 w153) fun v81n154 w155 =>
bindV (pExtract P v79n150 2 w155) fun v82n156 w157 =>
bindV (pBin P BinOp.neq 3 true v82n156 (Value.int IntKind.i64 0) w157) fun v84n158 w159 =>
condE v84n158 (fun (K160 : KT) =>
bindV (pLoad P 134 (e146 9) w159) fun v85n161 w162 =>
bindU (pStore P 134 (e146 6) v85n161 w162) fun w163 =>
K160 .ret (Env.put (Env.put (Env.put (Env.put (Env.put (Env.put (Env.put (Env.put (Env.put (Env.put (Env.put (Env.put (Env.put (Env.put (Env.put (Env.put e146 78 (e146 0)) 79 v79n150) 77 v79n150) 80 v80n152) 81 v81n154) 82 v82n156) 12 v80n152) 13 v81n154) 14 v82n156) 83 v82n156) 84 v84n158) 85 v85n161) 86 v81n154) 87 v82n156) 7 v81n154) 8 v82n156) w163) (fun (K160 : KT) =>
K160 .normal (Env.put (Env.put (Env.put (Env.put (Env.put (Env.put (Env.put (Env.put (Env.put (Env.put (Env.put e146 78 (e146 0)) 79 v79n150) 77 v79n150) 80 v80n152) 81 v81n154) 82 v82n156) 12 v80n152) 13 v81n154) 14 v82n156) 83 v82n156) 84 v84n158) w159) (thenK (fun e164 w165 =>
bindV (pBin P BinOp.eql 5 true (e164 1) (Value.int IntKind.u8 117) w165) fun v89n166 w167 =>
condE v89n166 (fun (K168 : KT) =>
bindV (pFieldAddr P 134 (e164 9) 1 w167) fun v91n169 w170 =>
bindU (pStore P 132 v91n169 (e164 12) w170) fun w171 =>
bindV (pLoad P 134 (e164 9) w171) fun v92n172 w173 =>
bindU (pStore P 134 (e164 6) v92n172 w173) fun w174 =>
K168 .ret (Env.put (Env.put (Env.put (Env.put (Env.put (Env.put (Env.put (Env.put e164 88 (e164 1)) 89 v89n166) 90 (e164 12)) 91 v91n169) 92 v92n172) 93 (e164 13)) 7 (e164 13)) 8 (Value.int IntKind.i64 0)) w174) (fun (K168 : KT) =>
K168 .normal (Env.put (Env.put e164 88 (e164 1)) 89 v89n166) w167) (thenK (fun e175 w176 =>
bindV (pBin P BinOp.eql 5 true (e175 1) (Value.int IntKind.u8 105) w176) fun v95n177 w178 =>
condE v95n177 (fun (K179 : KT) =>
callE P 92 #[(e175 12)] w178 (fun v97n182 w183 =>
bindV (pFieldAddr P 134 (e175 9) 2 w183) fun v98n184 w185 =>
bindU (pStore P 2 v98n184 v97n182 w185) fun w186 =>
bindV (pLoad P 134 (e175 9) w186) fun v99n187 w188 =>
bindU (pStore P 134 (e175 6) v99n187 w188) fun w189 =>
K179 .ret (Env.put (Env.put (Env.put (Env.put (Env.put (Env.put (Env.put (Env.put (Env.put e175 94 (e175 1)) 95 v95n177) 96 (e175 12)) 97 v97n182) 98 v98n184) 99 v99n187) 100 (e175 13)) 7 (e175 13)) 8 (Value.int IntKind.i64 0)) w189) (fun c180 w181 => K179 (.panic c180) (Env.put (Env.put (Env.put e175 94 (e175 1)) 95 v95n177) 96 (e175 12)) w181)) (fun (K179 : KT) =>
K179 .normal (Env.put (Env.put e175 94 (e175 1)) 95 v95n177) w178) (thenK (fun e190 w191 =>
bindV (pBin P BinOp.lss 3 true (e190 2) (Value.int IntKind.i64 0) w191) fun v102n192 w193 =>
condE v102n192 (fun (K194 : KT) =>
K194 .normal (Env.put (Env.put (Env.put e190 101 (e190 2)) 102 v102n192) 2 (Value.int IntKind.i64 0)) w193) (fun (K194 : KT) =>
K194 .normal (Env.put (Env.put e190 101 (e190 2)) 102 v102n192) w193) (thenK (fun e195 w196 =>
bindV (pConv P 3 132 (e195 2) w196) fun v105n197 w198 =>
bindV (pBin P BinOp.gtr 132 false (e195 12) v105n197 w198) fun v106n199 w200 =>
condE v106n199 (fun (K201 : KT) =>
bindV (pLoad P 134 (e195 9) w200) fun v107n202 w203 =>
bindU (pStore P 134 (e195 6) v107n202 w203) fun w204 =>
K201 .ret (Env.put (Env.put (Env.put (Env.put (Env.put (Env.put (Env.put (Env.put e195 103 (e195 12)) 104 (e195 2)) 105 v105n197) 106 v106n199) 107 v107n202) 108 (e195 13)) 7 (e195 13)) 8 (Value.int IntKind.i64 3)) w204) (fun (K201 : KT) =>
K201 .normal (Env.put (Env.put (Env.put (Env.put e195 103 (e195 12)) 104 (e195 2)) 105 v105n197) 106 v106n199) w200) (thenK (fun e205 w206 =>
bindV (pBuiltin P Builtin.len #[22] 3 [(e205 0)] w206) fun v111n207 w208 =>
bindV (pBin P BinOp.sub 3 false v111n207 (e205 13) w208) fun v113n209 w210 =>
bindV (pConv P 3 132 v113n209 w210) fun v114n211 w212 =>
bindV (pBin P BinOp.gtr 132 false (e205 12) v114n211 w212) fun v115n213 w214 =>
condE v115n213 (fun (K215 : KT) =>
bindV (pLoad P 134 (e205 9) w214) fun v116n216 w217 =>
bindU (pStore P 134 (e205 6) v116n216 w217) fun w218 =>
K215 .ret (Env.put (Env.put (Env.put (Env.put (Env.put (Env.put (Env.put (Env.put (Env.put (Env.put (Env.put e205 109 (e205 12)) 110 (e205 0)) 111 v111n207) 112 (e205 13)) 113 v113n209) 114 v114n211) 115 v115n213) 116 v116n216) 117 (e205 13)) 7 (e205 13)) 8 (Value.int IntKind.i64 2)) w218) (fun (K215 : KT) =>
K215 .normal (Env.put (Env.put (Env.put (Env.put (Env.put (Env.put (Env.put e205 109 (e205 12)) 110 (e205 0)) 111 v111n207) 112 (e205 13)) 113 v113n209) 114 v114n211) 115 v115n213) w214) (thenK (fun e219 w220 =>
bindV (pConv P 132 3 (e219 12) w220) fun v120n221 w222 =>
bindV (pBin P BinOp.add 3 false (e219 13) v120n221 w222) fun v121n223 w224 =>
bindV (pSlice P 22 (e219 0) (some (e219 13)) (some v121n223) none w224) fun v125n225 w226 =>
bindV (pConv P 22 9 v125n225 w226) fun v126n227 w228 =>
bindV (pFieldAddr P 134 (e219 9) 4 w228) fun v127n229 w230 =>
bindU (pStore P 9 v127n229 v126n227 w230) fun w231 =>
bindV (pLoad P 134 (e219 9) w231) fun v128n232 w233 =>
bindU (pStore P 134 (e219 6) v128n232 w233) fun w234 =>
topK P [(ResultVar.cell 6 134), (ResultVar.tmp 7), (ResultVar.tmp 8)] R .ret (Env.put (Env.put (Env.put (Env.put (Env.put (Env.put (Env.put (Env.put (Env.put (Env.put (Env.put (Env.put (Env.put (Env.put (Env.put e219 118 (e219 13)) 119 (e219 12)) 120 v120n221) 121 v121n223) 15 v121n223) 122 (e219 0)) 123 (e219 13)) 124 v121n223) 125 v125n225) 126 v126n227) 127 v127n229) 128 v128n232) 129 v121n223) 7 v121n223) 8 (Value.int IntKind.i64 0)) w234) (topK P [(ResultVar.cell 6 134), (ResultVar.tmp 7), (ResultVar.tmp 8)] R))) (topK P [(ResultVar.cell 6 134), (ResultVar.tmp 7), (ResultVar.tmp 8)] R))) (topK P [(ResultVar.cell 6 134), (ResultVar.tmp 7), (ResultVar.tmp 8)] R))) (topK P [(ResultVar.cell 6 134), (ResultVar.tmp 7), (ResultVar.tmp 8)] R))) (topK P [(ResultVar.cell 6 134), (ResultVar.tmp 7), (ResultVar.tmp 8)] R))) (topK P [(ResultVar.cell 6 134), (ResultVar.tmp 7), (ResultVar.tmp 8)] R))) (fun c148 w149 => R (.panicked c148) w149)) (topK P [(ResultVar.cell 6 134), (ResultVar.tmp 7), (ResultVar.tmp 8)] R))) w137) w133) w130) w127) (topK P [(ResultVar.cell 6 134), (ResultVar.tmp 7), (ResultVar.tmp 8)] R))) w12) w9
theorem F83ok {w : World} {R : Ending → World → Prop} {a0 : Value} {a1 : Value} {a2 : Value} (h : F83 a0 a1 a2 w R) : Calls P 83 #[a0, a1, a2] w R :=
  calls_of_ev bodies mixed (c := bodyOf Try.f83) (nt := 130) (rs := [(ResultVar.cell 6 134), (ResultVar.tmp 7), (ResultVar.tmp 8)]) (args := [a0, a1, a2]) (fn := Try.f83) (by kernel_rfl) (by kernel_rfl) (by kernel_rfl) (by kernel_rfl) (by kernel_rfl) (by simp)
    (eq_mp (show F83 a0 a1 a2 w R = ev P C (bodyOf Try.f83) (argE [a0, a1, a2]) w (topK P [(ResultVar.cell 6 134), (ResultVar.tmp 7), (ResultVar.tmp 8)] R) by kernel_rfl) h)

/-! ### moiety/moietyref02.One -/
def F84 (a0 : Value) (w : World) (R : Ending → World → Prop) : Prop :=
bindV (pBox P 134 a0 w) fun v1n1 w2 =>
bindV (pFieldAddr P 134 v1n1 0 w2) fun v3n3 w4 =>
bindV (pLoad P 5 v3n3 w4) fun v4n5 w6 =>
bindV (pBin P BinOp.eql 5 true v4n5 (Value.int IntKind.u8 117) w6) fun v5n7 w8 =>
condE v5n7 (fun (K9 : KT) =>
bindV (pFieldAddr P 134 v1n1 1 w8) fun v6n10 w11 =>
bindV (pLoad P 132 v6n10 w11) fun v7n12 w13 =>
callE P 93 #[v7n12] w13 (fun v8n16 w17 =>
K9 .ret (Env.put (Env.put (Env.put (Env.put (Env.put (Env.put (Env.put (Env.put (Env.put (argE [a0]) 1 v1n1) 2 (Value.slice none 0 0)) 3 v3n3) 4 v4n5) 5 v5n7) 6 v6n10) 7 v7n12) 8 v8n16) 2 v8n16) w17) (fun c14 w15 => K9 (.panic c14) (Env.put (Env.put (Env.put (Env.put (Env.put (Env.put (Env.put (argE [a0]) 1 v1n1) 2 (Value.slice none 0 0)) 3 v3n3) 4 v4n5) 5 v5n7) 6 v6n10) 7 v7n12) w15)) (fun (K9 : KT) =>
K9 .normal (Env.put (Env.put (Env.put (Env.put (Env.put (argE [a0]) 1 v1n1) 2 (Value.slice none 0 0)) 3 v3n3) 4 v4n5) 5 v5n7) w8) (thenK (fun e18 w19 =>
bindV (pFieldAddr P 134 (e18 1) 0 w19) fun v9n20 w21 =>
bindV (pLoad P 5 v9n20 w21) fun v10n22 w23 =>
bindV (pBin P BinOp.eql 5 true v10n22 (Value.int IntKind.u8 105) w23) fun v11n24 w25 =>
condE v11n24 (fun (K26 : KT) =>
bindV (pFieldAddr P 134 (e18 1) 2 w25) fun v12n27 w28 =>
bindV (pLoad P 2 v12n27 w28) fun v13n29 w30 =>
callE P 94 #[v13n29] w30 (fun v14n33 w34 =>
callE P 93 #[v14n33] w34 (fun v15n37 w38 =>
K26 .ret (Env.put (Env.put (Env.put (Env.put (Env.put (Env.put (Env.put (Env.put e18 9 v9n20) 10 v10n22) 11 v11n24) 12 v12n27) 13 v13n29) 14 v14n33) 15 v15n37) 2 v15n37) w38) (fun c35 w36 => K26 (.panic c35) (Env.put (Env.put (Env.put (Env.put (Env.put (Env.put e18 9 v9n20) 10 v10n22) 11 v11n24) 12 v12n27) 13 v13n29) 14 v14n33) w36)) (fun c31 w32 => K26 (.panic c31) (Env.put (Env.put (Env.put (Env.put (Env.put e18 9 v9n20) 10 v10n22) 11 v11n24) 12 v12n27) 13 v13n29) w32)) (fun (K26 : KT) =>
K26 .normal (Env.put (Env.put (Env.put e18 9 v9n20) 10 v10n22) 11 v11n24) w25) (thenK (fun e39 w40 =>
bindV (pFieldAddr P 134 (e39 1) 0 w40) fun v16n41 w42 =>
bindV (pLoad P 5 v16n41 w42) fun v17n43 w44 =>
bindV (pBin P BinOp.eql 5 true v17n43 (Value.int IntKind.u8 102) w44) fun v18n45 w46 =>
condE v18n45 (fun (K47 : KT) =>
bindV (pFieldAddr P 134 (e39 1) 3 w46) fun v19n48 w49 =>
bindV (pLoad P 132 v19n48 w49) fun v20n50 w51 =>
callE P 95 #[v20n50] w51 (fun v21n54 w55 =>
K47 .ret (Env.put (Env.put (Env.put (Env.put (Env.put (Env.put (Env.put e39 16 v16n41) 17 v17n43) 18 v18n45) 19 v19n48) 20 v20n50) 21 v21n54) 2 v21n54) w55) (fun c52 w53 => K47 (.panic c52) (Env.put (Env.put (Env.put (Env.put (Env.put e39 16 v16n41) 17 v17n43) 18 v18n45) 19 v19n48) 20 v20n50) w53)) (fun (K47 : KT) =>
K47 .normal (Env.put (Env.put (Env.put e39 16 v16n41) 17 v17n43) 18 v18n45) w46) (thenK (fun e56 w57 =>
bindV (pFieldAddr P 134 (e56 1) 0 w57) fun v22n58 w59 =>
bindV (pLoad P 5 v22n58 w59) fun v23n60 w61 =>
bindV (pBin P BinOp.eql 5 true v23n60 (Value.int IntKind.u8 115) w61) fun v24n62 w63 =>
condE v24n62 (fun (K64 : KT) =>
drawE (fun (k65 : Env → World → Prop) (kp66 : List PanicEntry → Env → World → Prop) =>
takeE (fun w69 => pFieldAddr P 134 (e56 1) 4 w69) (drew w63) fun v25n67 h68 =>
takeE (fun w72 => pLoad P 9 v25n67 w72) (drew w63) fun v26n70 h71 =>
takeE (fun w75 => pBuiltin P Builtin.len #[9] 3 [v26n70] w75) (drew w63) fun v27n73 h74 =>
takeE (fun w78 => pConv P 3 132 v27n73 w78) (drew w63) fun v28n76 h77 =>
takeE (fun w81 => pFieldAddr P 134 (e56 1) 4 w81) (drew w63) fun v30n79 h80 =>
takeE (fun w84 => pLoad P 9 v30n79 w84) (drew w63) fun v31n82 h83 =>
(callE P 93 #[v28n76] (drew w63) (fun v29n88 w89 =>
heldE [h83, h80] w89 (bindV (pConv P 9 22 v31n82 w89) fun v32n91 w92 =>
bindV (pBuiltin P Builtin.append #[22, 22] 22 [v29n88, v32n91] w92) fun v33n94 w95 =>
k65 (Env.put (Env.put (Env.put (Env.put (Env.put (Env.put (Env.put (Env.put (Env.put (Env.put (Env.put (Env.put (Env.put e56 22 v22n58) 23 v23n60) 24 v24n62) 25 v25n67) 26 v26n70) 27 v27n73) 28 v28n76) 30 v30n79) 31 v31n82) 29 v29n88) 32 v32n91) 33 v33n94) 2 v33n94) w95)) (fun c86 w87 => ∀ (e85 : Env), agreeOff [25, 26, 27, 28, 30, 31] (Env.put (Env.put (Env.put (Env.put (Env.put (Env.put (Env.put (Env.put (Env.put e56 22 v22n58) 23 v23n60) 24 v24n62) 25 v25n67) 26 v26n70) 27 v27n73) 28 v28n76) 30 v30n79) 31 v31n82) e85 → kp66 c86 e85 w87)) ∧
(bindV (pConv P 9 22 v31n82 (drew w63)) fun v32n98 w99 =>
heldE [h77, h74, h71, h68] w99 (callE P 93 #[v28n76] w99 (fun v29n103 w104 =>
bindV (pBuiltin P Builtin.append #[22, 22] 22 [v29n103, v32n98] w104) fun v33n106 w107 =>
k65 (Env.put (Env.put (Env.put (Env.put (Env.put (Env.put (Env.put (Env.put (Env.put (Env.put (Env.put (Env.put (Env.put e56 22 v22n58) 23 v23n60) 24 v24n62) 25 v25n67) 26 v26n70) 27 v27n73) 28 v28n76) 30 v30n79) 31 v31n82) 32 v32n98) 29 v29n103) 33 v33n106) 2 v33n106) w107) (fun c101 w102 => ∀ (e100 : Env), agreeOff [25, 26, 27, 28, 30, 31, 32] (Env.put (Env.put (Env.put (Env.put (Env.put (Env.put (Env.put (Env.put (Env.put (Env.put e56 22 v22n58) 23 v23n60) 24 v24n62) 25 v25n67) 26 v26n70) 27 v27n73) 28 v28n76) 30 v30n79) 31 v31n82) 32 v32n98) e100 → kp66 c101 e100 w102)))) (fun e109 w110 =>
K64 .ret e109 w110) (fun c111 e112 w113 => K64 (.panic c111) e112 w113)) (fun (K64 : KT) =>
K64 .normal (Env.put (Env.put (Env.put e56 22 v22n58) 23 v23n60) 24 v24n62) w63) (thenK (fun e114 w115 =>
bindV (pFieldAddr P 134 (e114 1) 0 w115) fun v34n116 w117 =>
bindV (pLoad P 5 v34n116 w117) fun v35n118 w119 =>
bindV (pBin P BinOp.eql 5 true v35n118 (Value.int IntKind.u8 98) w119) fun v36n120 w121 =>
grdE v36n120 true (fun (k122 : Value → World → Prop) => bindV (pFieldAddr P 134 (e114 1) 5 w121) k122) (fun v38n123 w124 =>
grdE v36n120 true (fun (k125 : Value → World → Prop) => bindV (pLoad P 4 v38n123 w124) k125) (fun v39n126 w127 =>
pickE v36n120 v39n126 (Value.bool false) fun v40n128 =>
condE v40n128 (fun (K129 : KT) =>
bindV (pBuildSlice P 22 1 [(0, (Value.int IntKind.u8 1))] w127) fun v41n130 w131 =>
K129 .ret (Env.put (Env.put (Env.put (Env.put (Env.put (Env.put (Env.put (Env.put (Env.put e114 34 v34n116) 35 v35n118) 36 v36n120) 37 v36n120) 38 v38n123) 39 v39n126) 40 v40n128) 41 v41n130) 2 v41n130) w131) (fun (K129 : KT) =>
K129 .normal (Env.put (Env.put (Env.put (Env.put (Env.put (Env.put (Env.put e114 34 v34n116) 35 v35n118) 36 v36n120) 37 v36n120) 38 v38n123) 39 v39n126) 40 v40n128) w127) (thenK (fun e132 w133 =>
bindV (pFieldAddr P 134 (e132 1) 0 w133) fun v42n134 w135 =>
bindV (pLoad P 5 v42n134 w135) fun v43n136 w137 =>
bindV (pBin P BinOp.eql 5 true v43n136 (Value.int IntKind.u8 98) w137) fun v44n138 w139 =>
condE v44n138 (fun (K140 : KT) =>
bindV (pBuildSlice P 22 1 [(0, (Value.int IntKind.u8 0))] w139) fun v45n141 w142 =>
K140 .ret (Env.put (Env.put (Env.put (Env.put (Env.put e132 42 v42n134) 43 v43n136) 44 v44n138) 45 v45n141) 2 v45n141) w142) (fun (K140 : KT) =>
K140 .normal (Env.put (Env.put (Env.put e132 42 v42n134) 43 v43n136) 44 v44n138) w139) (thenK (fun e143 w144 =>
bindV (pBuildSlice P 22 0 [] w144) fun v46n145 w146 =>
R (.returned v46n145) w146) (topK P [(ResultVar.tmp 2)] R))) (topK P [(ResultVar.tmp 2)] R))) w124) w121) (topK P [(ResultVar.tmp 2)] R))) (topK P [(ResultVar.tmp 2)] R))) (topK P [(ResultVar.tmp 2)] R))) (topK P [(ResultVar.tmp 2)] R))
theorem F84ok {w : World} {R : Ending → World → Prop} {a0 : Value} (h : F84 a0 w R) : Calls P 84 #[a0] w R :=
  calls_of_ev bodies mixed (c := bodyOf Try.f84) (nt := 47) (rs := [(ResultVar.tmp 2)]) (args := [a0]) (fn := Try.f84) (by kernel_rfl) (by kernel_rfl) (by kernel_rfl) (by kernel_rfl) (by kernel_rfl) (by simp)
    (eq_mp (show F84 a0 w R = ev P C (bodyOf Try.f84) (argE [a0]) w (topK P [(ResultVar.tmp 2)] R) by kernel_rfl) h)

/-! ### moiety/moietyref02.number -/
def F90 (a0 : Value) (w : World) (R : Ending → World → Prop) : Prop :=
bindV (pBin P BinOp.geq 132 false a0 (Value.int IntKind.u64 9223372036854775808) w) fun v9n1 w2 =>
condE v9n1 (fun (K3 : KT) =>
bindV (pBin P BinOp.sub 132 false a0 (Value.int IntKind.u64 9223372036854775808) w2) fun v12n4 w5 =>
bindV (pBin P BinOp.leq 132 false v12n4 (Value.int IntKind.u64 9218868437227405312) w5) fun v15n6 w7 =>
grdE v15n6 false (fun (k8 : Value → World → Prop) => k8 v12n4 w7) (fun v17n9 w10 =>
grdE v15n6 false (fun (k11 : Value → World → Prop) => k11 (Value.int IntKind.u64 9218868437227405312) w10) (fun v18n12 w13 =>
grdE v15n6 false (fun (k14 : Value → World → Prop) => bindV (pBin P BinOp.add 132 true v18n12 (Value.int IntKind.u64 2251799813685249) w13) k14) (fun v19n15 w16 =>
grdE v15n6 false (fun (k17 : Value → World → Prop) => bindV (pBin P BinOp.eql 132 false v17n9 v19n15 w16) k17) (fun v20n18 w19 =>
pickE v15n6 (Value.bool true) v20n18 fun v21n20 =>
K3 .ret (Env.put (Env.put (Env.put (Env.put (Env.put (Env.put (Env.put (Env.put (Env.put (Env.put (Env.put (Env.put (Env.put (Env.put (Env.put (Env.put (Env.put (Env.put (Env.put (Env.put (argE [a0]) 2 (Value.bool false)) 3 (Value.int IntKind.u64 9223372036854775808)) 4 (Value.int IntKind.u64 9218868437227405312)) 7 a0) 8 (Value.int IntKind.u64 9223372036854775808)) 9 v9n1) 10 a0) 11 (Value.int IntKind.u64 9223372036854775808)) 12 v12n4) 5 v12n4) 13 v12n4) 14 (Value.int IntKind.u64 9218868437227405312)) 15 v15n6) 16 v15n6) 17 v17n9) 18 v18n12) 19 v19n15) 20 v20n18) 21 v21n20) 2 v21n20) w19) w16) w13) w10) w7) (fun (K3 : KT) =>
K3 .normal (Env.put (Env.put (Env.put (Env.put (Env.put (Env.put (argE [a0]) 2 (Value.bool false)) 3 (Value.int IntKind.u64 9223372036854775808)) 4 (Value.int IntKind.u64 9218868437227405312)) 7 a0) 8 (Value.int IntKind.u64 9223372036854775808)) 9 v9n1) w2) (thenK (fun e21 w22 =>
bindV (pBin P BinOp.sub 132 true (e21 3) (Value.int IntKind.u64 1) w22) fun v23n23 w24 =>
bindV (pBin P BinOp.sub 132 false v23n23 (e21 0) w24) fun v25n25 w26 =>
bindV (pBin P BinOp.leq 132 false v25n25 (e21 4) w26) fun v28n27 w28 =>
R (.returned v28n27) w28) (topK P [(ResultVar.tmp 2)] R))
theorem F90ok {w : World} {R : Ending → World → Prop} {a0 : Value} (h : F90 a0 w R) : Calls P 90 #[a0] w R :=
  calls_of_ev bodies mixed (c := bodyOf Try.f90) (nt := 29) (rs := [(ResultVar.tmp 2)]) (args := [a0]) (fn := Try.f90) (by kernel_rfl) (by kernel_rfl) (by kernel_rfl) (by kernel_rfl) (by kernel_rfl) (by simp)
    (eq_mp (show F90 a0 w R = ev P C (bodyOf Try.f90) (argE [a0]) w (topK P [(ResultVar.tmp 2)] R) by kernel_rfl) h)

/-! ### moiety/moietyref02.num -/
def F91B0 (e : Env) (w : World) (K : KT) : Prop :=
bindV (pBuiltin P Builtin.len #[22] 3 [(e 0)] w) fun v10n1 w2 =>
bindV (pBin P BinOp.lss 3 false (e 7) v10n1 w2) fun v11n3 w4 =>
condE v11n3 (fun (K5 : KT) =>
K5 .normal (Env.put (Env.put (Env.put (Env.put e 8 (e 7)) 9 (e 0)) 10 v10n1) 11 v11n3) w4) (fun (K5 : KT) =>
K5 (.exit 0) (Env.put (Env.put (Env.put (Env.put e 8 (e 7)) 9 (e 0)) 10 v10n1) 11 v11n3) w4) (thenK (fun e6 w7 =>
letK (blockK 1 (thenK (fun e9 w10 =>
bindV (pBin P BinOp.add 3 true (e9 7) (Value.int IntKind.i64 1) w10) fun v13n11 w12 =>
K .normal (Env.put (Env.put (Env.put e9 12 (e9 7)) 13 v13n11) 7 v13n11) w12) K)) fun (K8 : KT) =>
bindV (pBin P BinOp.eql 3 true (e6 7) (Value.int IntKind.i64 9) w7) fun v15n13 w14 =>
grdE v15n13 true (fun (k15 : Value → World → Prop) => k15 (e6 0) w14) (fun v17n16 w17 =>
grdE v15n13 true (fun (k18 : Value → World → Prop) => k18 (e6 7) w17) (fun v18n19 w20 =>
grdE v15n13 true (fun (k21 : Value → World → Prop) => bindV (pIndexAddr P 22 v17n16 v18n19 w20) k21) (fun v19n22 w23 =>
grdE v15n13 true (fun (k24 : Value → World → Prop) => bindV (pLoad P 5 v19n22 w23) k24) (fun v20n25 w26 =>
grdE v15n13 true (fun (k27 : Value → World → Prop) => bindV (pBin P BinOp.gtr 5 true v20n25 (Value.int IntKind.u8 1) w26) k27) (fun v21n28 w29 =>
pickE v15n13 v21n28 (Value.bool false) fun v22n30 =>
condE v22n30 (fun (K31 : KT) =>
K31 .ret (Env.put (Env.put (Env.put (Env.put (Env.put (Env.put (Env.put (Env.put (Env.put (Env.put (Env.put (Env.put e6 14 (e6 7)) 15 v15n13) 16 v15n13) 17 v17n16) 18 v18n19) 19 v19n22) 20 v20n25) 21 v21n28) 22 v22n30) 2 (Value.int IntKind.u64 0)) 3 (Value.int IntKind.i64 10)) 4 (Value.int IntKind.i64 1)) w29) (fun (K31 : KT) =>
K31 .normal (Env.put (Env.put (Env.put (Env.put (Env.put (Env.put (Env.put (Env.put (Env.put e6 14 (e6 7)) 15 v15n13) 16 v15n13) 17 v17n16) 18 v18n19) 19 v19n22) 20 v20n25) 21 v21n28) 22 v22n30) w29) (thenK (fun e32 w33 =>
bindV (pIndexAddr P 22 (e32 0) (e32 7) w33) fun v26n34 w35 =>
bindV (pLoad P 5 v26n34 w35) fun v27n36 w37 =>
bindV (pBin P BinOp.rem 5 true v27n36 (Value.int IntKind.u8 128) w37) fun v28n38 w39 =>
bindV (pConv P 5 132 v28n38 w39) fun v29n40 w41 =>
bindV (pBin P BinOp.mul 132 false v29n40 (e32 6) w41) fun v31n42 w43 =>
bindV (pBin P BinOp.add 132 false (e32 5) v31n42 w43) fun v32n44 w45 =>
bindV (pBin P BinOp.mul 132 true (e32 6) (Value.int IntKind.u64 128) w45) fun v34n46 w47 =>
bindV (pIndexAddr P 22 (e32 0) (e32 7) w47) fun v37n48 w49 =>
bindV (pLoad P 5 v37n48 w49) fun v38n50 w51 =>
bindV (pBin P BinOp.lss 5 true v38n50 (Value.int IntKind.u8 128) w51) fun v39n52 w53 =>
condE v39n52 (fun (K54 : KT) =>
bindV (pIndexAddr P 22 (e32 0) (e32 7) w53) fun v42n55 w56 =>
bindV (pLoad P 5 v42n55 w56) fun v43n57 w58 =>
bindV (pBin P BinOp.eql 5 true v43n57 (Value.int IntKind.u8 0) w58) fun v44n59 w60 =>
grdE v44n59 true (fun (k61 : Value → World → Prop) => k61 (e32 7) w60) (fun v46n62 w63 =>
grdE v44n59 true (fun (k64 : Value → World → Prop) => bindV (pBin P BinOp.gtr 3 true v46n62 (Value.int IntKind.i64 0) w63) k64) (fun v47n65 w66 =>
pickE v44n59 v47n65 (Value.bool false) fun v48n67 =>
condE v48n67 (fun (K68 : KT) =>
bindV (pBin P BinOp.add 3 true (e32 7) (Value.int IntKind.i64 1) w66) fun v50n69 w70 =>
K68 .ret (Env.put (Env.put (Env.put (Env.put (Env.put (Env.put (Env.put (Env.put (Env.put (Env.put (Env.put (Env.put (Env.put (Env.put (Env.put (Env.put (Env.put (Env.put (Env.put (Env.put (Env.put (Env.put (Env.put (Env.put (Env.put (Env.put (Env.put (Env.put (Env.put (Env.put (Env.put (Env.put (Env.put e32 23 (e32 5)) 24 (e32 0)) 25 (e32 7)) 26 v26n34) 27 v27n36) 28 v28n38) 29 v29n40) 30 (e32 6)) 31 v31n42) 32 v32n44) 5 v32n44) 33 (e32 6)) 34 v34n46) 6 v34n46) 35 (e32 0)) 36 (e32 7)) 37 v37n48) 38 v38n50) 39 v39n52) 40 (e32 0)) 41 (e32 7)) 42 v42n55) 43 v43n57) 44 v44n59) 45 v44n59) 46 v46n62) 47 v47n65) 48 v48n67) 49 (e32 7)) 50 v50n69) 2 (Value.int IntKind.u64 0)) 3 v50n69) 4 (Value.int IntKind.i64 4)) w70) (fun (K68 : KT) =>
K68 .normal (Env.put (Env.put (Env.put (Env.put (Env.put (Env.put (Env.put (Env.put (Env.put (Env.put (Env.put (Env.put (Env.put (Env.put (Env.put (Env.put (Env.put (Env.put (Env.put (Env.put (Env.put (Env.put (Env.put (Env.put (Env.put (Env.put (Env.put (Env.put e32 23 (e32 5)) 24 (e32 0)) 25 (e32 7)) 26 v26n34) 27 v27n36) 28 v28n38) 29 v29n40) 30 (e32 6)) 31 v31n42) 32 v32n44) 5 v32n44) 33 (e32 6)) 34 v34n46) 6 v34n46) 35 (e32 0)) 36 (e32 7)) 37 v37n48) 38 v38n50) 39 v39n52) 40 (e32 0)) 41 (e32 7)) 42 v42n55) 43 v43n57) 44 v44n59) 45 v44n59) 46 v46n62) 47 v47n65) 48 v48n67) w66) (thenK (fun e71 w72 =>
bindV (pBin P BinOp.add 3 true (e71 7) (Value.int IntKind.i64 1) w72) fun v53n73 w74 =>
K54 .ret (Env.put (Env.put (Env.put (Env.put (Env.put (Env.put e71 51 (e71 5)) 52 (e71 7)) 53 v53n73) 2 (e71 5)) 3 v53n73) 4 (Value.int IntKind.i64 0)) w74) K54)) w63) w60) (fun (K54 : KT) =>
K54 .normal (Env.put (Env.put (Env.put (Env.put (Env.put (Env.put (Env.put (Env.put (Env.put (Env.put (Env.put (Env.put (Env.put (Env.put (Env.put (Env.put (Env.put (Env.put (Env.put e32 23 (e32 5)) 24 (e32 0)) 25 (e32 7)) 26 v26n34) 27 v27n36) 28 v28n38) 29 v29n40) 30 (e32 6)) 31 v31n42) 32 v32n44) 5 v32n44) 33 (e32 6)) 34 v34n46) 6 v34n46) 35 (e32 0)) 36 (e32 7)) 37 v37n48) 38 v38n50) 39 v39n52) w53) K8) K8)) w26) w23) w20) w17) w14) K)
def F91 (a0 : Value) (w : World) (R : Ending → World → Prop) : Prop :=
loopE F91B0 (Env.put (Env.put (Env.put (Env.put (Env.put (Env.put (argE [a0]) 2 (Value.int IntKind.u64 0)) 3 (Value.int IntKind.i64 0)) 4 (Value.int IntKind.i64 0)) 5 (Value.int IntKind.u64 0)) 6 (Value.int IntKind.u64 1)) 7 (Value.int IntKind.i64 0)) w (blockK 0 (thenK (fun e75 w76 =>
bindV (pBuiltin P Builtin.len #[22] 3 [(e75 0)] w76) fun v55n77 w78 =>
R (.returned (.tuple #[(Value.int IntKind.u64 0), v55n77, (Value.int IntKind.i64 2)])) w78) (topK P [(ResultVar.tmp 2), (ResultVar.tmp 3), (ResultVar.tmp 4)] R)))
theorem F91ok {w : World} {R : Ending → World → Prop} {a0 : Value} (h : F91 a0 w R) : Calls P 91 #[a0] w R :=
  calls_of_ev bodies mixed (c := bodyOf Try.f91) (nt := 56) (rs := [(ResultVar.tmp 2), (ResultVar.tmp 3), (ResultVar.tmp 4)]) (args := [a0]) (fn := Try.f91) (by kernel_rfl) (by kernel_rfl) (by kernel_rfl) (by kernel_rfl) (by kernel_rfl) (by simp)
    (eq_mp (show F91 a0 w R = ev P C (bodyOf Try.f91) (argE [a0]) w (topK P [(ResultVar.tmp 2), (ResultVar.tmp 3), (ResultVar.tmp 4)] R) by kernel_rfl) h)

/-! ### moiety/moietyref02.zag -/
def F92 (a0 : Value) (w : World) (R : Ending → World → Prop) : Prop :=
bindV (pBin P BinOp.rem 132 true a0 (Value.int IntKind.u64 2) w) fun v4n1 w2 =>
bindV (pBin P BinOp.eql 132 true v4n1 (Value.int IntKind.u64 1) w2) fun v5n3 w4 =>
condE v5n3 (fun (K5 : KT) =>
bindV (pBin P BinOp.quo 132 true a0 (Value.int IntKind.u64 2) w4) fun v7n6 w7 =>
bindV (pConv P 132 2 v7n6 w7) fun v8n8 w9 =>
bindV (pUn P UnOp.neg v8n8 w9) fun v9n10 w11 =>
bindV (pBin P BinOp.sub 2 true v9n10 (Value.int IntKind.i64 1) w11) fun v10n12 w13 =>
K5 .ret (Env.put (Env.put (Env.put (Env.put (Env.put (Env.put (Env.put (Env.put (Env.put (Env.put (argE [a0]) 2 (Value.int IntKind.i64 0)) 3 a0) 4 v4n1) 5 v5n3) 6 a0) 7 v7n6) 8 v8n8) 9 v9n10) 10 v10n12) 2 v10n12) w13) (fun (K5 : KT) =>
K5 .normal (Env.put (Env.put (Env.put (Env.put (argE [a0]) 2 (Value.int IntKind.i64 0)) 3 a0) 4 v4n1) 5 v5n3) w4) (thenK (fun e14 w15 =>
bindV (pBin P BinOp.quo 132 true (e14 0) (Value.int IntKind.u64 2) w15) fun v12n16 w17 =>
bindV (pConv P 132 2 v12n16 w17) fun v13n18 w19 =>
R (.returned v13n18) w19) (topK P [(ResultVar.tmp 2)] R))
theorem F92ok {w : World} {R : Ending → World → Prop} {a0 : Value} (h : F92 a0 w R) : Calls P 92 #[a0] w R :=
  calls_of_ev bodies mixed (c := bodyOf Try.f92) (nt := 14) (rs := [(ResultVar.tmp 2)]) (args := [a0]) (fn := Try.f92) (by kernel_rfl) (by kernel_rfl) (by kernel_rfl) (by kernel_rfl) (by kernel_rfl) (by simp)
    (eq_mp (show F92 a0 w R = ev P C (bodyOf Try.f92) (argE [a0]) w (topK P [(ResultVar.tmp 2)] R) by kernel_rfl) h)

/-! ### moiety/moietyref02.digits -/
def F93 (a0 : Value) (w : World) (R : Ending → World → Prop) : Prop :=
bindV (pBin P BinOp.lss 132 true a0 (Value.int IntKind.u64 128) w) fun v4n1 w2 =>
condE v4n1 (fun (K3 : KT) =>
bindV (pConv P 132 5 a0 w2) fun v6n4 w5 =>
bindV (pBuildSlice P 22 1 [(0, v6n4)] w5) fun v7n6 w7 =>
K3 .ret (Env.put (Env.put (Env.put (Env.put (Env.put (Env.put (Env.put (argE [a0]) 2 (Value.slice none 0 0)) 3 a0) 4 v4n1) 5 a0) 6 v6n4) 7 v7n6) 2 v7n6) w7) (fun (K3 : KT) =>
K3 .normal (Env.put (Env.put (Env.put (argE [a0]) 2 (Value.slice none 0 0)) 3 a0) 4 v4n1) w2) (thenK (fun e8 w9 =>
bindV (pBin P BinOp.rem 132 true (e8 0) (Value.int IntKind.u64 128) w9) fun v9n10 w11 =>
bindV (pConv P 132 5 v9n10 w11) fun v10n12 w13 =>
bindV (pBin P BinOp.add 5 true v10n12 (Value.int IntKind.u8 128) w13) fun v11n14 w15 =>
bindV (pBuildSlice P 22 1 [(0, v11n14)] w15) fun v12n16 w17 =>
bindV (pBin P BinOp.quo 132 true (e8 0) (Value.int IntKind.u64 128) w17) fun v14n18 w19 =>
callE P 93 #[v14n18] w19 (fun v15n22 w23 =>
bindV (pBuiltin P Builtin.append #[22, 22] 22 [v12n16, v15n22] w23) fun v16n24 w25 =>
R (.returned v16n24) w25) (fun c20 w21 => R (.panicked c20) w21)) (topK P [(ResultVar.tmp 2)] R))
theorem F93ok {w : World} {R : Ending → World → Prop} {a0 : Value} (h : F93 a0 w R) : Calls P 93 #[a0] w R :=
  calls_of_ev bodies mixed (c := bodyOf Try.f93) (nt := 17) (rs := [(ResultVar.tmp 2)]) (args := [a0]) (fn := Try.f93) (by kernel_rfl) (by kernel_rfl) (by kernel_rfl) (by kernel_rfl) (by kernel_rfl) (by simp)
    (eq_mp (show F93 a0 w R = ev P C (bodyOf Try.f93) (argE [a0]) w (topK P [(ResultVar.tmp 2)] R) by kernel_rfl) h)

/-! ### moiety/moietyref02.zig -/
def F94 (a0 : Value) (w : World) (R : Ending → World → Prop) : Prop :=
bindV (pBin P BinOp.lss 2 true a0 (Value.int IntKind.i64 0) w) fun v4n1 w2 =>
condE v4n1 (fun (K3 : KT) =>
bindV (pBin P BinOp.add 2 true a0 (Value.int IntKind.i64 1) w2) fun v6n4 w5 =>
bindV (pUn P UnOp.neg v6n4 w5) fun v7n6 w7 =>
bindV (pConv P 2 132 v7n6 w7) fun v8n8 w9 =>
bindV (pBin P BinOp.mul 132 true v8n8 (Value.int IntKind.u64 2) w9) fun v9n10 w11 =>
bindV (pBin P BinOp.add 132 true v9n10 (Value.int IntKind.u64 1) w11) fun v10n12 w13 =>
K3 .ret (Env.put (Env.put (Env.put (Env.put (Env.put (Env.put (Env.put (Env.put (Env.put (Env.put (argE [a0]) 2 (Value.int IntKind.u64 0)) 3 a0) 4 v4n1) 5 a0) 6 v6n4) 7 v7n6) 8 v8n8) 9 v9n10) 10 v10n12) 2 v10n12) w13) (fun (K3 : KT) =>
K3 .normal (Env.put (Env.put (Env.put (argE [a0]) 2 (Value.int IntKind.u64 0)) 3 a0) 4 v4n1) w2) (thenK (fun e14 w15 =>
bindV (pConv P 2 132 (e14 0) w15) fun v12n16 w17 =>
bindV (pBin P BinOp.mul 132 true v12n16 (Value.int IntKind.u64 2) w17) fun v13n18 w19 =>
R (.returned v13n18) w19) (topK P [(ResultVar.tmp 2)] R))
theorem F94ok {w : World} {R : Ending → World → Prop} {a0 : Value} (h : F94 a0 w R) : Calls P 94 #[a0] w R :=
  calls_of_ev bodies mixed (c := bodyOf Try.f94) (nt := 14) (rs := [(ResultVar.tmp 2)]) (args := [a0]) (fn := Try.f94) (by kernel_rfl) (by kernel_rfl) (by kernel_rfl) (by kernel_rfl) (by kernel_rfl) (by simp)
    (eq_mp (show F94 a0 w R = ev P C (bodyOf Try.f94) (argE [a0]) w (topK P [(ResultVar.tmp 2)] R) by kernel_rfl) h)

/-! ### moiety/moietyref02.place -/
def F95B0 (e : Env) (w : World) (K : KT) : Prop :=
bindV (pBin P BinOp.geq 3 true (e 4) (Value.int IntKind.i64 0) w) fun v7n3 w4 =>
condE v7n3 (fun (K5 : KT) =>
K5 .normal (Env.put (Env.put e 6 (e 4)) 7 v7n3) w4) (fun (K5 : KT) =>
K5 (.exit 0) (Env.put (Env.put e 6 (e 4)) 7 v7n3) w4) (thenK (fun e6 w7 =>
bindV (pBin P BinOp.rem 132 true (e6 0) (Value.int IntKind.u64 256) w7) fun v13n8 w9 =>
bindV (pConv P 132 5 v13n8 w9) fun v14n10 w11 =>
bindV (pIndexAddr P 22 (e6 3) (e6 4) w11) fun v15n12 w13 =>
bindU (pStore P 5 v15n12 v14n10 w13) fun w14 =>
bindV (pBin P BinOp.quo 132 true (e6 0) (Value.int IntKind.u64 256) w14) fun v17n15 w16 =>
bindV (pBin P BinOp.sub 3 true (e6 4) (Value.int IntKind.i64 1) w16) fun v9n17 w18 =>
K .normal (Env.put (Env.put (Env.put (Env.put (Env.put (Env.put (Env.put (Env.put (Env.put (Env.put (Env.put (Env.put e6 10 (e6 3)) 11 (e6 4)) 12 (e6 0)) 13 v13n8) 14 v14n10) 15 v15n12) 16 (e6 0)) 17 v17n15) 0 v17n15) 8 (e6 4)) 9 v9n17) 4 v9n17) w18) K)
def F95 (a0 : Value) (w : World) (R : Ending → World → Prop) : Prop :=
bindV (pMake P 22 (Value.int IntKind.i64 8) (Value.int IntKind.i64 8) w) fun v5n1 w2 =>
loopE F95B0 (Env.put (Env.put (Env.put (Env.put (argE [a0]) 2 (Value.slice none 0 0)) 5 v5n1) 3 v5n1) 4 (Value.int IntKind.i64 7)) w2 (blockK 0 (thenK (fun e19 w20 =>
R (.returned (e19 3)) w20) (topK P [(ResultVar.tmp 2)] R)))
theorem F95ok {w : World} {R : Ending → World → Prop} {a0 : Value} (h : F95 a0 w R) : Calls P 95 #[a0] w R :=
  calls_of_ev bodies mixed (c := bodyOf Try.f95) (nt := 19) (rs := [(ResultVar.tmp 2)]) (args := [a0]) (fn := Try.f95) (by kernel_rfl) (by kernel_rfl) (by kernel_rfl) (by kernel_rfl) (by kernel_rfl) (by simp)
    (eq_mp (show F95 a0 w R = ev P C (bodyOf Try.f95) (argE [a0]) w (topK P [(ResultVar.tmp 2)] R) by kernel_rfl) h)

end Go.Proofs.Yticncfkpfpkfoaa
