/- The functions' residual programs, printed by gen.py. -/
import Derived.Test.YticncfkpfpkfoaaBase
namespace Go.Proofs.Yticncfkpfpkfoaa
open Go
/-! ### moiety/disk.New -/
def F27 (a0 : Value) (w : World) (R : Ending → World → Prop) : Prop :=
bindV (pBin P BinOp.lss 3 true a0 (Value.int IntKind.i64 1) w) fun v5n1 w2 =>
grdE v5n1 false (fun (k3 : Value → World → Prop) => k3 a0 w2) (fun v7n4 w5 =>
grdE v5n1 false (fun (k6 : Value → World → Prop) => bindV (pBin P BinOp.gtr 3 true v7n4 (Value.int IntKind.i64 4096) w5) k6) (fun v8n7 w8 =>
pickE v5n1 (Value.bool true) v8n7 fun v9n9 =>
condE v9n9 (fun (K10 : KT) =>
K10 .ret (Env.put (Env.put (Env.put (Env.put (Env.put (Env.put (Env.put (Env.put (Env.put (Env.put (argE [a0]) 2 (Value.pointer none)) 3 (Value.int IntKind.i64 0)) 4 a0) 5 v5n1) 6 v5n1) 7 v7n4) 8 v8n7) 9 v9n9) 2 (Value.pointer none)) 3 (Value.int IntKind.i64 1)) w8) (fun (K10 : KT) =>
K10 .normal (Env.put (Env.put (Env.put (Env.put (Env.put (Env.put (Env.put (Env.put (argE [a0]) 2 (Value.pointer none)) 3 (Value.int IntKind.i64 0)) 4 a0) 5 v5n1) 6 v5n1) 7 v7n4) 8 v8n7) 9 v9n9) w8) (thenK (fun e11 w12 =>
bindV (pMake P 76 (e11 0) (e11 0) w12) fun v11n13 w14 =>
bindV (pBuild P 108 [(0, v11n13)] w14) fun v12n15 w16 =>
bindV (pBox P 108 v12n15 w16) fun v13n17 w18 =>
R (.returned (.tuple #[v13n17, (Value.int IntKind.i64 0)])) w18) (topK P [(ResultVar.tmp 2), (ResultVar.tmp 3)] R))) w5) w2
theorem F27ok {w : World} {R : Ending → World → Prop} {a0 : Value} (h : F27 a0 w R) : Calls P 27 #[a0] w R :=
  calls_of_ev bodies mixed (c := bodyOf Try.f27) (nt := 14) (rs := [(ResultVar.tmp 2), (ResultVar.tmp 3)]) (args := [a0]) (fn := Try.f27) (by kernel_rfl) (by kernel_rfl) (by kernel_rfl) (by kernel_rfl) (by kernel_rfl) (by simp)
    (eq_mp (show F27 a0 w R = ev P C (bodyOf Try.f27) (argE [a0]) w (topK P [(ResultVar.tmp 2), (ResultVar.tmp 3)] R) by kernel_rfl) h)

/-! ### (*moiety/disk.Disk).Write -/
def F28 (a0 : Value) (a1 : Value) (a2 : Value) (w : World) (R : Ending → World → Prop) : Prop :=
bindV (pBox P 25 a2 w) fun v5n1 w2 =>
callE P 66 #[a0, a1] w2 (fun v10n5 w6 =>
bindV (pBin P BinOp.neq 26 true v10n5 (Value.int IntKind.i64 0) w6) fun v12n7 w8 =>
condE v12n7 (fun (K9 : KT) =>
K9 .ret (Env.put (Env.put (Env.put (Env.put (Env.put (Env.put (Env.put (Env.put (Env.put (Env.put (argE [a0, a1, a2]) 5 v5n1) 6 (Value.int IntKind.i64 0)) 8 a0) 9 a1) 10 v10n5) 7 v10n5) 11 v10n5) 12 v12n7) 13 v10n5) 6 v10n5) w8) (fun (K9 : KT) =>
K9 .normal (Env.put (Env.put (Env.put (Env.put (Env.put (Env.put (Env.put (Env.put (argE [a0, a1, a2]) 5 v5n1) 6 (Value.int IntKind.i64 0)) 8 a0) 9 a1) 10 v10n5) 7 v10n5) 11 v10n5) 12 v12n7) w8) (thenK (fun e10 w11 =>
takeE (fun w14 => some ((e10 0), w14)) (drew w11) fun v14n12 h13 =>
takeE (fun w17 => some ((e10 0), w17)) (drew w11) fun v15n15 h16 =>
takeE (fun w20 => qNil v15n15 w20) (drew w11) fun v16n18 h19 =>
takeE (fun w23 => pFieldAddr P 108 v16n18 1 w23) (drew w11) fun v17n21 h22 =>
takeE (fun w26 => pLoad P 106 v17n21 w26) (drew w11) fun v18n24 h25 =>
takeE (fun w29 => some ((e10 1), w29)) (drew w11) fun v19n27 h28 =>
takeE (fun w32 => pLoad P 25 (e10 5) w32) (drew w11) fun v20n30 h31 =>
bindV (pBuild P 111 [(0, v19n27), (1, v20n30)] (drew w11)) fun v21n34 w35 =>
heldE [h25, h22, h19, h16, h13] w35 (bindV (pBuildSlice P 106 1 [(0, v21n34)] w35) fun v22n37 w38 =>
heldE [h25, h22, h19, h16, h13] w38 (bindV (pBuiltin P Builtin.append #[106, 106] 106 [v18n24, v22n37] w38) fun v23n40 w41 =>
heldE [h13] w41 (takeE (fun w44 => qNil v14n12 w44) w41 fun v24n42 h43 =>
takeE (fun w47 => pFieldAddr P 108 v24n42 1 w47) w41 fun v25n45 h46 =>
bindU (pStore P 106 v25n45 v23n40 w41) fun w49 =>
nilE (e10 0) fun v27n50 =>
bindV (pFieldAddr P 108 v27n50 4 w49) fun v28n51 w52 =>
bindV (pLoad P 3 v28n51 w52) fun v29n53 w54 =>
bindV (pBin P BinOp.add 3 true v29n53 (Value.int IntKind.i64 1) w54) fun v30n55 w56 =>
nilE (e10 0) fun v31n57 =>
bindV (pFieldAddr P 108 v31n57 4 w56) fun v32n58 w59 =>
bindU (pStore P 3 v32n58 v30n55 w59) fun w60 =>
nilE (e10 0) fun v34n61 =>
bindV (pFieldAddr P 108 v34n61 2 w60) fun v35n62 w63 =>
bindV (pLoad P 3 v35n62 w63) fun v36n64 w65 =>
bindV (pBin P BinOp.gtr 3 true v36n64 (Value.int IntKind.i64 0) w65) fun v37n66 w67 =>
condE v37n66 (fun (K68 : KT) =>
nilE (e10 0) fun v39n69 =>
bindV (pFieldAddr P 108 v39n69 2 w67) fun v40n70 w71 =>
bindV (pLoad P 3 v40n70 w71) fun v41n72 w73 =>
bindV (pBin P BinOp.sub 3 true v41n72 (Value.int IntKind.i64 1) w73) fun v42n74 w75 =>
nilE (e10 0) fun v43n76 =>
bindV (pFieldAddr P 108 v43n76 2 w75) fun v44n77 w78 =>
bindU (pStore P 3 v44n77 v42n74 w78) fun w79 =>
nilE (e10 0) fun v47n80 =>
bindV (pFieldAddr P 108 v47n80 2 w79) fun v48n81 w82 =>
bindV (pLoad P 3 v48n81 w82) fun v49n83 w84 =>
bindV (pBin P BinOp.eql 3 true v49n83 (Value.int IntKind.i64 0) w84) fun v50n85 w86 =>
nilE (e10 0) fun v51n87 =>
bindV (pFieldAddr P 108 v51n87 3 w86) fun v52n88 w89 =>
bindU (pStore P 4 v52n88 v50n85 w89) fun w90 =>
K68 .normal (Env.put (Env.put (Env.put (Env.put (Env.put (Env.put (Env.put (Env.put (Env.put (Env.put (Env.put (Env.put (Env.put (Env.put (Env.put (Env.put (Env.put (Env.put (Env.put (Env.put (Env.put (Env.put (Env.put (Env.put (Env.put (Env.put (Env.put (Env.put (Env.put (Env.put (Env.put (Env.put (Env.put (Env.put (Env.put (Env.put (Env.put (Env.put (Env.put e10 14 v14n12) 15 v15n15) 16 v16n18) 17 v17n21) 18 v18n24) 19 v19n27) 20 v20n30) 21 v21n34) 22 v22n37) 23 v23n40) 24 v24n42) 25 v25n45) 26 (e10 0)) 27 v27n50) 28 v28n51) 29 v29n53) 30 v30n55) 31 v31n57) 32 v32n58) 33 (e10 0)) 34 v34n61) 35 v35n62) 36 v36n64) 37 v37n66) 38 (e10 0)) 39 v39n69) 40 v40n70) 41 v41n72) 42 v42n74) 43 v43n76) 44 v44n77) 45 (e10 0)) 46 (e10 0)) 47 v47n80) 48 v48n81) 49 v49n83) 50 v50n85) 51 v51n87) 52 v52n88) w90) (fun (K68 : KT) =>
K68 .normal (Env.put (Env.put (Env.put (Env.put (Env.put (Env.put (Env.put (Env.put (Env.put (Env.put (Env.put (Env.put (Env.put (Env.put (Env.put (Env.put (Env.put (Env.put (Env.put (Env.put (Env.put (Env.put (Env.put (Env.put e10 14 v14n12) 15 v15n15) 16 v16n18) 17 v17n21) 18 v18n24) 19 v19n27) 20 v20n30) 21 v21n34) 22 v22n37) 23 v23n40) 24 v24n42) 25 v25n45) 26 (e10 0)) 27 v27n50) 28 v28n51) 29 v29n53) 30 v30n55) 31 v31n57) 32 v32n58) 33 (e10 0)) 34 v34n61) 35 v35n62) 36 v36n64) 37 v37n66) w67) (thenK (fun e91 w92 =>
nilE (e91 0) fun v54n93 =>
bindV (pFieldAddr P 108 v54n93 3 w92) fun v55n94 w95 =>
bindV (pLoad P 4 v55n94 w95) fun v56n96 w97 =>
condE v56n96 (fun (K98 : KT) =>
K98 .ret (Env.put (Env.put (Env.put (Env.put (Env.put e91 53 (e91 0)) 54 v54n93) 55 v55n94) 56 v56n96) 6 (Value.int IntKind.i64 14)) w97) (fun (K98 : KT) =>
K98 .normal (Env.put (Env.put (Env.put (Env.put e91 53 (e91 0)) 54 v54n93) 55 v55n94) 56 v56n96) w97) (thenK (fun e99 w100 =>
R (.returned (Value.int IntKind.i64 0)) w100) (topK P [(ResultVar.tmp 6)] R))) (topK P [(ResultVar.tmp 6)] R)))))) (topK P [(ResultVar.tmp 6)] R))) (fun c3 w4 => R (.panicked c3) w4)
theorem F28ok {w : World} {R : Ending → World → Prop} {a0 : Value} {a1 : Value} {a2 : Value} (h : F28 a0 a1 a2 w R) : Calls P 28 #[a0, a1, a2] w R :=
  calls_of_ev bodies mixed (c := bodyOf Try.f28) (nt := 57) (rs := [(ResultVar.tmp 6)]) (args := [a0, a1, a2]) (fn := Try.f28) (by kernel_rfl) (by kernel_rfl) (by kernel_rfl) (by kernel_rfl) (by kernel_rfl) (by simp)
    (eq_mp (show F28 a0 a1 a2 w R = ev P C (bodyOf Try.f28) (argE [a0, a1, a2]) w (topK P [(ResultVar.tmp 6)] R) by kernel_rfl) h)

/-! ### (*moiety/disk.Disk).Sync -/
def F29B0 (e : Env) (w : World) (K : KT) : Prop :=
bindV (pBin P BinOp.lss 3 false (e 14) (e 13) w) fun v15n16 w17 =>
condE v15n16 (fun (K18 : KT) =>
K18 .normal (Env.put e 15 v15n16) w17) (fun (K18 : KT) =>
K18 (.exit 0) (Env.put e 15 v15n16) w17) (thenK (fun e19 w20 =>
bindV (pIndexAddr P 106 (e19 12) (e19 14) w20) fun v16n21 w22 =>
bindV (pLoad P 111 v16n21 w22) fun v17n23 w24 =>
bindV (pAlloc P 111 w24) fun v4n25 w26 =>
bindU (pStore P 111 v4n25 v17n23 w26) fun w27 =>
takeE (fun w30 => some ((e19 0), w30)) (drew w27) fun v18n28 h29 =>
takeE (fun w33 => qNil v18n28 w33) (drew w27) fun v19n31 h32 =>
takeE (fun w36 => pFieldAddr P 108 v19n31 0 w36) (drew w27) fun v20n34 h35 =>
takeE (fun w39 => pLoad P 76 v20n34 w39) (drew w27) fun v21n37 h38 =>
takeE (fun w42 => pFieldAddr P 111 v4n25 0 w42) (drew w27) fun v22n40 h41 =>
takeE (fun w45 => pLoad P 3 v22n40 w45) (drew w27) fun v23n43 h44 =>
takeE (fun w48 => pFieldAddr P 111 v4n25 1 w48) (drew w27) fun v24n46 h47 =>
takeE (fun w51 => pLoad P 25 v24n46 w51) (drew w27) fun v25n49 h50 =>
takeE (fun w54 => pIndexAddr P 76 v21n37 v23n43 w54) (drew w27) fun v26n52 h53 =>
bindU (pStore P 25 v26n52 v25n49 (drew w27)) fun w56 =>
bindV (pBin P BinOp.add 3 true (e19 14) (Value.int IntKind.i64 1) w56) fun v27n57 w58 =>
K .normal (Env.put (Env.put (Env.put (Env.put (Env.put (Env.put (Env.put (Env.put (Env.put (Env.put (Env.put (Env.put (Env.put (Env.put e19 16 v16n21) 17 v17n23) 4 v4n25) 18 v18n28) 19 v19n31) 20 v20n34) 21 v21n37) 22 v22n40) 23 v23n43) 24 v24n46) 25 v25n49) 26 v26n52) 27 v27n57) 14 v27n57) w58) K)
def F29 (a0 : Value) (w : World) (R : Ending → World → Prop) : Prop :=
nilE a0 fun v6n1 =>
bindV (pFieldAddr P 108 v6n1 3 w) fun v7n2 w3 =>
bindV (pLoad P 4 v7n2 w3) fun v8n4 w5 =>
condE v8n4 (fun (K6 : KT) =>
K6 .ret (Env.put (Env.put (Env.put (Env.put (Env.put (Env.put (argE [a0]) 2 (Value.int IntKind.i64 0)) 5 a0) 6 v6n1) 7 v7n2) 8 v8n4) 2 (Value.int IntKind.i64 14)) w5) (fun (K6 : KT) =>
K6 .normal (Env.put (Env.put (Env.put (Env.put (Env.put (argE [a0]) 2 (Value.int IntKind.i64 0)) 5 a0) 6 v6n1) 7 v7n2) 8 v8n4) w5) (thenK (fun e7 w8 =>
nilE (e7 0) fun v10n9 =>
bindV (pFieldAddr P 108 v10n9 1 w8) fun v11n10 w11 =>
bindV (pLoad P 106 v11n10 w11) fun v12n12 w13 =>
bindV (pBuiltin P Builtin.len #[106] 3 [v12n12] w13) fun v13n14 w15 =>
loopE F29B0 (Env.put (Env.put (Env.put (Env.put (Env.put (Env.put e7 9 (e7 0)) 10 v10n9) 11 v11n10) 12 v12n12) 13 v13n14) 14 (Value.int IntKind.i64 0)) w15 (blockK 0 (thenK (fun e59 w60 =>
nilE (e59 0) fun v29n61 =>
bindV (pFieldAddr P 108 v29n61 1 w60) fun v30n62 w63 =>
bindU (pStore P 106 v30n62 (Value.slice none 0 0) w63) fun w64 =>
R (.returned (Value.int IntKind.i64 0)) w64) (topK P [(ResultVar.tmp 2)] R)))) (topK P [(ResultVar.tmp 2)] R))
theorem F29ok {w : World} {R : Ending → World → Prop} {a0 : Value} (h : F29 a0 w R) : Calls P 29 #[a0] w R :=
  calls_of_ev bodies mixed (c := bodyOf Try.f29) (nt := 31) (rs := [(ResultVar.tmp 2)]) (args := [a0]) (fn := Try.f29) (by kernel_rfl) (by kernel_rfl) (by kernel_rfl) (by kernel_rfl) (by kernel_rfl) (by simp)
    (eq_mp (show F29 a0 w R = ev P C (bodyOf Try.f29) (argE [a0]) w (topK P [(ResultVar.tmp 2)] R) by kernel_rfl) h)

/-! ### (*moiety/disk.Disk).Crash -/
def F30B0 (e : Env) (w : World) (K : KT) : Prop :=
bindV (pBin P BinOp.lss 3 false (e 12) (e 11) w) fun v13n8 w9 =>
condE v13n8 (fun (K10 : KT) =>
K10 .normal (Env.put e 13 v13n8) w9) (fun (K10 : KT) =>
K10 (.exit 0) (Env.put e 13 v13n8) w9) (thenK (fun e11 w12 =>
bindV (pIndexAddr P 106 (e11 10) (e11 12) w12) fun v15n13 w14 =>
bindV (pLoad P 111 v15n13 w14) fun v16n15 w16 =>
bindV (pAlloc P 111 w16) fun v5n17 w18 =>
bindU (pStore P 111 v5n17 v16n15 w18) fun w19 =>
letK (blockK 1 (thenK (fun e21 w22 =>
bindV (pBin P BinOp.add 3 true (e21 12) (Value.int IntKind.i64 1) w22) fun v40n23 w24 =>
K .normal (Env.put (Env.put e21 40 v40n23) 12 v40n23) w24) K)) fun (K20 : KT) =>
bindV (pBuiltin P Builtin.len #[43] 3 [(e11 1)] w19) fun v19n25 w26 =>
bindV (pBin P BinOp.lss 3 false (e11 12) v19n25 w26) fun v20n27 w28 =>
condE v20n27 (fun (K29 : KT) =>
bindV (pIndexAddr P 43 (e11 1) (e11 12) w28) fun v23n30 w31 =>
bindV (pLoad P 3 v23n30 w31) fun v24n32 w33 =>
bindV (pBuiltin P Builtin.max #[3, 3] 3 [v24n32, (Value.int IntKind.i64 0)] w33) fun v25n34 w35 =>
bindV (pBuiltin P Builtin.min #[3, 3] 3 [v25n34, (Value.int IntKind.i64 64)] w35) fun v26n36 w37 =>
K29 .normal (Env.put (Env.put (Env.put (Env.put (Env.put (Env.put (Env.put (Env.put (Env.put (Env.put (Env.put (Env.put (Env.put (Env.put (Env.put (Env.put (Env.put e11 14 (e11 12)) 15 v15n13) 16 v16n15) 5 v5n17) 4 (e11 12)) 6 (Value.int IntKind.i64 0)) 17 (e11 12)) 18 (e11 1)) 19 v19n25) 20 v20n27) 21 (e11 1)) 22 (e11 12)) 23 v23n30) 24 v24n32) 25 v25n34) 26 v26n36) 6 v26n36) w37) (fun (K29 : KT) =>
K29 .normal (Env.put (Env.put (Env.put (Env.put (Env.put (Env.put (Env.put (Env.put (Env.put (Env.put e11 14 (e11 12)) 15 v15n13) 16 v16n15) 5 v5n17) 4 (e11 12)) 6 (Value.int IntKind.i64 0)) 17 (e11 12)) 18 (e11 1)) 19 v19n25) 20 v20n27) w28) (thenK (fun e38 w39 =>
takeE (fun w42 => some ((e38 0), w42)) (drew w39) fun v27n40 h41 =>
takeE (fun w45 => qNil v27n40 w45) (drew w39) fun v28n43 h44 =>
takeE (fun w48 => pFieldAddr P 108 v28n43 0 w48) (drew w39) fun v29n46 h47 =>
takeE (fun w51 => pLoad P 76 v29n46 w51) (drew w39) fun v30n49 h50 =>
takeE (fun w54 => pFieldAddr P 111 (e38 5) 0 w54) (drew w39) fun v31n52 h53 =>
takeE (fun w57 => pLoad P 3 v31n52 w57) (drew w39) fun v32n55 h56 =>
takeE (fun w60 => pIndexAddr P 76 v30n49 v32n55 w60) (drew w39) fun v33n58 h59 =>
takeE (fun w63 => some ((e38 6), w63)) (drew w39) fun v34n61 h62 =>
takeE (fun w66 => pSlice P 25 v33n58 none (some v34n61) none w66) (drew w39) fun v35n64 h65 =>
takeE (fun w69 => pFieldAddr P 111 (e38 5) 1 w69) (drew w39) fun v36n67 h68 =>
takeE (fun w72 => some ((e38 6), w72)) (drew w39) fun v37n70 h71 =>
takeE (fun w75 => pSlice P 25 v36n67 none (some v37n70) none w75) (drew w39) fun v38n73 h74 =>
bindV (pBuiltin P Builtin.copy #[22, 22] 3 [v35n64, v38n73] (drew w39)) fun v39n77 w78 =>
K20 .normal (Env.put (Env.put (Env.put (Env.put (Env.put (Env.put (Env.put (Env.put (Env.put (Env.put (Env.put (Env.put (Env.put e38 27 v27n40) 28 v28n43) 29 v29n46) 30 v30n49) 31 v31n52) 32 v32n55) 33 v33n58) 34 v34n61) 35 v35n64) 36 v36n67) 37 v37n70) 38 v38n73) 39 v39n77) w78) K20)) K)
def F30 (a0 : Value) (a1 : Value) (w : World) (R : Ending → World → Prop) : Prop :=
nilE a0 fun v8n1 =>
bindV (pFieldAddr P 108 v8n1 1 w) fun v9n2 w3 =>
bindV (pLoad P 106 v9n2 w3) fun v10n4 w5 =>
bindV (pBuiltin P Builtin.len #[106] 3 [v10n4] w5) fun v11n6 w7 =>
loopE F30B0 (Env.put (Env.put (Env.put (Env.put (Env.put (Env.put (argE [a0, a1]) 7 a0) 8 v8n1) 9 v9n2) 10 v10n4) 11 v11n6) 12 (Value.int IntKind.i64 0)) w7 (blockK 0 (thenK (fun e79 w80 =>
nilE (e79 0) fun v44n81 =>
bindV (pFieldAddr P 108 v44n81 1 w80) fun v45n82 w83 =>
bindU (pStore P 106 v45n82 (Value.slice none 0 0) w83) fun w84 =>
nilE (e79 0) fun v46n85 =>
bindV (pFieldAddr P 108 v46n85 2 w84) fun v47n86 w87 =>
bindU (pStore P 3 v47n86 (Value.int IntKind.i64 0) w87) fun w88 =>
nilE (e79 0) fun v48n89 =>
bindV (pFieldAddr P 108 v48n89 3 w88) fun v49n90 w91 =>
bindU (pStore P 4 v49n90 (Value.bool false) w91) fun w92 =>
R (.returned (.tuple #[])) w92) (topK P [] R)))
theorem F30ok {w : World} {R : Ending → World → Prop} {a0 : Value} {a1 : Value} (h : F30 a0 a1 w R) : Calls P 30 #[a0, a1] w R :=
  calls_of_ev bodies mixed (c := bodyOf Try.f30) (nt := 50) (rs := []) (args := [a0, a1]) (fn := Try.f30) (by kernel_rfl) (by kernel_rfl) (by kernel_rfl) (by kernel_rfl) (by kernel_rfl) (by simp)
    (eq_mp (show F30 a0 a1 w R = ev P C (bodyOf Try.f30) (argE [a0, a1]) w (topK P [] R) by kernel_rfl) h)

/-! ### (*moiety/disk.Disk).Read -/
def F31B0 (e : Env) (w : World) (K : KT) : Prop :=
bindV (pBin P BinOp.geq 3 true (e 7) (Value.int IntKind.i64 0) w) fun v22n24 w25 =>
condE v22n24 (fun (K26 : KT) =>
K26 .normal (Env.put (Env.put e 21 (e 7)) 22 v22n24) w25) (fun (K26 : KT) =>
K26 (.exit 0) (Env.put (Env.put e 21 (e 7)) 22 v22n24) w25) (thenK (fun e27 w28 =>
nilE (e27 0) fun v26n29 =>
bindV (pFieldAddr P 108 v26n29 1 w28) fun v27n30 w31 =>
bindV (pLoad P 106 v27n30 w31) fun v28n32 w33 =>
bindV (pIndexAddr P 106 v28n32 (e27 7) w33) fun v30n34 w35 =>
bindV (pFieldAddr P 111 v30n34 0 w35) fun v31n36 w37 =>
bindV (pLoad P 3 v31n36 w37) fun v32n38 w39 =>
bindV (pBin P BinOp.eql 3 false v32n38 (e27 1) w39) fun v34n40 w41 =>
condE v34n40 (fun (K42 : KT) =>
nilE (e27 0) fun v36n43 =>
bindV (pFieldAddr P 108 v36n43 1 w41) fun v37n44 w45 =>
bindV (pLoad P 106 v37n44 w45) fun v38n46 w47 =>
bindV (pIndexAddr P 106 v38n46 (e27 7) w47) fun v40n48 w49 =>
bindV (pFieldAddr P 111 v40n48 1 w49) fun v41n50 w51 =>
bindV (pLoad P 25 v41n50 w51) fun v42n52 w53 =>
bindU (pStore P 25 (e27 4) v42n52 w53) fun w54 =>
K42 .ret (Env.put (Env.put (Env.put (Env.put (Env.put (Env.put (Env.put (Env.put (Env.put (Env.put (Env.put (Env.put (Env.put (Env.put (Env.put (Env.put (Env.put (Env.put (Env.put e27 25 (e27 0)) 26 v26n29) 27 v27n30) 28 v28n32) 29 (e27 7)) 30 v30n34) 31 v31n36) 32 v32n38) 33 (e27 1)) 34 v34n40) 35 (e27 0)) 36 v36n43) 37 v37n44) 38 v38n46) 39 (e27 7)) 40 v40n48) 41 v41n50) 42 v42n52) 5 (Value.int IntKind.i64 0)) w54) (fun (K42 : KT) =>
K42 .normal (Env.put (Env.put (Env.put (Env.put (Env.put (Env.put (Env.put (Env.put (Env.put (Env.put e27 25 (e27 0)) 26 v26n29) 27 v27n30) 28 v28n32) 29 (e27 7)) 30 v30n34) 31 v31n36) 32 v32n38) 33 (e27 1)) 34 v34n40) w41) (blockK 1 (thenK (fun e55 w56 =>
bindV (pBin P BinOp.sub 3 true (e55 7) (Value.int IntKind.i64 1) w56) fun v24n57 w58 =>
K .normal (Env.put (Env.put (Env.put e55 23 (e55 7)) 24 v24n57) 7 v24n57) w58) K))) K)
def F31 (a0 : Value) (a1 : Value) (w : World) (R : Ending → World → Prop) : Prop :=
bindV (pAlloc P 25 w) fun v4n1 w2 =>
callE P 66 #[a0, a1] w2 (fun v10n5 w6 =>
bindV (pBin P BinOp.neq 26 true v10n5 (Value.int IntKind.i64 0) w6) fun v12n7 w8 =>
condE v12n7 (fun (K9 : KT) =>
bindV (pBuild P 25 [] w8) fun v13n10 w11 =>
bindU (pStore P 25 v4n1 v13n10 w11) fun w12 =>
K9 .ret (Env.put (Env.put (Env.put (Env.put (Env.put (Env.put (Env.put (Env.put (Env.put (Env.put (Env.put (argE [a0, a1]) 4 v4n1) 5 (Value.int IntKind.i64 0)) 8 a0) 9 a1) 10 v10n5) 6 v10n5) 11 v10n5) 12 v12n7) 13 v13n10) 14 v10n5) 5 v10n5) w12) (fun (K9 : KT) =>
K9 .normal (Env.put (Env.put (Env.put (Env.put (Env.put (Env.put (Env.put (Env.put (argE [a0, a1]) 4 v4n1) 5 (Value.int IntKind.i64 0)) 8 a0) 9 a1) 10 v10n5) 6 v10n5) 11 v10n5) 12 v12n7) w8) (thenK (fun e13 w14 =>
nilE (e13 0) fun v16n15 =>
bindV (pFieldAddr P 108 v16n15 1 w14) fun v17n16 w17 =>
bindV (pLoad P 106 v17n16 w17) fun v18n18 w19 =>
bindV (pBuiltin P Builtin.len #[106] 3 [v18n18] w19) fun v19n20 w21 =>
bindV (pBin P BinOp.sub 3 true v19n20 (Value.int IntKind.i64 1) w21) fun v20n22 w23 =>
loopE F31B0 (Env.put (Env.put (Env.put (Env.put (Env.put (Env.put (Env.put e13 15 (e13 0)) 16 v16n15) 17 v17n16) 18 v18n18) 19 v19n20) 20 v20n22) 7 v20n22) w23 (blockK 0 (thenK (fun e59 w60 =>
nilE (e59 0) fun v44n61 =>
bindV (pFieldAddr P 108 v44n61 0 w60) fun v45n62 w63 =>
bindV (pLoad P 76 v45n62 w63) fun v46n64 w65 =>
bindV (pIndexAddr P 76 v46n64 (e59 1) w65) fun v48n66 w67 =>
bindV (pLoad P 25 v48n66 w67) fun v49n68 w69 =>
bindU (pStore P 25 (e59 4) v49n68 w69) fun w70 =>
topK P [(ResultVar.cell 4 25), (ResultVar.tmp 5)] R .ret (Env.put (Env.put (Env.put (Env.put (Env.put (Env.put (Env.put (Env.put e59 43 (e59 0)) 44 v44n61) 45 v45n62) 46 v46n64) 47 (e59 1)) 48 v48n66) 49 v49n68) 5 (Value.int IntKind.i64 0)) w70) (topK P [(ResultVar.cell 4 25), (ResultVar.tmp 5)] R)))) (topK P [(ResultVar.cell 4 25), (ResultVar.tmp 5)] R))) (fun c3 w4 => R (.panicked c3) w4)
theorem F31ok {w : World} {R : Ending → World → Prop} {a0 : Value} {a1 : Value} (h : F31 a0 a1 w R) : Calls P 31 #[a0, a1] w R :=
  calls_of_ev bodies mixed (c := bodyOf Try.f31) (nt := 50) (rs := [(ResultVar.cell 4 25), (ResultVar.tmp 5)]) (args := [a0, a1]) (fn := Try.f31) (by kernel_rfl) (by kernel_rfl) (by kernel_rfl) (by kernel_rfl) (by kernel_rfl) (by simp)
    (eq_mp (show F31 a0 a1 w R = ev P C (bodyOf Try.f31) (argE [a0, a1]) w (topK P [(ResultVar.cell 4 25), (ResultVar.tmp 5)] R) by kernel_rfl) h)

/-! ### (*moiety/disk.Disk).Down -/
def F34 (a0 : Value) (w : World) (R : Ending → World → Prop) : Prop :=
nilE a0 fun v4n1 =>
bindV (pFieldAddr P 108 v4n1 3 w) fun v5n2 w3 =>
bindV (pLoad P 4 v5n2 w3) fun v6n4 w5 =>
R (.returned v6n4) w5
theorem F34ok {w : World} {R : Ending → World → Prop} {a0 : Value} (h : F34 a0 w R) : Calls P 34 #[a0] w R :=
  calls_of_ev bodies mixed (c := bodyOf Try.f34) (nt := 7) (rs := [(ResultVar.tmp 2)]) (args := [a0]) (fn := Try.f34) (by kernel_rfl) (by kernel_rfl) (by kernel_rfl) (by kernel_rfl) (by kernel_rfl) (by simp)
    (eq_mp (show F34 a0 w R = ev P C (bodyOf Try.f34) (argE [a0]) w (topK P [(ResultVar.tmp 2)] R) by kernel_rfl) h)

/-! ### (*moiety/disk.Disk).Pending -/
def F35 (a0 : Value) (w : World) (R : Ending → World → Prop) : Prop :=
nilE a0 fun v4n1 =>
bindV (pFieldAddr P 108 v4n1 1 w) fun v5n2 w3 =>
bindV (pLoad P 106 v5n2 w3) fun v6n4 w5 =>
bindV (pBuiltin P Builtin.len #[106] 3 [v6n4] w5) fun v7n6 w7 =>
R (.returned v7n6) w7
theorem F35ok {w : World} {R : Ending → World → Prop} {a0 : Value} (h : F35 a0 w R) : Calls P 35 #[a0] w R :=
  calls_of_ev bodies mixed (c := bodyOf Try.f35) (nt := 8) (rs := [(ResultVar.tmp 2)]) (args := [a0]) (fn := Try.f35) (by kernel_rfl) (by kernel_rfl) (by kernel_rfl) (by kernel_rfl) (by kernel_rfl) (by simp)
    (eq_mp (show F35 a0 w R = ev P C (bodyOf Try.f35) (argE [a0]) w (topK P [(ResultVar.tmp 2)] R) by kernel_rfl) h)

/-! ### (*moiety/disk.Disk).Len -/
def F36 (a0 : Value) (w : World) (R : Ending → World → Prop) : Prop :=
nilE a0 fun v4n1 =>
bindV (pFieldAddr P 108 v4n1 0 w) fun v5n2 w3 =>
bindV (pLoad P 76 v5n2 w3) fun v6n4 w5 =>
bindV (pBuiltin P Builtin.len #[76] 3 [v6n4] w5) fun v7n6 w7 =>
R (.returned v7n6) w7
theorem F36ok {w : World} {R : Ending → World → Prop} {a0 : Value} (h : F36 a0 w R) : Calls P 36 #[a0] w R :=
  calls_of_ev bodies mixed (c := bodyOf Try.f36) (nt := 8) (rs := [(ResultVar.tmp 2)]) (args := [a0]) (fn := Try.f36) (by kernel_rfl) (by kernel_rfl) (by kernel_rfl) (by kernel_rfl) (by kernel_rfl) (by simp)
    (eq_mp (show F36 a0 w R = ev P C (bodyOf Try.f36) (argE [a0]) w (topK P [(ResultVar.tmp 2)] R) by kernel_rfl) h)

/-! ### (*moiety/disk.Disk).Clone -/
def F40 (a0 : Value) (w : World) (R : Ending → World → Prop) : Prop :=
nilE a0 fun v5n1 =>
bindV (pLoad P 108 v5n1 w) fun v6n2 w3 =>
bindV (pAlloc P 108 w3) fun v3n4 w5 =>
bindU (pStore P 108 v3n4 v6n2 w5) fun w6 =>
nilE a0 fun v8n7 =>
bindV (pFieldAddr P 108 v8n7 0 w6) fun v9n8 w9 =>
bindV (pLoad P 76 v9n8 w9) fun v10n10 w11 =>
bindV (pBuiltin P Builtin.append #[76, 76] 76 [(Value.slice none 0 0), v10n10] w11) fun v11n12 w13 =>
bindV (pFieldAddr P 108 v3n4 0 w13) fun v12n14 w15 =>
bindU (pStore P 76 v12n14 v11n12 w15) fun w16 =>
nilE a0 fun v14n17 =>
bindV (pFieldAddr P 108 v14n17 1 w16) fun v15n18 w19 =>
bindV (pLoad P 106 v15n18 w19) fun v16n20 w21 =>
bindV (pBuiltin P Builtin.append #[106, 106] 106 [(Value.slice none 0 0), v16n20] w21) fun v17n22 w23 =>
bindV (pFieldAddr P 108 v3n4 1 w23) fun v18n24 w25 =>
bindU (pStore P 106 v18n24 v17n22 w25) fun w26 =>
R (.returned v3n4) w26
theorem F40ok {w : World} {R : Ending → World → Prop} {a0 : Value} (h : F40 a0 w R) : Calls P 40 #[a0] w R :=
  calls_of_ev bodies mixed (c := bodyOf Try.f40) (nt := 19) (rs := [(ResultVar.tmp 2)]) (args := [a0]) (fn := Try.f40) (by kernel_rfl) (by kernel_rfl) (by kernel_rfl) (by kernel_rfl) (by kernel_rfl) (by simp)
    (eq_mp (show F40 a0 w R = ev P C (bodyOf Try.f40) (argE [a0]) w (topK P [(ResultVar.tmp 2)] R) by kernel_rfl) h)

/-! ### (*moiety/disk.Disk).Break -/
def F41 (a0 : Value) (a1 : Value) (w : World) (R : Ending → World → Prop) : Prop :=
bindV (pBuiltin P Builtin.max #[3, 3] 3 [a1, (Value.int IntKind.i64 0)] w) fun v6n1 w2 =>
nilE a0 fun v7n3 =>
bindV (pFieldAddr P 108 v7n3 2 w2) fun v8n4 w5 =>
bindU (pStore P 3 v8n4 v6n1 w5) fun w6 =>
R (.returned (.tuple #[])) w6
theorem F41ok {w : World} {R : Ending → World → Prop} {a0 : Value} {a1 : Value} (h : F41 a0 a1 w R) : Calls P 41 #[a0, a1] w R :=
  calls_of_ev bodies mixed (c := bodyOf Try.f41) (nt := 9) (rs := []) (args := [a0, a1]) (fn := Try.f41) (by kernel_rfl) (by kernel_rfl) (by kernel_rfl) (by kernel_rfl) (by kernel_rfl) (by simp)
    (eq_mp (show F41 a0 a1 w R = ev P C (bodyOf Try.f41) (argE [a0, a1]) w (topK P [] R) by kernel_rfl) h)

/-! ### (*moiety/disk.Disk).Writes -/
def F43 (a0 : Value) (w : World) (R : Ending → World → Prop) : Prop :=
nilE a0 fun v4n1 =>
bindV (pFieldAddr P 108 v4n1 4 w) fun v5n2 w3 =>
bindV (pLoad P 3 v5n2 w3) fun v6n4 w5 =>
R (.returned v6n4) w5
theorem F43ok {w : World} {R : Ending → World → Prop} {a0 : Value} (h : F43 a0 w R) : Calls P 43 #[a0] w R :=
  calls_of_ev bodies mixed (c := bodyOf Try.f43) (nt := 7) (rs := [(ResultVar.tmp 2)]) (args := [a0]) (fn := Try.f43) (by kernel_rfl) (by kernel_rfl) (by kernel_rfl) (by kernel_rfl) (by kernel_rfl) (by simp)
    (eq_mp (show F43 a0 w R = ev P C (bodyOf Try.f43) (argE [a0]) w (topK P [(ResultVar.tmp 2)] R) by kernel_rfl) h)

/-! ### (*moiety/disk.Disk).ok -/
def F66 (a0 : Value) (a1 : Value) (w : World) (R : Ending → World → Prop) : Prop :=
nilE a0 fun v7n1 =>
bindV (pFieldAddr P 108 v7n1 3 w) fun v8n2 w3 =>
bindV (pLoad P 4 v8n2 w3) fun v9n4 w5 =>
condE v9n4 (fun (K6 : KT) =>
K6 .ret (Env.put (Env.put (Env.put (Env.put (Env.put (Env.put (Env.put (argE [a0, a1]) 4 (Value.int IntKind.i64 0)) 6 a0) 7 v7n1) 8 v8n2) 9 v9n4) 5 v9n4) 4 (Value.int IntKind.i64 14)) w5) (fun (K6 : KT) =>
bindV (pBin P BinOp.lss 3 true a1 (Value.int IntKind.i64 0) w5) fun v12n7 w8 =>
grdE v12n7 false (fun (k9 : Value → World → Prop) => k9 a1 w8) (fun v14n10 w11 =>
grdE v12n7 false (fun (k12 : Value → World → Prop) => k12 a0 w11) (fun v15n13 w14 =>
grdE v12n7 false (fun (k15 : Value → World → Prop) => nilE v15n13 fun v16n16 =>
k15 v16n16 w14) (fun v16n17 w18 =>
grdE v12n7 false (fun (k19 : Value → World → Prop) => bindV (pFieldAddr P 108 v16n17 0 w18) k19) (fun v17n20 w21 =>
grdE v12n7 false (fun (k22 : Value → World → Prop) => bindV (pLoad P 76 v17n20 w21) k22) (fun v18n23 w24 =>
grdE v12n7 false (fun (k25 : Value → World → Prop) => bindV (pBuiltin P Builtin.len #[76] 3 [v18n23] w24) k25) (fun v19n26 w27 =>
grdE v12n7 false (fun (k28 : Value → World → Prop) => bindV (pBin P BinOp.geq 3 false v14n10 v19n26 w27) k28) (fun v20n29 w30 =>
pickE v12n7 (Value.bool true) v20n29 fun v21n31 =>
condE v21n31 (fun (K32 : KT) =>
K32 .ret (Env.put (Env.put (Env.put (Env.put (Env.put (Env.put (Env.put (Env.put (Env.put (Env.put (Env.put (Env.put (Env.put (Env.put (Env.put (Env.put (Env.put (Env.put (Env.put (argE [a0, a1]) 4 (Value.int IntKind.i64 0)) 6 a0) 7 v7n1) 8 v8n2) 9 v9n4) 5 v9n4) 11 a1) 12 v12n7) 13 v12n7) 14 v14n10) 15 v15n13) 16 v16n17) 17 v17n20) 18 v18n23) 19 v19n26) 20 v20n29) 21 v21n31) 10 v21n31) 4 (Value.int IntKind.i64 1)) w30) (fun (K32 : KT) =>
K32 .normal (Env.put (Env.put (Env.put (Env.put (Env.put (Env.put (Env.put (Env.put (Env.put (Env.put (Env.put (Env.put (Env.put (Env.put (Env.put (Env.put (Env.put (Env.put (argE [a0, a1]) 4 (Value.int IntKind.i64 0)) 6 a0) 7 v7n1) 8 v8n2) 9 v9n4) 5 v9n4) 11 a1) 12 v12n7) 13 v12n7) 14 v14n10) 15 v15n13) 16 v16n17) 17 v17n20) 18 v18n23) 19 v19n26) 20 v20n29) 21 v21n31) 10 v21n31) w30) K6) w27) w24) w21) w18) w14) w11) w8) (blockK 0 (thenK (fun e33 w34 =>
R (.returned (Value.int IntKind.i64 0)) w34) (topK P [(ResultVar.tmp 4)] R)))
theorem F66ok {w : World} {R : Ending → World → Prop} {a0 : Value} {a1 : Value} (h : F66 a0 a1 w R) : Calls P 66 #[a0, a1] w R :=
  calls_of_ev bodies mixed (c := bodyOf Try.f66) (nt := 22) (rs := [(ResultVar.tmp 4)]) (args := [a0, a1]) (fn := Try.f66) (by kernel_rfl) (by kernel_rfl) (by kernel_rfl) (by kernel_rfl) (by kernel_rfl) (by simp)
    (eq_mp (show F66 a0 a1 w R = ev P C (bodyOf Try.f66) (argE [a0, a1]) w (topK P [(ResultVar.tmp 4)] R) by kernel_rfl) h)

end Go.Proofs.Yticncfkpfpkfoaa
