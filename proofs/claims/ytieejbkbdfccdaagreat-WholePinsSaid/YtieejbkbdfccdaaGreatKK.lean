/- The functions' residual programs, printed by gen.py. -/
import Derived.Test.YtieejbkbdfccdaaGreatBaseD
set_option linter.unusedVariables false
set_option linter.unusedSimpArgs false
namespace Go.Proofs.YtieejbkbdfccdaaGreat
open Go Env
/-! ### moiety/leaf.Need -/
def F7B0 (e : Env) (w : World) (K : KT) : Prop :=
bindV (pBin P BinOp.lss 3 false (e 10) (e 9) w) fun v9 w10 =>
condE v9 (fun (K11 : KT) =>
K11 .normal (put e 11 v9) w10) (fun (K11 : KT) =>
K11 (.exit 0) (put e 11 v9) w10) (thenK (fun e12 w13 =>
bindV (pLoad P 32 (e12 1) w13) fun v14 w15 =>
callE P 21 #[v14, (e12 10)] w15 (fun v18 w19 =>
bindV (pExtract P v18 0 w19) fun v20 w21 =>
bindV (pExtract P v18 1 w21) fun v22 w23 =>
bindV (pExtract P v18 2 w23) fun v24 w25 =>
bindV (pAlloc P 61 w25) fun v26 w27 =>
bindU (pStore P 61 v26 v22 w27) fun w28 =>
bindV (pLoad P 61 v26 w28) fun v29 w30 =>
callE P 23 #[v20, v29] w30 (fun v33 w34 =>
bindV (pBuiltin P Builtin.len #[72] 3 [v33] w34) fun v35 w36 =>
callE P 22 #[v35] w36 (fun v39 w40 =>
bindV (pBin P BinOp.add 3 false (e12 3) v39 w40) fun v41 w42 =>
bindV (pBin P BinOp.add 3 true (e12 10) (Value.int IntKind.i64 1) w42) fun v43 w44 =>
K .normal (put (put (put (put (put (put (put (put (put (put (put (put (put (put (put (put (put (put (put (put (put (put e12 12 (e12 10)) 4 (e12 10)) 14 v14) 15 (e12 10)) 16 v18) 13 v18) 17 v20) 18 v22) 19 v24) 6 v26) 5 v20) 7 v24) 20 (e12 3)) 21 v20) 22 v29) 23 v33) 24 v35) 25 v39) 26 v41) 3 v41) 27 v43) 10 v43) w44) (fun c37 w38 => K (.panic c37) (put (put (put (put (put (put (put (put (put (put (put (put (put (put (put (put (put e12 12 (e12 10)) 4 (e12 10)) 14 v14) 15 (e12 10)) 16 v18) 13 v18) 17 v20) 18 v22) 19 v24) 6 v26) 5 v20) 7 v24) 20 (e12 3)) 21 v20) 22 v29) 23 v33) 24 v35) w38)) (fun c31 w32 => K (.panic c31) (put (put (put (put (put (put (put (put (put (put (put (put (put (put (put e12 12 (e12 10)) 4 (e12 10)) 14 v14) 15 (e12 10)) 16 v18) 13 v18) 17 v20) 18 v22) 19 v24) 6 v26) 5 v20) 7 v24) 20 (e12 3)) 21 v20) 22 v29) w32)) (fun c16 w17 => K (.panic c16) (put (put (put (put e12 12 (e12 10)) 4 (e12 10)) 14 v14) 15 (e12 10)) w17)) K)
def F7 (a0 : Value) (w : World) (R : Ending → World → Prop) : Prop :=
bindV (pBox P 32 a0 w) fun v1 w2 =>
bindV (pLoad P 32 v1 w2) fun v3 w4 =>
callE P 20 #[v3] w4 (fun v7 w8 =>
loopE F7B0 (put (put (put (put (put (put (argE [a0]) 1 v1) 2 (Value.int IntKind.i64 0)) 3 (Value.int IntKind.i64 0)) 8 v3) 9 v7) 10 (Value.int IntKind.i64 0)) w8 (blockK 0 (thenK (fun e45 w46 =>
R (.returned (e45 3)) w46) (topK P [(ResultVar.tmp 2)] R)))) (fun c5 w6 => R (.panicked c5) w6)
theorem F7ok {w : World} {R : Ending → World → Prop} {a0 : Value} (h : F7 a0 w R) : Calls P 7 #[a0] w R :=
  calls_of_ev bodies mixed (c := bodyOf Tryz.f7) (nt := 29) (rs := [(ResultVar.tmp 2)]) (args := [a0]) (fn := Tryz.f7) (by kernel_rfl) (by kernel_rfl) (by kernel_rfl) (by kernel_rfl) (by kernel_rfl) (by simp)
    (eq_mp (show F7 a0 w R = ev P C (bodyOf Tryz.f7) (argE [a0]) w (topK P [(ResultVar.tmp 2)] R) by kernel_rfl) h)
/-! ### moiety/leaf.Save -/
def F9B0 (e : Env) (w : World) (K : KT) : Prop :=
bindV (pBin P BinOp.lss 3 false (e 54) (e 53) w) fun v76 w77 =>
condE v76 (fun (K78 : KT) =>
K78 .normal (put e 55 v76) w77) (fun (K78 : KT) =>
K78 (.exit 0) (put e 55 v76) w77) (thenK (fun e79 w80 =>
bindV (pLoad P 32 (e79 5) w80) fun v81 w82 =>
callE P 21 #[v81, (e79 54)] w82 (fun v85 w86 =>
bindV (pExtract P v85 0 w86) fun v87 w88 =>
bindV (pExtract P v85 1 w88) fun v89 w90 =>
bindV (pExtract P v85 2 w90) fun v91 w92 =>
bindV (pAlloc P 61 w92) fun v93 w94 =>
bindU (pStore P 61 v93 v89 w94) fun w95 =>
bindV (pLoad P 61 v93 w95) fun v96 w97 =>
callE P 23 #[v87, v96] w97 (fun v100 w101 =>
callE P 27 #[(e79 12), v100] w101 (fun v104 w105 =>
bindV (pBin P BinOp.neq 26 true v104 (Value.int IntKind.i64 0) w105) fun v106 w107 =>
condE v106 (fun (K108 : KT) =>
K108 .ret (put (put (put (put (put (put (put (put (put (put (put (put (put (put (put (put (put (put (put (put (put (put (put e79 56 (e79 54)) 15 (e79 54)) 58 v81) 59 (e79 54)) 60 v85) 57 v85) 61 v87) 62 v89) 63 v91) 17 v93) 16 v87) 18 v91) 64 (e79 12)) 65 v87) 66 v96) 67 v100) 68 v104) 19 v104) 69 v104) 70 v106) 71 v104) 6 (Value.int IntKind.i64 0)) 7 v104) w107) (fun (K108 : KT) =>
K108 .normal (put (put (put (put (put (put (put (put (put (put (put (put (put (put (put (put (put (put (put (put e79 56 (e79 54)) 15 (e79 54)) 58 v81) 59 (e79 54)) 60 v85) 57 v85) 61 v87) 62 v89) 63 v91) 17 v93) 16 v87) 18 v91) 64 (e79 12)) 65 v87) 66 v96) 67 v100) 68 v104) 19 v104) 69 v104) 70 v106) w107) (blockK 1 (thenK (fun e109 w110 =>
bindV (pBin P BinOp.add 3 true (e109 54) (Value.int IntKind.i64 1) w110) fun v111 w112 =>
K .normal (put (put e109 72 v111) 54 v111) w112) K))) (fun c102 w103 => K (.panic c102) (put (put (put (put (put (put (put (put (put (put (put (put (put (put (put (put e79 56 (e79 54)) 15 (e79 54)) 58 v81) 59 (e79 54)) 60 v85) 57 v85) 61 v87) 62 v89) 63 v91) 17 v93) 16 v87) 18 v91) 64 (e79 12)) 65 v87) 66 v96) 67 v100) w103)) (fun c98 w99 => K (.panic c98) (put (put (put (put (put (put (put (put (put (put (put (put (put (put (put e79 56 (e79 54)) 15 (e79 54)) 58 v81) 59 (e79 54)) 60 v85) 57 v85) 61 v87) 62 v89) 63 v91) 17 v93) 16 v87) 18 v91) 64 (e79 12)) 65 v87) 66 v96) w99)) (fun c83 w84 => K (.panic c83) (put (put (put (put e79 56 (e79 54)) 15 (e79 54)) 58 v81) 59 (e79 54)) w84)) K)
def F9 (a0 : Value) (a1 : Value) (a2 : Value) (w : World) (R : Ending → World → Prop) : Prop :=
bindV (pBox P 42 a1 w) fun v1 w2 =>
bindV (pBox P 32 a2 w2) fun v3 w4 =>
bindV (pLoad P 42 v1 w4) fun v5 w6 =>
callE P 24 #[a0, v5] w6 (fun v9 w10 =>
bindV (pExtract P v9 0 w10) fun v11 w12 =>
bindV (pExtract P v9 1 w12) fun v13 w14 =>
bindV (pExtract P v9 2 w14) fun v15 w16 =>
bindV (pBin P BinOp.neq 26 true v15 (Value.int IntKind.i64 0) w16) fun v17 w18 =>
condE v17 (fun (K19 : KT) =>
K19 .ret (put (put (put (put (put (put (put (put (put (put (put (put (put (put (put (put (put (put (put (argE [a0, a1, a2]) 4 v1) 5 v3) 6 (Value.int IntKind.i64 0)) 7 (Value.int IntKind.i64 0)) 22 a0) 23 v5) 24 v9) 21 v9) 25 v11) 26 v13) 27 v15) 8 v11) 9 v13) 10 v15) 28 v15) 29 v17) 30 v15) 6 (Value.int IntKind.i64 0)) 7 v15) w18) (fun (K19 : KT) =>
K19 .normal (put (put (put (put (put (put (put (put (put (put (put (put (put (put (put (put (argE [a0, a1, a2]) 4 v1) 5 v3) 6 (Value.int IntKind.i64 0)) 7 (Value.int IntKind.i64 0)) 22 a0) 23 v5) 24 v9) 21 v9) 25 v11) 26 v13) 27 v15) 8 v11) 9 v13) 10 v15) 28 v15) 29 v17) w18) (thenK (fun e20 w21 =>
takeE (fun w24 => pLoad P 32 (e20 5) w24) (drew w21) fun v22 h23 =>
takeE (fun w27 => pFieldAddr P 42 (e20 4) 1 w27) (drew w21) fun v25 h26 =>
takeE (fun w30 => pLoad P 3 v25 w30) (drew w21) fun v28 h29 =>
callE P 7 #[v22] (drew w21) (fun v34 w35 =>
heldE [h29, h26] w35 (takeE (fun w38 => pBin P BinOp.gtr 3 false v34 v28 w38) w35 fun v36 h37 =>
condE v36 (fun (K39 : KT) =>
K39 .ret (put (put (put (put (put (put (put e20 31 v22) 33 v25) 34 v28) 32 v34) 35 v36) 6 (Value.int IntKind.i64 0)) 7 (Value.int IntKind.i64 8)) w35) (fun (K39 : KT) =>
K39 .normal (put (put (put (put (put e20 31 v22) 33 v25) 34 v28) 32 v34) 35 v36) w35) (thenK (fun e40 w41 =>
bindV (pLoad P 42 (e40 4) w41) fun v42 w43 =>
callE P 25 #[(e40 0), v42] w43 (fun v46 w47 =>
bindV (pBin P BinOp.neq 26 true v46 (Value.int IntKind.i64 0) w47) fun v48 w49 =>
condE v48 (fun (K50 : KT) =>
K50 .ret (put (put (put (put (put (put (put (put (put e40 36 (e40 0)) 37 v42) 38 v46) 11 v46) 39 v46) 40 v48) 41 v46) 6 (Value.int IntKind.i64 0)) 7 v46) w49) (fun (K50 : KT) =>
K50 .normal (put (put (put (put (put (put e40 36 (e40 0)) 37 v42) 38 v46) 11 v46) 39 v46) 40 v48) w49) (thenK (fun e51 w52 =>
bindV (pLoad P 42 (e51 4) w52) fun v53 w54 =>
callE P 26 #[(e51 0), v53] w54 (fun v57 w58 =>
bindV (pExtract P v57 0 w58) fun v59 w60 =>
bindV (pExtract P v57 1 w60) fun v61 w62 =>
bindV (pExtract P v57 2 w62) fun v63 w64 =>
bindV (pBin P BinOp.neq 26 true v63 (Value.int IntKind.i64 0) w64) fun v65 w66 =>
condE v65 (fun (K67 : KT) =>
K67 .ret (put (put (put (put (put (put (put (put (put (put (put (put (put (put (put e51 43 (e51 0)) 44 v53) 45 v57) 42 v57) 46 v59) 47 v61) 48 v63) 12 v59) 13 v61) 14 v63) 49 v63) 50 v65) 51 v63) 6 (Value.int IntKind.i64 0)) 7 v63) w66) (fun (K67 : KT) =>
K67 .normal (put (put (put (put (put (put (put (put (put (put (put (put e51 43 (e51 0)) 44 v53) 45 v57) 42 v57) 46 v59) 47 v61) 48 v63) 12 v59) 13 v61) 14 v63) 49 v63) 50 v65) w66) (thenK (fun e68 w69 =>
bindV (pLoad P 32 (e68 5) w69) fun v70 w71 =>
callE P 20 #[v70] w71 (fun v74 w75 =>
loopE F9B0 (put (put (put e68 52 v70) 53 v74) 54 (Value.int IntKind.i64 0)) w75 (blockK 0 (thenK (fun e113 w114 =>
callE P 28 #[(e113 12)] w114 (fun v117 w118 =>
bindV (pBin P BinOp.neq 26 true v117 (Value.int IntKind.i64 0) w118) fun v119 w120 =>
condE v119 (fun (K121 : KT) =>
K121 .ret (put (put (put (put (put (put (put (put e113 73 (e113 12)) 74 v117) 20 v117) 75 v117) 76 v119) 77 v117) 6 (Value.int IntKind.i64 0)) 7 v117) w120) (fun (K121 : KT) =>
K121 .normal (put (put (put (put (put e113 73 (e113 12)) 74 v117) 20 v117) 75 v117) 76 v119) w120) (thenK (fun e122 w123 =>
bindV (pLoad P 32 (e122 5) w123) fun v124 w125 =>
callE P 20 #[v124] w125 (fun v128 w129 =>
R (.returned (.tuple #[v128, (Value.int IntKind.i64 0)])) w129) (fun c126 w127 => R (.panicked c126) w127)) (topK P [(ResultVar.tmp 6), (ResultVar.tmp 7)] R))) (fun c115 w116 => R (.panicked c115) w116)) (topK P [(ResultVar.tmp 6), (ResultVar.tmp 7)] R)))) (fun c72 w73 => R (.panicked c72) w73)) (topK P [(ResultVar.tmp 6), (ResultVar.tmp 7)] R))) (fun c55 w56 => R (.panicked c55) w56)) (topK P [(ResultVar.tmp 6), (ResultVar.tmp 7)] R))) (fun c44 w45 => R (.panicked c44) w45)) (topK P [(ResultVar.tmp 6), (ResultVar.tmp 7)] R)))) (fun c32 w33 => ∀ (e31 : Env), agreeOff [31, 33, 34] (put (put (put e20 31 v22) 33 v25) 34 v28) e31 → R (.panicked c32) w33)) (topK P [(ResultVar.tmp 6), (ResultVar.tmp 7)] R))) (fun c7 w8 => R (.panicked c7) w8)
theorem F9ok {w : World} {R : Ending → World → Prop} {a0 : Value} {a1 : Value} {a2 : Value} (h : F9 a0 a1 a2 w R) : Calls P 9 #[a0, a1, a2] w R :=
  calls_of_ev bodies mixed (c := bodyOf Tryz.f9) (nt := 80) (rs := [(ResultVar.tmp 6), (ResultVar.tmp 7)]) (args := [a0, a1, a2]) (fn := Tryz.f9) (by kernel_rfl) (by kernel_rfl) (by kernel_rfl) (by kernel_rfl) (by kernel_rfl) (by simp)
    (eq_mp (show F9 a0 a1 a2 w R = ev P C (bodyOf Tryz.f9) (argE [a0, a1, a2]) w (topK P [(ResultVar.tmp 6), (ResultVar.tmp 7)] R) by kernel_rfl) h)
/-! ### moiety/leaf.Load -/
def F14B0 (e : Env) (w : World) (K : KT) : Prop :=
bindV (pBin P BinOp.lss 3 false (e 53) (e 52) w) fun v69 w70 =>
condE v69 (fun (K71 : KT) =>
K71 .normal (put e 54 v69) w70) (fun (K71 : KT) =>
K71 (.exit 0) (put e 54 v69) w70) (thenK (fun e72 w73 =>
bindV (pIndexAddr P 78 (e72 51) (e72 53) w73) fun v74 w75 =>
bindV (pLoad P 72 v74 w75) fun v76 w77 =>
callE P 38 #[v76] w77 (fun v80 w81 =>
bindV (pExtract P v80 0 w81) fun v82 w83 =>
bindV (pExtract P v80 1 w83) fun v84 w85 =>
bindV (pExtract P v80 2 w85) fun v86 w87 =>
bindV (pAlloc P 61 w87) fun v88 w89 =>
bindU (pStore P 61 v88 v84 w89) fun w90 =>
letK (blockK 1 (thenK (fun e92 w93 =>
bindV (pBin P BinOp.add 3 true (e92 53) (Value.int IntKind.i64 1) w93) fun v94 w95 =>
K .normal (put (put e92 82 v94) 53 v94) w95) K)) fun (K91 : KT) =>
bindV (pUn P UnOp.not v86 w90) fun v96 w97 =>
grdE v96 false (fun (k98 : Value → World → Prop) => k98 v82 w97) (fun v99 w100 =>
grdE v96 false (fun (k101 : Value → World → Prop) => k101 (e72 14) w100) (fun v102 w103 =>
grdE v96 false (fun (k104 : Value → World → Prop) => bindV (pBin P BinOp.leq 9 false v99 v102 w103) k104) (fun v105 w106 =>
pickE v96 (Value.bool true) v105 fun v107 =>
condE v107 (fun (K108 : KT) =>
bindV (pBuild P 32 [] w106) fun v109 w110 =>
bindU (pStore P 32 (e72 8) v109 w110) fun w111 =>
K108 .ret (put (put (put (put (put (put (put (put (put (put (put (put (put (put (put (put (put (put (put (put (put e72 55 v74) 56 v76) 16 v76) 58 v76) 59 v80) 57 v80) 60 v82) 61 v84) 62 v86) 18 v88) 17 v82) 19 v86) 63 v86) 64 v96) 65 v96) 66 v99) 67 v102) 68 v105) 69 v107) 70 v109) 9 (Value.int IntKind.i64 4)) w111) (fun (K108 : KT) =>
K108 .normal (put (put (put (put (put (put (put (put (put (put (put (put (put (put (put (put (put (put (put e72 55 v74) 56 v76) 16 v76) 58 v76) 59 v80) 57 v80) 60 v82) 61 v84) 62 v86) 18 v88) 17 v82) 19 v86) 63 v86) 64 v96) 65 v96) 66 v99) 67 v102) 68 v105) 69 v107) w106) (thenK (fun e112 w113 =>
bindV (pLoad P 32 (e112 10) w113) fun v114 w115 =>
bindV (pLoad P 61 (e112 18) w115) fun v116 w117 =>
callE P 18 #[v114, (e112 17), v116] w117 (fun v120 w121 =>
bindV (pExtract P v120 0 w121) fun v122 w123 =>
bindV (pExtract P v120 1 w123) fun v124 w125 =>
bindU (pStore P 32 (e112 10) v122 w125) fun w126 =>
bindV (pBin P BinOp.neq 26 true v124 (Value.int IntKind.i64 0) w126) fun v127 w128 =>
condE v127 (fun (K129 : KT) =>
bindV (pBuild P 32 [] w128) fun v130 w131 =>
bindU (pStore P 32 (e112 8) v130 w131) fun w132 =>
K129 .ret (put (put (put (put (put (put (put (put (put (put (put (put (put (put e112 71 (e112 17)) 14 (e112 17)) 73 v114) 74 (e112 17)) 75 v116) 76 v120) 72 v120) 77 v122) 78 v124) 11 v124) 79 v124) 80 v127) 81 v130) 9 (Value.int IntKind.i64 4)) w132) (fun (K129 : KT) =>
K129 .normal (put (put (put (put (put (put (put (put (put (put (put (put e112 71 (e112 17)) 14 (e112 17)) 73 v114) 74 (e112 17)) 75 v116) 76 v120) 72 v120) 77 v122) 78 v124) 11 v124) 79 v124) 80 v127) w128) K91) (fun c118 w119 => K91 (.panic c118) (put (put (put (put (put e112 71 (e112 17)) 14 (e112 17)) 73 v114) 74 (e112 17)) 75 v116) w119)) K91)) w103) w100) w97) (fun c78 w79 => K (.panic c78) (put (put (put (put e72 55 v74) 56 v76) 16 v76) 58 v76) w79)) K)
def F14 (a0 : Value) (a1 : Value) (a2 : Value) (a3 : Value) (w : World) (R : Ending → World → Prop) : Prop :=
bindV (pBox P 42 a1 w) fun v1 w2 =>
bindV (pAlloc P 32 w2) fun v3 w4 =>
callE P 16 #[a3] w4 (fun v7 w8 =>
bindV (pExtract P v7 0 w8) fun v9 w10 =>
bindV (pExtract P v7 1 w10) fun v11 w12 =>
bindV (pAlloc P 32 w12) fun v13 w14 =>
bindU (pStore P 32 v13 v9 w14) fun w15 =>
bindV (pBin P BinOp.neq 26 true v11 (Value.int IntKind.i64 0) w15) fun v16 w17 =>
condE v16 (fun (K18 : KT) =>
bindV (pLoad P 32 v13 w17) fun v19 w20 =>
bindU (pStore P 32 v3 v19 w20) fun w21 =>
K18 .ret (put (put (put (put (put (put (put (put (put (put (put (put (put (put (put (argE [a0, a1, a2, a3]) 5 v1) 8 v3) 9 (Value.int IntKind.i64 0)) 21 a3) 22 v7) 20 v7) 23 v9) 24 v11) 10 v13) 11 v11) 25 v11) 26 v16) 27 v19) 28 v11) 9 v11) w21) (fun (K18 : KT) =>
K18 .normal (put (put (put (put (put (put (put (put (put (put (put (put (argE [a0, a1, a2, a3]) 5 v1) 8 v3) 9 (Value.int IntKind.i64 0)) 21 a3) 22 v7) 20 v7) 23 v9) 24 v11) 10 v13) 11 v11) 25 v11) 26 v16) w17) (thenK (fun e22 w23 =>
bindV (pLoad P 42 (e22 5) w23) fun v24 w25 =>
callE P 24 #[(e22 0), v24] w25 (fun v28 w29 =>
bindV (pExtract P v28 0 w29) fun v30 w31 =>
bindV (pExtract P v28 1 w31) fun v32 w33 =>
bindV (pExtract P v28 2 w33) fun v34 w35 =>
bindV (pBin P BinOp.neq 26 true v34 (Value.int IntKind.i64 0) w35) fun v36 w37 =>
condE v36 (fun (K38 : KT) =>
bindV (pBuild P 32 [] w37) fun v39 w40 =>
bindU (pStore P 32 (e22 8) v39 w40) fun w41 =>
K38 .ret (put (put (put (put (put (put (put (put (put (put (put (put (put (put (put e22 30 (e22 0)) 31 v24) 32 v28) 29 v28) 33 v30) 34 v32) 35 v34) 12 v30) 13 v32) 11 v34) 36 v34) 37 v36) 38 v39) 39 v34) 9 v34) w41) (fun (K38 : KT) =>
K38 .normal (put (put (put (put (put (put (put (put (put (put (put (put e22 30 (e22 0)) 31 v24) 32 v28) 29 v28) 33 v30) 34 v32) 35 v34) 12 v30) 13 v32) 11 v34) 36 v34) 37 v36) w37) (thenK (fun e42 w43 =>
bindV (pBin P BinOp.lss 3 true (e42 2) (Value.int IntKind.i64 0) w43) fun v44 w45 =>
grdE v44 false (fun (k46 : Value → World → Prop) => k46 (e42 2) w45) (fun v47 w48 =>
grdE v44 false (fun (k49 : Value → World → Prop) => k49 (e42 12) w48) (fun v50 w51 =>
grdE v44 false (fun (k52 : Value → World → Prop) => bindV (pBuiltin P Builtin.len #[78] 3 [v50] w51) k52) (fun v53 w54 =>
grdE v44 false (fun (k55 : Value → World → Prop) => bindV (pBin P BinOp.gtr 3 false v47 v53 w54) k55) (fun v56 w57 =>
pickE v44 (Value.bool true) v56 fun v58 =>
condE v58 (fun (K59 : KT) =>
bindV (pBuild P 32 [] w57) fun v60 w61 =>
bindU (pStore P 32 (e42 8) v60 w61) fun w62 =>
K59 .ret (put (put (put (put (put (put (put (put (put (put e42 40 (e42 2)) 41 v44) 42 v44) 43 v47) 44 v50) 45 v53) 46 v56) 47 v58) 48 v60) 9 (Value.int IntKind.i64 4)) w62) (fun (K59 : KT) =>
K59 .normal (put (put (put (put (put (put (put (put e42 40 (e42 2)) 41 v44) 42 v44) 43 v47) 44 v50) 45 v53) 46 v56) 47 v58) w57) (thenK (fun e63 w64 =>
bindV (pSlice P 78 (e63 12) none (some (e63 2)) none w64) fun v65 w66 =>
bindV (pBuiltin P Builtin.len #[78] 3 [v65] w66) fun v67 w68 =>
loopE F14B0 (put (put (put (put (put (put e63 14 (Value.string { data := #[] })) 49 (e63 12)) 50 (e63 2)) 51 v65) 52 v67) 53 (Value.int IntKind.i64 0)) w68 (blockK 0 (thenK (fun e133 w134 =>
bindV (pLoad P 32 (e133 10) w134) fun v135 w136 =>
bindU (pStore P 32 (e133 8) v135 w136) fun w137 =>
topK P [(ResultVar.cell 8 32), (ResultVar.tmp 9)] R .ret (put (put e133 83 v135) 9 (Value.int IntKind.i64 0)) w137) (topK P [(ResultVar.cell 8 32), (ResultVar.tmp 9)] R)))) (topK P [(ResultVar.cell 8 32), (ResultVar.tmp 9)] R))) w54) w51) w48) w45) (topK P [(ResultVar.cell 8 32), (ResultVar.tmp 9)] R))) (fun c26 w27 => R (.panicked c26) w27)) (topK P [(ResultVar.cell 8 32), (ResultVar.tmp 9)] R))) (fun c5 w6 => R (.panicked c5) w6)
theorem F14ok {w : World} {R : Ending → World → Prop} {a0 : Value} {a1 : Value} {a2 : Value} {a3 : Value} (h : F14 a0 a1 a2 a3 w R) : Calls P 14 #[a0, a1, a2, a3] w R :=
  calls_of_ev bodies mixed (c := bodyOf Tryz.f14) (nt := 84) (rs := [(ResultVar.cell 8 32), (ResultVar.tmp 9)]) (args := [a0, a1, a2, a3]) (fn := Tryz.f14) (by kernel_rfl) (by kernel_rfl) (by kernel_rfl) (by kernel_rfl) (by kernel_rfl) (by simp)
    (eq_mp (show F14 a0 a1 a2 a3 w R = ev P C (bodyOf Tryz.f14) (argE [a0, a1, a2, a3]) w (topK P [(ResultVar.cell 8 32), (ResultVar.tmp 9)] R) by kernel_rfl) h)
/-! ### moiety/leaf.entry -/
def F23 (a0 : Value) (a1 : Value) (w : World) (R : Ending → World → Prop) : Prop :=
bindV (pBox P 61 a1 w) fun v1 w2 =>
bindV (pAlloc P 115 w2) fun v3 w4 =>
callE P 48 #[v3, a0] w4 (fun v7 w8 =>
bindV (pLoad P 61 v1 w8) fun v9 w10 =>
callE P 49 #[v3, v9] w10 (fun v13 w14 =>
callE P 50 #[v3] w14 (fun v17 w18 =>
R (.returned v17) w18) (fun c15 w16 => R (.panicked c15) w16)) (fun c11 w12 => R (.panicked c11) w12)) (fun c5 w6 => R (.panicked c5) w6)
theorem F23ok {w : World} {R : Ending → World → Prop} {a0 : Value} {a1 : Value} (h : F23 a0 a1 w R) : Calls P 23 #[a0, a1] w R :=
  calls_of_ev bodies mixed (c := bodyOf Tryz.f23) (nt := 11) (rs := [(ResultVar.tmp 4)]) (args := [a0, a1]) (fn := Tryz.f23) (by kernel_rfl) (by kernel_rfl) (by kernel_rfl) (by kernel_rfl) (by kernel_rfl) (by simp)
    (eq_mp (show F23 a0 a1 w R = ev P C (bodyOf Tryz.f23) (argE [a0, a1]) w (topK P [(ResultVar.tmp 4)] R) by kernel_rfl) h)
/-! ### moiety/leaf.read -/
def F38 (a0 : Value) (w : World) (R : Ending → World → Prop) : Prop :=
bindV (pAlloc P 9 w) fun v1 w2 =>
bindV (pAlloc P 61 w2) fun v3 w4 =>
bindV (pAlloc P 4 w4) fun v5 w6 =>
callE P 62 #[a0] w6 (fun v9 w10 =>
callE P 63 #[v9, (Value.int IntKind.i64 24)] w10 (fun v13 w14 =>
bindU (pStore P 9 v1 v13 w14) fun w15 =>
callE P 64 #[v9] w15 (fun v18 w19 =>
bindU (pStore P 61 v3 v18 w19) fun w20 =>
callE P 65 #[v9] w20 (fun v23 w24 =>
takeE (fun w27 => pLoad P 9 v1 w27) (drew w24) fun v25 h26 =>
takeE (fun w30 => pLoad P 61 v3 w30) (drew w24) fun v28 h29 =>
takeE (fun w33 => pLoad P 9 v1 w33) (drew w24) fun v31 h32 =>
takeE (fun w36 => pBin P BinOp.neq 9 true v31 (Value.string { data := #[] }) w36) (drew w24) fun v34 h35 =>
bindU (pStore P 9 v1 v25 (drew w24)) fun w38 =>
heldE [h35, h29] w38 (bindU (pStore P 61 v3 v28 w38) fun w40 =>
heldE [h35] w40 (bindU (pStore P 4 v5 v34 w40) fun w42 =>
leaveE P 60 [v1, v3, v5] [(ResultVar.cell 2 9), (ResultVar.cell 3 61), (ResultVar.cell 4 4)] R .returning (put (put (put (put (put (put (put (put (put (put (put (put (put (put (put (put (put (argE [a0]) 2 v1) 3 v3) 4 v5) 6 (Value.func (.func 60) #[] #[v1, v3, v5])) 7 a0) 8 v9) 5 v9) 9 v9) 10 v13) 11 v9) 12 v18) 13 v9) 14 v23) 15 v25) 16 v28) 17 v31) 18 v34) w42))) (fun c21 w22 => leaveE P 60 [v1, v3, v5] [(ResultVar.cell 2 9), (ResultVar.cell 3 61), (ResultVar.cell 4 4)] R (.panicking c21) (put (put (put (put (put (put (put (put (put (put (put (put (argE [a0]) 2 v1) 3 v3) 4 v5) 6 (Value.func (.func 60) #[] #[v1, v3, v5])) 7 a0) 8 v9) 5 v9) 9 v9) 10 v13) 11 v9) 12 v18) 13 v9) w22)) (fun c16 w17 => leaveE P 60 [v1, v3, v5] [(ResultVar.cell 2 9), (ResultVar.cell 3 61), (ResultVar.cell 4 4)] R (.panicking c16) (put (put (put (put (put (put (put (put (put (put (argE [a0]) 2 v1) 3 v3) 4 v5) 6 (Value.func (.func 60) #[] #[v1, v3, v5])) 7 a0) 8 v9) 5 v9) 9 v9) 10 v13) 11 v9) w17)) (fun c11 w12 => leaveE P 60 [v1, v3, v5] [(ResultVar.cell 2 9), (ResultVar.cell 3 61), (ResultVar.cell 4 4)] R (.panicking c11) (put (put (put (put (put (put (put (put (argE [a0]) 2 v1) 3 v3) 4 v5) 6 (Value.func (.func 60) #[] #[v1, v3, v5])) 7 a0) 8 v9) 5 v9) 9 v9) w12)) (fun c7 w8 => leaveE P 60 [v1, v3, v5] [(ResultVar.cell 2 9), (ResultVar.cell 3 61), (ResultVar.cell 4 4)] R (.panicking c7) (put (put (put (put (put (argE [a0]) 2 v1) 3 v3) 4 v5) 6 (Value.func (.func 60) #[] #[v1, v3, v5])) 7 a0) w8)
theorem F38ok {w : World} {R : Ending → World → Prop} {a0 : Value} (h : F38 a0 w R) : Calls P 38 #[a0] w R :=
  calls_of_evD bodies mixed (A := dA (bodyOf Tryz.f38)) (rest := dRest (bodyOf Tryz.f38)) (id := dId (bodyOf Tryz.f38)) (ops := dOps (bodyOf Tryz.f38)) (g := (dMk (opAt (dOps (bodyOf Tryz.f38)) 0)).1) (caps := (dMk (opAt (dOps (bodyOf Tryz.f38)) 0)).2) (t := 6) (nt := 19) (rs := [(ResultVar.cell 2 9), (ResultVar.cell 3 61), (ResultVar.cell 4 4)]) (args := [a0]) (fn := Tryz.f38)
    (by kernel_rfl) (by kernel_rfl) (by kernel_rfl) (by kernel_rfl) (by kernel_rfl) (by kernel_rfl) (by kernel_rfl) (by kernel_rfl) (by kernel_rfl) (by kernel_rfl) (by kernel_rfl) (by kernel_rfl) (by kernel_rfl) (by kernel_rfl) (by kernel_rfl) (by kernel_rfl) (by decide) (by simp)
    (eq_mp (show F38 a0 w R = ev P C (dA (bodyOf Tryz.f38)) (argE [a0]) w (thenD P C (dRest (bodyOf Tryz.f38)) 6 (dMk (opAt (dOps (bodyOf Tryz.f38)) 0)).1 (dMk (opAt (dOps (bodyOf Tryz.f38)) 0)).2 [(ResultVar.cell 2 9), (ResultVar.cell 3 61), (ResultVar.cell 4 4)] R) by kernel_rfl) h)
/-! ### moiety/leaf.read$1 -/
def F60 (a0 : Value) (a1 : Value) (a2 : Value) (u : FrameMode) (w : World) (R : Ending → FrameMode → World → Prop) : Prop :=
callE P 61 #[(recV u)] w (fun v3 w4 =>
bindV (pAlloc P 131 w4) fun v5 w6 =>
bindU (pStore P 131 v5 v3 w6) fun w7 =>
bindV (pFieldAddr P 131 v5 0 w7) fun v8 w9 =>
bindV (pLoad P 26 v8 w9) fun v10 w11 =>
bindV (pBin P BinOp.neq 26 true v10 (Value.int IntKind.i64 0) w11) fun v12 w13 =>
condE v12 (fun (K14 : KT) =>
bindV (pBuild P 61 [] w13) fun v15 w16 =>
bindU (pStore P 9 a0 (Value.string { data := #[] }) w16) fun w17 =>
bindU (pStore P 61 a1 v15 w17) fun w18 =>
bindU (pStore P 4 a2 (Value.bool false) w18) fun w19 =>
K14 .normal (put (put (put (put (put (put (put (argE [a0, a1, a2]) 4 (recV u)) 5 v3) 3 v5) 6 v8) 7 v10) 8 v12) 9 v15) w19) (fun (K14 : KT) =>
K14 .normal (put (put (put (put (put (put (argE [a0, a1, a2]) 4 (recV u)) 5 v3) 3 v5) 6 v8) 7 v10) 8 v12) w13) (topK P [] (fun x w => R x (recM u) w))) (fun c1 w2 => R (.panicked c1) (recM u) w2)
theorem F60ok {u : FrameMode} {w : World} {R : Ending → FrameMode → World → Prop} {a0 : Value} {a1 : Value} {a2 : Value} (h : F60 a0 a1 a2 u w R) : CallsD P 60 #[a0, a1, a2] u w R :=
  callsD_of_ev bodies mixed (c := bodyOf Tryz.f60) (nt := 10) (rs := []) (args := [a0, a1, a2]) (fn := Tryz.f60) (by kernel_rfl) (by kernel_rfl) (by kernel_rfl) (by kernel_rfl) (by kernel_rfl) (by kernel_rfl) (by kernel_rfl) (by kernel_rfl) (by simp)
    (eq_mp (show F60 a0 a1 a2 u w R = evR P C (bodyOf Tryz.f60) [a0, a1, a2] u w [] R by kernel_rfl) h)
end Go.Proofs.YtieejbkbdfccdaaGreat

set_option linter.unusedVariables false
set_option linter.unusedSimpArgs false
namespace Go.Proofs.YtieejbkbdfccdaaGreat
open Go Env
/-! ### moiety/moietytop.WholePins -/
def F3 (a0 : Value) (a1 : Value) (a2 : Value) (w : World) (R : Ending → World → Prop) : Prop :=
bindV (pBox P 25 a2 w) fun v1 w2 =>
bindV (pBuild P 29 [(0, (Value.int IntKind.i64 1)), (5, (Value.int IntKind.i64 1))] w2) fun v3 w4 =>
callE P 4 #[v3] w4 (fun v7 w8 =>
bindV (pBin P BinOp.neq 26 true v7 (Value.int IntKind.i64 0) w8) fun v9 w10 =>
grdE v9 false (fun (k11 : Value → World → Prop) => bindV (pBuild P 29 [] w10) k11) (fun v12 w13 =>
grdE v9 false (fun (k14 : Value → World → Prop) => callE P 4 #[v12] w13 k14 (fun c15 w16 => R (.panicked c15) w16)) (fun v17 w18 =>
grdE v9 false (fun (k19 : Value → World → Prop) => bindV (pBin P BinOp.eql 26 true v17 (Value.int IntKind.i64 0) w18) k19) (fun v20 w21 =>
pickE v9 (Value.bool true) v20 fun v22 =>
condE v22 (fun (K23 : KT) =>
K23 .ret (put (put (put (put (put (put (put (put (put (put (put (argE [a0, a1, a2]) 5 v1) 6 (Value.bool false)) 23 v3) 24 v7) 25 v9) 26 v9) 27 v12) 28 v17) 29 v20) 30 v22) 6 (Value.bool false)) w21) (fun (K23 : KT) =>
K23 .normal (put (put (put (put (put (put (put (put (put (put (argE [a0, a1, a2]) 5 v1) 6 (Value.bool false)) 23 v3) 24 v7) 25 v9) 26 v9) 27 v12) 28 v17) 29 v20) 30 v22) w21) (thenK (fun e24 w25 =>
callE P 5 #[(Value.int IntKind.i64 60), (e24 0)] w25 (fun v28 w29 =>
bindV (pExtract P v28 0 w29) fun v30 w31 =>
bindV (pExtract P v28 1 w31) fun v32 w33 =>
bindV (pAlloc P 32 w33) fun v34 w35 =>
bindU (pStore P 32 v34 v30 w35) fun w36 =>
callE P 5 #[(Value.int IntKind.i64 60), (e24 1)] w36 (fun v39 w40 =>
bindV (pExtract P v39 0 w40) fun v41 w42 =>
bindV (pExtract P v39 1 w42) fun v43 w44 =>
bindV (pAlloc P 32 w44) fun v45 w46 =>
bindU (pStore P 32 v45 v41 w46) fun w47 =>
bindV (pBin P BinOp.eql 33 true v32 (Value.pointer none) w47) fun v48 w49 =>
grdE v48 false (fun (k50 : Value → World → Prop) => k50 v43 w49) (fun v51 w52 =>
grdE v48 false (fun (k53 : Value → World → Prop) => bindV (pBin P BinOp.eql 33 true v51 (Value.pointer none) w52) k53) (fun v54 w55 =>
pickE v48 (Value.bool true) v54 fun v56 =>
grdE v56 false (fun (k57 : Value → World → Prop) => bindV (pLoad P 25 (e24 5) w55) k57) (fun v58 w59 =>
grdE v56 false (fun (k60 : Value → World → Prop) => callE P 6 #[v58] w59 k60 (fun c61 w62 => R (.panicked c61) w62)) (fun v63 w64 =>
pickE v56 (Value.bool true) v63 fun v65 =>
grdE v65 false (fun (k66 : Value → World → Prop) => bindV (pLoad P 32 v34 w64) k66) (fun v67 w68 =>
grdE v65 false (fun (k69 : Value → World → Prop) => callE P 7 #[v67] w68 k69 (fun c70 w71 => R (.panicked c70) w71)) (fun v72 w73 =>
grdE v65 false (fun (k74 : Value → World → Prop) => bindV (pBin P BinOp.gtr 3 true v72 (Value.int IntKind.i64 2000) w73) k74) (fun v75 w76 =>
pickE v65 (Value.bool true) v75 fun v77 =>
grdE v77 false (fun (k78 : Value → World → Prop) => bindV (pLoad P 32 v45 w76) k78) (fun v79 w80 =>
grdE v77 false (fun (k81 : Value → World → Prop) => callE P 7 #[v79] w80 k81 (fun c82 w83 => R (.panicked c82) w83)) (fun v84 w85 =>
grdE v77 false (fun (k86 : Value → World → Prop) => bindV (pBin P BinOp.gtr 3 true v84 (Value.int IntKind.i64 2000) w85) k86) (fun v87 w88 =>
pickE v77 (Value.bool true) v87 fun v89 =>
condE v89 (fun (K90 : KT) =>
K90 .ret (put (put (put (put (put (put (put (put (put (put (put (put (put (put (put (put (put (put (put (put (put (put (put (put (put (put (put (put (put (put (put (put (put (put (put e24 32 (e24 0)) 33 v28) 31 v28) 34 v30) 35 v32) 7 v34) 8 v32) 37 (e24 1)) 38 v39) 36 v39) 39 v41) 40 v43) 9 v45) 10 v43) 41 v32) 42 v48) 43 v48) 44 v51) 45 v54) 46 v56) 47 v56) 48 v58) 49 v63) 50 v65) 51 v65) 52 v67) 53 v72) 54 v75) 55 v77) 56 v77) 57 v79) 58 v84) 59 v87) 60 v89) 6 (Value.bool true)) w88) (fun (K90 : KT) =>
K90 .normal (put (put (put (put (put (put (put (put (put (put (put (put (put (put (put (put (put (put (put (put (put (put (put (put (put (put (put (put (put (put (put (put (put (put e24 32 (e24 0)) 33 v28) 31 v28) 34 v30) 35 v32) 7 v34) 8 v32) 37 (e24 1)) 38 v39) 36 v39) 39 v41) 40 v43) 9 v45) 10 v43) 41 v32) 42 v48) 43 v48) 44 v51) 45 v54) 46 v56) 47 v56) 48 v58) 49 v63) 50 v65) 51 v65) 52 v67) 53 v72) 54 v75) 55 v77) 56 v77) 57 v79) 58 v84) 59 v87) 60 v89) w88) (thenK (fun e91 w92 =>
callE P 8 #[(Value.int IntKind.i64 4002)] w92 (fun v95 w96 =>
bindV (pExtract P v95 0 w96) fun v97 w98 =>
bindV (pExtract P v95 1 w98) fun v99 w100 =>
bindV (pBuild P 42 [(0, (Value.int IntKind.i64 2)), (1, (Value.int IntKind.i64 2000))] w100) fun v101 w102 =>
bindV (pBuild P 42 [(0, (Value.int IntKind.i64 2002)), (1, (Value.int IntKind.i64 2000))] w102) fun v103 w104 =>
bindV (pBuild P 43 [(0, v101), (1, v103)] w104) fun v105 w106 =>
bindV (pAlloc P 43 w106) fun v107 w108 =>
bindU (pStore P 43 v107 v105 w108) fun w109 =>
bindV (pIndexAddr P 43 v107 (Value.int IntKind.i64 0) w109) fun v110 w111 =>
bindV (pLoad P 42 v110 w111) fun v112 w113 =>
bindV (pLoad P 32 (e91 7) w113) fun v114 w115 =>
callE P 9 #[v97, v112, v114] w115 (fun v118 w119 =>
bindV (pExtract P v118 0 w119) fun v120 w121 =>
bindV (pExtract P v118 1 w121) fun v122 w123 =>
bindV (pBin P BinOp.neq 26 true v122 (Value.int IntKind.i64 0) w123) fun v124 w125 =>
grdE v124 false (fun (k126 : Value → World → Prop) => k126 v97 w125) (fun v127 w128 =>
grdE v124 false (fun (k129 : Value → World → Prop) => k129 v120 w128) (fun v130 w131 =>
grdE v124 false (fun (k132 : Value → World → Prop) => bindV (pBuild P 29 [(0, (Value.int IntKind.i64 1)), (3, v130), (5, (Value.int IntKind.i64 60))] w131) k132) (fun v133 w134 =>
grdE v124 false (fun (k135 : Value → World → Prop) => callE P 10 #[v127, v133] w134 k135 (fun c136 w137 => R (.panicked c136) w137)) (fun v138 w139 =>
grdE v124 false (fun (k140 : Value → World → Prop) => bindV (pBin P BinOp.neq 26 true v138 (Value.int IntKind.i64 0) w139) k140) (fun v141 w142 =>
pickE v124 (Value.bool true) v141 fun v143 =>
condE v143 (fun (K144 : KT) =>
K144 .ret (put (put (put (put (put (put (put (put (put (put (put (put (put (put (put (put (put (put (put (put (put (put (put (put (put (put (put (put (put (put e91 62 v95) 61 v95) 63 v97) 64 v99) 11 v97) 12 v99) 65 v101) 66 v103) 67 v105) 13 v107) 69 v97) 70 v110) 71 v112) 72 v114) 73 v118) 68 v118) 74 v120) 75 v122) 14 v120) 15 v122) 76 v122) 77 v124) 78 v124) 79 v127) 80 v130) 81 v133) 82 v138) 83 v141) 84 v143) 6 (Value.bool false)) w142) (fun (K144 : KT) =>
K144 .normal (put (put (put (put (put (put (put (put (put (put (put (put (put (put (put (put (put (put (put (put (put (put (put (put (put (put (put (put (put e91 62 v95) 61 v95) 63 v97) 64 v99) 11 v97) 12 v99) 65 v101) 66 v103) 67 v105) 13 v107) 69 v97) 70 v110) 71 v112) 72 v114) 73 v118) 68 v118) 74 v120) 75 v122) 14 v120) 15 v122) 76 v122) 77 v124) 78 v124) 79 v127) 80 v130) 81 v133) 82 v138) 83 v141) 84 v143) w142) (thenK (fun e145 w146 =>
bindV (pFieldAddr P 25 (e145 5) 0 w146) fun v147 w148 =>
bindV (pLoad P 3 v147 w148) fun v149 w150 =>
callE P 11 #[(e145 11), v149] w150 (fun v153 w154 =>
bindV (pIndexAddr P 43 (e145 13) (Value.int IntKind.i64 1) w154) fun v155 w156 =>
bindV (pLoad P 42 v155 w156) fun v157 w158 =>
bindV (pLoad P 32 (e145 9) w158) fun v159 w160 =>
callE P 9 #[(e145 11), v157, v159] w160 (fun v163 w164 =>
bindV (pExtract P v163 0 w164) fun v165 w166 =>
bindV (pExtract P v163 1 w166) fun v167 w168 =>
bindV (pBin P BinOp.eql 26 true v167 (Value.int IntKind.i64 0) w168) fun v169 w170 =>
condE v169 (fun (K171 : KT) =>
bindV (pBuild P 29 [(0, (Value.int IntKind.i64 2)), (2, (Value.int IntKind.i64 1)), (3, v165), (5, (Value.int IntKind.i64 60))] w170) fun v172 w173 =>
callE P 10 #[(e145 11), v172] w173 (fun v176 w177 =>
K171 .normal (put (put (put (put (put (put (put (put (put (put (put (put (put (put (put (put (put (put (put (put (put e145 85 (e145 11)) 86 v147) 87 v149) 88 v153) 90 (e145 11)) 91 v155) 92 v157) 93 v159) 94 v163) 89 v163) 95 v165) 96 v167) 16 v165) 17 v167) 97 v167) 98 v169) 99 (e145 11)) 100 v165) 101 v172) 102 v176) 17 v176) w177) (fun c174 w175 => K171 (.panic c174) (put (put (put (put (put (put (put (put (put (put (put (put (put (put (put (put (put (put (put e145 85 (e145 11)) 86 v147) 87 v149) 88 v153) 90 (e145 11)) 91 v155) 92 v157) 93 v159) 94 v163) 89 v163) 95 v165) 96 v167) 16 v165) 17 v167) 97 v167) 98 v169) 99 (e145 11)) 100 v165) 101 v172) w175)) (fun (K171 : KT) =>
K171 .normal (put (put (put (put (put (put (put (put (put (put (put (put (put (put (put (put e145 85 (e145 11)) 86 v147) 87 v149) 88 v153) 90 (e145 11)) 91 v155) 92 v157) 93 v159) 94 v163) 89 v163) 95 v165) 96 v167) 16 v165) 17 v167) 97 v167) 98 v169) w170) (thenK (fun e178 w179 =>
bindV (pFieldAddr P 25 (e178 5) 1 w179) fun v180 w181 =>
bindV (pLoad P 23 v180 w181) fun v182 w183 =>
callE P 12 #[(e178 11), v182] w183 (fun v186 w187 =>
callE P 13 #[(e178 11)] w187 (fun v190 w191 =>
bindV (pExtract P v190 0 w191) fun v192 w193 =>
bindV (pExtract P v190 1 w193) fun v194 w195 =>
bindV (pAlloc P 29 w195) fun v196 w197 =>
bindU (pStore P 29 v196 v192 w197) fun w198 =>
bindV (pBin P BinOp.neq 26 true v194 (Value.int IntKind.i64 0) w198) fun v199 w200 =>
grdE v199 false (fun (k201 : Value → World → Prop) => bindV (pFieldAddr P 29 v196 2 w200) k201) (fun v202 w203 =>
grdE v199 false (fun (k204 : Value → World → Prop) => bindV (pLoad P 3 v202 w203) k204) (fun v205 w206 =>
grdE v199 false (fun (k207 : Value → World → Prop) => bindV (pBin P BinOp.lss 3 true v205 (Value.int IntKind.i64 0) w206) k207) (fun v208 w209 =>
pickE v199 (Value.bool true) v208 fun v210 =>
grdE v210 false (fun (k211 : Value → World → Prop) => bindV (pFieldAddr P 29 v196 2 w209) k211) (fun v212 w213 =>
grdE v210 false (fun (k214 : Value → World → Prop) => bindV (pLoad P 3 v212 w213) k214) (fun v215 w216 =>
grdE v210 false (fun (k217 : Value → World → Prop) => bindV (pBin P BinOp.gtr 3 true v215 (Value.int IntKind.i64 1) w216) k217) (fun v218 w219 =>
pickE v210 (Value.bool true) v218 fun v220 =>
grdE v220 false (fun (k221 : Value → World → Prop) => k221 (e178 17) w219) (fun v222 w223 =>
grdE v220 false (fun (k224 : Value → World → Prop) => bindV (pBin P BinOp.eql 26 true v222 (Value.int IntKind.i64 0) w223) k224) (fun v225 w226 =>
grdE v220 false (fun (k227 : Value → World → Prop) => k227 v225 w226) (fun v228 w229 =>
grdE v228 true (fun (k230 : Value → World → Prop) => bindV (pFieldAddr P 29 v196 2 w229) k230) (fun v231 w232 =>
grdE v228 true (fun (k233 : Value → World → Prop) => bindV (pLoad P 3 v231 w232) k233) (fun v234 w235 =>
grdE v228 true (fun (k236 : Value → World → Prop) => bindV (pBin P BinOp.neq 3 true v234 (Value.int IntKind.i64 1) w235) k236) (fun v237 w238 =>
grdE v220 false (fun (k239 : Value → World → Prop) => pickE v228 v237 (Value.bool false) fun v240 =>
k239 v240 w238) (fun v241 w242 =>
pickE v220 (Value.bool true) v241 fun v243 =>
condE v243 (fun (K244 : KT) =>
K244 .ret (put (put (put (put (put (put (put (put (put (put (put (put (put (put (put (put (put (put (put (put (put (put (put (put (put (put (put (put (put (put (put (put (put e178 103 (e178 11)) 104 v180) 105 v182) 106 v186) 108 (e178 11)) 109 v190) 107 v190) 110 v192) 111 v194) 18 v196) 19 v194) 112 v194) 113 v199) 114 v199) 115 v202) 116 v205) 117 v208) 118 v210) 119 v210) 120 v212) 121 v215) 122 v218) 123 v220) 124 v220) 125 v222) 126 v225) 127 v228) 128 v231) 129 v234) 130 v237) 131 v241) 132 v243) 6 (Value.bool false)) w242) (fun (K244 : KT) =>
K244 .normal (put (put (put (put (put (put (put (put (put (put (put (put (put (put (put (put (put (put (put (put (put (put (put (put (put (put (put (put (put (put (put (put e178 103 (e178 11)) 104 v180) 105 v182) 106 v186) 108 (e178 11)) 109 v190) 107 v190) 110 v192) 111 v194) 18 v196) 19 v194) 112 v194) 113 v199) 114 v199) 115 v202) 116 v205) 117 v208) 118 v210) 119 v210) 120 v212) 121 v215) 122 v218) 123 v220) 124 v220) 125 v222) 126 v225) 127 v228) 128 v231) 129 v234) 130 v237) 131 v241) 132 v243) w242) (thenK (fun e245 w246 =>
drawE (fun (k247 : Env → World → Prop) (kp248 : List PanicEntry → Env → World → Prop) =>
takeE (fun w251 => some ((e245 11), w251)) (drew w246) fun v249 h250 =>
takeE (fun w254 => pFieldAddr P 29 (e245 18) 2 w254) (drew w246) fun v252 h253 =>
takeE (fun w257 => pLoad P 3 v252 w257) (drew w246) fun v255 h256 =>
takeE (fun w260 => pIndexAddr P 43 (e245 13) v255 w260) (drew w246) fun v258 h259 =>
takeE (fun w263 => pLoad P 42 v258 w263) (drew w246) fun v261 h262 =>
takeE (fun w266 => pFieldAddr P 29 (e245 18) 3 w266) (drew w246) fun v264 h265 =>
takeE (fun w269 => pLoad P 3 v264 w269) (drew w246) fun v267 h268 =>
takeE (fun w272 => pFieldAddr P 29 (e245 18) 5 w272) (drew w246) fun v270 h271 =>
takeE (fun w275 => pLoad P 3 v270 w275) (drew w246) fun v273 h274 =>
(callE P 14 #[v249, v261, v267, v273] (drew w246) (fun v279 w280 =>
takeE (fun w283 => some (v279, w283)) w280 fun v281 h282 =>
takeE (fun w286 => pExtract P v281 0 w286) w280 fun v284 h285 =>
takeE (fun w289 => pExtract P v281 1 w289) w280 fun v287 h288 =>
bindV (pAlloc P 32 w280) fun v291 w292 =>
heldE [h288, h285, h282] w292 (bindU (pStore P 32 v291 v284 w292) fun w294 =>
heldE [h288] w294 (k247 (put (put (put (put (put (put (put (put (put (put (put (put (put (put (put e245 134 v249) 135 v252) 136 v255) 137 v258) 138 v261) 139 v264) 140 v267) 141 v270) 142 v273) 143 v279) 133 v281) 144 v284) 145 v287) 20 v291) 21 v287) w294))) (fun c277 w278 => ∀ (e276 : Env), agreeOff [134, 135, 136, 137, 138, 139, 140, 141, 142] (put (put (put (put (put (put (put (put (put e245 134 v249) 135 v252) 136 v255) 137 v258) 138 v261) 139 v264) 140 v267) 141 v270) 142 v273) e276 → kp248 c277 e276 w278)) ∧
(bindV (pAlloc P 32 (drew w246)) fun v297 w298 =>
heldE [h274, h271, h268, h265, h262, h259, h256, h253, h250] w298 (callE P 14 #[v249, v261, v267, v273] w298 (fun v302 w303 =>
takeE (fun w306 => some (v302, w306)) w303 fun v304 h305 =>
takeE (fun w309 => pExtract P v304 0 w309) w303 fun v307 h308 =>
takeE (fun w312 => pExtract P v304 1 w312) w303 fun v310 h311 =>
bindU (pStore P 32 v297 v307 w303) fun w314 =>
heldE [h311] w314 (k247 (put (put (put (put (put (put (put (put (put (put (put (put (put (put (put e245 134 v249) 135 v252) 136 v255) 137 v258) 138 v261) 139 v264) 140 v267) 141 v270) 142 v273) 20 v297) 143 v302) 133 v304) 144 v307) 145 v310) 21 v310) w314)) (fun c300 w301 => ∀ (e299 : Env), agreeOff [134, 135, 136, 137, 138, 139, 140, 141, 142, 20] (put (put (put (put (put (put (put (put (put (put e245 134 v249) 135 v252) 136 v255) 137 v258) 138 v261) 139 v264) 140 v267) 141 v270) 142 v273) 20 v297) e299 → kp248 c300 e299 w301)))) (fun e316 w317 =>
nilE (e316 8) fun v321 =>
bindV (pLoad P 54 v321 w317) fun v322 w323 =>
bindV (pAlloc P 54 w323) fun v324 w325 =>
bindU (pStore P 54 v324 v322 w325) fun w326 =>
bindV (pFieldAddr P 29 (e316 18) 2 w326) fun v327 w328 =>
bindV (pLoad P 3 v327 w328) fun v329 w330 =>
bindV (pBin P BinOp.eql 3 true v329 (Value.int IntKind.i64 1) w330) fun v331 w332 =>
condE v331 (fun (K333 : KT) =>
nilE (e316 10) fun v334 =>
bindV (pLoad P 54 v334 w332) fun v335 w336 =>
bindU (pStore P 54 v324 v335 w336) fun w337 =>
K333 .normal (put (put (put (put (put (put (put (put (put (put e316 146 (e316 8)) 147 v321) 148 v322) 22 v324) 149 v327) 150 v329) 151 v331) 152 (e316 10)) 153 v334) 154 v335) w337) (fun (K333 : KT) =>
K333 .normal (put (put (put (put (put (put (put e316 146 (e316 8)) 147 v321) 148 v322) 22 v324) 149 v327) 150 v329) 151 v331) w332) (thenK (fun e338 w339 =>
bindV (pBin P BinOp.eql 26 true (e338 21) (Value.int IntKind.i64 0) w339) fun v340 w341 =>
grdE v340 true (fun (k342 : Value → World → Prop) => bindV (pLoad P 32 (e338 20) w341) k342) (fun v343 w344 =>
grdE v340 true (fun (k345 : Value → World → Prop) => bindV (pLoad P 54 (e338 22) w344) k345) (fun v346 w347 =>
grdE v340 true (fun (k348 : Value → World → Prop) => callE P 15 #[v343, v346] w347 k348 (fun c349 w350 => R (.panicked c349) w350)) (fun v351 w352 =>
grdE v340 true (fun (k353 : Value → World → Prop) => bindV (pBin P BinOp.eql 3 true v351 (Value.int IntKind.i64 1) w352) k353) (fun v354 w355 =>
pickE v340 v354 (Value.bool false) fun v356 =>
R (.returned v356) w355) w352) w347) w344) w341) (topK P [(ResultVar.tmp 6)] R))) (fun c318 e319 w320 => R (.panicked c318) w320)) (topK P [(ResultVar.tmp 6)] R))) w238) w235) w232) w229) w226) w223) w219) w216) w213) w209) w206) w203) w200) (fun c188 w189 => R (.panicked c188) w189)) (fun c184 w185 => R (.panicked c184) w185)) (topK P [(ResultVar.tmp 6)] R))) (fun c161 w162 => R (.panicked c161) w162)) (fun c151 w152 => R (.panicked c151) w152)) (topK P [(ResultVar.tmp 6)] R))) w139) w134) w131) w128) w125) (fun c116 w117 => R (.panicked c116) w117)) (fun c93 w94 => R (.panicked c93) w94)) (topK P [(ResultVar.tmp 6)] R))) w85) w80) w76) w73) w68) w64) w59) w55) w52) w49) (fun c37 w38 => R (.panicked c37) w38)) (fun c26 w27 => R (.panicked c26) w27)) (topK P [(ResultVar.tmp 6)] R))) w18) w13) w10) (fun c5 w6 => R (.panicked c5) w6)
theorem F3ok {w : World} {R : Ending → World → Prop} {a0 : Value} {a1 : Value} {a2 : Value} (h : F3 a0 a1 a2 w R) : Calls P 3 #[a0, a1, a2] w R :=
  calls_of_ev bodies mixed (c := bodyOf Tryz.f3) (nt := 163) (rs := [(ResultVar.tmp 6)]) (args := [a0, a1, a2]) (fn := Tryz.f3) (by kernel_rfl) (by kernel_rfl) (by kernel_rfl) (by kernel_rfl) (by kernel_rfl) (by simp)
    (eq_mp (show F3 a0 a1 a2 w R = ev P C (bodyOf Tryz.f3) (argE [a0, a1, a2]) w (topK P [(ResultVar.tmp 6)] R) by kernel_rfl) h)
/-! ### moiety/moietylaw10.Begin -/
def F5B0 (e : Env) (w : World) (K : KT) : Prop :=
bindV (pBin P BinOp.lss 3 false (e 28) (e 27) w) fun v39 w40 =>
condE v39 (fun (K41 : KT) =>
K41 .normal (put e 29 v39) w40) (fun (K41 : KT) =>
K41 (.exit 0) (put e 29 v39) w40) (thenK (fun e42 w43 =>
bindV (pIndexAddr P 22 (e42 26) (e42 28) w43) fun v44 w45 =>
bindV (pLoad P 63 v44 w45) fun v46 w47 =>
bindV (pAlloc P 63 w47) fun v48 w49 =>
bindU (pStore P 63 v48 v46 w49) fun w50 =>
letK (blockK 1 (thenK (fun e52 w53 =>
bindV (pBin P BinOp.add 3 true (e52 28) (Value.int IntKind.i64 1) w53) fun v54 w55 =>
K .normal (put (put e52 61 v54) 28 v54) w55) K)) fun (K51 : KT) =>
bindV (pFieldAddr P 63 v48 0 w50) fun v56 w57 =>
bindV (pLoad P 9 v56 w57) fun v58 w59 =>
bindV (pBuiltin P Builtin.len #[9] 3 [v58] w59) fun v60 w61 =>
bindV (pBin P BinOp.gtr 3 true v60 (Value.int IntKind.i64 100) w61) fun v62 w63 =>
grdE v62 false (fun (k64 : Value → World → Prop) => bindV (pFieldAddr P 63 v48 1 w63) k64) (fun v65 w66 =>
grdE v62 false (fun (k67 : Value → World → Prop) => bindV (pLoad P 61 v65 w66) k67) (fun v68 w69 =>
grdE v62 false (fun (k70 : Value → World → Prop) => callE P 17 #[v68] w69 k70 (fun c71 w72 => K51 (.panic c71) (put (put (put (put (put (put (put (put (put (put e42 30 v44) 31 v46) 10 v48) 32 v56) 33 v58) 34 v60) 35 v62) 36 v62) 37 v65) 38 v68) w72)) (fun v73 w74 =>
grdE v62 false (fun (k75 : Value → World → Prop) => bindV (pBin P BinOp.gtr 3 true v73 (Value.int IntKind.i64 0) w74) k75) (fun v76 w77 =>
pickE v62 (Value.bool true) v76 fun v78 =>
condE v78 (fun (K79 : KT) =>
bindV (pLoad P 32 (e42 6) w77) fun v80 w81 =>
bindU (pStore P 32 (e42 4) v80 w81) fun w82 =>
K79 .ret (put (put (put (put (put (put (put (put (put (put (put (put (put (put (put e42 30 v44) 31 v46) 10 v48) 32 v56) 33 v58) 34 v60) 35 v62) 36 v62) 37 v65) 38 v68) 39 v73) 40 v76) 41 v78) 42 v80) 5 (Value.pointer none)) w82) (fun (K79 : KT) =>
K79 .normal (put (put (put (put (put (put (put (put (put (put (put (put (put e42 30 v44) 31 v46) 10 v48) 32 v56) 33 v58) 34 v60) 35 v62) 36 v62) 37 v65) 38 v68) 39 v73) 40 v76) 41 v78) w77) (thenK (fun e83 w84 =>
bindV (pLoad P 32 (e83 6) w84) fun v85 w86 =>
bindV (pFieldAddr P 63 (e83 10) 0 w86) fun v87 w88 =>
bindV (pLoad P 9 v87 w88) fun v89 w90 =>
bindV (pFieldAddr P 63 (e83 10) 1 w90) fun v91 w92 =>
bindV (pLoad P 61 v91 w92) fun v93 w94 =>
callE P 18 #[v85, v89, v93] w94 (fun v97 w98 =>
bindV (pExtract P v97 0 w98) fun v99 w100 =>
bindV (pExtract P v97 1 w100) fun v101 w102 =>
bindU (pStore P 32 (e83 6) v99 w102) fun w103 =>
bindV (pLoad P 54 (e83 8) w103) fun v104 w105 =>
bindV (pFieldAddr P 63 (e83 10) 0 w105) fun v106 w107 =>
bindV (pLoad P 9 v106 w107) fun v108 w109 =>
bindV (pFieldAddr P 63 (e83 10) 1 w109) fun v110 w111 =>
bindV (pLoad P 61 v110 w111) fun v112 w113 =>
callE P 19 #[v104, v108, v112] w113 (fun v116 w117 =>
bindV (pExtract P v116 0 w117) fun v118 w119 =>
bindV (pExtract P v116 1 w119) fun v120 w121 =>
bindU (pStore P 54 (e83 8) v118 w121) fun w122 =>
K51 .normal (put (put (put (put (put (put (put (put (put (put (put (put (put (put (put (put (put (put e83 44 v85) 45 v87) 46 v89) 47 v91) 48 v93) 49 v97) 43 v97) 50 v99) 51 v101) 53 v104) 54 v106) 55 v108) 56 v110) 57 v112) 58 v116) 52 v116) 59 v118) 60 v120) w122) (fun c114 w115 => K51 (.panic c114) (put (put (put (put (put (put (put (put (put (put (put (put (put (put e83 44 v85) 45 v87) 46 v89) 47 v91) 48 v93) 49 v97) 43 v97) 50 v99) 51 v101) 53 v104) 54 v106) 55 v108) 56 v110) 57 v112) w115)) (fun c95 w96 => K51 (.panic c95) (put (put (put (put (put e83 44 v85) 45 v87) 46 v89) 47 v91) 48 v93) w96)) K51)) w74) w69) w66) w63) K)
def F5 (a0 : Value) (a1 : Value) (w : World) (R : Ending → World → Prop) : Prop :=
bindV (pAlloc P 32 w) fun v1 w2 =>
callE P 16 #[a0] w2 (fun v5 w6 =>
bindV (pExtract P v5 0 w6) fun v7 w8 =>
bindV (pExtract P v5 1 w8) fun v9 w10 =>
bindV (pAlloc P 32 w10) fun v11 w12 =>
bindU (pStore P 32 v11 v7 w12) fun w13 =>
bindV (pBin P BinOp.neq 26 true v9 (Value.int IntKind.i64 0) w13) fun v14 w15 =>
grdE v14 false (fun (k16 : Value → World → Prop) => k16 a1 w15) (fun v17 w18 =>
grdE v14 false (fun (k19 : Value → World → Prop) => bindV (pBuiltin P Builtin.len #[22] 3 [v17] w18) k19) (fun v20 w21 =>
grdE v14 false (fun (k22 : Value → World → Prop) => bindV (pBin P BinOp.gtr 3 true v20 (Value.int IntKind.i64 60) w21) k22) (fun v23 w24 =>
pickE v14 (Value.bool true) v23 fun v25 =>
condE v25 (fun (K26 : KT) =>
bindV (pLoad P 32 v11 w24) fun v27 w28 =>
bindU (pStore P 32 v1 v27 w28) fun w29 =>
K26 .ret (put (put (put (put (put (put (put (put (put (put (put (put (put (put (put (put (put (put (argE [a0, a1]) 4 v1) 5 (Value.pointer none)) 12 a0) 13 v5) 11 v5) 14 v7) 15 v9) 6 v11) 7 v9) 16 v9) 17 v14) 18 v14) 19 v17) 20 v20) 21 v23) 22 v25) 23 v27) 5 (Value.pointer none)) w29) (fun (K26 : KT) =>
K26 .normal (put (put (put (put (put (put (put (put (put (put (put (put (put (put (put (put (argE [a0, a1]) 4 v1) 5 (Value.pointer none)) 12 a0) 13 v5) 11 v5) 14 v7) 15 v9) 6 v11) 7 v9) 16 v9) 17 v14) 18 v14) 19 v17) 20 v20) 21 v23) 22 v25) w24) (thenK (fun e30 w31 =>
bindV (pBuild P 54 [(1, (e30 0))] w31) fun v32 w33 =>
bindV (pAlloc P 54 w33) fun v34 w35 =>
bindU (pStore P 54 v34 v32 w35) fun w36 =>
bindV (pBuiltin P Builtin.len #[22] 3 [(e30 1)] w36) fun v37 w38 =>
loopE F5B0 (put (put (put (put (put (put e30 24 (e30 0)) 25 v32) 8 v34) 26 (e30 1)) 27 v37) 28 (Value.int IntKind.i64 0)) w38 (blockK 0 (thenK (fun e123 w124 =>
bindV (pLoad P 32 (e123 6) w124) fun v125 w126 =>
bindU (pStore P 32 (e123 4) v125 w126) fun w127 =>
topK P [(ResultVar.cell 4 32), (ResultVar.tmp 5)] R .ret (put (put e123 62 v125) 5 (e123 8)) w127) (topK P [(ResultVar.cell 4 32), (ResultVar.tmp 5)] R)))) (topK P [(ResultVar.cell 4 32), (ResultVar.tmp 5)] R))) w21) w18) w15) (fun c3 w4 => R (.panicked c3) w4)
theorem F5ok {w : World} {R : Ending → World → Prop} {a0 : Value} {a1 : Value} (h : F5 a0 a1 w R) : Calls P 5 #[a0, a1] w R :=
  calls_of_ev bodies mixed (c := bodyOf Tryz.f5) (nt := 63) (rs := [(ResultVar.cell 4 32), (ResultVar.tmp 5)]) (args := [a0, a1]) (fn := Tryz.f5) (by kernel_rfl) (by kernel_rfl) (by kernel_rfl) (by kernel_rfl) (by kernel_rfl) (by simp)
    (eq_mp (show F5 a0 a1 w R = ev P C (bodyOf Tryz.f5) (argE [a0, a1]) w (topK P [(ResultVar.cell 4 32), (ResultVar.tmp 5)] R) by kernel_rfl) h)
/-! ### (moiety/moietytop.Fall).big -/
def F6 (a0 : Value) (w : World) (R : Ending → World → Prop) : Prop :=
bindV (pBox P 25 a0 w) fun v1 w2 =>
bindV (pFieldAddr P 25 v1 1 w2) fun v3 w4 =>
bindV (pLoad P 23 v3 w4) fun v5 w6 =>
bindV (pBuiltin P Builtin.len #[23] 3 [v5] w6) fun v7 w8 =>
bindV (pBin P BinOp.gtr 3 true v7 (Value.int IntKind.i64 300) w8) fun v9 w10 =>
R (.returned v9) w10
theorem F6ok {w : World} {R : Ending → World → Prop} {a0 : Value} (h : F6 a0 w R) : Calls P 6 #[a0] w R :=
  calls_of_ev bodies mixed (c := bodyOf Tryz.f6) (nt := 7) (rs := [(ResultVar.tmp 2)]) (args := [a0]) (fn := Tryz.f6) (by kernel_rfl) (by kernel_rfl) (by kernel_rfl) (by kernel_rfl) (by kernel_rfl) (by simp)
    (eq_mp (show F6 a0 w R = ev P C (bodyOf Tryz.f6) (argE [a0]) w (topK P [(ResultVar.tmp 2)] R) by kernel_rfl) h)
/-! ### moiety/moietylaw09.Is -/
def F15B0 (e : Env) (w : World) (K : KT) : Prop :=
bindV (pBin P BinOp.lss 3 false (e 26) (e 25) w) fun v58 w59 =>
condE v58 (fun (K60 : KT) =>
K60 .normal (put e 27 v58) w59) (fun (K60 : KT) =>
K60 (.exit 0) (put e 27 v58) w59) (thenK (fun e61 w62 =>
bindV (pIndexAddr P 22 (e61 24) (e61 26) w62) fun v63 w64 =>
bindV (pLoad P 63 v63 w64) fun v65 w66 =>
bindV (pAlloc P 63 w66) fun v67 w68 =>
bindU (pStore P 63 v67 v65 w68) fun w69 =>
bindV (pLoad P 32 (e61 2) w69) fun v70 w71 =>
callE P 21 #[v70, (e61 26)] w71 (fun v74 w75 =>
bindV (pExtract P v74 0 w75) fun v76 w77 =>
bindV (pExtract P v74 1 w77) fun v78 w79 =>
bindV (pExtract P v74 2 w79) fun v80 w81 =>
bindV (pAlloc P 61 w81) fun v82 w83 =>
bindU (pStore P 61 v82 v78 w83) fun w84 =>
bindV (pUn P UnOp.not v80 w84) fun v85 w86 =>
grdE v85 false (fun (k87 : Value → World → Prop) => k87 v76 w86) (fun v88 w89 =>
grdE v85 false (fun (k90 : Value → World → Prop) => bindV (pFieldAddr P 63 v67 0 w89) k90) (fun v91 w92 =>
grdE v85 false (fun (k93 : Value → World → Prop) => bindV (pLoad P 9 v91 w92) k93) (fun v94 w95 =>
grdE v85 false (fun (k96 : Value → World → Prop) => bindV (pBin P BinOp.neq 9 false v88 v94 w95) k96) (fun v97 w98 =>
pickE v85 (Value.bool true) v97 fun v99 =>
grdE v99 false (fun (k100 : Value → World → Prop) => bindV (pLoad P 61 v82 w98) k100) (fun v101 w102 =>
grdE v99 false (fun (k103 : Value → World → Prop) => bindV (pFieldAddr P 63 v67 1 w102) k103) (fun v104 w105 =>
grdE v99 false (fun (k106 : Value → World → Prop) => bindV (pLoad P 61 v104 w105) k106) (fun v107 w108 =>
grdE v99 false (fun (k109 : Value → World → Prop) => callE P 40 #[v101, v107] w108 k109 (fun c110 w111 => K (.panic c110) (put (put (put (put (put (put (put (put (put (put (put (put (put (put (put (put (put (put (put (put (put (put (put (put (put (put (put e61 28 (e61 26)) 29 v63) 30 v65) 6 v67) 5 (e61 26)) 32 v70) 33 (e61 26)) 34 v74) 31 v74) 35 v76) 36 v78) 37 v80) 8 v82) 7 v76) 9 v80) 38 v80) 39 v85) 40 v85) 41 v88) 42 v91) 43 v94) 44 v97) 45 v99) 46 v99) 47 v101) 48 v104) 49 v107) w111)) (fun v112 w113 =>
grdE v99 false (fun (k114 : Value → World → Prop) => bindV (pUn P UnOp.not v112 w113) k114) (fun v115 w116 =>
pickE v99 (Value.bool true) v115 fun v117 =>
condE v117 (fun (K118 : KT) =>
K118 .ret (put (put (put (put (put (put (put (put (put (put (put (put (put (put (put (put (put (put (put (put (put (put (put (put (put (put (put (put (put (put (put e61 28 (e61 26)) 29 v63) 30 v65) 6 v67) 5 (e61 26)) 32 v70) 33 (e61 26)) 34 v74) 31 v74) 35 v76) 36 v78) 37 v80) 8 v82) 7 v76) 9 v80) 38 v80) 39 v85) 40 v85) 41 v88) 42 v91) 43 v94) 44 v97) 45 v99) 46 v99) 47 v101) 48 v104) 49 v107) 50 v112) 51 v115) 52 v117) 4 (Value.int IntKind.i64 0)) w116) (fun (K118 : KT) =>
K118 .normal (put (put (put (put (put (put (put (put (put (put (put (put (put (put (put (put (put (put (put (put (put (put (put (put (put (put (put (put (put (put e61 28 (e61 26)) 29 v63) 30 v65) 6 v67) 5 (e61 26)) 32 v70) 33 (e61 26)) 34 v74) 31 v74) 35 v76) 36 v78) 37 v80) 8 v82) 7 v76) 9 v80) 38 v80) 39 v85) 40 v85) 41 v88) 42 v91) 43 v94) 44 v97) 45 v99) 46 v99) 47 v101) 48 v104) 49 v107) 50 v112) 51 v115) 52 v117) w116) (blockK 1 (thenK (fun e119 w120 =>
bindV (pBin P BinOp.add 3 true (e119 26) (Value.int IntKind.i64 1) w120) fun v121 w122 =>
K .normal (put (put e119 53 v121) 26 v121) w122) K))) w113) w108) w105) w102) w98) w95) w92) w89) w86) (fun c72 w73 => K (.panic c72) (put (put (put (put (put (put (put e61 28 (e61 26)) 29 v63) 30 v65) 6 v67) 5 (e61 26)) 32 v70) 33 (e61 26)) w73)) K)
def F15 (a0 : Value) (a1 : Value) (w : World) (R : Ending → World → Prop) : Prop :=
bindV (pBox P 32 a0 w) fun v1 w2 =>
bindV (pBox P 54 a1 w2) fun v3 w4 =>
takeE (fun w7 => pLoad P 32 v1 w7) (drew w4) fun v5 h6 =>
takeE (fun w10 => pFieldAddr P 54 v3 0 w10) (drew w4) fun v8 h9 =>
takeE (fun w13 => pLoad P 22 v8 w13) (drew w4) fun v11 h12 =>
takeE (fun w16 => pBuiltin P Builtin.len #[22] 3 [v11] w16) (drew w4) fun v14 h15 =>
callE P 20 #[v5] (drew w4) (fun v20 w21 =>
heldE [h15, h12, h9] w21 (takeE (fun w24 => pBin P BinOp.neq 3 false v20 v14 w24) w21 fun v22 h23 =>
takeE (fun w27 => some (v22, w27)) w21 fun v25 h26 =>
takeE (fun w30 => qGrd v25 false (fun w30 => pLoad P 32 v1 w30) w30) w21 fun v28 h29 =>
takeE (fun w33 => qGrd v25 false (fun w33 => pFieldAddr P 54 v3 1 w33) w33) w21 fun v31 h32 =>
takeE (fun w36 => qGrd v25 false (fun w36 => pLoad P 3 v31 w36) w36) w21 fun v34 h35 =>
grdE v25 false (fun (k38 : Value → World → Prop) => callE P 39 #[v28] w21 k38 (fun c39 w40 => ∀ (e37 : Env), agreeOff [10, 11, 12, 13, 14, 15, 16, 17, 19, 20] (put (put (put (put (put (put (put (put (put (put (put (put (put (argE [a0, a1]) 2 v1) 3 v3) 4 (Value.int IntKind.i64 0)) 10 v5) 12 v8) 13 v11) 14 v14) 11 v20) 15 v22) 16 v25) 17 v28) 19 v31) 20 v34) e37 → R (.panicked c39) w40)) (fun v41 w42 =>
heldE [h35, h32] w42 (takeE (fun w45 => qGrd v25 false (fun w45 => pBin P BinOp.neq 3 false v41 v34 w45) w45) w42 fun v43 h44 =>
takeE (fun w48 => qPick v25 (Value.bool true) v43 w48) w42 fun v46 h47 =>
condE v46 (fun (K49 : KT) =>
K49 .ret (put (put (put (put (put (put (put (put (put (put (put (put (put (put (put (put (put (argE [a0, a1]) 2 v1) 3 v3) 4 (Value.int IntKind.i64 0)) 10 v5) 12 v8) 13 v11) 14 v14) 11 v20) 15 v22) 16 v25) 17 v28) 19 v31) 20 v34) 18 v41) 21 v43) 22 v46) 4 (Value.int IntKind.i64 0)) w42) (fun (K49 : KT) =>
K49 .normal (put (put (put (put (put (put (put (put (put (put (put (put (put (put (put (put (argE [a0, a1]) 2 v1) 3 v3) 4 (Value.int IntKind.i64 0)) 10 v5) 12 v8) 13 v11) 14 v14) 11 v20) 15 v22) 16 v25) 17 v28) 19 v31) 20 v34) 18 v41) 21 v43) 22 v46) w42) (thenK (fun e50 w51 =>
bindV (pFieldAddr P 54 (e50 3) 0 w51) fun v52 w53 =>
bindV (pLoad P 22 v52 w53) fun v54 w55 =>
bindV (pBuiltin P Builtin.len #[22] 3 [v54] w55) fun v56 w57 =>
loopE F15B0 (put (put (put (put e50 23 v52) 24 v54) 25 v56) 26 (Value.int IntKind.i64 0)) w57 (blockK 0 (thenK (fun e123 w124 =>
R (.returned (Value.int IntKind.i64 1)) w124) (topK P [(ResultVar.tmp 4)] R)))) (topK P [(ResultVar.tmp 4)] R)))) w21)) (fun c18 w19 => ∀ (e17 : Env), agreeOff [10, 12, 13, 14] (put (put (put (put (put (put (put (argE [a0, a1]) 2 v1) 3 v3) 4 (Value.int IntKind.i64 0)) 10 v5) 12 v8) 13 v11) 14 v14) e17 → R (.panicked c18) w19)
theorem F15ok {w : World} {R : Ending → World → Prop} {a0 : Value} {a1 : Value} (h : F15 a0 a1 w R) : Calls P 15 #[a0, a1] w R :=
  calls_of_ev bodies mixed (c := bodyOf Tryz.f15) (nt := 54) (rs := [(ResultVar.tmp 4)]) (args := [a0, a1]) (fn := Tryz.f15) (by kernel_rfl) (by kernel_rfl) (by kernel_rfl) (by kernel_rfl) (by kernel_rfl) (by simp)
    (eq_mp (show F15 a0 a1 w R = ev P C (bodyOf Tryz.f15) (argE [a0, a1]) w (topK P [(ResultVar.tmp 4)] R) by kernel_rfl) h)
/-! ### (moiety/moietyref09.Shelf).Set -/
def F19 (a0 : Value) (a1 : Value) (a2 : Value) (w : World) (R : Ending → World → Prop) : Prop :=
bindV (pBox P 54 a0 w) fun v1 w2 =>
bindV (pBox P 61 a2 w2) fun v3 w4 =>
bindV (pAlloc P 54 w4) fun v5 w6 =>
bindV (pBuiltin P Builtin.len #[9] 3 [a1] w6) fun v7 w8 =>
bindV (pBin P BinOp.lss 3 true v7 (Value.int IntKind.i64 1) w8) fun v9 w10 =>
grdE v9 false (fun (k11 : Value → World → Prop) => k11 a1 w10) (fun v12 w13 =>
grdE v9 false (fun (k14 : Value → World → Prop) => bindV (pBuiltin P Builtin.len #[9] 3 [v12] w13) k14) (fun v15 w16 =>
grdE v9 false (fun (k17 : Value → World → Prop) => bindV (pBin P BinOp.gtr 3 true v15 (Value.int IntKind.i64 24) w16) k17) (fun v18 w19 =>
pickE v9 (Value.bool true) v18 fun v20 =>
condE v20 (fun (K21 : KT) =>
bindV (pLoad P 54 v1 w19) fun v22 w23 =>
bindU (pStore P 54 v5 v22 w23) fun w24 =>
K21 .ret (put (put (put (put (put (put (put (put (put (put (put (put (put (put (argE [a0, a1, a2]) 3 v1) 5 v3) 6 v5) 7 (Value.int IntKind.i64 0)) 12 a1) 13 v7) 14 v9) 15 v9) 16 v12) 17 v15) 18 v18) 19 v20) 20 v22) 7 (Value.int IntKind.i64 1)) w24) (fun (K21 : KT) =>
K21 .normal (put (put (put (put (put (put (put (put (put (put (put (put (argE [a0, a1, a2]) 3 v1) 5 v3) 6 v5) 7 (Value.int IntKind.i64 0)) 12 a1) 13 v7) 14 v9) 15 v9) 16 v12) 17 v15) 18 v18) 19 v20) w19) (thenK (fun e25 w26 =>
bindV (pLoad P 61 (e25 5) w26) fun v27 w28 =>
callE P 45 #[v27] w28 (fun v31 w32 =>
bindV (pBin P BinOp.neq 3 true v31 (Value.int IntKind.i64 0) w32) fun v33 w34 =>
condE v33 (fun (K35 : KT) =>
bindV (pLoad P 54 (e25 3) w34) fun v36 w37 =>
bindU (pStore P 54 (e25 6) v36 w37) fun w38 =>
K35 .ret (put (put (put (put (put (put (put (put e25 21 v27) 22 v31) 8 v31) 23 v31) 24 v33) 25 v36) 26 v31) 7 v31) w38) (fun (K35 : KT) =>
K35 .normal (put (put (put (put (put e25 21 v27) 22 v31) 8 v31) 23 v31) 24 v33) w34) (thenK (fun e39 w40 =>
bindV (pLoad P 54 (e39 3) w40) fun v41 w42 =>
callE P 46 #[v41, (e39 1)] w42 (fun v45 w46 =>
bindV (pFieldAddr P 54 (e39 3) 0 w46) fun v47 w48 =>
bindV (pLoad P 22 v47 w48) fun v49 w50 =>
bindV (pBuiltin P Builtin.len #[22] 3 [v49] w50) fun v51 w52 =>
bindV (pBin P BinOp.lss 3 false v45 v51 w52) fun v53 w54 =>
grdE v53 true (fun (k55 : Value → World → Prop) => bindV (pFieldAddr P 54 (e39 3) 0 w54) k55) (fun v56 w57 =>
grdE v53 true (fun (k58 : Value → World → Prop) => bindV (pLoad P 22 v56 w57) k58) (fun v59 w60 =>
grdE v53 true (fun (k61 : Value → World → Prop) => k61 v45 w60) (fun v62 w63 =>
grdE v53 true (fun (k64 : Value → World → Prop) => bindV (pIndexAddr P 22 v59 v62 w63) k64) (fun v65 w66 =>
grdE v53 true (fun (k67 : Value → World → Prop) => bindV (pFieldAddr P 63 v65 0 w66) k67) (fun v68 w69 =>
grdE v53 true (fun (k70 : Value → World → Prop) => bindV (pLoad P 9 v68 w69) k70) (fun v71 w72 =>
grdE v53 true (fun (k73 : Value → World → Prop) => k73 (e39 1) w72) (fun v74 w75 =>
grdE v53 true (fun (k76 : Value → World → Prop) => bindV (pBin P BinOp.eql 9 false v71 v74 w75) k76) (fun v77 w78 =>
pickE v53 v77 (Value.bool false) fun v79 =>
bindV (pUn P UnOp.not v79 w78) fun v80 w81 =>
grdE v80 true (fun (k82 : Value → World → Prop) => bindV (pFieldAddr P 54 (e39 3) 0 w81) k82) (fun v83 w84 =>
grdE v80 true (fun (k85 : Value → World → Prop) => bindV (pLoad P 22 v83 w84) k85) (fun v86 w87 =>
grdE v80 true (fun (k88 : Value → World → Prop) => bindV (pBuiltin P Builtin.len #[22] 3 [v86] w87) k88) (fun v89 w90 =>
grdE v80 true (fun (k91 : Value → World → Prop) => bindV (pFieldAddr P 54 (e39 3) 1 w90) k91) (fun v92 w93 =>
grdE v80 true (fun (k94 : Value → World → Prop) => bindV (pLoad P 3 v92 w93) k94) (fun v95 w96 =>
grdE v80 true (fun (k97 : Value → World → Prop) => bindV (pBin P BinOp.geq 3 false v89 v95 w96) k97) (fun v98 w99 =>
pickE v80 v98 (Value.bool false) fun v100 =>
condE v100 (fun (K101 : KT) =>
bindV (pLoad P 54 (e39 3) w99) fun v102 w103 =>
bindU (pStore P 54 (e39 6) v102 w103) fun w104 =>
K101 .ret (put (put (put (put (put (put (put (put (put (put (put (put (put (put (put (put (put (put (put (put (put (put (put (put (put (put (put (put (put (put (put (put e39 27 v41) 28 (e39 1)) 29 v45) 9 v45) 30 v45) 31 v47) 32 v49) 33 v51) 34 v53) 35 v53) 36 v56) 37 v59) 38 v62) 39 v65) 40 v68) 41 v71) 42 v74) 43 v77) 44 v79) 10 v79) 45 v79) 46 v80) 47 v80) 48 v83) 49 v86) 50 v89) 51 v92) 52 v95) 53 v98) 54 v100) 55 v102) 7 (Value.int IntKind.i64 8)) w104) (fun (K101 : KT) =>
K101 .normal (put (put (put (put (put (put (put (put (put (put (put (put (put (put (put (put (put (put (put (put (put (put (put (put (put (put (put (put (put (put e39 27 v41) 28 (e39 1)) 29 v45) 9 v45) 30 v45) 31 v47) 32 v49) 33 v51) 34 v53) 35 v53) 36 v56) 37 v59) 38 v62) 39 v65) 40 v68) 41 v71) 42 v74) 43 v77) 44 v79) 10 v79) 45 v79) 46 v80) 47 v80) 48 v83) 49 v86) 50 v89) 51 v92) 52 v95) 53 v98) 54 v100) w99) (thenK (fun e105 w106 =>
bindV (pBuildSlice P 22 0 [] w106) fun v107 w108 =>
bindV (pFieldAddr P 54 (e105 3) 0 w108) fun v109 w110 =>
bindV (pLoad P 22 v109 w110) fun v111 w112 =>
bindV (pSlice P 22 v111 none (some (e105 9)) none w112) fun v113 w114 =>
bindV (pBuiltin P Builtin.append #[22, 22] 22 [v107, v113] w114) fun v115 w116 =>
bindV (pLoad P 61 (e105 5) w116) fun v117 w118 =>
bindV (pBuild P 63 [(0, (e105 1)), (1, v117)] w118) fun v119 w120 =>
bindV (pBuildSlice P 22 1 [(0, v119)] w120) fun v121 w122 =>
bindV (pBuiltin P Builtin.append #[22, 22] 22 [v115, v121] w122) fun v123 w124 =>
condE (e105 10) (fun (K125 : KT) =>
bindV (pBin P BinOp.add 3 true (e105 9) (Value.int IntKind.i64 1) w124) fun v126 w127 =>
K125 .normal (put (put (put (put (put (put (put (put (put (put (put (put (put (put (put (put (put (put e105 56 v107) 57 v109) 58 v111) 59 (e105 9)) 60 v113) 61 v115) 11 v115) 62 v115) 63 (e105 1)) 64 v117) 65 v119) 66 v121) 67 v123) 11 v123) 68 (e105 10)) 69 (e105 9)) 70 v126) 9 v126) w127) (fun (K125 : KT) =>
K125 .normal (put (put (put (put (put (put (put (put (put (put (put (put (put (put (put e105 56 v107) 57 v109) 58 v111) 59 (e105 9)) 60 v113) 61 v115) 11 v115) 62 v115) 63 (e105 1)) 64 v117) 65 v119) 66 v121) 67 v123) 11 v123) 68 (e105 10)) w124) (thenK (fun e128 w129 =>
takeE (fun w132 => some ((e128 11), w132)) (drew w129) fun v130 h131 =>
takeE (fun w135 => pFieldAddr P 54 (e128 3) 0 w135) (drew w129) fun v133 h134 =>
takeE (fun w138 => pLoad P 22 v133 w138) (drew w129) fun v136 h137 =>
takeE (fun w141 => some ((e128 9), w141)) (drew w129) fun v139 h140 =>
takeE (fun w144 => pSlice P 22 v136 (some v139) none none w144) (drew w129) fun v142 h143 =>
takeE (fun w147 => pFieldAddr P 54 (e128 3) 1 w147) (drew w129) fun v145 h146 =>
takeE (fun w150 => pLoad P 3 v145 w150) (drew w129) fun v148 h149 =>
bindV (pBuiltin P Builtin.append #[22, 22] 22 [v130, v142] (drew w129)) fun v152 w153 =>
heldE [h149, h146] w153 (bindV (pBuild P 54 [(0, v152), (1, v148)] w153) fun v155 w156 =>
bindU (pStore P 54 (e128 6) v155 w156) fun w158 =>
topK P [(ResultVar.cell 6 54), (ResultVar.tmp 7)] R .ret (put (put (put (put (put (put (put (put (put (put e128 71 v130) 72 v133) 73 v136) 74 v139) 75 v142) 77 v145) 78 v148) 76 v152) 79 v155) 7 (Value.int IntKind.i64 0)) w158)) (topK P [(ResultVar.cell 6 54), (ResultVar.tmp 7)] R))) (topK P [(ResultVar.cell 6 54), (ResultVar.tmp 7)] R))) w96) w93) w90) w87) w84) w81) w75) w72) w69) w66) w63) w60) w57) w54) (fun c43 w44 => R (.panicked c43) w44)) (topK P [(ResultVar.cell 6 54), (ResultVar.tmp 7)] R))) (fun c29 w30 => R (.panicked c29) w30)) (topK P [(ResultVar.cell 6 54), (ResultVar.tmp 7)] R))) w16) w13) w10
theorem F19ok {w : World} {R : Ending → World → Prop} {a0 : Value} {a1 : Value} {a2 : Value} (h : F19 a0 a1 a2 w R) : Calls P 19 #[a0, a1, a2] w R :=
  calls_of_ev bodies mixed (c := bodyOf Tryz.f19) (nt := 80) (rs := [(ResultVar.cell 6 54), (ResultVar.tmp 7)]) (args := [a0, a1, a2]) (fn := Tryz.f19) (by kernel_rfl) (by kernel_rfl) (by kernel_rfl) (by kernel_rfl) (by kernel_rfl) (by simp)
    (eq_mp (show F19 a0 a1 a2 w R = ev P C (bodyOf Tryz.f19) (argE [a0, a1, a2]) w (topK P [(ResultVar.cell 6 54), (ResultVar.tmp 7)] R) by kernel_rfl) h)
/-! ### (moiety/moietyref09.Shelf).Find -/
def F46B0 (e : Env) (w : World) (K : KT) : Prop :=
bindV (pFieldAddr P 54 (e 2) 0 w) fun v3 w4 =>
bindV (pLoad P 22 v3 w4) fun v5 w6 =>
bindV (pBuiltin P Builtin.len #[22] 3 [v5] w6) fun v7 w8 =>
bindV (pBin P BinOp.lss 3 false (e 5) v7 w8) fun v9 w10 =>
grdE v9 true (fun (k11 : Value → World → Prop) => bindV (pFieldAddr P 54 (e 2) 0 w10) k11) (fun v12 w13 =>
grdE v9 true (fun (k14 : Value → World → Prop) => bindV (pLoad P 22 v12 w13) k14) (fun v15 w16 =>
grdE v9 true (fun (k17 : Value → World → Prop) => k17 (e 5) w16) (fun v18 w19 =>
grdE v9 true (fun (k20 : Value → World → Prop) => bindV (pIndexAddr P 22 v15 v18 w19) k20) (fun v21 w22 =>
grdE v9 true (fun (k23 : Value → World → Prop) => bindV (pFieldAddr P 63 v21 0 w22) k23) (fun v24 w25 =>
grdE v9 true (fun (k26 : Value → World → Prop) => bindV (pLoad P 9 v24 w25) k26) (fun v27 w28 =>
grdE v9 true (fun (k29 : Value → World → Prop) => k29 (e 1) w28) (fun v30 w31 =>
grdE v9 true (fun (k32 : Value → World → Prop) => bindV (pBin P BinOp.lss 9 false v27 v30 w31) k32) (fun v33 w34 =>
pickE v9 v33 (Value.bool false) fun v35 =>
condE v35 (fun (K36 : KT) =>
K36 .normal (put (put (put (put (put (put (put (put (put (put (put (put (put (put (put e 6 (e 5)) 7 v3) 8 v5) 9 v7) 10 v9) 11 v9) 12 v12) 13 v15) 14 v18) 15 v21) 16 v24) 17 v27) 18 v30) 19 v33) 20 v35) w34) (fun (K36 : KT) =>
K36 (.exit 0) (put (put (put (put (put (put (put (put (put (put (put (put (put (put (put e 6 (e 5)) 7 v3) 8 v5) 9 v7) 10 v9) 11 v9) 12 v12) 13 v15) 14 v18) 15 v21) 16 v24) 17 v27) 18 v30) 19 v33) 20 v35) w34) (thenK (fun e37 w38 =>
bindV (pBin P BinOp.add 3 true (e37 5) (Value.int IntKind.i64 1) w38) fun v39 w40 =>
K .normal (put (put (put e37 21 (e37 5)) 22 v39) 5 v39) w40) K)) w31) w28) w25) w22) w19) w16) w13) w10
def F46 (a0 : Value) (a1 : Value) (w : World) (R : Ending → World → Prop) : Prop :=
bindV (pBox P 54 a0 w) fun v1 w2 =>
loopE F46B0 (put (put (put (argE [a0, a1]) 2 v1) 4 (Value.int IntKind.i64 0)) 5 (Value.int IntKind.i64 0)) w2 (blockK 0 (thenK (fun e41 w42 =>
R (.returned (e41 5)) w42) (topK P [(ResultVar.tmp 4)] R)))
theorem F46ok {w : World} {R : Ending → World → Prop} {a0 : Value} {a1 : Value} (h : F46 a0 a1 w R) : Calls P 46 #[a0, a1] w R :=
  calls_of_ev bodies mixed (c := bodyOf Tryz.f46) (nt := 24) (rs := [(ResultVar.tmp 4)]) (args := [a0, a1]) (fn := Tryz.f46) (by kernel_rfl) (by kernel_rfl) (by kernel_rfl) (by kernel_rfl) (by kernel_rfl) (by simp)
    (eq_mp (show F46 a0 a1 w R = ev P C (bodyOf Tryz.f46) (argE [a0, a1]) w (topK P [(ResultVar.tmp 4)] R) by kernel_rfl) h)
end Go.Proofs.YtieejbkbdfccdaaGreat
