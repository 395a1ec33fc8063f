/- The functions' residual programs, printed by gen.py. -/
import Derived.Test.YtieejbkbdfccdaaGreatBaseD
set_option linter.unusedVariables false
set_option linter.unusedSimpArgs false
namespace Go.Proofs.YtieejbkbdfccdaaGreat
open Go Env
/-! ### moiety/pin.Check -/
def F4 (a0 : Value) (w : World) (R : Ending → World → Prop) : Prop :=
bindV (pBox P 29 a0 w) fun v1 w2 =>
bindV (pFieldAddr P 29 v1 0 w2) fun v3 w4 =>
bindV (pLoad P 3 v3 w4) fun v5 w6 =>
bindV (pBin P BinOp.lss 3 true v5 (Value.int IntKind.i64 1) w6) fun v7 w8 =>
grdE v7 false (fun (k9 : Value → World → Prop) => bindV (pFieldAddr P 29 v1 0 w8) k9) (fun v10 w11 =>
grdE v7 false (fun (k12 : Value → World → Prop) => bindV (pLoad P 3 v10 w11) k12) (fun v13 w14 =>
grdE v7 false (fun (k15 : Value → World → Prop) => bindV (pBin P BinOp.gtr 3 true v13 (Value.int IntKind.i64 1099511627776) w14) k15) (fun v16 w17 =>
pickE v7 (Value.bool true) v16 fun v18 =>
grdE v18 false (fun (k19 : Value → World → Prop) => bindV (pFieldAddr P 29 v1 1 w17) k19) (fun v20 w21 =>
grdE v18 false (fun (k22 : Value → World → Prop) => bindV (pLoad P 3 v20 w21) k22) (fun v23 w24 =>
grdE v18 false (fun (k25 : Value → World → Prop) => bindV (pBin P BinOp.lss 3 true v23 (Value.int IntKind.i64 0) w24) k25) (fun v26 w27 =>
pickE v18 (Value.bool true) v26 fun v28 =>
grdE v28 false (fun (k29 : Value → World → Prop) => bindV (pFieldAddr P 29 v1 1 w27) k29) (fun v30 w31 =>
grdE v28 false (fun (k32 : Value → World → Prop) => bindV (pLoad P 3 v30 w31) k32) (fun v33 w34 =>
grdE v28 false (fun (k35 : Value → World → Prop) => bindV (pBin P BinOp.gtr 3 true v33 (Value.int IntKind.i64 1099511627776) w34) k35) (fun v36 w37 =>
pickE v28 (Value.bool true) v36 fun v38 =>
grdE v38 false (fun (k39 : Value → World → Prop) => bindV (pFieldAddr P 29 v1 2 w37) k39) (fun v40 w41 =>
grdE v38 false (fun (k42 : Value → World → Prop) => bindV (pLoad P 3 v40 w41) k42) (fun v43 w44 =>
grdE v38 false (fun (k45 : Value → World → Prop) => bindV (pBin P BinOp.lss 3 true v43 (Value.int IntKind.i64 0) w44) k45) (fun v46 w47 =>
pickE v38 (Value.bool true) v46 fun v48 =>
grdE v48 false (fun (k49 : Value → World → Prop) => bindV (pFieldAddr P 29 v1 2 w47) k49) (fun v50 w51 =>
grdE v48 false (fun (k52 : Value → World → Prop) => bindV (pLoad P 3 v50 w51) k52) (fun v53 w54 =>
grdE v48 false (fun (k55 : Value → World → Prop) => bindV (pBin P BinOp.gtr 3 true v53 (Value.int IntKind.i64 1) w54) k55) (fun v56 w57 =>
pickE v48 (Value.bool true) v56 fun v58 =>
grdE v58 false (fun (k59 : Value → World → Prop) => bindV (pFieldAddr P 29 v1 4 w57) k59) (fun v60 w61 =>
grdE v58 false (fun (k62 : Value → World → Prop) => bindV (pLoad P 3 v60 w61) k62) (fun v63 w64 =>
grdE v58 false (fun (k65 : Value → World → Prop) => bindV (pBin P BinOp.lss 3 true v63 (Value.int IntKind.i64 0) w64) k65) (fun v66 w67 =>
pickE v58 (Value.bool true) v66 fun v68 =>
grdE v68 false (fun (k69 : Value → World → Prop) => bindV (pFieldAddr P 29 v1 4 w67) k69) (fun v70 w71 =>
grdE v68 false (fun (k72 : Value → World → Prop) => bindV (pLoad P 3 v70 w71) k72) (fun v73 w74 =>
grdE v68 false (fun (k75 : Value → World → Prop) => bindV (pBin P BinOp.gtr 3 true v73 (Value.int IntKind.i64 1) w74) k75) (fun v76 w77 =>
pickE v68 (Value.bool true) v76 fun v78 =>
grdE v78 false (fun (k79 : Value → World → Prop) => bindV (pFieldAddr P 29 v1 5 w77) k79) (fun v80 w81 =>
grdE v78 false (fun (k82 : Value → World → Prop) => bindV (pLoad P 3 v80 w81) k82) (fun v83 w84 =>
grdE v78 false (fun (k85 : Value → World → Prop) => bindV (pBin P BinOp.lss 3 true v83 (Value.int IntKind.i64 1) w84) k85) (fun v86 w87 =>
pickE v78 (Value.bool true) v86 fun v88 =>
grdE v88 false (fun (k89 : Value → World → Prop) => bindV (pFieldAddr P 29 v1 5 w87) k89) (fun v90 w91 =>
grdE v88 false (fun (k92 : Value → World → Prop) => bindV (pLoad P 3 v90 w91) k92) (fun v93 w94 =>
grdE v88 false (fun (k95 : Value → World → Prop) => bindV (pBin P BinOp.gtr 3 true v93 (Value.int IntKind.i64 4096) w94) k95) (fun v96 w97 =>
pickE v88 (Value.bool true) v96 fun v98 =>
grdE v98 false (fun (k99 : Value → World → Prop) => bindV (pFieldAddr P 29 v1 3 w97) k99) (fun v100 w101 =>
grdE v98 false (fun (k102 : Value → World → Prop) => bindV (pLoad P 3 v100 w101) k102) (fun v103 w104 =>
grdE v98 false (fun (k105 : Value → World → Prop) => bindV (pBin P BinOp.lss 3 true v103 (Value.int IntKind.i64 0) w104) k105) (fun v106 w107 =>
pickE v98 (Value.bool true) v106 fun v108 =>
grdE v108 false (fun (k109 : Value → World → Prop) => bindV (pFieldAddr P 29 v1 3 w107) k109) (fun v110 w111 =>
grdE v108 false (fun (k112 : Value → World → Prop) => bindV (pLoad P 3 v110 w111) k112) (fun v113 w114 =>
grdE v108 false (fun (k115 : Value → World → Prop) => bindV (pFieldAddr P 29 v1 5 w114) k115) (fun v116 w117 =>
grdE v108 false (fun (k118 : Value → World → Prop) => bindV (pLoad P 3 v116 w117) k118) (fun v119 w120 =>
grdE v108 false (fun (k121 : Value → World → Prop) => bindV (pBin P BinOp.gtr 3 false v113 v119 w120) k121) (fun v122 w123 =>
pickE v108 (Value.bool true) v122 fun v124 =>
condE v124 (fun (K125 : KT) =>
K125 .ret (put (put (put (put (put (put (put (put (put (put (put (put (put (put (put (put (put (put (put (put (put (put (put (put (put (put (put (put (put (put (put (put (put (put (put (put (put (put (put (put (put (put (put (put (put (put (put (put (put (put (put (put (put (put (put (put (put (put (put (put (put (put (put (argE [a0]) 1 v1) 2 (Value.int IntKind.i64 0)) 3 v3) 4 v5) 5 v7) 6 v7) 7 v10) 8 v13) 9 v16) 10 v18) 11 v18) 12 v20) 13 v23) 14 v26) 15 v28) 16 v28) 17 v30) 18 v33) 19 v36) 20 v38) 21 v38) 22 v40) 23 v43) 24 v46) 25 v48) 26 v48) 27 v50) 28 v53) 29 v56) 30 v58) 31 v58) 32 v60) 33 v63) 34 v66) 35 v68) 36 v68) 37 v70) 38 v73) 39 v76) 40 v78) 41 v78) 42 v80) 43 v83) 44 v86) 45 v88) 46 v88) 47 v90) 48 v93) 49 v96) 50 v98) 51 v98) 52 v100) 53 v103) 54 v106) 55 v108) 56 v108) 57 v110) 58 v113) 59 v116) 60 v119) 61 v122) 62 v124) 2 (Value.int IntKind.i64 1)) w123) (fun (K125 : KT) =>
K125 .normal (put (put (put (put (put (put (put (put (put (put (put (put (put (put (put (put (put (put (put (put (put (put (put (put (put (put (put (put (put (put (put (put (put (put (put (put (put (put (put (put (put (put (put (put (put (put (put (put (put (put (put (put (put (put (put (put (put (put (put (put (put (put (argE [a0]) 1 v1) 2 (Value.int IntKind.i64 0)) 3 v3) 4 v5) 5 v7) 6 v7) 7 v10) 8 v13) 9 v16) 10 v18) 11 v18) 12 v20) 13 v23) 14 v26) 15 v28) 16 v28) 17 v30) 18 v33) 19 v36) 20 v38) 21 v38) 22 v40) 23 v43) 24 v46) 25 v48) 26 v48) 27 v50) 28 v53) 29 v56) 30 v58) 31 v58) 32 v60) 33 v63) 34 v66) 35 v68) 36 v68) 37 v70) 38 v73) 39 v76) 40 v78) 41 v78) 42 v80) 43 v83) 44 v86) 45 v88) 46 v88) 47 v90) 48 v93) 49 v96) 50 v98) 51 v98) 52 v100) 53 v103) 54 v106) 55 v108) 56 v108) 57 v110) 58 v113) 59 v116) 60 v119) 61 v122) 62 v124) w123) (thenK (fun e126 w127 =>
R (.returned (Value.int IntKind.i64 0)) w127) (topK P [(ResultVar.tmp 2)] R))) w120) w117) w114) w111) w107) w104) w101) w97) w94) w91) w87) w84) w81) w77) w74) w71) w67) w64) w61) w57) w54) w51) w47) w44) w41) w37) w34) w31) w27) w24) w21) w17) w14) w11) w8
theorem F4ok {w : World} {R : Ending → World → Prop} {a0 : Value} (h : F4 a0 w R) : Calls P 4 #[a0] w R :=
  calls_of_ev bodies mixed (c := bodyOf Tryz.f4) (nt := 63) (rs := [(ResultVar.tmp 2)]) (args := [a0]) (fn := Tryz.f4) (by kernel_rfl) (by kernel_rfl) (by kernel_rfl) (by kernel_rfl) (by kernel_rfl) (by simp)
    (eq_mp (show F4 a0 w R = ev P C (bodyOf Tryz.f4) (argE [a0]) w (topK P [(ResultVar.tmp 2)] R) by kernel_rfl) h)
/-! ### moiety/pin.Put -/
def F10 (a0 : Value) (a1 : Value) (w : World) (R : Ending → World → Prop) : Prop :=
bindV (pBox P 29 a1 w) fun v1 w2 =>
callE P 29 #[a0] w2 (fun v5 w6 =>
bindV (pBin P BinOp.neq 26 true v5 (Value.int IntKind.i64 0) w6) fun v7 w8 =>
condE v7 (fun (K9 : KT) =>
K9 .ret (put (put (put (put (put (put (put (put (put (argE [a0, a1]) 3 v1) 4 (Value.int IntKind.i64 0)) 12 a0) 13 v5) 5 v5) 14 v5) 15 v7) 16 v5) 4 v5) w8) (fun (K9 : KT) =>
K9 .normal (put (put (put (put (put (put (put (argE [a0, a1]) 3 v1) 4 (Value.int IntKind.i64 0)) 12 a0) 13 v5) 5 v5) 14 v5) 15 v7) w8) (thenK (fun e10 w11 =>
bindV (pLoad P 29 (e10 3) w11) fun v12 w13 =>
callE P 4 #[v12] w13 (fun v16 w17 =>
bindV (pBin P BinOp.neq 26 true v16 (Value.int IntKind.i64 0) w17) fun v18 w19 =>
condE v18 (fun (K20 : KT) =>
K20 .ret (put (put (put (put (put (put (put e10 17 v12) 18 v16) 6 v16) 19 v16) 20 v18) 21 v16) 4 v16) w19) (fun (K20 : KT) =>
K20 .normal (put (put (put (put (put e10 17 v12) 18 v16) 6 v16) 19 v16) 20 v18) w19) (thenK (fun e21 w22 =>
bindV (pFieldAddr P 29 (e21 3) 0 w22) fun v23 w24 =>
bindV (pLoad P 3 v23 w24) fun v25 w26 =>
bindV (pBin P BinOp.rem 3 true v25 (Value.int IntKind.i64 2) w26) fun v27 w28 =>
callE P 30 #[(e21 0), v27, (Value.int IntKind.i64 1)] w28 (fun v31 w32 =>
bindV (pBin P BinOp.neq 26 true v31 (Value.int IntKind.i64 0) w32) fun v33 w34 =>
condE v33 (fun (K35 : KT) =>
K35 .ret (put (put (put (put (put (put (put (put (put (put (put (put e21 22 v23) 23 v25) 24 v27) 7 v27) 25 (e21 0)) 26 v27) 27 v31) 8 v31) 28 v31) 29 v33) 30 v31) 4 v31) w34) (fun (K35 : KT) =>
K35 .normal (put (put (put (put (put (put (put (put (put (put e21 22 v23) 23 v25) 24 v27) 7 v27) 25 (e21 0)) 26 v27) 27 v31) 8 v31) 28 v31) 29 v33) w34) (thenK (fun e36 w37 =>
bindV (pLoad P 29 (e36 3) w37) fun v38 w39 =>
callE P 32 #[v38] w39 (fun v42 w43 =>
callE P 31 #[v42] w43 (fun v46 w47 =>
bindV (pExtract P v46 0 w47) fun v48 w49 =>
bindV (pExtract P v46 1 w49) fun v50 w51 =>
bindV (pAlloc P 90 w51) fun v52 w53 =>
bindU (pStore P 90 v52 v48 w53) fun w54 =>
bindV (pLoad P 90 v52 w54) fun v55 w56 =>
callE P 33 #[(e36 0), (e36 7), v55] w56 (fun v59 w60 =>
bindV (pBin P BinOp.neq 26 true v59 (Value.int IntKind.i64 0) w60) fun v61 w62 =>
condE v61 (fun (K63 : KT) =>
K63 .ret (put (put (put (put (put (put (put (put (put (put (put (put (put (put (put (put (put e36 32 v38) 33 v42) 34 v46) 31 v46) 35 v48) 36 v50) 9 v52) 10 v50) 37 (e36 0)) 38 (e36 7)) 39 v55) 40 v59) 11 v59) 41 v59) 42 v61) 43 v59) 4 v59) w62) (fun (K63 : KT) =>
K63 .normal (put (put (put (put (put (put (put (put (put (put (put (put (put (put (put e36 32 v38) 33 v42) 34 v46) 31 v46) 35 v48) 36 v50) 9 v52) 10 v50) 37 (e36 0)) 38 (e36 7)) 39 v55) 40 v59) 11 v59) 41 v59) 42 v61) w62) (thenK (fun e64 w65 =>
callE P 34 #[(e64 0)] w65 (fun v68 w69 =>
R (.returned v68) w69) (fun c66 w67 => R (.panicked c66) w67)) (topK P [(ResultVar.tmp 4)] R))) (fun c57 w58 => R (.panicked c57) w58)) (fun c44 w45 => R (.panicked c44) w45)) (fun c40 w41 => R (.panicked c40) w41)) (topK P [(ResultVar.tmp 4)] R))) (fun c29 w30 => R (.panicked c29) w30)) (topK P [(ResultVar.tmp 4)] R))) (fun c14 w15 => R (.panicked c14) w15)) (topK P [(ResultVar.tmp 4)] R))) (fun c3 w4 => R (.panicked c3) w4)
theorem F10ok {w : World} {R : Ending → World → Prop} {a0 : Value} {a1 : Value} (h : F10 a0 a1 w R) : Calls P 10 #[a0, a1] w R :=
  calls_of_ev bodies mixed (c := bodyOf Tryz.f10) (nt := 46) (rs := [(ResultVar.tmp 4)]) (args := [a0, a1]) (fn := Tryz.f10) (by kernel_rfl) (by kernel_rfl) (by kernel_rfl) (by kernel_rfl) (by kernel_rfl) (by simp)
    (eq_mp (show F10 a0 a1 w R = ev P C (bodyOf Tryz.f10) (argE [a0, a1]) w (topK P [(ResultVar.tmp 4)] R) by kernel_rfl) h)
/-! ### moiety/pin.Get -/
def F13B0 (e : Env) (w : World) (K : KT) : Prop :=
bindV (pBin P BinOp.lss 3 true (e 19) (Value.int IntKind.i64 2) w) fun v17 w18 =>
condE v17 (fun (K19 : KT) =>
K19 .normal (put e 20 v17) w18) (fun (K19 : KT) =>
K19 (.exit 0) (put e 20 v17) w18) (thenK (fun e20 w21 =>
callE P 35 #[(e20 0), (e20 19)] w21 (fun v24 w25 =>
bindV (pExtract P v24 0 w25) fun v26 w27 =>
bindV (pExtract P v24 1 w27) fun v28 w29 =>
bindV (pAlloc P 90 w29) fun v30 w31 =>
bindU (pStore P 90 v30 v26 w31) fun w32 =>
bindV (pLoad P 90 v30 w32) fun v33 w34 =>
callE P 36 #[v33] w34 (fun v37 w38 =>
bindV (pExtract P v37 0 w38) fun v39 w40 =>
bindV (pExtract P v37 1 w40) fun v41 w42 =>
letK (blockK 1 (thenK (fun e44 w45 =>
bindV (pBin P BinOp.add 3 true (e44 19) (Value.int IntKind.i64 1) w45) fun v46 w47 =>
K .normal (put (put e44 56 v46) 19 v46) w47) K)) fun (K43 : KT) =>
bindV (pUn P UnOp.not v41 w42) fun v48 w49 =>
condE v48 (fun (K50 : KT) =>
K50 (.exit 1) (put (put (put (put (put (put (put (put (put (put (put (put (put (put (put (put (put (put (put e20 21 (e20 19)) 6 (e20 19)) 23 (e20 0)) 24 (e20 19)) 25 v24) 22 v24) 26 v26) 27 v28) 7 v30) 8 v28) 29 v33) 30 v37) 28 v37) 31 v39) 32 v41) 9 v39) 10 v41) 33 v41) 34 v48) w49) (fun (K50 : KT) =>
K50 .normal (put (put (put (put (put (put (put (put (put (put (put (put (put (put (put (put (put (put (put e20 21 (e20 19)) 6 (e20 19)) 23 (e20 0)) 24 (e20 19)) 25 v24) 22 v24) 26 v26) 27 v28) 7 v30) 8 v28) 29 v33) 30 v37) 28 v37) 31 v39) 32 v41) 9 v39) 10 v41) 33 v41) 34 v48) w49) (thenK (fun e51 w52 =>
callE P 37 #[(e51 9)] w52 (fun v55 w56 =>
bindV (pExtract P v55 0 w56) fun v57 w58 =>
bindV (pExtract P v55 1 w58) fun v59 w60 =>
bindV (pAlloc P 29 w60) fun v61 w62 =>
bindU (pStore P 29 v61 v57 w62) fun w63 =>
grdE v59 true (fun (k64 : Value → World → Prop) => bindV (pFieldAddr P 29 v61 0 w63) k64) (fun v65 w66 =>
grdE v59 true (fun (k67 : Value → World → Prop) => bindV (pLoad P 3 v65 w66) k67) (fun v68 w69 =>
grdE v59 true (fun (k70 : Value → World → Prop) => bindV (pBin P BinOp.rem 3 true v68 (Value.int IntKind.i64 2) w69) k70) (fun v71 w72 =>
grdE v59 true (fun (k73 : Value → World → Prop) => k73 (e51 6) w72) (fun v74 w75 =>
grdE v59 true (fun (k76 : Value → World → Prop) => bindV (pBin P BinOp.eql 3 false v71 v74 w75) k76) (fun v77 w78 =>
pickE v59 v77 (Value.bool false) fun v79 =>
grdE v79 true (fun (k80 : Value → World → Prop) => bindV (pFieldAddr P 29 v61 0 w78) k80) (fun v81 w82 =>
grdE v79 true (fun (k83 : Value → World → Prop) => bindV (pLoad P 3 v81 w82) k83) (fun v84 w85 =>
grdE v79 true (fun (k86 : Value → World → Prop) => bindV (pFieldAddr P 29 (e51 5) 0 w85) k86) (fun v87 w88 =>
grdE v79 true (fun (k89 : Value → World → Prop) => bindV (pLoad P 3 v87 w88) k89) (fun v90 w91 =>
grdE v79 true (fun (k92 : Value → World → Prop) => bindV (pBin P BinOp.gtr 3 false v84 v90 w91) k92) (fun v93 w94 =>
pickE v79 v93 (Value.bool false) fun v95 =>
condE v95 (fun (K96 : KT) =>
bindV (pLoad P 29 v61 w94) fun v97 w98 =>
bindU (pStore P 29 (e51 5) v97 w98) fun w99 =>
K96 .normal (put (put (put (put (put (put (put (put (put (put (put (put (put (put (put (put (put (put (put (put (put (put (put e51 36 (e51 9)) 37 v55) 35 v55) 38 v57) 39 v59) 11 v61) 12 v59) 40 v59) 41 v59) 42 v65) 43 v68) 44 v71) 45 v74) 46 v77) 47 v79) 48 v79) 49 v81) 50 v84) 51 v87) 52 v90) 53 v93) 54 v95) 55 v97) w99) (fun (K96 : KT) =>
K96 .normal (put (put (put (put (put (put (put (put (put (put (put (put (put (put (put (put (put (put (put (put (put (put e51 36 (e51 9)) 37 v55) 35 v55) 38 v57) 39 v59) 11 v61) 12 v59) 40 v59) 41 v59) 42 v65) 43 v68) 44 v71) 45 v74) 46 v77) 47 v79) 48 v79) 49 v81) 50 v84) 51 v87) 52 v90) 53 v93) 54 v95) w94) K43) w91) w88) w85) w82) w78) w75) w72) w69) w66) w63) (fun c53 w54 => K43 (.panic c53) (put e51 36 (e51 9)) w54)) K43)) (fun c35 w36 => K (.panic c35) (put (put (put (put (put (put (put (put (put (put (put e20 21 (e20 19)) 6 (e20 19)) 23 (e20 0)) 24 (e20 19)) 25 v24) 22 v24) 26 v26) 27 v28) 7 v30) 8 v28) 29 v33) w36)) (fun c22 w23 => K (.panic c22) (put (put (put (put e20 21 (e20 19)) 6 (e20 19)) 23 (e20 0)) 24 (e20 19)) w23)) K)
def F13 (a0 : Value) (w : World) (R : Ending → World → Prop) : Prop :=
bindV (pAlloc P 29 w) fun v1 w2 =>
callE P 29 #[a0] w2 (fun v5 w6 =>
bindV (pBin P BinOp.neq 26 true v5 (Value.int IntKind.i64 0) w6) fun v7 w8 =>
condE v7 (fun (K9 : KT) =>
bindV (pBuild P 29 [] w8) fun v10 w11 =>
bindU (pStore P 29 v1 v10 w11) fun w12 =>
K9 .ret (put (put (put (put (put (put (put (put (put (put (argE [a0]) 2 v1) 3 (Value.int IntKind.i64 0)) 13 a0) 14 v5) 4 v5) 15 v5) 16 v7) 17 v10) 18 v5) 3 v5) w12) (fun (K9 : KT) =>
K9 .normal (put (put (put (put (put (put (put (argE [a0]) 2 v1) 3 (Value.int IntKind.i64 0)) 13 a0) 14 v5) 4 v5) 15 v5) 16 v7) w8) (thenK (fun e13 w14 =>
bindV (pAlloc P 29 w14) fun v15 w16 =>
loopE F13B0 (put (put e13 5 v15) 19 (Value.int IntKind.i64 0)) w16 (blockK 0 (thenK (fun e100 w101 =>
bindV (pFieldAddr P 29 (e100 5) 0 w101) fun v102 w103 =>
bindV (pLoad P 3 v102 w103) fun v104 w105 =>
bindV (pBin P BinOp.eql 3 true v104 (Value.int IntKind.i64 0) w105) fun v106 w107 =>
condE v106 (fun (K108 : KT) =>
bindV (pBuild P 29 [] w107) fun v109 w110 =>
bindU (pStore P 29 (e100 2) v109 w110) fun w111 =>
K108 .ret (put (put (put (put (put e100 57 v102) 58 v104) 59 v106) 60 v109) 3 (Value.int IntKind.i64 6)) w111) (fun (K108 : KT) =>
K108 .normal (put (put (put e100 57 v102) 58 v104) 59 v106) w107) (thenK (fun e112 w113 =>
bindV (pLoad P 29 (e112 5) w113) fun v114 w115 =>
bindU (pStore P 29 (e112 2) v114 w115) fun w116 =>
topK P [(ResultVar.cell 2 29), (ResultVar.tmp 3)] R .ret (put (put e112 61 v114) 3 (Value.int IntKind.i64 0)) w116) (topK P [(ResultVar.cell 2 29), (ResultVar.tmp 3)] R))) (topK P [(ResultVar.cell 2 29), (ResultVar.tmp 3)] R)))) (topK P [(ResultVar.cell 2 29), (ResultVar.tmp 3)] R))) (fun c3 w4 => R (.panicked c3) w4)
theorem F13ok {w : World} {R : Ending → World → Prop} {a0 : Value} (h : F13 a0 w R) : Calls P 13 #[a0] w R :=
  calls_of_ev bodies mixed (c := bodyOf Tryz.f13) (nt := 62) (rs := [(ResultVar.cell 2 29), (ResultVar.tmp 3)]) (args := [a0]) (fn := Tryz.f13) (by kernel_rfl) (by kernel_rfl) (by kernel_rfl) (by kernel_rfl) (by kernel_rfl) (by simp)
    (eq_mp (show F13 a0 w R = ev P C (bodyOf Tryz.f13) (argE [a0]) w (topK P [(ResultVar.cell 2 29), (ResultVar.tmp 3)] R) by kernel_rfl) h)
/-! ### moiety/pin.reached -/
def F29 (a0 : Value) (w : World) (R : Ending → World → Prop) : Prop :=
callE P 51 #[a0] w (fun v3 w4 =>
condE v3 (fun (K5 : KT) =>
K5 .ret (put (put (put (put (put (argE [a0]) 2 (Value.int IntKind.i64 0)) 4 a0) 5 v3) 3 v3) 2 (Value.int IntKind.i64 14)) w4) (fun (K5 : KT) =>
callE P 55 #[a0] w4 (fun v8 w9 =>
bindV (pBin P BinOp.lss 3 true v8 (Value.int IntKind.i64 2) w9) fun v10 w11 =>
condE v10 (fun (K12 : KT) =>
K12 .ret (put (put (put (put (put (put (put (put (put (argE [a0]) 2 (Value.int IntKind.i64 0)) 4 a0) 5 v3) 3 v3) 7 a0) 8 v8) 9 v10) 6 v10) 2 (Value.int IntKind.i64 1)) w11) (fun (K12 : KT) =>
K12 .normal (put (put (put (put (put (put (put (put (argE [a0]) 2 (Value.int IntKind.i64 0)) 4 a0) 5 v3) 3 v3) 7 a0) 8 v8) 9 v10) 6 v10) w11) K5) (fun c6 w7 => K5 (.panic c6) (put (put (put (put (put (argE [a0]) 2 (Value.int IntKind.i64 0)) 4 a0) 5 v3) 3 v3) 7 a0) w7)) (blockK 0 (thenK (fun e13 w14 =>
R (.returned (Value.int IntKind.i64 0)) w14) (topK P [(ResultVar.tmp 2)] R)))) (fun c1 w2 => R (.panicked c1) w2)
theorem F29ok {w : World} {R : Ending → World → Prop} {a0 : Value} (h : F29 a0 w R) : Calls P 29 #[a0] w R :=
  calls_of_ev bodies mixed (c := bodyOf Tryz.f29) (nt := 10) (rs := [(ResultVar.tmp 2)]) (args := [a0]) (fn := Tryz.f29) (by kernel_rfl) (by kernel_rfl) (by kernel_rfl) (by kernel_rfl) (by kernel_rfl) (by simp)
    (eq_mp (show F29 a0 w R = ev P C (bodyOf Tryz.f29) (argE [a0]) w (topK P [(ResultVar.tmp 2)] R) by kernel_rfl) h)
/-! ### moiety/pin.written -/
def F32B0 (e : Env) (w : World) (K : KT) : Prop :=
bindV (pBin P BinOp.lss 3 false (e 20) (e 19) w) fun v33 w34 =>
condE v33 (fun (K35 : KT) =>
K35 .normal (put e 21 v33) w34) (fun (K35 : KT) =>
K35 (.exit 0) (put e 21 v33) w34) (thenK (fun e36 w37 =>
bindV (pIndexAddr P 23 (e36 18) (e36 20) w37) fun v38 w39 =>
bindV (pLoad P 3 v38 w39) fun v40 w41 =>
bindV (pConv P 3 127 v40 w41) fun v42 w43 =>
callE P 57 #[(e36 3), v42] w43 (fun v46 w47 =>
bindV (pBin P BinOp.add 3 true (e36 20) (Value.int IntKind.i64 1) w47) fun v48 w49 =>
K .normal (put (put (put (put (put (put (put (put e36 22 v38) 23 v40) 5 v40) 24 v40) 25 v42) 26 v46) 27 v48) 20 v48) w49) (fun c44 w45 => K (.panic c44) (put (put (put (put (put e36 22 v38) 23 v40) 5 v40) 24 v40) 25 v42) w45)) K)
def F32 (a0 : Value) (w : World) (R : Ending → World → Prop) : Prop :=
bindV (pBox P 29 a0 w) fun v1 w2 =>
bindV (pAlloc P 115 w2) fun v3 w4 =>
bindV (pFieldAddr P 29 v1 0 w4) fun v5 w6 =>
bindV (pLoad P 3 v5 w6) fun v7 w8 =>
bindV (pFieldAddr P 29 v1 1 w8) fun v9 w10 =>
bindV (pLoad P 3 v9 w10) fun v11 w12 =>
bindV (pFieldAddr P 29 v1 2 w12) fun v13 w14 =>
bindV (pLoad P 3 v13 w14) fun v15 w16 =>
bindV (pFieldAddr P 29 v1 3 w16) fun v17 w18 =>
bindV (pLoad P 3 v17 w18) fun v19 w20 =>
bindV (pFieldAddr P 29 v1 4 w20) fun v21 w22 =>
bindV (pLoad P 3 v21 w22) fun v23 w24 =>
bindV (pFieldAddr P 29 v1 5 w24) fun v25 w26 =>
bindV (pLoad P 3 v25 w26) fun v27 w28 =>
bindV (pBuildSlice P 23 6 [(0, v7), (1, v11), (2, v15), (3, v19), (4, v23), (5, v27)] w28) fun v29 w30 =>
bindV (pBuiltin P Builtin.len #[23] 3 [v29] w30) fun v31 w32 =>
loopE F32B0 (put (put (put (put (put (put (put (put (put (put (put (put (put (put (put (put (put (put (argE [a0]) 1 v1) 2 (Value.slice none 0 0)) 3 v3) 6 v5) 7 v7) 8 v9) 9 v11) 10 v13) 11 v15) 12 v17) 13 v19) 14 v21) 15 v23) 16 v25) 17 v27) 18 v29) 19 v31) 20 (Value.int IntKind.i64 0)) w32 (blockK 0 (thenK (fun e50 w51 =>
callE P 50 #[(e50 3)] w51 (fun v54 w55 =>
R (.returned v54) w55) (fun c52 w53 => R (.panicked c52) w53)) (topK P [(ResultVar.tmp 2)] R)))
theorem F32ok {w : World} {R : Ending → World → Prop} {a0 : Value} (h : F32 a0 w R) : Calls P 32 #[a0] w R :=
  calls_of_ev bodies mixed (c := bodyOf Tryz.f32) (nt := 29) (rs := [(ResultVar.tmp 2)]) (args := [a0]) (fn := Tryz.f32) (by kernel_rfl) (by kernel_rfl) (by kernel_rfl) (by kernel_rfl) (by kernel_rfl) (by simp)
    (eq_mp (show F32 a0 w R = ev P C (bodyOf Tryz.f32) (argE [a0]) w (topK P [(ResultVar.tmp 2)] R) by kernel_rfl) h)
/-! ### moiety/pin.read -/
def F37B0 (e : Env) (w : World) (K : KT) : Prop :=
bindV (pBin P BinOp.lss 3 false (e 21) (e 20) w) fun v30 w31 =>
condE v30 (fun (K32 : KT) =>
K32 .normal (put e 22 v30) w31) (fun (K32 : KT) =>
K32 (.exit 0) (put e 22 v30) w31) (thenK (fun e33 w34 =>
bindV (pIndexAddr P 129 (e33 19) (e33 21) w34) fun v35 w36 =>
bindV (pLoad P 136 v35 w36) fun v37 w38 =>
bindV (pAlloc P 136 w38) fun v39 w40 =>
bindU (pStore P 136 v39 v37 w40) fun w41 =>
letK (blockK 1 (thenK (fun e43 w44 =>
bindV (pBin P BinOp.add 3 true (e43 21) (Value.int IntKind.i64 1) w44) fun v45 w46 =>
K .normal (put (put e43 35 v45) 21 v45) w46) K)) fun (K42 : KT) =>
bindV (pFieldAddr P 136 v39 1 w41) fun v47 w48 =>
bindV (pLoad P 127 v47 w48) fun v49 w50 =>
bindV (pBin P BinOp.gtr 127 true v49 (Value.int IntKind.u64 1099511627776) w50) fun v51 w52 =>
condE v51 (fun (K53 : KT) =>
bindV (pBuild P 29 [] w52) fun v54 w55 =>
bindU (pStore P 29 (e33 2) v54 w55) fun w56 =>
K53 .ret (put (put (put (put (put (put (put (put (put (put e33 23 (e33 21)) 24 v35) 25 v37) 8 v39) 7 (e33 21)) 26 v47) 27 v49) 28 v51) 29 v54) 3 (Value.bool false)) w56) (fun (K53 : KT) =>
K53 .normal (put (put (put (put (put (put (put (put e33 23 (e33 21)) 24 v35) 25 v37) 8 v39) 7 (e33 21)) 26 v47) 27 v49) 28 v51) w52) (thenK (fun e57 w58 =>
bindV (pFieldAddr P 136 (e57 8) 1 w58) fun v59 w60 =>
bindV (pLoad P 127 v59 w60) fun v61 w62 =>
bindV (pConv P 127 3 v61 w62) fun v63 w64 =>
bindV (pIndexAddr P 134 (e57 6) (e57 7) w64) fun v65 w66 =>
bindU (pStore P 3 v65 v63 w66) fun w67 =>
K42 .normal (put (put (put (put (put e57 30 (e57 7)) 31 v59) 32 v61) 33 v63) 34 v65) w67) K42)) K)
def F37 (a0 : Value) (w : World) (R : Ending → World → Prop) : Prop :=
bindV (pAlloc P 29 w) fun v1 w2 =>
callE P 59 #[a0, (Value.string { data := #[117, 117, 117, 117, 117, 117] }), (Value.int IntKind.i64 0)] w2 (fun v5 w6 =>
bindV (pExtract P v5 0 w6) fun v7 w8 =>
bindV (pExtract P v5 1 w8) fun v9 w10 =>
bindV (pAlloc P 131 w10) fun v11 w12 =>
bindU (pStore P 131 v11 v9 w12) fun w13 =>
bindV (pFieldAddr P 131 v11 0 w13) fun v14 w15 =>
bindV (pLoad P 26 v14 w15) fun v16 w17 =>
bindV (pBin P BinOp.neq 26 true v16 (Value.int IntKind.i64 0) w17) fun v18 w19 =>
condE v18 (fun (K20 : KT) =>
bindV (pBuild P 29 [] w19) fun v21 w22 =>
bindU (pStore P 29 v1 v21 w22) fun w23 =>
K20 .ret (put (put (put (put (put (put (put (put (put (put (put (put (put (put (argE [a0]) 2 v1) 3 (Value.bool false)) 11 a0) 12 v5) 10 v5) 13 v7) 14 v9) 5 v11) 4 v7) 15 v14) 16 v16) 17 v18) 18 v21) 3 (Value.bool false)) w23) (fun (K20 : KT) =>
K20 .normal (put (put (put (put (put (put (put (put (put (put (put (put (argE [a0]) 2 v1) 3 (Value.bool false)) 11 a0) 12 v5) 10 v5) 13 v7) 14 v9) 5 v11) 4 v7) 15 v14) 16 v16) 17 v18) w19) (thenK (fun e24 w25 =>
bindV (pAlloc P 134 w25) fun v26 w27 =>
bindV (pBuiltin P Builtin.len #[129] 3 [(e24 4)] w27) fun v28 w29 =>
loopE F37B0 (put (put (put (put e24 6 v26) 19 (e24 4)) 20 v28) 21 (Value.int IntKind.i64 0)) w29 (blockK 0 (thenK (fun e68 w69 =>
bindV (pIndexAddr P 134 (e68 6) (Value.int IntKind.i64 0) w69) fun v70 w71 =>
bindV (pLoad P 3 v70 w71) fun v72 w73 =>
bindV (pIndexAddr P 134 (e68 6) (Value.int IntKind.i64 1) w73) fun v74 w75 =>
bindV (pLoad P 3 v74 w75) fun v76 w77 =>
bindV (pIndexAddr P 134 (e68 6) (Value.int IntKind.i64 2) w77) fun v78 w79 =>
bindV (pLoad P 3 v78 w79) fun v80 w81 =>
bindV (pIndexAddr P 134 (e68 6) (Value.int IntKind.i64 3) w81) fun v82 w83 =>
bindV (pLoad P 3 v82 w83) fun v84 w85 =>
bindV (pIndexAddr P 134 (e68 6) (Value.int IntKind.i64 4) w85) fun v86 w87 =>
bindV (pLoad P 3 v86 w87) fun v88 w89 =>
bindV (pIndexAddr P 134 (e68 6) (Value.int IntKind.i64 5) w89) fun v90 w91 =>
bindV (pLoad P 3 v90 w91) fun v92 w93 =>
bindV (pBuild P 29 [(0, v72), (1, v76), (2, v80), (3, v84), (4, v88), (5, v92)] w93) fun v94 w95 =>
bindV (pAlloc P 29 w95) fun v96 w97 =>
bindU (pStore P 29 v96 v94 w97) fun w98 =>
takeE (fun w101 => pLoad P 29 v96 w101) (drew w98) fun v99 h100 =>
takeE (fun w104 => pLoad P 29 v96 w104) (drew w98) fun v102 h103 =>
callE P 4 #[v102] (drew w98) (fun v108 w109 =>
heldE [h100] w109 (takeE (fun w112 => pBin P BinOp.eql 26 true v108 (Value.int IntKind.i64 0) w112) w109 fun v110 h111 =>
bindU (pStore P 29 (e68 2) v99 w109) fun w114 =>
heldE [h111] w114 (topK P [(ResultVar.cell 2 29), (ResultVar.tmp 3)] R .ret (put (put (put (put (put (put (put (put (put (put (put (put (put (put (put (put (put (put (put e68 36 v70) 37 v72) 38 v74) 39 v76) 40 v78) 41 v80) 42 v82) 43 v84) 44 v86) 45 v88) 46 v90) 47 v92) 48 v94) 9 v96) 49 v99) 50 v102) 51 v108) 52 v110) 3 v110) w114))) (fun c106 w107 => ∀ (e105 : Env), agreeOff [49, 50] (put (put (put (put (put (put (put (put (put (put (put (put (put (put (put (put e68 36 v70) 37 v72) 38 v74) 39 v76) 40 v78) 41 v80) 42 v82) 43 v84) 44 v86) 45 v88) 46 v90) 47 v92) 48 v94) 9 v96) 49 v99) 50 v102) e105 → R (.panicked c106) w107)) (topK P [(ResultVar.cell 2 29), (ResultVar.tmp 3)] R)))) (topK P [(ResultVar.cell 2 29), (ResultVar.tmp 3)] R))) (fun c3 w4 => R (.panicked c3) w4)
theorem F37ok {w : World} {R : Ending → World → Prop} {a0 : Value} (h : F37 a0 w R) : Calls P 37 #[a0] w R :=
  calls_of_ev bodies mixed (c := bodyOf Tryz.f37) (nt := 53) (rs := [(ResultVar.cell 2 29), (ResultVar.tmp 3)]) (args := [a0]) (fn := Tryz.f37) (by kernel_rfl) (by kernel_rfl) (by kernel_rfl) (by kernel_rfl) (by kernel_rfl) (by simp)
    (eq_mp (show F37 a0 w R = ev P C (bodyOf Tryz.f37) (argE [a0]) w (topK P [(ResultVar.cell 2 29), (ResultVar.tmp 3)] R) by kernel_rfl) h)
end Go.Proofs.YtieejbkbdfccdaaGreat

set_option linter.unusedVariables false
set_option linter.unusedSimpArgs false
namespace Go.Proofs.YtieejbkbdfccdaaGreat
open Go Env
/-! ### moiety/rec.Take -/
def F64B0 (e : Env) (w : World) (K : KT) : Prop :=
bindV (pBin P BinOp.lss 3 false (e 48) (e 47) w) fun v115 w116 =>
condE v115 (fun (K117 : KT) =>
K117 .normal (put e 49 v115) w116) (fun (K117 : KT) =>
K117 (.exit 0) (put e 49 v115) w116) (thenK (fun e118 w119 =>
bindV (pAlloc P 105 w119) fun v120 w121 =>
letK (blockK 1 (thenK (fun e123 w124 =>
bindV (pBin P BinOp.add 3 true (e123 48) (Value.int IntKind.i64 1) w124) fun v125 w126 =>
K .normal (put (put e123 65 v125) 48 v125) w126) K)) fun (K122 : KT) =>
bindV (pFieldAddr P 61 (e118 3) 0 w121) fun v127 w128 =>
bindV (pLoad P 3 v127 w128) fun v129 w130 =>
bindV (pBin P BinOp.eql 3 true v129 (Value.int IntKind.i64 9) w130) fun v131 w132 =>
condE v131 (fun (K133 : KT) =>
callE P 88 #[(e118 0)] w132 (fun v136 w137 =>
bindV (pFieldAddr P 105 v120 0 w137) fun v138 w139 =>
bindU (pStore P 58 v138 v136 w139) fun w140 =>
K133 .normal (put (put (put (put (put (put (put e118 5 v120) 50 v127) 51 v129) 52 v131) 53 (e118 0)) 54 v136) 55 v138) w140) (fun c134 w135 => K133 (.panic c134) (put (put (put (put (put e118 5 v120) 50 v127) 51 v129) 52 v131) 53 (e118 0)) w135)) (fun (K133 : KT) =>
K133 .normal (put (put (put (put e118 5 v120) 50 v127) 51 v129) 52 v131) w132) (thenK (fun e141 w142 =>
callE P 63 #[(e141 0), (Value.int IntKind.i64 16)] w142 (fun v145 w146 =>
bindV (pFieldAddr P 105 (e141 5) 1 w146) fun v147 w148 =>
bindU (pStore P 9 v147 v145 w148) fun w149 =>
bindV (pFieldAddr P 61 (e141 3) 7 w149) fun v150 w151 =>
bindV (pLoad P 59 v150 w151) fun v152 w153 =>
bindV (pLoad P 105 (e141 5) w153) fun v154 w155 =>
bindV (pBuildSlice P 59 1 [(0, v154)] w155) fun v156 w157 =>
bindV (pBuiltin P Builtin.append #[59, 59] 59 [v152, v156] w157) fun v158 w159 =>
bindV (pFieldAddr P 61 (e141 3) 7 w159) fun v160 w161 =>
bindU (pStore P 59 v160 v158 w161) fun w162 =>
K122 .normal (put (put (put (put (put (put (put (put (put e141 56 (e141 0)) 57 v145) 58 v147) 59 v150) 60 v152) 61 v154) 62 v156) 63 v158) 64 v160) w162) (fun c143 w144 => K122 (.panic c143) (put e141 56 (e141 0)) w144)) K122)) K)
def F64 (a0 : Value) (w : World) (R : Ending → World → Prop) : Prop :=
bindV (pAlloc P 61 w) fun v1 w2 =>
bindV (pAlloc P 61 w2) fun v3 w4 =>
callE P 85 #[a0, (Value.int IntKind.i64 9)] w4 (fun v7 w8 =>
bindV (pFieldAddr P 61 v3 0 w8) fun v9 w10 =>
bindU (pStore P 3 v9 v7 w10) fun w11 =>
bindV (pFieldAddr P 61 v3 0 w11) fun v12 w13 =>
bindV (pLoad P 3 v12 w13) fun v14 w15 =>
bindV (pBin P BinOp.eql 3 true v14 (Value.int IntKind.i64 0) w15) fun v16 w17 =>
condE v16 (fun (K18 : KT) =>
callE P 86 #[a0, (Value.int IntKind.i64 5)] w17 (fun v21 w22 =>
K18 .normal (put (put (put (put (put (put (put (put (put (put (argE [a0]) 2 v1) 3 v3) 7 a0) 8 v7) 9 v9) 10 v12) 11 v14) 12 v16) 13 a0) 14 v21) w22) (fun c19 w20 => K18 (.panic c19) (put (put (put (put (put (put (put (put (put (argE [a0]) 2 v1) 3 v3) 7 a0) 8 v7) 9 v9) 10 v12) 11 v14) 12 v16) 13 a0) w20)) (fun (K18 : KT) =>
K18 .normal (put (put (put (put (put (put (put (put (argE [a0]) 2 v1) 3 v3) 7 a0) 8 v7) 9 v9) 10 v12) 11 v14) 12 v16) w17) (thenK (fun e23 w24 =>
bindV (pFieldAddr P 61 (e23 3) 0 w24) fun v25 w26 =>
bindV (pLoad P 3 v25 w26) fun v27 w28 =>
callE P 67 #[v27] w28 (fun v31 w32 =>
bindV (pAlloc P 144 w32) fun v33 w34 =>
bindU (pStore P 144 v33 v31 w34) fun w35 =>
bindV (pFieldAddr P 144 v33 0 w35) fun v36 w37 =>
bindV (pLoad P 4 v36 w37) fun v38 w39 =>
condE v38 (fun (K40 : KT) =>
callE P 63 #[(e23 0), (Value.int IntKind.i64 64)] w39 (fun v43 w44 =>
bindV (pFieldAddr P 61 (e23 3) 6 w44) fun v45 w46 =>
bindU (pStore P 9 v45 v43 w46) fun w47 =>
K40 .normal (put (put (put (put (put (put (put (put (put e23 15 v25) 16 v27) 17 v31) 4 v33) 18 v36) 19 v38) 20 (e23 0)) 21 v43) 22 v45) w47) (fun c41 w42 => K40 (.panic c41) (put (put (put (put (put (put (put e23 15 v25) 16 v27) 17 v31) 4 v33) 18 v36) 19 v38) 20 (e23 0)) w42)) (fun (K40 : KT) =>
K40 .normal (put (put (put (put (put (put e23 15 v25) 16 v27) 17 v31) 4 v33) 18 v36) 19 v38) w39) (thenK (fun e48 w49 =>
bindV (pFieldAddr P 144 (e48 4) 2 w49) fun v50 w51 =>
bindV (pLoad P 4 v50 w51) fun v52 w53 =>
condE v52 (fun (K54 : KT) =>
callE P 87 #[(e48 0)] w53 (fun v57 w58 =>
callE P 87 #[(e48 0)] w58 (fun v61 w62 =>
bindV (pFieldAddr P 61 (e48 3) 2 w62) fun v63 w64 =>
bindU (pStore P 2 v63 v57 w64) fun w65 =>
bindV (pFieldAddr P 61 (e48 3) 3 w65) fun v66 w67 =>
bindU (pStore P 2 v66 v61 w67) fun w68 =>
K54 .normal (put (put (put (put (put (put (put (put e48 23 v50) 24 v52) 25 (e48 0)) 26 v57) 27 (e48 0)) 28 v61) 29 v63) 30 v66) w68) (fun c59 w60 => K54 (.panic c59) (put (put (put (put (put e48 23 v50) 24 v52) 25 (e48 0)) 26 v57) 27 (e48 0)) w60)) (fun c55 w56 => K54 (.panic c55) (put (put (put e48 23 v50) 24 v52) 25 (e48 0)) w56)) (fun (K54 : KT) =>
K54 .normal (put (put e48 23 v50) 24 v52) w53) (thenK (fun e69 w70 =>
bindV (pFieldAddr P 144 (e69 4) 1 w70) fun v71 w72 =>
bindV (pLoad P 4 v71 w72) fun v73 w74 =>
condE v73 (fun (K75 : KT) =>
callE P 87 #[(e69 0)] w74 (fun v78 w79 =>
bindV (pFieldAddr P 61 (e69 3) 1 w79) fun v80 w81 =>
bindU (pStore P 2 v80 v78 w81) fun w82 =>
K75 .normal (put (put (put (put (put e69 31 v71) 32 v73) 33 (e69 0)) 34 v78) 35 v80) w82) (fun c76 w77 => K75 (.panic c76) (put (put (put e69 31 v71) 32 v73) 33 (e69 0)) w77)) (fun (K75 : KT) =>
K75 .normal (put (put e69 31 v71) 32 v73) w74) (thenK (fun e83 w84 =>
bindV (pFieldAddr P 144 (e83 4) 3 w84) fun v85 w86 =>
bindV (pLoad P 4 v85 w86) fun v87 w88 =>
condE v87 (fun (K89 : KT) =>
callE P 88 #[(e83 0)] w88 (fun v92 w93 =>
bindV (pFieldAddr P 61 (e83 3) 4 w93) fun v94 w95 =>
bindU (pStore P 58 v94 v92 w95) fun w96 =>
K89 .normal (put (put (put (put (put e83 36 v85) 37 v87) 38 (e83 0)) 39 v92) 40 v94) w96) (fun c90 w91 => K89 (.panic c90) (put (put (put e83 36 v85) 37 v87) 38 (e83 0)) w91)) (fun (K89 : KT) =>
K89 .normal (put (put e83 36 v85) 37 v87) w88) (thenK (fun e97 w98 =>
bindV (pFieldAddr P 144 (e97 4) 4 w98) fun v99 w100 =>
bindV (pLoad P 4 v99 w100) fun v101 w102 =>
condE v101 (fun (K103 : KT) =>
callE P 85 #[(e97 0), (Value.int IntKind.i64 32)] w102 (fun v106 w107 =>
bindV (pFieldAddr P 61 (e97 3) 5 w107) fun v108 w109 =>
bindU (pStore P 3 v108 v106 w109) fun w110 =>
callE P 85 #[(e97 0), (Value.int IntKind.i64 32)] w110 (fun v113 w114 =>
loopE F64B0 (put (put (put (put (put (put (put (put e97 41 v99) 42 v101) 43 (e97 0)) 44 v106) 45 v108) 46 (e97 0)) 47 v113) 48 (Value.int IntKind.i64 0)) w114 (blockK 0 K103)) (fun c111 w112 => K103 (.panic c111) (put (put (put (put (put (put e97 41 v99) 42 v101) 43 (e97 0)) 44 v106) 45 v108) 46 (e97 0)) w112)) (fun c104 w105 => K103 (.panic c104) (put (put (put e97 41 v99) 42 v101) 43 (e97 0)) w105)) (fun (K103 : KT) =>
K103 .normal (put (put e97 41 v99) 42 v101) w102) (thenK (fun e163 w164 =>
bindV (pLoad P 61 (e163 3) w164) fun v165 w166 =>
callE P 41 #[v165] w166 (fun v169 w170 =>
bindV (pBin P BinOp.neq 26 true v169 (Value.int IntKind.i64 0) w170) fun v171 w172 =>
condE v171 (fun (K173 : KT) =>
callE P 86 #[(e163 0), v169] w172 (fun v176 w177 =>
K173 .normal (put (put (put (put (put (put (put (put e163 66 v165) 67 v169) 6 v169) 68 v169) 69 v171) 70 (e163 0)) 71 v169) 72 v176) w177) (fun c174 w175 => K173 (.panic c174) (put (put (put (put (put (put (put e163 66 v165) 67 v169) 6 v169) 68 v169) 69 v171) 70 (e163 0)) 71 v169) w175)) (fun (K173 : KT) =>
K173 .normal (put (put (put (put (put e163 66 v165) 67 v169) 6 v169) 68 v169) 69 v171) w172) (thenK (fun e178 w179 =>
bindV (pLoad P 61 (e178 3) w179) fun v180 w181 =>
bindU (pStore P 61 (e178 2) v180 w181) fun w182 =>
topK P [(ResultVar.cell 2 61)] R .ret (put e178 73 v180) w182) (topK P [(ResultVar.cell 2 61)] R))) (fun c167 w168 => R (.panicked c167) w168)) (topK P [(ResultVar.cell 2 61)] R))) (topK P [(ResultVar.cell 2 61)] R))) (topK P [(ResultVar.cell 2 61)] R))) (topK P [(ResultVar.cell 2 61)] R))) (topK P [(ResultVar.cell 2 61)] R))) (fun c29 w30 => R (.panicked c29) w30)) (topK P [(ResultVar.cell 2 61)] R))) (fun c5 w6 => R (.panicked c5) w6)
theorem F64ok {w : World} {R : Ending → World → Prop} {a0 : Value} (h : F64 a0 w R) : Calls P 64 #[a0] w R :=
  calls_of_ev bodies mixed (c := bodyOf Tryz.f64) (nt := 74) (rs := [(ResultVar.cell 2 61)]) (args := [a0]) (fn := Tryz.f64) (by kernel_rfl) (by kernel_rfl) (by kernel_rfl) (by kernel_rfl) (by kernel_rfl) (by simp)
    (eq_mp (show F64 a0 w R = ev P C (bodyOf Tryz.f64) (argE [a0]) w (topK P [(ResultVar.cell 2 61)] R) by kernel_rfl) h)
end Go.Proofs.YtieejbkbdfccdaaGreat
