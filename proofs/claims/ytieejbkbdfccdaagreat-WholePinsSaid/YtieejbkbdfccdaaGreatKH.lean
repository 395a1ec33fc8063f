/- The functions' residual programs, printed by gen.py. -/
import Derived.Test.YtieejbkbdfccdaaGreatBaseD
set_option linter.unusedVariables false
set_option linter.unusedSimpArgs false
namespace Go.Proofs.YtieejbkbdfccdaaGreat
open Go Env
/-! ### moiety/seal.Seal -/
def F31 (a0 : Value) (w : World) (R : Ending → World → Prop) : Prop :=
bindV (pAlloc P 90 w) fun v1 w2 =>
bindV (pBuiltin P Builtin.len #[72] 3 [a0] w2) fun v3 w4 =>
bindV (pBin P BinOp.gtr 3 true v3 (Value.int IntKind.i64 61) w4) fun v5 w6 =>
condE v5 (fun (K7 : KT) =>
bindV (pBuild P 90 [] w6) fun v8 w9 =>
bindU (pStore P 90 v1 v8 w9) fun w10 =>
K7 .ret (put (put (put (put (put (put (put (argE [a0]) 2 v1) 3 (Value.int IntKind.i64 0)) 5 a0) 6 v3) 7 v5) 8 v8) 3 (Value.int IntKind.i64 3)) w10) (fun (K7 : KT) =>
K7 .normal (put (put (put (put (put (argE [a0]) 2 v1) 3 (Value.int IntKind.i64 0)) 5 a0) 6 v3) 7 v5) w6) (thenK (fun e11 w12 =>
bindV (pBuiltin P Builtin.len #[72] 3 [(e11 0)] w12) fun v13 w14 =>
bindV (pConv P 3 5 v13 w14) fun v15 w16 =>
bindV (pBuild P 90 [(0, (Value.int IntKind.u8 1)), (1, v15), (63, (Value.int IntKind.u8 1))] w16) fun v17 w18 =>
bindV (pAlloc P 90 w18) fun v19 w20 =>
bindU (pStore P 90 v19 v17 w20) fun w21 =>
bindV (pSlice P 90 v19 (some (Value.int IntKind.i64 2)) none none w21) fun v22 w23 =>
bindV (pBuiltin P Builtin.copy #[72, 72] 3 [v22, (e11 0)] w23) fun v24 w25 =>
bindV (pLoad P 90 v19 w25) fun v26 w27 =>
bindU (pStore P 90 (e11 2) v26 w27) fun w28 =>
topK P [(ResultVar.cell 2 90), (ResultVar.tmp 3)] R .ret (put (put (put (put (put (put (put (put (put (put e11 9 (e11 0)) 10 v13) 11 v15) 12 v17) 4 v19) 13 v22) 14 (e11 0)) 15 v24) 16 v26) 3 (Value.int IntKind.i64 0)) w28) (topK P [(ResultVar.cell 2 90), (ResultVar.tmp 3)] R))
theorem F31ok {w : World} {R : Ending → World → Prop} {a0 : Value} (h : F31 a0 w R) : Calls P 31 #[a0] w R :=
  calls_of_ev bodies mixed (c := bodyOf Tryz.f31) (nt := 17) (rs := [(ResultVar.cell 2 90), (ResultVar.tmp 3)]) (args := [a0]) (fn := Tryz.f31) (by kernel_rfl) (by kernel_rfl) (by kernel_rfl) (by kernel_rfl) (by kernel_rfl) (by simp)
    (eq_mp (show F31 a0 w R = ev P C (bodyOf Tryz.f31) (argE [a0]) w (topK P [(ResultVar.cell 2 90), (ResultVar.tmp 3)] R) by kernel_rfl) h)
/-! ### moiety/seal.Blank -/
def F56 (a0 : Value) (w : World) (R : Ending → World → Prop) : Prop :=
bindV (pBox P 90 a0 w) fun v1 w2 =>
bindV (pLoad P 90 v1 w2) fun v3 w4 =>
bindV (pBuild P 90 [] w4) fun v5 w6 =>
bindV (pBin P BinOp.eql 90 false v3 v5 w6) fun v7 w8 =>
R (.returned v7) w8
theorem F56ok {w : World} {R : Ending → World → Prop} {a0 : Value} (h : F56 a0 w R) : Calls P 56 #[a0] w R :=
  calls_of_ev bodies mixed (c := bodyOf Tryz.f56) (nt := 6) (rs := [(ResultVar.tmp 2)]) (args := [a0]) (fn := Tryz.f56) (by kernel_rfl) (by kernel_rfl) (by kernel_rfl) (by kernel_rfl) (by kernel_rfl) (by simp)
    (eq_mp (show F56 a0 w R = ev P C (bodyOf Tryz.f56) (argE [a0]) w (topK P [(ResultVar.tmp 2)] R) by kernel_rfl) h)
/-! ### moiety/seal.Open -/
def F36B0 (e : Env) (w : World) (K : KT) : Prop :=
bindV (pBin P BinOp.lss 3 false (e 26) (e 25) w) fun v41 w42 =>
condE v41 (fun (K43 : KT) =>
K43 .normal (put e 27 v41) w42) (fun (K43 : KT) =>
K43 (.exit 0) (put e 27 v41) w42) (thenK (fun e44 w45 =>
bindV (pIndexAddr P 72 (e44 24) (e44 26) w45) fun v46 w47 =>
bindV (pLoad P 5 v46 w47) fun v48 w49 =>
bindV (pBin P BinOp.neq 5 true v48 (Value.int IntKind.u8 0) w49) fun v50 w51 =>
condE v50 (fun (K52 : KT) =>
K52 .ret (put (put (put (put (put (put (put e44 28 v46) 29 v48) 6 v48) 30 v48) 31 v50) 2 (Value.slice none 0 0)) 3 (Value.bool false)) w51) (fun (K52 : KT) =>
K52 .normal (put (put (put (put (put e44 28 v46) 29 v48) 6 v48) 30 v48) 31 v50) w51) (blockK 1 (thenK (fun e53 w54 =>
bindV (pBin P BinOp.add 3 true (e53 26) (Value.int IntKind.i64 1) w54) fun v55 w56 =>
K .normal (put (put e53 32 v55) 26 v55) w56) K))) K)
def F36 (a0 : Value) (w : World) (R : Ending → World → Prop) : Prop :=
bindV (pBox P 90 a0 w) fun v1 w2 =>
bindV (pIndexAddr P 90 v1 (Value.int IntKind.i64 1) w2) fun v3 w4 =>
bindV (pLoad P 5 v3 w4) fun v5 w6 =>
bindV (pConv P 5 3 v5 w6) fun v7 w8 =>
bindV (pIndexAddr P 90 v1 (Value.int IntKind.i64 0) w8) fun v9 w10 =>
bindV (pLoad P 5 v9 w10) fun v11 w12 =>
bindV (pBin P BinOp.neq 5 true v11 (Value.int IntKind.u8 1) w12) fun v13 w14 =>
grdE v13 false (fun (k15 : Value → World → Prop) => bindV (pIndexAddr P 90 v1 (Value.int IntKind.i64 63) w14) k15) (fun v16 w17 =>
grdE v13 false (fun (k18 : Value → World → Prop) => bindV (pLoad P 5 v16 w17) k18) (fun v19 w20 =>
grdE v13 false (fun (k21 : Value → World → Prop) => bindV (pBin P BinOp.neq 5 true v19 (Value.int IntKind.u8 1) w20) k21) (fun v22 w23 =>
pickE v13 (Value.bool true) v22 fun v24 =>
grdE v24 false (fun (k25 : Value → World → Prop) => k25 v7 w23) (fun v26 w27 =>
grdE v24 false (fun (k28 : Value → World → Prop) => bindV (pBin P BinOp.gtr 3 true v26 (Value.int IntKind.i64 61) w27) k28) (fun v29 w30 =>
pickE v24 (Value.bool true) v29 fun v31 =>
condE v31 (fun (K32 : KT) =>
K32 .ret (put (put (put (put (put (put (put (put (put (put (put (put (put (put (put (put (put (put (put (put (put (argE [a0]) 1 v1) 2 (Value.slice none 0 0)) 3 (Value.bool false)) 7 v3) 8 v5) 9 v7) 4 v7) 10 v9) 11 v11) 12 v13) 13 v13) 14 v16) 15 v19) 16 v22) 17 v24) 18 v24) 19 v26) 20 v29) 21 v31) 2 (Value.slice none 0 0)) 3 (Value.bool false)) w30) (fun (K32 : KT) =>
K32 .normal (put (put (put (put (put (put (put (put (put (put (put (put (put (put (put (put (put (put (put (argE [a0]) 1 v1) 2 (Value.slice none 0 0)) 3 (Value.bool false)) 7 v3) 8 v5) 9 v7) 4 v7) 10 v9) 11 v11) 12 v13) 13 v13) 14 v16) 15 v19) 16 v22) 17 v24) 18 v24) 19 v26) 20 v29) 21 v31) w30) (thenK (fun e33 w34 =>
bindV (pBin P BinOp.add 3 true (Value.int IntKind.i64 2) (e33 4) w34) fun v35 w36 =>
bindV (pSlice P 90 (e33 1) (some v35) (some (Value.int IntKind.i64 63)) none w36) fun v37 w38 =>
bindV (pBuiltin P Builtin.len #[72] 3 [v37] w38) fun v39 w40 =>
loopE F36B0 (put (put (put (put (put e33 22 (e33 4)) 23 v35) 24 v37) 25 v39) 26 (Value.int IntKind.i64 0)) w40 (blockK 0 (thenK (fun e57 w58 =>
bindV (pBuildSlice P 72 0 [] w58) fun v59 w60 =>
bindV (pBin P BinOp.add 3 true (Value.int IntKind.i64 2) (e57 4) w60) fun v61 w62 =>
bindV (pSlice P 90 (e57 1) (some (Value.int IntKind.i64 2)) (some v61) none w62) fun v63 w64 =>
bindV (pBuiltin P Builtin.append #[72, 72] 72 [v59, v63] w64) fun v65 w66 =>
R (.returned (.tuple #[v65, (Value.bool true)])) w66) (topK P [(ResultVar.tmp 2), (ResultVar.tmp 3)] R)))) (topK P [(ResultVar.tmp 2), (ResultVar.tmp 3)] R))) w27) w23) w20) w17) w14
theorem F36ok {w : World} {R : Ending → World → Prop} {a0 : Value} (h : F36 a0 w R) : Calls P 36 #[a0] w R :=
  calls_of_ev bodies mixed (c := bodyOf Tryz.f36) (nt := 38) (rs := [(ResultVar.tmp 2), (ResultVar.tmp 3)]) (args := [a0]) (fn := Tryz.f36) (by kernel_rfl) (by kernel_rfl) (by kernel_rfl) (by kernel_rfl) (by kernel_rfl) (by simp)
    (eq_mp (show F36 a0 w R = ev P C (bodyOf Tryz.f36) (argE [a0]) w (topK P [(ResultVar.tmp 2), (ResultVar.tmp 3)] R) by kernel_rfl) h)
end Go.Proofs.YtieejbkbdfccdaaGreat

set_option linter.unusedVariables false
set_option linter.unusedSimpArgs false
namespace Go.Proofs.YtieejbkbdfccdaaGreat
open Go Env
/-! ### moiety/disk.New -/
def F8 (a0 : Value) (w : World) (R : Ending → World → Prop) : Prop :=
bindV (pBin P BinOp.lss 3 true a0 (Value.int IntKind.i64 1) w) fun v1 w2 =>
grdE v1 false (fun (k3 : Value → World → Prop) => k3 a0 w2) (fun v4 w5 =>
grdE v1 false (fun (k6 : Value → World → Prop) => bindV (pBin P BinOp.gtr 3 true v4 (Value.int IntKind.i64 4096) w5) k6) (fun v7 w8 =>
pickE v1 (Value.bool true) v7 fun v9 =>
condE v9 (fun (K10 : KT) =>
K10 .ret (put (put (put (put (put (put (put (put (put (put (argE [a0]) 2 (Value.pointer none)) 3 (Value.int IntKind.i64 0)) 4 a0) 5 v1) 6 v1) 7 v4) 8 v7) 9 v9) 2 (Value.pointer none)) 3 (Value.int IntKind.i64 1)) w8) (fun (K10 : KT) =>
K10 .normal (put (put (put (put (put (put (put (put (argE [a0]) 2 (Value.pointer none)) 3 (Value.int IntKind.i64 0)) 4 a0) 5 v1) 6 v1) 7 v4) 8 v7) 9 v9) w8) (thenK (fun e11 w12 =>
bindV (pMake P 74 (e11 0) (e11 0) w12) fun v13 w14 =>
bindV (pBuild P 77 [(0, v13)] w14) fun v15 w16 =>
bindV (pBox P 77 v15 w16) fun v17 w18 =>
R (.returned (.tuple #[v17, (Value.int IntKind.i64 0)])) w18) (topK P [(ResultVar.tmp 2), (ResultVar.tmp 3)] R))) w5) w2
theorem F8ok {w : World} {R : Ending → World → Prop} {a0 : Value} (h : F8 a0 w R) : Calls P 8 #[a0] w R :=
  calls_of_ev bodies mixed (c := bodyOf Tryz.f8) (nt := 14) (rs := [(ResultVar.tmp 2), (ResultVar.tmp 3)]) (args := [a0]) (fn := Tryz.f8) (by kernel_rfl) (by kernel_rfl) (by kernel_rfl) (by kernel_rfl) (by kernel_rfl) (by simp)
    (eq_mp (show F8 a0 w R = ev P C (bodyOf Tryz.f8) (argE [a0]) w (topK P [(ResultVar.tmp 2), (ResultVar.tmp 3)] R) by kernel_rfl) h)
/-! ### (*moiety/disk.Disk).Write -/
def F33 (a0 : Value) (a1 : Value) (a2 : Value) (w : World) (R : Ending → World → Prop) : Prop :=
bindV (pBox P 90 a2 w) fun v1 w2 =>
callE P 58 #[a0, a1] w2 (fun v5 w6 =>
bindV (pBin P BinOp.neq 26 true v5 (Value.int IntKind.i64 0) w6) fun v7 w8 =>
condE v7 (fun (K9 : KT) =>
K9 .ret (put (put (put (put (put (put (put (put (put (put (argE [a0, a1, a2]) 5 v1) 6 (Value.int IntKind.i64 0)) 8 a0) 9 a1) 10 v5) 7 v5) 11 v5) 12 v7) 13 v5) 6 v5) w8) (fun (K9 : KT) =>
K9 .normal (put (put (put (put (put (put (put (put (argE [a0, a1, a2]) 5 v1) 6 (Value.int IntKind.i64 0)) 8 a0) 9 a1) 10 v5) 7 v5) 11 v5) 12 v7) w8) (thenK (fun e10 w11 =>
takeE (fun w14 => some ((e10 0), w14)) (drew w11) fun v12 h13 =>
takeE (fun w17 => some ((e10 0), w17)) (drew w11) fun v15 h16 =>
takeE (fun w20 => qNil v15 w20) (drew w11) fun v18 h19 =>
takeE (fun w23 => pFieldAddr P 77 v18 1 w23) (drew w11) fun v21 h22 =>
takeE (fun w26 => pLoad P 75 v21 w26) (drew w11) fun v24 h25 =>
takeE (fun w29 => some ((e10 1), w29)) (drew w11) fun v27 h28 =>
takeE (fun w32 => pLoad P 90 (e10 5) w32) (drew w11) fun v30 h31 =>
bindV (pBuild P 96 [(0, v27), (1, v30)] (drew w11)) fun v34 w35 =>
heldE [h25, h22, h19, h16, h13] w35 (bindV (pBuildSlice P 75 1 [(0, v34)] w35) fun v37 w38 =>
heldE [h25, h22, h19, h16, h13] w38 (bindV (pBuiltin P Builtin.append #[75, 75] 75 [v24, v37] w38) fun v40 w41 =>
heldE [h13] w41 (takeE (fun w44 => qNil v12 w44) w41 fun v42 h43 =>
takeE (fun w47 => pFieldAddr P 77 v42 1 w47) w41 fun v45 h46 =>
bindU (pStore P 75 v45 v40 w41) fun w49 =>
nilE (e10 0) fun v50 =>
bindV (pFieldAddr P 77 v50 4 w49) fun v51 w52 =>
bindV (pLoad P 3 v51 w52) fun v53 w54 =>
bindV (pBin P BinOp.add 3 true v53 (Value.int IntKind.i64 1) w54) fun v55 w56 =>
nilE (e10 0) fun v57 =>
bindV (pFieldAddr P 77 v57 4 w56) fun v58 w59 =>
bindU (pStore P 3 v58 v55 w59) fun w60 =>
nilE (e10 0) fun v61 =>
bindV (pFieldAddr P 77 v61 2 w60) fun v62 w63 =>
bindV (pLoad P 3 v62 w63) fun v64 w65 =>
bindV (pBin P BinOp.gtr 3 true v64 (Value.int IntKind.i64 0) w65) fun v66 w67 =>
condE v66 (fun (K68 : KT) =>
nilE (e10 0) fun v69 =>
bindV (pFieldAddr P 77 v69 2 w67) fun v70 w71 =>
bindV (pLoad P 3 v70 w71) fun v72 w73 =>
bindV (pBin P BinOp.sub 3 true v72 (Value.int IntKind.i64 1) w73) fun v74 w75 =>
nilE (e10 0) fun v76 =>
bindV (pFieldAddr P 77 v76 2 w75) fun v77 w78 =>
bindU (pStore P 3 v77 v74 w78) fun w79 =>
nilE (e10 0) fun v80 =>
bindV (pFieldAddr P 77 v80 2 w79) fun v81 w82 =>
bindV (pLoad P 3 v81 w82) fun v83 w84 =>
bindV (pBin P BinOp.eql 3 true v83 (Value.int IntKind.i64 0) w84) fun v85 w86 =>
nilE (e10 0) fun v87 =>
bindV (pFieldAddr P 77 v87 3 w86) fun v88 w89 =>
bindU (pStore P 4 v88 v85 w89) fun w90 =>
K68 .normal (put (put (put (put (put (put (put (put (put (put (put (put (put (put (put (put (put (put (put (put (put (put (put (put (put (put (put (put (put (put (put (put (put (put (put (put (put (put (put e10 14 v12) 15 v15) 16 v18) 17 v21) 18 v24) 19 v27) 20 v30) 21 v34) 22 v37) 23 v40) 24 v42) 25 v45) 26 (e10 0)) 27 v50) 28 v51) 29 v53) 30 v55) 31 v57) 32 v58) 33 (e10 0)) 34 v61) 35 v62) 36 v64) 37 v66) 38 (e10 0)) 39 v69) 40 v70) 41 v72) 42 v74) 43 v76) 44 v77) 45 (e10 0)) 46 (e10 0)) 47 v80) 48 v81) 49 v83) 50 v85) 51 v87) 52 v88) w90) (fun (K68 : KT) =>
K68 .normal (put (put (put (put (put (put (put (put (put (put (put (put (put (put (put (put (put (put (put (put (put (put (put (put e10 14 v12) 15 v15) 16 v18) 17 v21) 18 v24) 19 v27) 20 v30) 21 v34) 22 v37) 23 v40) 24 v42) 25 v45) 26 (e10 0)) 27 v50) 28 v51) 29 v53) 30 v55) 31 v57) 32 v58) 33 (e10 0)) 34 v61) 35 v62) 36 v64) 37 v66) w67) (thenK (fun e91 w92 =>
nilE (e91 0) fun v93 =>
bindV (pFieldAddr P 77 v93 3 w92) fun v94 w95 =>
bindV (pLoad P 4 v94 w95) fun v96 w97 =>
condE v96 (fun (K98 : KT) =>
K98 .ret (put (put (put (put (put e91 53 (e91 0)) 54 v93) 55 v94) 56 v96) 6 (Value.int IntKind.i64 14)) w97) (fun (K98 : KT) =>
K98 .normal (put (put (put (put e91 53 (e91 0)) 54 v93) 55 v94) 56 v96) w97) (thenK (fun e99 w100 =>
R (.returned (Value.int IntKind.i64 0)) w100) (topK P [(ResultVar.tmp 6)] R))) (topK P [(ResultVar.tmp 6)] R)))))) (topK P [(ResultVar.tmp 6)] R))) (fun c3 w4 => R (.panicked c3) w4)
theorem F33ok {w : World} {R : Ending → World → Prop} {a0 : Value} {a1 : Value} {a2 : Value} (h : F33 a0 a1 a2 w R) : Calls P 33 #[a0, a1, a2] w R :=
  calls_of_ev bodies mixed (c := bodyOf Tryz.f33) (nt := 57) (rs := [(ResultVar.tmp 6)]) (args := [a0, a1, a2]) (fn := Tryz.f33) (by kernel_rfl) (by kernel_rfl) (by kernel_rfl) (by kernel_rfl) (by kernel_rfl) (by simp)
    (eq_mp (show F33 a0 a1 a2 w R = ev P C (bodyOf Tryz.f33) (argE [a0, a1, a2]) w (topK P [(ResultVar.tmp 6)] R) by kernel_rfl) h)
/-! ### (*moiety/disk.Disk).Sync -/
def F34B0 (e : Env) (w : World) (K : KT) : Prop :=
bindV (pBin P BinOp.lss 3 false (e 14) (e 13) w) fun v16 w17 =>
condE v16 (fun (K18 : KT) =>
K18 .normal (put e 15 v16) w17) (fun (K18 : KT) =>
K18 (.exit 0) (put e 15 v16) w17) (thenK (fun e19 w20 =>
bindV (pIndexAddr P 75 (e19 12) (e19 14) w20) fun v21 w22 =>
bindV (pLoad P 96 v21 w22) fun v23 w24 =>
bindV (pAlloc P 96 w24) fun v25 w26 =>
bindU (pStore P 96 v25 v23 w26) fun w27 =>
takeE (fun w30 => some ((e19 0), w30)) (drew w27) fun v28 h29 =>
takeE (fun w33 => qNil v28 w33) (drew w27) fun v31 h32 =>
takeE (fun w36 => pFieldAddr P 77 v31 0 w36) (drew w27) fun v34 h35 =>
takeE (fun w39 => pLoad P 74 v34 w39) (drew w27) fun v37 h38 =>
takeE (fun w42 => pFieldAddr P 96 v25 0 w42) (drew w27) fun v40 h41 =>
takeE (fun w45 => pLoad P 3 v40 w45) (drew w27) fun v43 h44 =>
takeE (fun w48 => pFieldAddr P 96 v25 1 w48) (drew w27) fun v46 h47 =>
takeE (fun w51 => pLoad P 90 v46 w51) (drew w27) fun v49 h50 =>
takeE (fun w54 => pIndexAddr P 74 v37 v43 w54) (drew w27) fun v52 h53 =>
bindU (pStore P 90 v52 v49 (drew w27)) fun w56 =>
bindV (pBin P BinOp.add 3 true (e19 14) (Value.int IntKind.i64 1) w56) fun v57 w58 =>
K .normal (put (put (put (put (put (put (put (put (put (put (put (put (put (put e19 16 v21) 17 v23) 4 v25) 18 v28) 19 v31) 20 v34) 21 v37) 22 v40) 23 v43) 24 v46) 25 v49) 26 v52) 27 v57) 14 v57) w58) K)
def F34 (a0 : Value) (w : World) (R : Ending → World → Prop) : Prop :=
nilE a0 fun v1 =>
bindV (pFieldAddr P 77 v1 3 w) fun v2 w3 =>
bindV (pLoad P 4 v2 w3) fun v4 w5 =>
condE v4 (fun (K6 : KT) =>
K6 .ret (put (put (put (put (put (put (argE [a0]) 2 (Value.int IntKind.i64 0)) 5 a0) 6 v1) 7 v2) 8 v4) 2 (Value.int IntKind.i64 14)) w5) (fun (K6 : KT) =>
K6 .normal (put (put (put (put (put (argE [a0]) 2 (Value.int IntKind.i64 0)) 5 a0) 6 v1) 7 v2) 8 v4) w5) (thenK (fun e7 w8 =>
nilE (e7 0) fun v9 =>
bindV (pFieldAddr P 77 v9 1 w8) fun v10 w11 =>
bindV (pLoad P 75 v10 w11) fun v12 w13 =>
bindV (pBuiltin P Builtin.len #[75] 3 [v12] w13) fun v14 w15 =>
loopE F34B0 (put (put (put (put (put (put e7 9 (e7 0)) 10 v9) 11 v10) 12 v12) 13 v14) 14 (Value.int IntKind.i64 0)) w15 (blockK 0 (thenK (fun e59 w60 =>
nilE (e59 0) fun v61 =>
bindV (pFieldAddr P 77 v61 1 w60) fun v62 w63 =>
bindU (pStore P 75 v62 (Value.slice none 0 0) w63) fun w64 =>
R (.returned (Value.int IntKind.i64 0)) w64) (topK P [(ResultVar.tmp 2)] R)))) (topK P [(ResultVar.tmp 2)] R))
theorem F34ok {w : World} {R : Ending → World → Prop} {a0 : Value} (h : F34 a0 w R) : Calls P 34 #[a0] w R :=
  calls_of_ev bodies mixed (c := bodyOf Tryz.f34) (nt := 31) (rs := [(ResultVar.tmp 2)]) (args := [a0]) (fn := Tryz.f34) (by kernel_rfl) (by kernel_rfl) (by kernel_rfl) (by kernel_rfl) (by kernel_rfl) (by simp)
    (eq_mp (show F34 a0 w R = ev P C (bodyOf Tryz.f34) (argE [a0]) w (topK P [(ResultVar.tmp 2)] R) by kernel_rfl) h)
/-! ### (*moiety/disk.Disk).Crash -/
def F12B0 (e : Env) (w : World) (K : KT) : Prop :=
bindV (pBin P BinOp.lss 3 false (e 12) (e 11) w) fun v8 w9 =>
condE v8 (fun (K10 : KT) =>
K10 .normal (put e 13 v8) w9) (fun (K10 : KT) =>
K10 (.exit 0) (put e 13 v8) w9) (thenK (fun e11 w12 =>
bindV (pIndexAddr P 75 (e11 10) (e11 12) w12) fun v13 w14 =>
bindV (pLoad P 96 v13 w14) fun v15 w16 =>
bindV (pAlloc P 96 w16) fun v17 w18 =>
bindU (pStore P 96 v17 v15 w18) fun w19 =>
letK (blockK 1 (thenK (fun e21 w22 =>
bindV (pBin P BinOp.add 3 true (e21 12) (Value.int IntKind.i64 1) w22) fun v23 w24 =>
K .normal (put (put e21 40 v23) 12 v23) w24) K)) fun (K20 : KT) =>
bindV (pBuiltin P Builtin.len #[23] 3 [(e11 1)] w19) fun v25 w26 =>
bindV (pBin P BinOp.lss 3 false (e11 12) v25 w26) fun v27 w28 =>
condE v27 (fun (K29 : KT) =>
bindV (pIndexAddr P 23 (e11 1) (e11 12) w28) fun v30 w31 =>
bindV (pLoad P 3 v30 w31) fun v32 w33 =>
bindV (pBuiltin P Builtin.max #[3, 3] 3 [v32, (Value.int IntKind.i64 0)] w33) fun v34 w35 =>
bindV (pBuiltin P Builtin.min #[3, 3] 3 [v34, (Value.int IntKind.i64 64)] w35) fun v36 w37 =>
K29 .normal (put (put (put (put (put (put (put (put (put (put (put (put (put (put (put (put (put e11 14 (e11 12)) 15 v13) 16 v15) 5 v17) 4 (e11 12)) 6 (Value.int IntKind.i64 0)) 17 (e11 12)) 18 (e11 1)) 19 v25) 20 v27) 21 (e11 1)) 22 (e11 12)) 23 v30) 24 v32) 25 v34) 26 v36) 6 v36) w37) (fun (K29 : KT) =>
K29 .normal (put (put (put (put (put (put (put (put (put (put e11 14 (e11 12)) 15 v13) 16 v15) 5 v17) 4 (e11 12)) 6 (Value.int IntKind.i64 0)) 17 (e11 12)) 18 (e11 1)) 19 v25) 20 v27) w28) (thenK (fun e38 w39 =>
takeE (fun w42 => some ((e38 0), w42)) (drew w39) fun v40 h41 =>
takeE (fun w45 => qNil v40 w45) (drew w39) fun v43 h44 =>
takeE (fun w48 => pFieldAddr P 77 v43 0 w48) (drew w39) fun v46 h47 =>
takeE (fun w51 => pLoad P 74 v46 w51) (drew w39) fun v49 h50 =>
takeE (fun w54 => pFieldAddr P 96 (e38 5) 0 w54) (drew w39) fun v52 h53 =>
takeE (fun w57 => pLoad P 3 v52 w57) (drew w39) fun v55 h56 =>
takeE (fun w60 => pIndexAddr P 74 v49 v55 w60) (drew w39) fun v58 h59 =>
takeE (fun w63 => some ((e38 6), w63)) (drew w39) fun v61 h62 =>
takeE (fun w66 => pSlice P 90 v58 none (some v61) none w66) (drew w39) fun v64 h65 =>
takeE (fun w69 => pFieldAddr P 96 (e38 5) 1 w69) (drew w39) fun v67 h68 =>
takeE (fun w72 => some ((e38 6), w72)) (drew w39) fun v70 h71 =>
takeE (fun w75 => pSlice P 90 v67 none (some v70) none w75) (drew w39) fun v73 h74 =>
bindV (pBuiltin P Builtin.copy #[72, 72] 3 [v64, v73] (drew w39)) fun v77 w78 =>
K20 .normal (put (put (put (put (put (put (put (put (put (put (put (put (put e38 27 v40) 28 v43) 29 v46) 30 v49) 31 v52) 32 v55) 33 v58) 34 v61) 35 v64) 36 v67) 37 v70) 38 v73) 39 v77) w78) K20)) K)
def F12 (a0 : Value) (a1 : Value) (w : World) (R : Ending → World → Prop) : Prop :=
nilE a0 fun v1 =>
bindV (pFieldAddr P 77 v1 1 w) fun v2 w3 =>
bindV (pLoad P 75 v2 w3) fun v4 w5 =>
bindV (pBuiltin P Builtin.len #[75] 3 [v4] w5) fun v6 w7 =>
loopE F12B0 (put (put (put (put (put (put (argE [a0, a1]) 7 a0) 8 v1) 9 v2) 10 v4) 11 v6) 12 (Value.int IntKind.i64 0)) w7 (blockK 0 (thenK (fun e79 w80 =>
nilE (e79 0) fun v81 =>
bindV (pFieldAddr P 77 v81 1 w80) fun v82 w83 =>
bindU (pStore P 75 v82 (Value.slice none 0 0) w83) fun w84 =>
nilE (e79 0) fun v85 =>
bindV (pFieldAddr P 77 v85 2 w84) fun v86 w87 =>
bindU (pStore P 3 v86 (Value.int IntKind.i64 0) w87) fun w88 =>
nilE (e79 0) fun v89 =>
bindV (pFieldAddr P 77 v89 3 w88) fun v90 w91 =>
bindU (pStore P 4 v90 (Value.bool false) w91) fun w92 =>
R (.returned (.tuple #[])) w92) (topK P [] R)))
theorem F12ok {w : World} {R : Ending → World → Prop} {a0 : Value} {a1 : Value} (h : F12 a0 a1 w R) : Calls P 12 #[a0, a1] w R :=
  calls_of_ev bodies mixed (c := bodyOf Tryz.f12) (nt := 50) (rs := []) (args := [a0, a1]) (fn := Tryz.f12) (by kernel_rfl) (by kernel_rfl) (by kernel_rfl) (by kernel_rfl) (by kernel_rfl) (by simp)
    (eq_mp (show F12 a0 a1 w R = ev P C (bodyOf Tryz.f12) (argE [a0, a1]) w (topK P [] R) by kernel_rfl) h)
/-! ### (*moiety/disk.Disk).Read -/
def F35B0 (e : Env) (w : World) (K : KT) : Prop :=
bindV (pBin P BinOp.geq 3 true (e 7) (Value.int IntKind.i64 0) w) fun v24 w25 =>
condE v24 (fun (K26 : KT) =>
K26 .normal (put (put e 21 (e 7)) 22 v24) w25) (fun (K26 : KT) =>
K26 (.exit 0) (put (put e 21 (e 7)) 22 v24) w25) (thenK (fun e27 w28 =>
nilE (e27 0) fun v29 =>
bindV (pFieldAddr P 77 v29 1 w28) fun v30 w31 =>
bindV (pLoad P 75 v30 w31) fun v32 w33 =>
bindV (pIndexAddr P 75 v32 (e27 7) w33) fun v34 w35 =>
bindV (pFieldAddr P 96 v34 0 w35) fun v36 w37 =>
bindV (pLoad P 3 v36 w37) fun v38 w39 =>
bindV (pBin P BinOp.eql 3 false v38 (e27 1) w39) fun v40 w41 =>
condE v40 (fun (K42 : KT) =>
nilE (e27 0) fun v43 =>
bindV (pFieldAddr P 77 v43 1 w41) fun v44 w45 =>
bindV (pLoad P 75 v44 w45) fun v46 w47 =>
bindV (pIndexAddr P 75 v46 (e27 7) w47) fun v48 w49 =>
bindV (pFieldAddr P 96 v48 1 w49) fun v50 w51 =>
bindV (pLoad P 90 v50 w51) fun v52 w53 =>
bindU (pStore P 90 (e27 4) v52 w53) fun w54 =>
K42 .ret (put (put (put (put (put (put (put (put (put (put (put (put (put (put (put (put (put (put (put e27 25 (e27 0)) 26 v29) 27 v30) 28 v32) 29 (e27 7)) 30 v34) 31 v36) 32 v38) 33 (e27 1)) 34 v40) 35 (e27 0)) 36 v43) 37 v44) 38 v46) 39 (e27 7)) 40 v48) 41 v50) 42 v52) 5 (Value.int IntKind.i64 0)) w54) (fun (K42 : KT) =>
K42 .normal (put (put (put (put (put (put (put (put (put (put e27 25 (e27 0)) 26 v29) 27 v30) 28 v32) 29 (e27 7)) 30 v34) 31 v36) 32 v38) 33 (e27 1)) 34 v40) w41) (blockK 1 (thenK (fun e55 w56 =>
bindV (pBin P BinOp.sub 3 true (e55 7) (Value.int IntKind.i64 1) w56) fun v57 w58 =>
K .normal (put (put (put e55 23 (e55 7)) 24 v57) 7 v57) w58) K))) K)
def F35 (a0 : Value) (a1 : Value) (w : World) (R : Ending → World → Prop) : Prop :=
bindV (pAlloc P 90 w) fun v1 w2 =>
callE P 58 #[a0, a1] w2 (fun v5 w6 =>
bindV (pBin P BinOp.neq 26 true v5 (Value.int IntKind.i64 0) w6) fun v7 w8 =>
condE v7 (fun (K9 : KT) =>
bindV (pBuild P 90 [] w8) fun v10 w11 =>
bindU (pStore P 90 v1 v10 w11) fun w12 =>
K9 .ret (put (put (put (put (put (put (put (put (put (put (put (argE [a0, a1]) 4 v1) 5 (Value.int IntKind.i64 0)) 8 a0) 9 a1) 10 v5) 6 v5) 11 v5) 12 v7) 13 v10) 14 v5) 5 v5) w12) (fun (K9 : KT) =>
K9 .normal (put (put (put (put (put (put (put (put (argE [a0, a1]) 4 v1) 5 (Value.int IntKind.i64 0)) 8 a0) 9 a1) 10 v5) 6 v5) 11 v5) 12 v7) w8) (thenK (fun e13 w14 =>
nilE (e13 0) fun v15 =>
bindV (pFieldAddr P 77 v15 1 w14) fun v16 w17 =>
bindV (pLoad P 75 v16 w17) fun v18 w19 =>
bindV (pBuiltin P Builtin.len #[75] 3 [v18] w19) fun v20 w21 =>
bindV (pBin P BinOp.sub 3 true v20 (Value.int IntKind.i64 1) w21) fun v22 w23 =>
loopE F35B0 (put (put (put (put (put (put (put e13 15 (e13 0)) 16 v15) 17 v16) 18 v18) 19 v20) 20 v22) 7 v22) w23 (blockK 0 (thenK (fun e59 w60 =>
nilE (e59 0) fun v61 =>
bindV (pFieldAddr P 77 v61 0 w60) fun v62 w63 =>
bindV (pLoad P 74 v62 w63) fun v64 w65 =>
bindV (pIndexAddr P 74 v64 (e59 1) w65) fun v66 w67 =>
bindV (pLoad P 90 v66 w67) fun v68 w69 =>
bindU (pStore P 90 (e59 4) v68 w69) fun w70 =>
topK P [(ResultVar.cell 4 90), (ResultVar.tmp 5)] R .ret (put (put (put (put (put (put (put (put e59 43 (e59 0)) 44 v61) 45 v62) 46 v64) 47 (e59 1)) 48 v66) 49 v68) 5 (Value.int IntKind.i64 0)) w70) (topK P [(ResultVar.cell 4 90), (ResultVar.tmp 5)] R)))) (topK P [(ResultVar.cell 4 90), (ResultVar.tmp 5)] R))) (fun c3 w4 => R (.panicked c3) w4)
theorem F35ok {w : World} {R : Ending → World → Prop} {a0 : Value} {a1 : Value} (h : F35 a0 a1 w R) : Calls P 35 #[a0, a1] w R :=
  calls_of_ev bodies mixed (c := bodyOf Tryz.f35) (nt := 50) (rs := [(ResultVar.cell 4 90), (ResultVar.tmp 5)]) (args := [a0, a1]) (fn := Tryz.f35) (by kernel_rfl) (by kernel_rfl) (by kernel_rfl) (by kernel_rfl) (by kernel_rfl) (by simp)
    (eq_mp (show F35 a0 a1 w R = ev P C (bodyOf Tryz.f35) (argE [a0, a1]) w (topK P [(ResultVar.cell 4 90), (ResultVar.tmp 5)] R) by kernel_rfl) h)
/-! ### (*moiety/disk.Disk).Down -/
def F51 (a0 : Value) (w : World) (R : Ending → World → Prop) : Prop :=
nilE a0 fun v1 =>
bindV (pFieldAddr P 77 v1 3 w) fun v2 w3 =>
bindV (pLoad P 4 v2 w3) fun v4 w5 =>
R (.returned v4) w5
theorem F51ok {w : World} {R : Ending → World → Prop} {a0 : Value} (h : F51 a0 w R) : Calls P 51 #[a0] w R :=
  calls_of_ev bodies mixed (c := bodyOf Tryz.f51) (nt := 7) (rs := [(ResultVar.tmp 2)]) (args := [a0]) (fn := Tryz.f51) (by kernel_rfl) (by kernel_rfl) (by kernel_rfl) (by kernel_rfl) (by kernel_rfl) (by simp)
    (eq_mp (show F51 a0 w R = ev P C (bodyOf Tryz.f51) (argE [a0]) w (topK P [(ResultVar.tmp 2)] R) by kernel_rfl) h)
/-! ### (*moiety/disk.Disk).Len -/
def F55 (a0 : Value) (w : World) (R : Ending → World → Prop) : Prop :=
nilE a0 fun v1 =>
bindV (pFieldAddr P 77 v1 0 w) fun v2 w3 =>
bindV (pLoad P 74 v2 w3) fun v4 w5 =>
bindV (pBuiltin P Builtin.len #[74] 3 [v4] w5) fun v6 w7 =>
R (.returned v6) w7
theorem F55ok {w : World} {R : Ending → World → Prop} {a0 : Value} (h : F55 a0 w R) : Calls P 55 #[a0] w R :=
  calls_of_ev bodies mixed (c := bodyOf Tryz.f55) (nt := 8) (rs := [(ResultVar.tmp 2)]) (args := [a0]) (fn := Tryz.f55) (by kernel_rfl) (by kernel_rfl) (by kernel_rfl) (by kernel_rfl) (by kernel_rfl) (by simp)
    (eq_mp (show F55 a0 w R = ev P C (bodyOf Tryz.f55) (argE [a0]) w (topK P [(ResultVar.tmp 2)] R) by kernel_rfl) h)
/-! ### (*moiety/disk.Disk).Break -/
def F11 (a0 : Value) (a1 : Value) (w : World) (R : Ending → World → Prop) : Prop :=
bindV (pBuiltin P Builtin.max #[3, 3] 3 [a1, (Value.int IntKind.i64 0)] w) fun v1 w2 =>
nilE a0 fun v3 =>
bindV (pFieldAddr P 77 v3 2 w2) fun v4 w5 =>
bindU (pStore P 3 v4 v1 w5) fun w6 =>
R (.returned (.tuple #[])) w6
theorem F11ok {w : World} {R : Ending → World → Prop} {a0 : Value} {a1 : Value} (h : F11 a0 a1 w R) : Calls P 11 #[a0, a1] w R :=
  calls_of_ev bodies mixed (c := bodyOf Tryz.f11) (nt := 9) (rs := []) (args := [a0, a1]) (fn := Tryz.f11) (by kernel_rfl) (by kernel_rfl) (by kernel_rfl) (by kernel_rfl) (by kernel_rfl) (by simp)
    (eq_mp (show F11 a0 a1 w R = ev P C (bodyOf Tryz.f11) (argE [a0, a1]) w (topK P [] R) by kernel_rfl) h)
/-! ### (*moiety/disk.Disk).ok -/
def F58 (a0 : Value) (a1 : Value) (w : World) (R : Ending → World → Prop) : Prop :=
nilE a0 fun v1 =>
bindV (pFieldAddr P 77 v1 3 w) fun v2 w3 =>
bindV (pLoad P 4 v2 w3) fun v4 w5 =>
condE v4 (fun (K6 : KT) =>
K6 .ret (put (put (put (put (put (put (put (argE [a0, a1]) 4 (Value.int IntKind.i64 0)) 6 a0) 7 v1) 8 v2) 9 v4) 5 v4) 4 (Value.int IntKind.i64 14)) w5) (fun (K6 : KT) =>
bindV (pBin P BinOp.lss 3 true a1 (Value.int IntKind.i64 0) w5) fun v7 w8 =>
grdE v7 false (fun (k9 : Value → World → Prop) => k9 a1 w8) (fun v10 w11 =>
grdE v7 false (fun (k12 : Value → World → Prop) => k12 a0 w11) (fun v13 w14 =>
grdE v7 false (fun (k15 : Value → World → Prop) => nilE v13 fun v16 =>
k15 v16 w14) (fun v17 w18 =>
grdE v7 false (fun (k19 : Value → World → Prop) => bindV (pFieldAddr P 77 v17 0 w18) k19) (fun v20 w21 =>
grdE v7 false (fun (k22 : Value → World → Prop) => bindV (pLoad P 74 v20 w21) k22) (fun v23 w24 =>
grdE v7 false (fun (k25 : Value → World → Prop) => bindV (pBuiltin P Builtin.len #[74] 3 [v23] w24) k25) (fun v26 w27 =>
grdE v7 false (fun (k28 : Value → World → Prop) => bindV (pBin P BinOp.geq 3 false v10 v26 w27) k28) (fun v29 w30 =>
pickE v7 (Value.bool true) v29 fun v31 =>
condE v31 (fun (K32 : KT) =>
K32 .ret (put (put (put (put (put (put (put (put (put (put (put (put (put (put (put (put (put (put (put (argE [a0, a1]) 4 (Value.int IntKind.i64 0)) 6 a0) 7 v1) 8 v2) 9 v4) 5 v4) 11 a1) 12 v7) 13 v7) 14 v10) 15 v13) 16 v17) 17 v20) 18 v23) 19 v26) 20 v29) 21 v31) 10 v31) 4 (Value.int IntKind.i64 1)) w30) (fun (K32 : KT) =>
K32 .normal (put (put (put (put (put (put (put (put (put (put (put (put (put (put (put (put (put (put (argE [a0, a1]) 4 (Value.int IntKind.i64 0)) 6 a0) 7 v1) 8 v2) 9 v4) 5 v4) 11 a1) 12 v7) 13 v7) 14 v10) 15 v13) 16 v17) 17 v20) 18 v23) 19 v26) 20 v29) 21 v31) 10 v31) w30) K6) w27) w24) w21) w18) w14) w11) w8) (blockK 0 (thenK (fun e33 w34 =>
R (.returned (Value.int IntKind.i64 0)) w34) (topK P [(ResultVar.tmp 4)] R)))
theorem F58ok {w : World} {R : Ending → World → Prop} {a0 : Value} {a1 : Value} (h : F58 a0 a1 w R) : Calls P 58 #[a0, a1] w R :=
  calls_of_ev bodies mixed (c := bodyOf Tryz.f58) (nt := 22) (rs := [(ResultVar.tmp 4)]) (args := [a0, a1]) (fn := Tryz.f58) (by kernel_rfl) (by kernel_rfl) (by kernel_rfl) (by kernel_rfl) (by kernel_rfl) (by simp)
    (eq_mp (show F58 a0 a1 w R = ev P C (bodyOf Tryz.f58) (argE [a0, a1]) w (topK P [(ResultVar.tmp 4)] R) by kernel_rfl) h)
end Go.Proofs.YtieejbkbdfccdaaGreat

set_option linter.unusedVariables false
set_option linter.unusedSimpArgs false
namespace Go.Proofs.YtieejbkbdfccdaaGreat
open Go Env
/-! ### moiety/seal.Wipe -/
def F30B0 (e : Env) (w : World) (K : KT) : Prop :=
bindV (pBin P BinOp.lss 3 false (e 15) (e 14) w) fun v3 w4 =>
condE v3 (fun (K5 : KT) =>
K5 .normal (put e 16 v3) w4) (fun (K5 : KT) =>
K5 (.exit 0) (put e 16 v3) w4) (thenK (fun e6 w7 =>
bindV (pBin P BinOp.add 3 false (e6 1) (e6 15) w7) fun v8 w9 =>
callE P 35 #[(e6 0), v8] w9 (fun v12 w13 =>
bindV (pExtract P v12 0 w13) fun v14 w15 =>
bindV (pExtract P v12 1 w15) fun v16 w17 =>
bindV (pAlloc P 90 w17) fun v18 w19 =>
bindU (pStore P 90 v18 v14 w19) fun w20 =>
letK (blockK 1 (thenK (fun e22 w23 =>
bindV (pBin P BinOp.add 3 true (e22 15) (Value.int IntKind.i64 1) w23) fun v24 w25 =>
K .normal (put (put e22 39 v24) 15 v24) w25) K)) fun (K21 : KT) =>
bindV (pBin P BinOp.neq 26 true v16 (Value.int IntKind.i64 0) w20) fun v26 w27 =>
condE v26 (fun (K28 : KT) =>
K28 .ret (put (put (put (put (put (put (put (put (put (put (put (put (put (put (put (put (put (put e6 17 (e6 15)) 8 (e6 15)) 18 (e6 1)) 19 (e6 15)) 20 v8) 9 v8) 22 (e6 0)) 23 v8) 24 v12) 21 v12) 25 v14) 26 v16) 10 v18) 11 v16) 27 v16) 28 v26) 29 v16) 6 v16) w27) (fun (K28 : KT) =>
K28 .normal (put (put (put (put (put (put (put (put (put (put (put (put (put (put (put (put e6 17 (e6 15)) 8 (e6 15)) 18 (e6 1)) 19 (e6 15)) 20 v8) 9 v8) 22 (e6 0)) 23 v8) 24 v12) 21 v12) 25 v14) 26 v16) 10 v18) 11 v16) 27 v16) 28 v26) w27) (thenK (fun e29 w30 =>
bindV (pLoad P 90 (e29 10) w30) fun v31 w32 =>
callE P 56 #[v31] w32 (fun v35 w36 =>
condE v35 (fun (K37 : KT) =>
K37 (.exit 1) (put (put e29 30 v31) 31 v35) w36) (fun (K37 : KT) =>
K37 .normal (put (put e29 30 v31) 31 v35) w36) (thenK (fun e38 w39 =>
bindV (pBuild P 90 [] w39) fun v40 w41 =>
callE P 33 #[(e38 0), (e38 9), v40] w41 (fun v44 w45 =>
bindV (pBin P BinOp.neq 26 true v44 (Value.int IntKind.i64 0) w45) fun v46 w47 =>
condE v46 (fun (K48 : KT) =>
K48 .ret (put (put (put (put (put (put (put (put (put (put e38 7 (Value.bool true)) 32 (e38 0)) 33 (e38 9)) 34 v40) 35 v44) 12 v44) 36 v44) 37 v46) 38 v44) 6 v44) w47) (fun (K48 : KT) =>
K48 .normal (put (put (put (put (put (put (put (put e38 7 (Value.bool true)) 32 (e38 0)) 33 (e38 9)) 34 v40) 35 v44) 12 v44) 36 v44) 37 v46) w47) K21) (fun c42 w43 => K21 (.panic c42) (put (put (put (put e38 7 (Value.bool true)) 32 (e38 0)) 33 (e38 9)) 34 v40) w43)) K21)) (fun c33 w34 => K21 (.panic c33) (put e29 30 v31) w34)) K21)) (fun c10 w11 => K (.panic c10) (put (put (put (put (put (put (put (put e6 17 (e6 15)) 8 (e6 15)) 18 (e6 1)) 19 (e6 15)) 20 v8) 9 v8) 22 (e6 0)) 23 v8) w11)) K)
def F30 (a0 : Value) (a1 : Value) (a2 : Value) (w : World) (R : Ending → World → Prop) : Prop :=
bindV (pBuiltin P Builtin.max #[3, 3] 3 [a2, (Value.int IntKind.i64 0)] w) fun v1 w2 =>
loopE F30B0 (put (put (put (put (put (argE [a0, a1, a2]) 6 (Value.int IntKind.i64 0)) 7 (Value.bool false)) 13 a2) 14 v1) 15 (Value.int IntKind.i64 0)) w2 (blockK 0 (thenK (fun e49 w50 =>
bindV (pUn P UnOp.not (e49 7) w50) fun v51 w52 =>
condE v51 (fun (K53 : KT) =>
K53 .ret (put (put (put e49 40 (e49 7)) 41 v51) 6 (Value.int IntKind.i64 0)) w52) (fun (K53 : KT) =>
K53 .normal (put (put e49 40 (e49 7)) 41 v51) w52) (thenK (fun e54 w55 =>
callE P 34 #[(e54 0)] w55 (fun v58 w59 =>
R (.returned v58) w59) (fun c56 w57 => R (.panicked c56) w57)) (topK P [(ResultVar.tmp 6)] R))) (topK P [(ResultVar.tmp 6)] R)))
theorem F30ok {w : World} {R : Ending → World → Prop} {a0 : Value} {a1 : Value} {a2 : Value} (h : F30 a0 a1 a2 w R) : Calls P 30 #[a0, a1, a2] w R :=
  calls_of_ev bodies mixed (c := bodyOf Tryz.f30) (nt := 44) (rs := [(ResultVar.tmp 6)]) (args := [a0, a1, a2]) (fn := Tryz.f30) (by kernel_rfl) (by kernel_rfl) (by kernel_rfl) (by kernel_rfl) (by kernel_rfl) (by simp)
    (eq_mp (show F30 a0 a1 a2 w R = ev P C (bodyOf Tryz.f30) (argE [a0, a1, a2]) w (topK P [(ResultVar.tmp 6)] R) by kernel_rfl) h)
end Go.Proofs.YtieejbkbdfccdaaGreat

set_option linter.unusedVariables false
set_option linter.unusedSimpArgs false
namespace Go.Proofs.YtieejbkbdfccdaaGreat
open Go Env
/-! ### moiety/roll.Open -/
def F26 (a0 : Value) (a1 : Value) (w : World) (R : Ending → World → Prop) : Prop :=
bindV (pBox P 42 a1 w) fun v1 w2 =>
bindV (pLoad P 42 v1 w2) fun v3 w4 =>
callE P 24 #[a0, v3] w4 (fun v7 w8 =>
bindV (pExtract P v7 0 w8) fun v9 w10 =>
bindV (pExtract P v7 1 w10) fun v11 w12 =>
bindV (pExtract P v7 2 w12) fun v13 w14 =>
bindV (pBin P BinOp.neq 26 true v13 (Value.int IntKind.i64 0) w14) fun v15 w16 =>
condE v15 (fun (K17 : KT) =>
K17 .ret (put (put (put (put (put (put (put (put (put (put (put (put (put (put (put (put (put (put (put (put (argE [a0, a1]) 3 v1) 4 (Value.pointer none)) 5 (Value.slice none 0 0)) 6 (Value.int IntKind.i64 0)) 12 a0) 13 v3) 14 v7) 11 v7) 15 v9) 16 v11) 17 v13) 7 v9) 8 v11) 9 v13) 18 v13) 19 v15) 20 v13) 4 (Value.pointer none)) 5 (Value.slice none 0 0)) 6 v13) w16) (fun (K17 : KT) =>
K17 .normal (put (put (put (put (put (put (put (put (put (put (put (put (put (put (put (put (argE [a0, a1]) 3 v1) 4 (Value.pointer none)) 5 (Value.slice none 0 0)) 6 (Value.int IntKind.i64 0)) 12 a0) 13 v3) 14 v7) 11 v7) 15 v9) 16 v11) 17 v13) 7 v9) 8 v11) 9 v13) 18 v13) 19 v15) w16) (thenK (fun e18 w19 =>
bindV (pFieldAddr P 42 (e18 3) 0 w19) fun v20 w21 =>
bindV (pLoad P 3 v20 w21) fun v22 w23 =>
bindV (pBin P BinOp.add 3 false v22 (e18 8) w23) fun v24 w25 =>
bindV (pFieldAddr P 42 (e18 3) 1 w25) fun v26 w27 =>
bindV (pLoad P 3 v26 w27) fun v28 w29 =>
bindV (pBin P BinOp.sub 3 false v28 (e18 8) w29) fun v30 w31 =>
callE P 30 #[(e18 0), v24, v30] w31 (fun v34 w35 =>
bindV (pBin P BinOp.neq 26 true v34 (Value.int IntKind.i64 0) w35) fun v36 w37 =>
condE v36 (fun (K38 : KT) =>
K38 .ret (put (put (put (put (put (put (put (put (put (put (put (put (put (put (put (put (put e18 21 (e18 0)) 22 v20) 23 v22) 24 (e18 8)) 25 v24) 26 v26) 27 v28) 28 (e18 8)) 29 v30) 30 v34) 10 v34) 31 v34) 32 v36) 33 v34) 4 (Value.pointer none)) 5 (Value.slice none 0 0)) 6 v34) w37) (fun (K38 : KT) =>
K38 .normal (put (put (put (put (put (put (put (put (put (put (put (put (put e18 21 (e18 0)) 22 v20) 23 v22) 24 (e18 8)) 25 v24) 26 v26) 27 v28) 28 (e18 8)) 29 v30) 30 v34) 10 v34) 31 v34) 32 v36) w37) (thenK (fun e39 w40 =>
bindV (pLoad P 42 (e39 3) w40) fun v41 w42 =>
bindV (pBuild P 124 [(0, (e39 0)), (1, v41), (2, (e39 8))] w42) fun v43 w44 =>
bindV (pBox P 124 v43 w44) fun v45 w46 =>
R (.returned (.tuple #[v45, (e39 7), (Value.int IntKind.i64 0)])) w46) (topK P [(ResultVar.tmp 4), (ResultVar.tmp 5), (ResultVar.tmp 6)] R))) (fun c32 w33 => R (.panicked c32) w33)) (topK P [(ResultVar.tmp 4), (ResultVar.tmp 5), (ResultVar.tmp 6)] R))) (fun c5 w6 => R (.panicked c5) w6)
theorem F26ok {w : World} {R : Ending → World → Prop} {a0 : Value} {a1 : Value} (h : F26 a0 a1 w R) : Calls P 26 #[a0, a1] w R :=
  calls_of_ev bodies mixed (c := bodyOf Tryz.f26) (nt := 40) (rs := [(ResultVar.tmp 4), (ResultVar.tmp 5), (ResultVar.tmp 6)]) (args := [a0, a1]) (fn := Tryz.f26) (by kernel_rfl) (by kernel_rfl) (by kernel_rfl) (by kernel_rfl) (by kernel_rfl) (by simp)
    (eq_mp (show F26 a0 a1 w R = ev P C (bodyOf Tryz.f26) (argE [a0, a1]) w (topK P [(ResultVar.tmp 4), (ResultVar.tmp 5), (ResultVar.tmp 6)] R) by kernel_rfl) h)
/-! ### (*moiety/roll.Roll).Append -/
def F27B0 (e : Env) (w : World) (K : KT) : Prop :=
bindV (pBin P BinOp.lss 3 false (e 32) (e 31) w) fun v37 w38 =>
condE v37 (fun (K39 : KT) =>
K39 .normal (put e 33 v37) w38) (fun (K39 : KT) =>
K39 (.exit 1) (put e 33 v37) w38) (thenK (fun e40 w41 =>
bindV (pBin P BinOp.mul 3 true (e40 32) (Value.int IntKind.i64 60) w41) fun v42 w43 =>
bindV (pBuiltin P Builtin.len #[72] 3 [(e40 1)] w43) fun v44 w45 =>
bindV (pBuiltin P Builtin.min #[3, 3] 3 [v42, v44] w45) fun v46 w47 =>
bindV (pBin P BinOp.add 3 true (e40 32) (Value.int IntKind.i64 1) w47) fun v48 w49 =>
bindV (pBin P BinOp.mul 3 true v48 (Value.int IntKind.i64 60) w49) fun v50 w51 =>
bindV (pBuiltin P Builtin.len #[72] 3 [(e40 1)] w51) fun v52 w53 =>
bindV (pBuiltin P Builtin.min #[3, 3] 3 [v50, v52] w53) fun v54 w55 =>
bindV (pSlice P 72 (e40 1) (some v46) (some v54) none w55) fun v56 w57 =>
bindV (pBin P BinOp.sub 3 true (e40 5) (Value.int IntKind.i64 1) w57) fun v58 w59 =>
bindV (pBin P BinOp.sub 3 false v58 (e40 32) w59) fun v60 w61 =>
bindV (pConv P 3 5 v60 w61) fun v62 w63 =>
bindV (pBuildSlice P 72 1 [(0, v62)] w63) fun v64 w65 =>
bindV (pBuiltin P Builtin.append #[72, 72] 72 [v64, v56] w65) fun v66 w67 =>
callE P 31 #[v66] w67 (fun v70 w71 =>
bindV (pExtract P v70 0 w71) fun v72 w73 =>
bindV (pExtract P v70 1 w73) fun v74 w75 =>
bindV (pAlloc P 90 w75) fun v76 w77 =>
bindU (pStore P 90 v76 v72 w77) fun w78 =>
takeE (fun w81 => some ((e40 0), w81)) (drew w78) fun v79 h80 =>
takeE (fun w84 => qNil v79 w84) (drew w78) fun v82 h83 =>
takeE (fun w87 => pFieldAddr P 124 v82 0 w87) (drew w78) fun v85 h86 =>
takeE (fun w90 => pLoad P 38 v85 w90) (drew w78) fun v88 h89 =>
takeE (fun w93 => some ((e40 0), w93)) (drew w78) fun v91 h92 =>
takeE (fun w96 => qNil v91 w96) (drew w78) fun v94 h95 =>
takeE (fun w99 => pFieldAddr P 124 v94 1 w99) (drew w78) fun v97 h98 =>
takeE (fun w102 => pFieldAddr P 42 v97 0 w102) (drew w78) fun v100 h101 =>
takeE (fun w105 => pLoad P 3 v100 w105) (drew w78) fun v103 h104 =>
takeE (fun w108 => some ((e40 0), w108)) (drew w78) fun v106 h107 =>
takeE (fun w111 => qNil v106 w111) (drew w78) fun v109 h110 =>
takeE (fun w114 => pFieldAddr P 124 v109 2 w114) (drew w78) fun v112 h113 =>
takeE (fun w117 => pLoad P 3 v112 w117) (drew w78) fun v115 h116 =>
takeE (fun w120 => pBin P BinOp.add 3 false v103 v115 w120) (drew w78) fun v118 h119 =>
takeE (fun w123 => some ((e40 32), w123)) (drew w78) fun v121 h122 =>
takeE (fun w126 => pBin P BinOp.add 3 false v118 v121 w126) (drew w78) fun v124 h125 =>
takeE (fun w129 => pLoad P 90 v76 w129) (drew w78) fun v127 h128 =>
callE P 33 #[v88, v124, v127] (drew w78) (fun v133 w134 =>
bindV (pBin P BinOp.neq 26 true v133 (Value.int IntKind.i64 0) w134) fun v136 w137 =>
condE v136 (fun (K138 : KT) =>
K138 .ret (put (put (put (put (put (put (put (put (put (put (put (put (put (put (put (put (put (put (put (put (put (put (put (put (put (put (put (put (put (put (put (put (put (put (put (put (put (put (put (put (put (put (put (put (put (put (put (put (put (put (put (put (put e40 34 (e40 32)) 6 (e40 32)) 35 (e40 1)) 36 (e40 32)) 37 v42) 38 (e40 1)) 39 v44) 40 v46) 41 (e40 32)) 42 v48) 43 v50) 44 (e40 1)) 45 v52) 46 v54) 47 v56) 7 v56) 49 (e40 5)) 50 v58) 51 (e40 32)) 52 v60) 53 v62) 54 v64) 55 v56) 56 v66) 57 v70) 48 v70) 58 v72) 59 v74) 8 v76) 9 v74) 60 v79) 61 v82) 62 v85) 63 v88) 64 v91) 65 v94) 66 v97) 67 v100) 68 v103) 69 v106) 70 v109) 71 v112) 72 v115) 73 v118) 74 v121) 75 v124) 76 v127) 77 v133) 10 v133) 78 v133) 79 v136) 80 v133) 4 v133) w137) (fun (K138 : KT) =>
K138 .normal (put (put (put (put (put (put (put (put (put (put (put (put (put (put (put (put (put (put (put (put (put (put (put (put (put (put (put (put (put (put (put (put (put (put (put (put (put (put (put (put (put (put (put (put (put (put (put (put (put (put (put e40 34 (e40 32)) 6 (e40 32)) 35 (e40 1)) 36 (e40 32)) 37 v42) 38 (e40 1)) 39 v44) 40 v46) 41 (e40 32)) 42 v48) 43 v50) 44 (e40 1)) 45 v52) 46 v54) 47 v56) 7 v56) 49 (e40 5)) 50 v58) 51 (e40 32)) 52 v60) 53 v62) 54 v64) 55 v56) 56 v66) 57 v70) 48 v70) 58 v72) 59 v74) 8 v76) 9 v74) 60 v79) 61 v82) 62 v85) 63 v88) 64 v91) 65 v94) 66 v97) 67 v100) 68 v103) 69 v106) 70 v109) 71 v112) 72 v115) 73 v118) 74 v121) 75 v124) 76 v127) 77 v133) 10 v133) 78 v133) 79 v136) w137) (blockK 2 (thenK (fun e139 w140 =>
bindV (pBin P BinOp.add 3 true (e139 32) (Value.int IntKind.i64 1) w140) fun v141 w142 =>
K .normal (put (put e139 81 v141) 32 v141) w142) K))) (fun c131 w132 => ∀ (e130 : Env), agreeOff [60, 61, 62, 63, 64, 65, 66, 67, 68, 69, 70, 71, 72, 73, 74, 75, 76] (put (put (put (put (put (put (put (put (put (put (put (put (put (put (put (put (put (put (put (put (put (put (put (put (put (put (put (put (put (put (put (put (put (put (put (put (put (put (put (put (put (put (put (put (put (put (put e40 34 (e40 32)) 6 (e40 32)) 35 (e40 1)) 36 (e40 32)) 37 v42) 38 (e40 1)) 39 v44) 40 v46) 41 (e40 32)) 42 v48) 43 v50) 44 (e40 1)) 45 v52) 46 v54) 47 v56) 7 v56) 49 (e40 5)) 50 v58) 51 (e40 32)) 52 v60) 53 v62) 54 v64) 55 v56) 56 v66) 57 v70) 48 v70) 58 v72) 59 v74) 8 v76) 9 v74) 60 v79) 61 v82) 62 v85) 63 v88) 64 v91) 65 v94) 66 v97) 67 v100) 68 v103) 69 v106) 70 v109) 71 v112) 72 v115) 73 v118) 74 v121) 75 v124) 76 v127) e130 → K (.panic c131) e130 w132)) (fun c68 w69 => K (.panic c68) (put (put (put (put (put (put (put (put (put (put (put (put (put (put (put (put (put (put (put (put (put (put (put (put e40 34 (e40 32)) 6 (e40 32)) 35 (e40 1)) 36 (e40 32)) 37 v42) 38 (e40 1)) 39 v44) 40 v46) 41 (e40 32)) 42 v48) 43 v50) 44 (e40 1)) 45 v52) 46 v54) 47 v56) 7 v56) 49 (e40 5)) 50 v58) 51 (e40 32)) 52 v60) 53 v62) 54 v64) 55 v56) 56 v66) w69)) K)
def F27 (a0 : Value) (a1 : Value) (w : World) (R : Ending → World → Prop) : Prop :=
nilE a0 fun v1 =>
bindV (pFieldAddr P 124 v1 0 w) fun v2 w3 =>
bindV (pLoad P 38 v2 w3) fun v4 w5 =>
callE P 51 #[v4] w5 (fun v8 w9 =>
condE v8 (fun (K10 : KT) =>
K10 .ret (put (put (put (put (put (put (put (put (argE [a0, a1]) 4 (Value.int IntKind.i64 0)) 12 a0) 13 v1) 14 v2) 15 v4) 16 v8) 11 v8) 4 (Value.int IntKind.i64 14)) w9) (fun (K10 : KT) =>
bindV (pBuiltin P Builtin.len #[72] 3 [a1] w9) fun v11 w12 =>
bindV (pBin P BinOp.gtr 3 true v11 (Value.int IntKind.i64 3840) w12) fun v13 w14 =>
condE v13 (fun (K15 : KT) =>
K15 .ret (put (put (put (put (put (put (put (put (put (put (put (put (argE [a0, a1]) 4 (Value.int IntKind.i64 0)) 12 a0) 13 v1) 14 v2) 15 v4) 16 v8) 11 v8) 18 a1) 19 v11) 20 v13) 17 v13) 4 (Value.int IntKind.i64 3)) w14) (fun (K15 : KT) =>
bindV (pBuiltin P Builtin.len #[72] 3 [a1] w14) fun v16 w17 =>
callE P 22 #[v16] w17 (fun v20 w21 =>
callE P 54 #[a0] w21 (fun v24 w25 =>
bindV (pBin P BinOp.gtr 3 false v20 v24 w25) fun v26 w27 =>
condE v26 (fun (K28 : KT) =>
K28 .ret (put (put (put (put (put (put (put (put (put (put (put (put (put (put (put (put (put (put (put (argE [a0, a1]) 4 (Value.int IntKind.i64 0)) 12 a0) 13 v1) 14 v2) 15 v4) 16 v8) 11 v8) 18 a1) 19 v11) 20 v13) 17 v13) 22 a1) 23 v16) 24 v20) 25 a0) 26 v24) 27 v26) 21 v26) 4 (Value.int IntKind.i64 8)) w27) (fun (K28 : KT) =>
K28 .normal (put (put (put (put (put (put (put (put (put (put (put (put (put (put (put (put (put (put (argE [a0, a1]) 4 (Value.int IntKind.i64 0)) 12 a0) 13 v1) 14 v2) 15 v4) 16 v8) 11 v8) 18 a1) 19 v11) 20 v13) 17 v13) 22 a1) 23 v16) 24 v20) 25 a0) 26 v24) 27 v26) 21 v26) w27) K15) (fun c22 w23 => K15 (.panic c22) (put (put (put (put (put (put (put (put (put (put (put (put (put (put (put (argE [a0, a1]) 4 (Value.int IntKind.i64 0)) 12 a0) 13 v1) 14 v2) 15 v4) 16 v8) 11 v8) 18 a1) 19 v11) 20 v13) 17 v13) 22 a1) 23 v16) 24 v20) 25 a0) w23)) (fun c18 w19 => K15 (.panic c18) (put (put (put (put (put (put (put (put (put (put (put (put (put (argE [a0, a1]) 4 (Value.int IntKind.i64 0)) 12 a0) 13 v1) 14 v2) 15 v4) 16 v8) 11 v8) 18 a1) 19 v11) 20 v13) 17 v13) 22 a1) 23 v16) w19)) K10) (blockK 0 (thenK (fun e29 w30 =>
bindV (pBuiltin P Builtin.len #[72] 3 [(e29 1)] w30) fun v31 w32 =>
callE P 22 #[v31] w32 (fun v35 w36 =>
loopE F27B0 (put (put (put (put (put (put e29 28 (e29 1)) 29 v31) 30 v35) 5 v35) 31 v35) 32 (Value.int IntKind.i64 0)) w36 (blockK 1 (thenK (fun e143 w144 =>
nilE (e143 0) fun v145 =>
bindV (pFieldAddr P 124 v145 2 w144) fun v146 w147 =>
bindV (pLoad P 3 v146 w147) fun v148 w149 =>
bindV (pBin P BinOp.add 3 false v148 (e143 5) w149) fun v150 w151 =>
nilE (e143 0) fun v152 =>
bindV (pFieldAddr P 124 v152 2 w151) fun v153 w154 =>
bindU (pStore P 3 v153 v150 w154) fun w155 =>
R (.returned (Value.int IntKind.i64 0)) w155) (topK P [(ResultVar.tmp 4)] R)))) (fun c33 w34 => R (.panicked c33) w34)) (topK P [(ResultVar.tmp 4)] R)))) (fun c6 w7 => R (.panicked c6) w7)
theorem F27ok {w : World} {R : Ending → World → Prop} {a0 : Value} {a1 : Value} (h : F27 a0 a1 w R) : Calls P 27 #[a0, a1] w R :=
  calls_of_ev bodies mixed (c := bodyOf Tryz.f27) (nt := 90) (rs := [(ResultVar.tmp 4)]) (args := [a0, a1]) (fn := Tryz.f27) (by kernel_rfl) (by kernel_rfl) (by kernel_rfl) (by kernel_rfl) (by kernel_rfl) (by simp)
    (eq_mp (show F27 a0 a1 w R = ev P C (bodyOf Tryz.f27) (argE [a0, a1]) w (topK P [(ResultVar.tmp 4)] R) by kernel_rfl) h)
/-! ### moiety/roll.Scan -/
def F24B0 (e : Env) (w : World) (K : KT) : Prop :=
bindV (pLoad P 42 (e 3) w) fun v21 w22 =>
callE P 53 #[(e 0), v21, (e 8)] w22 (fun v25 w26 =>
bindV (pExtract P v25 0 w26) fun v27 w28 =>
bindV (pExtract P v25 1 w28) fun v29 w30 =>
bindV (pExtract P v25 2 w30) fun v31 w32 =>
letK (blockK 1 K) fun (K33 : KT) =>
bindV (pBin P BinOp.neq 26 true v31 (Value.int IntKind.i64 0) w32) fun v34 w35 =>
grdE v34 false (fun (k36 : Value → World → Prop) => k36 v29 w35) (fun v37 w38 =>
grdE v34 false (fun (k39 : Value → World → Prop) => bindV (pBin P BinOp.eql 3 true v37 (Value.int IntKind.i64 0) w38) k39) (fun v40 w41 =>
pickE v34 (Value.bool true) v40 fun v42 =>
condE v42 (fun (K43 : KT) =>
K43 .ret (put (put (put (put (put (put (put (put (put (put (put (put (put (put (put (put (put (put (put (put (put (put (put e 19 (e 0)) 20 v21) 21 (e 8)) 22 v25) 18 v25) 23 v27) 24 v29) 25 v31) 9 v27) 10 v29) 11 v31) 26 v31) 27 v34) 28 v34) 29 v37) 30 v40) 31 v42) 32 (e 7)) 33 (e 8)) 34 v31) 4 (e 7)) 5 (e 8)) 6 v31) w41) (fun (K43 : KT) =>
K43 .normal (put (put (put (put (put (put (put (put (put (put (put (put (put (put (put (put (put e 19 (e 0)) 20 v21) 21 (e 8)) 22 v25) 18 v25) 23 v27) 24 v29) 25 v31) 9 v27) 10 v29) 11 v31) 26 v31) 27 v34) 28 v34) 29 v37) 30 v40) 31 v42) w41) (thenK (fun e44 w45 =>
bindV (pBuildSlice P 78 1 [(0, (e44 9))] w45) fun v46 w47 =>
bindV (pBuiltin P Builtin.append #[78, 78] 78 [(e44 7), v46] w47) fun v48 w49 =>
bindV (pBin P BinOp.add 3 false (e44 8) (e44 10) w49) fun v50 w51 =>
K33 .normal (put (put (put (put (put (put (put (put (put e44 35 (e44 7)) 36 (e44 9)) 37 v46) 38 v48) 7 v48) 39 (e44 8)) 40 (e44 10)) 41 v50) 8 v50) w51) K33)) w38) w35) (fun c23 w24 => K (.panic c23) (put (put (put e 19 (e 0)) 20 v21) 21 (e 8)) w24)
def F24 (a0 : Value) (a1 : Value) (w : World) (R : Ending → World → Prop) : Prop :=
bindV (pBox P 42 a1 w) fun v1 w2 =>
callE P 51 #[a0] w2 (fun v5 w6 =>
condE v5 (fun (K7 : KT) =>
K7 .ret (put (put (put (put (put (put (put (put (put (argE [a0, a1]) 3 v1) 4 (Value.slice none 0 0)) 5 (Value.int IntKind.i64 0)) 6 (Value.int IntKind.i64 0)) 12 a0) 13 v5) 4 (Value.slice none 0 0)) 5 (Value.int IntKind.i64 0)) 6 (Value.int IntKind.i64 14)) w6) (fun (K7 : KT) =>
K7 .normal (put (put (put (put (put (put (argE [a0, a1]) 3 v1) 4 (Value.slice none 0 0)) 5 (Value.int IntKind.i64 0)) 6 (Value.int IntKind.i64 0)) 12 a0) 13 v5) w6) (thenK (fun e8 w9 =>
bindV (pLoad P 42 (e8 3) w9) fun v10 w11 =>
callE P 52 #[(e8 0), v10] w11 (fun v14 w15 =>
bindV (pUn P UnOp.not v14 w15) fun v16 w17 =>
condE v16 (fun (K18 : KT) =>
K18 .ret (put (put (put (put (put (put (put e8 14 (e8 0)) 15 v10) 16 v14) 17 v16) 4 (Value.slice none 0 0)) 5 (Value.int IntKind.i64 0)) 6 (Value.int IntKind.i64 1)) w17) (fun (K18 : KT) =>
K18 .normal (put (put (put (put e8 14 (e8 0)) 15 v10) 16 v14) 17 v16) w17) (thenK (fun e19 w20 =>
loopE F24B0 (put (put e19 7 (Value.slice none 0 0)) 8 (Value.int IntKind.i64 0)) w20 (blockK 0 (topK P [(ResultVar.tmp 4), (ResultVar.tmp 5), (ResultVar.tmp 6)] R))) (topK P [(ResultVar.tmp 4), (ResultVar.tmp 5), (ResultVar.tmp 6)] R))) (fun c12 w13 => R (.panicked c12) w13)) (topK P [(ResultVar.tmp 4), (ResultVar.tmp 5), (ResultVar.tmp 6)] R))) (fun c3 w4 => R (.panicked c3) w4)
theorem F24ok {w : World} {R : Ending → World → Prop} {a0 : Value} {a1 : Value} (h : F24 a0 a1 w R) : Calls P 24 #[a0, a1] w R :=
  calls_of_ev bodies mixed (c := bodyOf Tryz.f24) (nt := 42) (rs := [(ResultVar.tmp 4), (ResultVar.tmp 5), (ResultVar.tmp 6)]) (args := [a0, a1]) (fn := Tryz.f24) (by kernel_rfl) (by kernel_rfl) (by kernel_rfl) (by kernel_rfl) (by kernel_rfl) (by simp)
    (eq_mp (show F24 a0 a1 w R = ev P C (bodyOf Tryz.f24) (argE [a0, a1]) w (topK P [(ResultVar.tmp 4), (ResultVar.tmp 5), (ResultVar.tmp 6)] R) by kernel_rfl) h)
/-! ### (*moiety/roll.Roll).Sync -/
def F28 (a0 : Value) (w : World) (R : Ending → World → Prop) : Prop :=
nilE a0 fun v1 =>
bindV (pFieldAddr P 124 v1 0 w) fun v2 w3 =>
bindV (pLoad P 38 v2 w3) fun v4 w5 =>
callE P 34 #[v4] w5 (fun v8 w9 =>
R (.returned v8) w9) (fun c6 w7 => R (.panicked c6) w7)
theorem F28ok {w : World} {R : Ending → World → Prop} {a0 : Value} (h : F28 a0 w R) : Calls P 28 #[a0] w R :=
  calls_of_ev bodies mixed (c := bodyOf Tryz.f28) (nt := 8) (rs := [(ResultVar.tmp 2)]) (args := [a0]) (fn := Tryz.f28) (by kernel_rfl) (by kernel_rfl) (by kernel_rfl) (by kernel_rfl) (by kernel_rfl) (by simp)
    (eq_mp (show F28 a0 w R = ev P C (bodyOf Tryz.f28) (argE [a0]) w (topK P [(ResultVar.tmp 2)] R) by kernel_rfl) h)
/-! ### moiety/roll.Clear -/
def F25 (a0 : Value) (a1 : Value) (w : World) (R : Ending → World → Prop) : Prop :=
bindV (pBox P 42 a1 w) fun v1 w2 =>
callE P 51 #[a0] w2 (fun v5 w6 =>
condE v5 (fun (K7 : KT) =>
K7 .ret (put (put (put (put (put (argE [a0, a1]) 3 v1) 4 (Value.int IntKind.i64 0)) 5 a0) 6 v5) 4 (Value.int IntKind.i64 14)) w6) (fun (K7 : KT) =>
K7 .normal (put (put (put (put (argE [a0, a1]) 3 v1) 4 (Value.int IntKind.i64 0)) 5 a0) 6 v5) w6) (thenK (fun e8 w9 =>
bindV (pLoad P 42 (e8 3) w9) fun v10 w11 =>
callE P 52 #[(e8 0), v10] w11 (fun v14 w15 =>
bindV (pUn P UnOp.not v14 w15) fun v16 w17 =>
condE v16 (fun (K18 : KT) =>
K18 .ret (put (put (put (put (put e8 7 (e8 0)) 8 v10) 9 v14) 10 v16) 4 (Value.int IntKind.i64 1)) w17) (fun (K18 : KT) =>
K18 .normal (put (put (put (put e8 7 (e8 0)) 8 v10) 9 v14) 10 v16) w17) (thenK (fun e19 w20 =>
bindV (pFieldAddr P 42 (e19 3) 0 w20) fun v21 w22 =>
bindV (pLoad P 3 v21 w22) fun v23 w24 =>
bindV (pFieldAddr P 42 (e19 3) 1 w24) fun v25 w26 =>
bindV (pLoad P 3 v25 w26) fun v27 w28 =>
callE P 30 #[(e19 0), v23, v27] w28 (fun v31 w32 =>
R (.returned v31) w32) (fun c29 w30 => R (.panicked c29) w30)) (topK P [(ResultVar.tmp 4)] R))) (fun c12 w13 => R (.panicked c12) w13)) (topK P [(ResultVar.tmp 4)] R))) (fun c3 w4 => R (.panicked c3) w4)
theorem F25ok {w : World} {R : Ending → World → Prop} {a0 : Value} {a1 : Value} (h : F25 a0 a1 w R) : Calls P 25 #[a0, a1] w R :=
  calls_of_ev bodies mixed (c := bodyOf Tryz.f25) (nt := 17) (rs := [(ResultVar.tmp 4)]) (args := [a0, a1]) (fn := Tryz.f25) (by kernel_rfl) (by kernel_rfl) (by kernel_rfl) (by kernel_rfl) (by kernel_rfl) (by simp)
    (eq_mp (show F25 a0 a1 w R = ev P C (bodyOf Tryz.f25) (argE [a0, a1]) w (topK P [(ResultVar.tmp 4)] R) by kernel_rfl) h)
/-! ### (*moiety/roll.Roll).Left -/
def F54 (a0 : Value) (w : World) (R : Ending → World → Prop) : Prop :=
takeE (fun w3 => some (a0, w3)) (drew w) fun v1 h2 =>
takeE (fun w6 => qNil v1 w6) (drew w) fun v4 h5 =>
takeE (fun w9 => pFieldAddr P 124 v4 1 w9) (drew w) fun v7 h8 =>
takeE (fun w12 => pFieldAddr P 42 v7 1 w12) (drew w) fun v10 h11 =>
takeE (fun w15 => pLoad P 3 v10 w15) (drew w) fun v13 h14 =>
takeE (fun w18 => some (a0, w18)) (drew w) fun v16 h17 =>
takeE (fun w21 => qNil v16 w21) (drew w) fun v19 h20 =>
takeE (fun w24 => pFieldAddr P 124 v19 2 w24) (drew w) fun v22 h23 =>
takeE (fun w27 => pLoad P 3 v22 w27) (drew w) fun v25 h26 =>
takeE (fun w30 => pBin P BinOp.sub 3 false v13 v25 w30) (drew w) fun v28 h29 =>
R (.returned v28) (drew w)
theorem F54ok {w : World} {R : Ending → World → Prop} {a0 : Value} (h : F54 a0 w R) : Calls P 54 #[a0] w R :=
  calls_of_ev bodies mixed (c := bodyOf Tryz.f54) (nt := 13) (rs := [(ResultVar.tmp 2)]) (args := [a0]) (fn := Tryz.f54) (by kernel_rfl) (by kernel_rfl) (by kernel_rfl) (by kernel_rfl) (by kernel_rfl) (by simp)
    (eq_mp (show F54 a0 w R = ev P C (bodyOf Tryz.f54) (argE [a0]) w (topK P [(ResultVar.tmp 2)] R) by kernel_rfl) h)
/-! ### moiety/roll.Need -/
def F22 (a0 : Value) (w : World) (R : Ending → World → Prop) : Prop :=
bindV (pBin P BinOp.add 3 true a0 (Value.int IntKind.i64 60) w) fun v1 w2 =>
bindV (pBin P BinOp.sub 3 true v1 (Value.int IntKind.i64 1) w2) fun v3 w4 =>
bindV (pBin P BinOp.quo 3 true v3 (Value.int IntKind.i64 60) w4) fun v5 w6 =>
bindV (pBuiltin P Builtin.max #[3, 3] 3 [v5, (Value.int IntKind.i64 1)] w6) fun v7 w8 =>
R (.returned v7) w8
theorem F22ok {w : World} {R : Ending → World → Prop} {a0 : Value} (h : F22 a0 w R) : Calls P 22 #[a0] w R :=
  calls_of_ev bodies mixed (c := bodyOf Tryz.f22) (nt := 8) (rs := [(ResultVar.tmp 2)]) (args := [a0]) (fn := Tryz.f22) (by kernel_rfl) (by kernel_rfl) (by kernel_rfl) (by kernel_rfl) (by kernel_rfl) (by simp)
    (eq_mp (show F22 a0 w R = ev P C (bodyOf Tryz.f22) (argE [a0]) w (topK P [(ResultVar.tmp 2)] R) by kernel_rfl) h)
/-! ### moiety/roll.fits -/
def F52 (a0 : Value) (a1 : Value) (w : World) (R : Ending → World → Prop) : Prop :=
bindV (pBox P 42 a1 w) fun v1 w2 =>
takeE (fun w5 => pFieldAddr P 42 v1 0 w5) (drew w2) fun v3 h4 =>
takeE (fun w8 => pLoad P 3 v3 w8) (drew w2) fun v6 h7 =>
takeE (fun w11 => pBin P BinOp.geq 3 true v6 (Value.int IntKind.i64 0) w11) (drew w2) fun v9 h10 =>
takeE (fun w14 => some (v9, w14)) (drew w2) fun v12 h13 =>
takeE (fun w17 => qGrd v12 true (fun w17 => pFieldAddr P 42 v1 1 w17) w17) (drew w2) fun v15 h16 =>
takeE (fun w20 => qGrd v12 true (fun w20 => pLoad P 3 v15 w20) w20) (drew w2) fun v18 h19 =>
takeE (fun w23 => qGrd v12 true (fun w23 => pBin P BinOp.geq 3 true v18 (Value.int IntKind.i64 1) w23) w23) (drew w2) fun v21 h22 =>
takeE (fun w26 => qPick v12 v21 (Value.bool false) w26) (drew w2) fun v24 h25 =>
takeE (fun w29 => some (v24, w29)) (drew w2) fun v27 h28 =>
takeE (fun w32 => qGrd v27 true (fun w32 => pFieldAddr P 42 v1 0 w32) w32) (drew w2) fun v30 h31 =>
takeE (fun w35 => qGrd v27 true (fun w35 => pLoad P 3 v30 w35) w35) (drew w2) fun v33 h34 =>
takeE (fun w38 => qGrd v27 true (fun w38 => some (a0, w38)) w38) (drew w2) fun v36 h37 =>
grdE v27 true (fun (k40 : Value → World → Prop) => callE P 55 #[v36] (drew w2) k40 (fun c41 w42 => ∀ (e39 : Env), agreeOff [5, 6, 7, 8, 9, 10, 11, 12, 13, 14, 15, 16] (put (put (put (put (put (put (put (put (put (put (put (put (put (put (argE [a0, a1]) 3 v1) 4 (Value.bool false)) 5 v3) 6 v6) 7 v9) 8 v12) 9 v15) 10 v18) 11 v21) 12 v24) 13 v27) 14 v30) 15 v33) 16 v36) e39 → R (.panicked c41) w42)) (fun v43 w44 =>
heldE [h34, h31] w44 (takeE (fun w47 => qGrd v27 true (fun w47 => pBin P BinOp.lss 3 false v33 v43 w47) w47) w44 fun v45 h46 =>
takeE (fun w50 => qPick v27 v45 (Value.bool false) w50) w44 fun v48 h49 =>
takeE (fun w53 => some (v48, w53)) w44 fun v51 h52 =>
takeE (fun w56 => qGrd v51 true (fun w56 => pFieldAddr P 42 v1 1 w56) w56) w44 fun v54 h55 =>
takeE (fun w59 => qGrd v51 true (fun w59 => pLoad P 3 v54 w59) w59) w44 fun v57 h58 =>
takeE (fun w62 => qGrd v51 true (fun w62 => some (a0, w62)) w62) w44 fun v60 h61 =>
takeE (fun w65 => qGrd v51 true (fun w65 => pFieldAddr P 42 v1 0 w65) w65) w44 fun v63 h64 =>
takeE (fun w68 => qGrd v51 true (fun w68 => pLoad P 3 v63 w68) w68) w44 fun v66 h67 =>
grdE v51 true (fun (k70 : Value → World → Prop) => callE P 55 #[v60] w44 k70 (fun c71 w72 => ∀ (e69 : Env), agreeOff [5, 6, 7, 8, 9, 10, 11, 12, 13, 14, 15, 16, 17, 18, 19, 20, 21, 22, 23, 25, 26] (put (put (put (put (put (put (put (put (put (put (put (put (put (put (put (put (put (put (put (put (put (put (put (argE [a0, a1]) 3 v1) 4 (Value.bool false)) 5 v3) 6 v6) 7 v9) 8 v12) 9 v15) 10 v18) 11 v21) 12 v24) 13 v27) 14 v30) 15 v33) 16 v36) 17 v43) 18 v45) 19 v48) 20 v51) 21 v54) 22 v57) 23 v60) 25 v63) 26 v66) e69 → R (.panicked c71) w72)) (fun v73 w74 =>
heldE [h67, h64, h58, h55] w74 (takeE (fun w77 => qGrd v51 true (fun w77 => pBin P BinOp.sub 3 false v73 v66 w77) w77) w74 fun v75 h76 =>
takeE (fun w80 => qGrd v51 true (fun w80 => pBin P BinOp.leq 3 false v57 v75 w80) w80) w74 fun v78 h79 =>
takeE (fun w83 => qPick v51 v78 (Value.bool false) w83) w74 fun v81 h82 =>
R (.returned v81) w74)) w44)) (drew w2)
theorem F52ok {w : World} {R : Ending → World → Prop} {a0 : Value} {a1 : Value} (h : F52 a0 a1 w R) : Calls P 52 #[a0, a1] w R :=
  calls_of_ev bodies mixed (c := bodyOf Tryz.f52) (nt := 30) (rs := [(ResultVar.tmp 4)]) (args := [a0, a1]) (fn := Tryz.f52) (by kernel_rfl) (by kernel_rfl) (by kernel_rfl) (by kernel_rfl) (by kernel_rfl) (by simp)
    (eq_mp (show F52 a0 a1 w R = ev P C (bodyOf Tryz.f52) (argE [a0, a1]) w (topK P [(ResultVar.tmp 4)] R) by kernel_rfl) h)
/-! ### moiety/roll.one -/
def F53B0 (e : Env) (w : World) (K : KT) : Prop :=
bindV (pBin P BinOp.add 3 false (e 2) (e 11) w) fun v3 w4 =>
bindV (pFieldAddr P 42 (e 4) 1 w4) fun v5 w6 =>
bindV (pLoad P 3 v5 w6) fun v7 w8 =>
bindV (pBin P BinOp.lss 3 false v3 v7 w8) fun v9 w10 =>
condE v9 (fun (K11 : KT) =>
K11 .normal (put (put (put (put (put (put e 17 (e 2)) 18 (e 11)) 19 v3) 20 v5) 21 v7) 22 v9) w10) (fun (K11 : KT) =>
K11 (.exit 0) (put (put (put (put (put (put e 17 (e 2)) 18 (e 11)) 19 v3) 20 v5) 21 v7) 22 v9) w10) (thenK (fun e12 w13 =>
bindV (pFieldAddr P 42 (e12 4) 0 w13) fun v14 w15 =>
bindV (pLoad P 3 v14 w15) fun v16 w17 =>
bindV (pBin P BinOp.add 3 false v16 (e12 2) w17) fun v18 w19 =>
bindV (pBin P BinOp.add 3 false v18 (e12 11) w19) fun v20 w21 =>
callE P 35 #[(e12 0), v20] w21 (fun v24 w25 =>
bindV (pExtract P v24 0 w25) fun v26 w27 =>
bindV (pExtract P v24 1 w27) fun v28 w29 =>
bindV (pAlloc P 90 w29) fun v30 w31 =>
bindU (pStore P 90 v30 v26 w31) fun w32 =>
letK (blockK 1 (thenK (fun e34 w35 =>
bindV (pBin P BinOp.add 3 true (e34 11) (Value.int IntKind.i64 1) w35) fun v36 w37 =>
K .normal (put (put (put e34 23 (e34 11)) 24 v36) 11 v36) w37) K)) fun (K33 : KT) =>
bindV (pBin P BinOp.neq 26 true v28 (Value.int IntKind.i64 0) w32) fun v38 w39 =>
condE v38 (fun (K40 : KT) =>
K40 .ret (put (put (put (put (put (put (put (put (put (put (put (put (put (put (put (put (put (put (put e12 26 (e12 0)) 27 v14) 28 v16) 29 (e12 2)) 30 v18) 31 (e12 11)) 32 v20) 33 v24) 25 v24) 34 v26) 35 v28) 12 v30) 13 v28) 36 v28) 37 v38) 38 v28) 6 (Value.slice none 0 0)) 7 (Value.int IntKind.i64 0)) 8 v28) w39) (fun (K40 : KT) =>
K40 .normal (put (put (put (put (put (put (put (put (put (put (put (put (put (put (put e12 26 (e12 0)) 27 v14) 28 v16) 29 (e12 2)) 30 v18) 31 (e12 11)) 32 v20) 33 v24) 25 v24) 34 v26) 35 v28) 12 v30) 13 v28) 36 v28) 37 v38) w39) (thenK (fun e41 w42 =>
bindV (pLoad P 90 (e41 12) w42) fun v43 w44 =>
callE P 36 #[v43] w44 (fun v47 w48 =>
bindV (pExtract P v47 0 w48) fun v49 w50 =>
bindV (pExtract P v47 1 w50) fun v51 w52 =>
bindV (pUn P UnOp.not v51 w52) fun v53 w54 =>
grdE v53 false (fun (k55 : Value → World → Prop) => k55 v49 w54) (fun v56 w57 =>
grdE v53 false (fun (k58 : Value → World → Prop) => bindV (pBuiltin P Builtin.len #[72] 3 [v56] w57) k58) (fun v59 w60 =>
grdE v53 false (fun (k61 : Value → World → Prop) => bindV (pBin P BinOp.lss 3 true v59 (Value.int IntKind.i64 1) w60) k61) (fun v62 w63 =>
pickE v53 (Value.bool true) v62 fun v64 =>
condE v64 (fun (K65 : KT) =>
K65 .ret (put (put (put (put (put (put (put (put (put (put (put (put (put (put (put (put (put e41 40 v43) 41 v47) 39 v47) 42 v49) 43 v51) 14 v49) 15 v51) 44 v51) 45 v53) 46 v53) 47 v56) 48 v59) 49 v62) 50 v64) 6 (Value.slice none 0 0)) 7 (Value.int IntKind.i64 0)) 8 (Value.int IntKind.i64 0)) w63) (fun (K65 : KT) =>
K65 .normal (put (put (put (put (put (put (put (put (put (put (put (put (put (put e41 40 v43) 41 v47) 39 v47) 42 v49) 43 v51) 14 v49) 15 v51) 44 v51) 45 v53) 46 v53) 47 v56) 48 v59) 49 v62) 50 v64) w63) (thenK (fun e66 w67 =>
bindV (pIndexAddr P 72 (e66 14) (Value.int IntKind.i64 0) w67) fun v68 w69 =>
bindV (pLoad P 5 v68 w69) fun v70 w71 =>
bindV (pConv P 5 3 v70 w71) fun v72 w73 =>
bindV (pBin P BinOp.eql 3 true (e66 11) (Value.int IntKind.i64 0) w73) fun v74 w75 =>
condE v74 (fun (K76 : KT) =>
K76 .normal (put (put (put (put (put (put (put (put (put e66 51 (e66 14)) 52 v68) 53 v70) 54 v72) 16 v72) 55 (e66 11)) 56 v74) 57 v72) 10 v72) w75) (fun (K76 : KT) =>
K76 .normal (put (put (put (put (put (put (put e66 51 (e66 14)) 52 v68) 53 v70) 54 v72) 16 v72) 55 (e66 11)) 56 v74) w75) (thenK (fun e77 w78 =>
bindV (pBin P BinOp.sub 3 false (e77 10) (e77 11) w78) fun v79 w80 =>
bindV (pBin P BinOp.neq 3 false (e77 16) v79 w80) fun v81 w82 =>
grdE v81 false (fun (k83 : Value → World → Prop) => k83 (e77 16) w82) (fun v84 w85 =>
grdE v81 false (fun (k86 : Value → World → Prop) => bindV (pBin P BinOp.gtr 3 true v84 (Value.int IntKind.i64 63) w85) k86) (fun v87 w88 =>
pickE v81 (Value.bool true) v87 fun v89 =>
grdE v89 false (fun (k90 : Value → World → Prop) => k90 (e77 16) w88) (fun v91 w92 =>
grdE v89 false (fun (k93 : Value → World → Prop) => bindV (pBin P BinOp.gtr 3 true v91 (Value.int IntKind.i64 0) w92) k93) (fun v94 w95 =>
grdE v89 false (fun (k96 : Value → World → Prop) => k96 v94 w95) (fun v97 w98 =>
grdE v97 true (fun (k99 : Value → World → Prop) => k99 (e77 14) w98) (fun v100 w101 =>
grdE v97 true (fun (k102 : Value → World → Prop) => bindV (pBuiltin P Builtin.len #[72] 3 [v100] w101) k102) (fun v103 w104 =>
grdE v97 true (fun (k105 : Value → World → Prop) => bindV (pBin P BinOp.neq 3 true v103 (Value.int IntKind.i64 61) w104) k105) (fun v106 w107 =>
grdE v89 false (fun (k108 : Value → World → Prop) => pickE v97 v106 (Value.bool false) fun v109 =>
k108 v109 w107) (fun v110 w111 =>
pickE v89 (Value.bool true) v110 fun v112 =>
grdE v112 false (fun (k113 : Value → World → Prop) => k113 (e77 11) w111) (fun v114 w115 =>
grdE v112 false (fun (k116 : Value → World → Prop) => bindV (pBin P BinOp.gtr 3 true v114 (Value.int IntKind.i64 0) w115) k116) (fun v117 w118 =>
grdE v112 false (fun (k119 : Value → World → Prop) => k119 v117 w118) (fun v120 w121 =>
grdE v120 true (fun (k122 : Value → World → Prop) => k122 (e77 16) w121) (fun v123 w124 =>
grdE v120 true (fun (k125 : Value → World → Prop) => bindV (pBin P BinOp.eql 3 true v123 (Value.int IntKind.i64 0) w124) k125) (fun v126 w127 =>
grdE v112 false (fun (k128 : Value → World → Prop) => pickE v120 v126 (Value.bool false) fun v129 =>
k128 v129 w127) (fun v130 w131 =>
grdE v112 false (fun (k132 : Value → World → Prop) => k132 v130 w131) (fun v133 w134 =>
grdE v133 true (fun (k135 : Value → World → Prop) => k135 (e77 14) w134) (fun v136 w137 =>
grdE v133 true (fun (k138 : Value → World → Prop) => bindV (pBuiltin P Builtin.len #[72] 3 [v136] w137) k138) (fun v139 w140 =>
grdE v133 true (fun (k141 : Value → World → Prop) => bindV (pBin P BinOp.eql 3 true v139 (Value.int IntKind.i64 1) w140) k141) (fun v142 w143 =>
grdE v112 false (fun (k144 : Value → World → Prop) => pickE v133 v142 (Value.bool false) fun v145 =>
k144 v145 w143) (fun v146 w147 =>
pickE v112 (Value.bool true) v146 fun v148 =>
condE v148 (fun (K149 : KT) =>
K149 .ret (put (put (put (put (put (put (put (put (put (put (put (put (put (put (put (put (put (put (put (put (put (put (put (put (put (put (put (put (put (put (put (put (put (put e77 58 (e77 16)) 59 (e77 10)) 60 (e77 11)) 61 v79) 62 v81) 63 v81) 64 v84) 65 v87) 66 v89) 67 v89) 68 v91) 69 v94) 70 v97) 71 v100) 72 v103) 73 v106) 74 v110) 75 v112) 76 v112) 77 v114) 78 v117) 79 v120) 80 v123) 81 v126) 82 v130) 83 v133) 84 v136) 85 v139) 86 v142) 87 v146) 88 v148) 6 (Value.slice none 0 0)) 7 (Value.int IntKind.i64 0)) 8 (Value.int IntKind.i64 0)) w147) (fun (K149 : KT) =>
K149 .normal (put (put (put (put (put (put (put (put (put (put (put (put (put (put (put (put (put (put (put (put (put (put (put (put (put (put (put (put (put (put (put e77 58 (e77 16)) 59 (e77 10)) 60 (e77 11)) 61 v79) 62 v81) 63 v81) 64 v84) 65 v87) 66 v89) 67 v89) 68 v91) 69 v94) 70 v97) 71 v100) 72 v103) 73 v106) 74 v110) 75 v112) 76 v112) 77 v114) 78 v117) 79 v120) 80 v123) 81 v126) 82 v130) 83 v133) 84 v136) 85 v139) 86 v142) 87 v146) 88 v148) w147) (thenK (fun e150 w151 =>
bindV (pSlice P 72 (e150 14) (some (Value.int IntKind.i64 1)) none none w151) fun v152 w153 =>
bindV (pBuiltin P Builtin.append #[72, 72] 72 [(e150 9), v152] w153) fun v154 w155 =>
bindV (pBin P BinOp.eql 3 true (e150 16) (Value.int IntKind.i64 0) w155) fun v156 w157 =>
condE v156 (fun (K158 : KT) =>
bindV (pBin P BinOp.add 3 true (e150 11) (Value.int IntKind.i64 1) w157) fun v159 w160 =>
K158 .ret (put (put (put (put (put (put (put (put (put (put (put (put (put e150 89 (e150 9)) 90 (e150 14)) 91 v152) 92 v154) 9 v154) 93 (e150 16)) 94 v156) 95 v154) 96 (e150 11)) 97 v159) 6 v154) 7 v159) 8 (Value.int IntKind.i64 0)) w160) (fun (K158 : KT) =>
K158 .normal (put (put (put (put (put (put (put e150 89 (e150 9)) 90 (e150 14)) 91 v152) 92 v154) 9 v154) 93 (e150 16)) 94 v156) w157) K33) K33)) w143) w140) w137) w134) w131) w127) w124) w121) w118) w115) w111) w107) w104) w101) w98) w95) w92) w88) w85) w82) K33)) K33)) w60) w57) w54) (fun c45 w46 => K33 (.panic c45) (put e41 40 v43) w46)) K33)) (fun c22 w23 => K (.panic c22) (put (put (put (put (put (put (put e12 26 (e12 0)) 27 v14) 28 v16) 29 (e12 2)) 30 v18) 31 (e12 11)) 32 v20) w23)) K)
def F53 (a0 : Value) (a1 : Value) (a2 : Value) (w : World) (R : Ending → World → Prop) : Prop :=
bindV (pBox P 42 a1 w) fun v1 w2 =>
loopE F53B0 (put (put (put (put (put (put (put (argE [a0, a1, a2]) 4 v1) 6 (Value.slice none 0 0)) 7 (Value.int IntKind.i64 0)) 8 (Value.int IntKind.i64 0)) 9 (Value.slice none 0 0)) 10 (Value.int IntKind.i64 0)) 11 (Value.int IntKind.i64 0)) w2 (blockK 0 (thenK (fun e161 w162 =>
R (.returned (.tuple #[(Value.slice none 0 0), (Value.int IntKind.i64 0), (Value.int IntKind.i64 0)])) w162) (topK P [(ResultVar.tmp 6), (ResultVar.tmp 7), (ResultVar.tmp 8)] R)))
theorem F53ok {w : World} {R : Ending → World → Prop} {a0 : Value} {a1 : Value} {a2 : Value} (h : F53 a0 a1 a2 w R) : Calls P 53 #[a0, a1, a2] w R :=
  calls_of_ev bodies mixed (c := bodyOf Tryz.f53) (nt := 98) (rs := [(ResultVar.tmp 6), (ResultVar.tmp 7), (ResultVar.tmp 8)]) (args := [a0, a1, a2]) (fn := Tryz.f53) (by kernel_rfl) (by kernel_rfl) (by kernel_rfl) (by kernel_rfl) (by kernel_rfl) (by simp)
    (eq_mp (show F53 a0 a1 a2 w R = ev P C (bodyOf Tryz.f53) (argE [a0, a1, a2]) w (topK P [(ResultVar.tmp 6), (ResultVar.tmp 7), (ResultVar.tmp 8)] R) by kernel_rfl) h)
end Go.Proofs.YtieejbkbdfccdaaGreat
