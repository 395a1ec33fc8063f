/- The functions' residual programs, printed by gen.py. -/
import Derived.Test.YtieejbkbdfccdaaGreatBaseD
set_option linter.unusedVariables false
set_option linter.unusedSimpArgs false
namespace Go.Proofs.YtieejbkbdfccdaaGreat
open Go Env
/-! ### moiety/shelf.New -/
def F16 (a0 : Value) (w : World) (R : Ending → World → Prop) : Prop :=
bindV (pAlloc P 32 w) fun v1 w2 =>
bindV (pBin P BinOp.lss 3 true a0 (Value.int IntKind.i64 1) w2) fun v3 w4 =>
grdE v3 false (fun (k5 : Value → World → Prop) => k5 a0 w4) (fun v6 w7 =>
grdE v3 false (fun (k8 : Value → World → Prop) => bindV (pBin P BinOp.gtr 3 true v6 (Value.int IntKind.i64 4096) w7) k8) (fun v9 w10 =>
pickE v3 (Value.bool true) v9 fun v11 =>
condE v11 (fun (K12 : KT) =>
bindV (pBuild P 32 [] w10) fun v13 w14 =>
bindU (pStore P 32 v1 v13 w14) fun w15 =>
K12 .ret (put (put (put (put (put (put (put (put (put (put (argE [a0]) 2 v1) 3 (Value.int IntKind.i64 0)) 4 a0) 5 v3) 6 v3) 7 v6) 8 v9) 9 v11) 10 v13) 3 (Value.int IntKind.i64 1)) w15) (fun (K12 : KT) =>
K12 .normal (put (put (put (put (put (put (put (put (argE [a0]) 2 v1) 3 (Value.int IntKind.i64 0)) 4 a0) 5 v3) 6 v3) 7 v6) 8 v9) 9 v11) w10) (thenK (fun e16 w17 =>
bindV (pBuild P 32 [(1, (e16 0))] w17) fun v18 w19 =>
bindU (pStore P 32 (e16 2) v18 w19) fun w20 =>
topK P [(ResultVar.cell 2 32), (ResultVar.tmp 3)] R .ret (put (put (put e16 11 (e16 0)) 12 v18) 3 (Value.int IntKind.i64 0)) w20) (topK P [(ResultVar.cell 2 32), (ResultVar.tmp 3)] R))) w7) w4
theorem F16ok {w : World} {R : Ending → World → Prop} {a0 : Value} (h : F16 a0 w R) : Calls P 16 #[a0] w R :=
  calls_of_ev bodies mixed (c := bodyOf Tryz.f16) (nt := 13) (rs := [(ResultVar.cell 2 32), (ResultVar.tmp 3)]) (args := [a0]) (fn := Tryz.f16) (by kernel_rfl) (by kernel_rfl) (by kernel_rfl) (by kernel_rfl) (by kernel_rfl) (by simp)
    (eq_mp (show F16 a0 w R = ev P C (bodyOf Tryz.f16) (argE [a0]) w (topK P [(ResultVar.cell 2 32), (ResultVar.tmp 3)] R) by kernel_rfl) h)
/-! ### (moiety/shelf.Shelf).Set -/
def F18 (a0 : Value) (a1 : Value) (a2 : Value) (w : World) (R : Ending → World → Prop) : Prop :=
bindV (pBox P 32 a0 w) fun v1 w2 =>
bindV (pBox P 61 a2 w2) fun v3 w4 =>
bindV (pAlloc P 32 w4) fun v5 w6 =>
bindV (pBin P BinOp.eql 9 true a1 (Value.string { data := #[] }) w6) fun v7 w8 =>
grdE v7 false (fun (k9 : Value → World → Prop) => k9 a1 w8) (fun v10 w11 =>
grdE v7 false (fun (k12 : Value → World → Prop) => bindV (pBuiltin P Builtin.len #[9] 3 [v10] w11) k12) (fun v13 w14 =>
grdE v7 false (fun (k15 : Value → World → Prop) => bindV (pBin P BinOp.gtr 3 true v13 (Value.int IntKind.i64 24) w14) k15) (fun v16 w17 =>
pickE v7 (Value.bool true) v16 fun v18 =>
condE v18 (fun (K19 : KT) =>
bindV (pLoad P 32 v1 w17) fun v20 w21 =>
bindU (pStore P 32 v5 v20 w21) fun w22 =>
K19 .ret (put (put (put (put (put (put (put (put (put (put (put (put (put (argE [a0, a1, a2]) 3 v1) 5 v3) 6 v5) 7 (Value.int IntKind.i64 0)) 11 a1) 12 v7) 13 v7) 14 v10) 15 v13) 16 v16) 17 v18) 18 v20) 7 (Value.int IntKind.i64 1)) w22) (fun (K19 : KT) =>
K19 .normal (put (put (put (put (put (put (put (put (put (put (put (argE [a0, a1, a2]) 3 v1) 5 v3) 6 v5) 7 (Value.int IntKind.i64 0)) 11 a1) 12 v7) 13 v7) 14 v10) 15 v13) 16 v16) 17 v18) w17) (thenK (fun e23 w24 =>
bindV (pLoad P 61 (e23 5) w24) fun v25 w26 =>
callE P 41 #[v25] w26 (fun v29 w30 =>
bindV (pBin P BinOp.neq 26 true v29 (Value.int IntKind.i64 0) w30) fun v31 w32 =>
condE v31 (fun (K33 : KT) =>
bindV (pLoad P 32 (e23 3) w32) fun v34 w35 =>
bindU (pStore P 32 (e23 6) v34 w35) fun w36 =>
K33 .ret (put (put (put (put (put (put (put (put e23 19 v25) 20 v29) 8 v29) 21 v29) 22 v31) 23 v34) 24 v29) 7 v29) w36) (fun (K33 : KT) =>
K33 .normal (put (put (put (put (put e23 19 v25) 20 v29) 8 v29) 21 v29) 22 v31) w32) (thenK (fun e37 w38 =>
bindV (pLoad P 32 (e37 3) w38) fun v39 w40 =>
callE P 42 #[v39, (e37 1)] w40 (fun v43 w44 =>
bindV (pExtract P v43 0 w44) fun v45 w46 =>
bindV (pExtract P v43 1 w46) fun v47 w48 =>
bindV (pAlloc P 61 w48) fun v49 w50 =>
bindU (pStore P 61 v49 v45 w50) fun w51 =>
takeE (fun w54 => some (v47, w54)) (drew w51) fun v52 h53 =>
takeE (fun w57 => pUn P UnOp.not v52 w57) (drew w51) fun v55 h56 =>
takeE (fun w60 => some (v55, w60)) (drew w51) fun v58 h59 =>
takeE (fun w63 => qGrd v58 true (fun w63 => pLoad P 32 (e37 3) w63) w63) (drew w51) fun v61 h62 =>
takeE (fun w66 => qGrd v58 true (fun w66 => pFieldAddr P 32 (e37 3) 1 w66) w66) (drew w51) fun v64 h65 =>
takeE (fun w69 => qGrd v58 true (fun w69 => pLoad P 3 v64 w69) w69) (drew w51) fun v67 h68 =>
grdE v58 true (fun (k71 : Value → World → Prop) => callE P 20 #[v61] (drew w51) k71 (fun c72 w73 => ∀ (e70 : Env), agreeOff [31, 32, 33, 34, 36, 37] (put (put (put (put (put (put (put (put (put (put (put (put (put (put e37 26 v39) 27 (e37 1)) 28 v43) 25 v43) 29 v45) 30 v47) 9 v49) 10 v47) 31 v52) 32 v55) 33 v58) 34 v61) 36 v64) 37 v67) e70 → R (.panicked c72) w73)) (fun v74 w75 =>
heldE [h68, h65] w75 (takeE (fun w78 => qGrd v58 true (fun w78 => pBin P BinOp.geq 3 false v74 v67 w78) w78) w75 fun v76 h77 =>
takeE (fun w81 => qPick v58 v76 (Value.bool false) w81) w75 fun v79 h80 =>
condE v79 (fun (K82 : KT) =>
bindV (pLoad P 32 (e37 3) w75) fun v83 w84 =>
bindU (pStore P 32 (e37 6) v83 w84) fun w85 =>
K82 .ret (put (put (put (put (put (put (put (put (put (put (put (put (put (put (put (put (put (put (put e37 26 v39) 27 (e37 1)) 28 v43) 25 v43) 29 v45) 30 v47) 9 v49) 10 v47) 31 v52) 32 v55) 33 v58) 34 v61) 36 v64) 37 v67) 35 v74) 38 v76) 39 v79) 40 v83) 7 (Value.int IntKind.i64 8)) w85) (fun (K82 : KT) =>
K82 .normal (put (put (put (put (put (put (put (put (put (put (put (put (put (put (put (put (put e37 26 v39) 27 (e37 1)) 28 v43) 25 v43) 29 v45) 30 v47) 9 v49) 10 v47) 31 v52) 32 v55) 33 v58) 34 v61) 36 v64) 37 v67) 35 v74) 38 v76) 39 v79) w75) (thenK (fun e86 w87 =>
takeE (fun w90 => pFieldAddr P 32 (e86 3) 0 w90) (drew w87) fun v88 h89 =>
takeE (fun w93 => pLoad P 30 v88 w93) (drew w87) fun v91 h92 =>
takeE (fun w96 => some ((e86 1), w96)) (drew w87) fun v94 h95 =>
takeE (fun w99 => pLoad P 61 (e86 5) w99) (drew w87) fun v97 h98 =>
takeE (fun w102 => pFieldAddr P 32 (e86 3) 1 w102) (drew w87) fun v100 h101 =>
takeE (fun w105 => pLoad P 3 v100 w105) (drew w87) fun v103 h104 =>
callE P 44 #[v97] (drew w87) (fun v109 w110 =>
heldE [h104, h101, h95, h92, h89] w110 (callE P 43 #[v91, v94, v109] w110 (fun v114 w115 =>
heldE [h104, h101] w115 (bindV (pBuild P 32 [(0, v114), (1, v103)] w115) fun v117 w118 =>
bindU (pStore P 32 (e86 6) v117 w118) fun w120 =>
topK P [(ResultVar.cell 6 32), (ResultVar.tmp 7)] R .ret (put (put (put (put (put (put (put (put (put (put e86 41 v88) 42 v91) 43 v94) 44 v97) 47 v100) 48 v103) 45 v109) 46 v114) 49 v117) 7 (Value.int IntKind.i64 0)) w120)) (fun c112 w113 => ∀ (e111 : Env), agreeOff [41, 42, 43, 44, 45, 47, 48] (put (put (put (put (put (put (put e86 41 v88) 42 v91) 43 v94) 44 v97) 47 v100) 48 v103) 45 v109) e111 → R (.panicked c112) w113))) (fun c107 w108 => ∀ (e106 : Env), agreeOff [41, 42, 43, 44, 47, 48] (put (put (put (put (put (put e86 41 v88) 42 v91) 43 v94) 44 v97) 47 v100) 48 v103) e106 → R (.panicked c107) w108)) (topK P [(ResultVar.cell 6 32), (ResultVar.tmp 7)] R)))) (drew w51)) (fun c41 w42 => R (.panicked c41) w42)) (topK P [(ResultVar.cell 6 32), (ResultVar.tmp 7)] R))) (fun c27 w28 => R (.panicked c27) w28)) (topK P [(ResultVar.cell 6 32), (ResultVar.tmp 7)] R))) w14) w11) w8
theorem F18ok {w : World} {R : Ending → World → Prop} {a0 : Value} {a1 : Value} {a2 : Value} (h : F18 a0 a1 a2 w R) : Calls P 18 #[a0, a1, a2] w R :=
  calls_of_ev bodies mixed (c := bodyOf Tryz.f18) (nt := 50) (rs := [(ResultVar.cell 6 32), (ResultVar.tmp 7)]) (args := [a0, a1, a2]) (fn := Tryz.f18) (by kernel_rfl) (by kernel_rfl) (by kernel_rfl) (by kernel_rfl) (by kernel_rfl) (by simp)
    (eq_mp (show F18 a0 a1 a2 w R = ev P C (bodyOf Tryz.f18) (argE [a0, a1, a2]) w (topK P [(ResultVar.cell 6 32), (ResultVar.tmp 7)] R) by kernel_rfl) h)
/-! ### (moiety/shelf.Shelf).Len -/
def F20 (a0 : Value) (w : World) (R : Ending → World → Prop) : Prop :=
bindV (pBox P 32 a0 w) fun v1 w2 =>
bindV (pFieldAddr P 32 v1 0 w2) fun v3 w4 =>
bindV (pLoad P 30 v3 w4) fun v5 w6 =>
callE P 47 #[v5] w6 (fun v9 w10 =>
R (.returned v9) w10) (fun c7 w8 => R (.panicked c7) w8)
theorem F20ok {w : World} {R : Ending → World → Prop} {a0 : Value} (h : F20 a0 w R) : Calls P 20 #[a0] w R :=
  calls_of_ev bodies mixed (c := bodyOf Tryz.f20) (nt := 6) (rs := [(ResultVar.tmp 2)]) (args := [a0]) (fn := Tryz.f20) (by kernel_rfl) (by kernel_rfl) (by kernel_rfl) (by kernel_rfl) (by kernel_rfl) (by simp)
    (eq_mp (show F20 a0 w R = ev P C (bodyOf Tryz.f20) (argE [a0]) w (topK P [(ResultVar.tmp 2)] R) by kernel_rfl) h)
/-! ### (moiety/shelf.Shelf).At -/
def F21B0 (e : Env) (w : World) (K : KT) : Prop :=
bindV (pBin P BinOp.neq 30 true (e 7) (Value.pointer none) w) fun v9 w10 =>
condE v9 (fun (K11 : KT) =>
K11 .normal (put (put e 11 (e 7)) 12 v9) w10) (fun (K11 : KT) =>
K11 (.exit 0) (put (put e 11 (e 7)) 12 v9) w10) (thenK (fun e12 w13 =>
nilE (e12 7) fun v14 =>
bindV (pFieldAddr P 113 v14 2 w13) fun v15 w16 =>
bindV (pLoad P 30 v15 w16) fun v17 w18 =>
callE P 47 #[v17] w18 (fun v21 w22 =>
bindV (pBin P BinOp.lss 3 false (e12 1) v21 w22) fun v23 w24 =>
condE v23 (fun (K25 : KT) =>
nilE (e12 7) fun v26 =>
bindV (pFieldAddr P 113 v26 2 w24) fun v27 w28 =>
bindV (pLoad P 30 v27 w28) fun v29 w30 =>
K25 .normal (put (put (put (put (put (put (put (put (put (put (put (put (put (put (put e12 13 (e12 7)) 14 v14) 15 v15) 16 v17) 17 v21) 8 v21) 28 (e12 1)) 29 v21) 30 v23) 27 v23) 31 (e12 7)) 32 v26) 33 v27) 34 v29) 7 v29) w30) (fun (K25 : KT) =>
bindV (pBin P BinOp.gtr 3 false (e12 1) v21 w24) fun v31 w32 =>
condE v31 (fun (K33 : KT) =>
bindV (pBin P BinOp.add 3 true v21 (Value.int IntKind.i64 1) w32) fun v34 w35 =>
bindV (pBin P BinOp.sub 3 false (e12 1) v34 w35) fun v36 w37 =>
nilE (e12 7) fun v38 =>
bindV (pFieldAddr P 113 v38 3 w37) fun v39 w40 =>
bindV (pLoad P 30 v39 w40) fun v41 w42 =>
K33 .normal (put (put (put (put (put (put (put (put (put (put (put (put (put (put (put (put (put (put (put (put (put (put (put (put e12 13 (e12 7)) 14 v14) 15 v15) 16 v17) 17 v21) 8 v21) 28 (e12 1)) 29 v21) 30 v23) 27 v23) 36 (e12 1)) 37 v21) 38 v31) 35 v31) 39 (e12 1)) 40 v21) 41 v34) 42 v36) 1 v36) 43 (e12 7)) 44 v38) 45 v39) 46 v41) 7 v41) w42) (fun (K33 : KT) =>
takeE (fun w45 => some ((e12 7), w45)) (drew w32) fun v43 h44 =>
takeE (fun w48 => qNil v43 w48) (drew w32) fun v46 h47 =>
takeE (fun w51 => pFieldAddr P 113 v46 0 w51) (drew w32) fun v49 h50 =>
takeE (fun w54 => pLoad P 9 v49 w54) (drew w32) fun v52 h53 =>
takeE (fun w57 => some ((e12 7), w57)) (drew w32) fun v55 h56 =>
takeE (fun w60 => qNil v55 w60) (drew w32) fun v58 h59 =>
takeE (fun w63 => pFieldAddr P 113 v58 1 w63) (drew w32) fun v61 h62 =>
takeE (fun w66 => pLoad P 61 v61 w66) (drew w32) fun v64 h65 =>
callE P 44 #[v64] (drew w32) (fun v70 w71 =>
heldE [h53, h50, h47, h44] w71 (bindU (pStore P 61 (e12 5) v70 w71) fun w74 =>
K33 .ret (put (put (put (put (put (put (put (put (put (put (put (put (put (put (put (put (put (put (put (put (put (put (put (put (put e12 13 (e12 7)) 14 v14) 15 v15) 16 v17) 17 v21) 8 v21) 28 (e12 1)) 29 v21) 30 v23) 27 v23) 36 (e12 1)) 37 v21) 38 v31) 35 v31) 18 v43) 19 v46) 20 v49) 21 v52) 22 v55) 23 v58) 24 v61) 25 v64) 26 v70) 4 v52) 6 (Value.bool true)) w74)) (fun c68 w69 => ∀ (e67 : Env), agreeOff [18, 19, 20, 21, 22, 23, 24, 25] (put (put (put (put (put (put (put (put (put (put (put (put (put (put (put (put (put (put (put (put (put (put e12 13 (e12 7)) 14 v14) 15 v15) 16 v17) 17 v21) 8 v21) 28 (e12 1)) 29 v21) 30 v23) 27 v23) 36 (e12 1)) 37 v21) 38 v31) 35 v31) 18 v43) 19 v46) 20 v49) 21 v52) 22 v55) 23 v58) 24 v61) 25 v64) e67 → K33 (.panic c68) e67 w69)) K25) (blockK 2 (blockK 1 K))) (fun c19 w20 => K (.panic c19) (put (put (put (put e12 13 (e12 7)) 14 v14) 15 v15) 16 v17) w20)) K)
def F21 (a0 : Value) (a1 : Value) (w : World) (R : Ending → World → Prop) : Prop :=
bindV (pBox P 32 a0 w) fun v1 w2 =>
bindV (pAlloc P 61 w2) fun v3 w4 =>
bindV (pFieldAddr P 32 v1 0 w4) fun v5 w6 =>
bindV (pLoad P 30 v5 w6) fun v7 w8 =>
loopE F21B0 (put (put (put (put (put (put (put (argE [a0, a1]) 2 v1) 4 (Value.string { data := #[] })) 5 v3) 6 (Value.bool false)) 9 v5) 10 v7) 7 v7) w8 (blockK 0 (thenK (fun e76 w77 =>
bindV (pBuild P 61 [] w77) fun v78 w79 =>
bindU (pStore P 61 (e76 5) v78 w79) fun w80 =>
topK P [(ResultVar.tmp 4), (ResultVar.cell 5 61), (ResultVar.tmp 6)] R .ret (put (put (put e76 47 v78) 4 (Value.string { data := #[] })) 6 (Value.bool false)) w80) (topK P [(ResultVar.tmp 4), (ResultVar.cell 5 61), (ResultVar.tmp 6)] R)))
theorem F21ok {w : World} {R : Ending → World → Prop} {a0 : Value} {a1 : Value} (h : F21 a0 a1 w R) : Calls P 21 #[a0, a1] w R :=
  calls_of_ev bodies mixed (c := bodyOf Tryz.f21) (nt := 48) (rs := [(ResultVar.tmp 4), (ResultVar.cell 5 61), (ResultVar.tmp 6)]) (args := [a0, a1]) (fn := Tryz.f21) (by kernel_rfl) (by kernel_rfl) (by kernel_rfl) (by kernel_rfl) (by kernel_rfl) (by simp)
    (eq_mp (show F21 a0 a1 w R = ev P C (bodyOf Tryz.f21) (argE [a0, a1]) w (topK P [(ResultVar.tmp 4), (ResultVar.cell 5 61), (ResultVar.tmp 6)] R) by kernel_rfl) h)
/-! ### (moiety/shelf.Shelf).Room -/
def F39 (a0 : Value) (w : World) (R : Ending → World → Prop) : Prop :=
bindV (pBox P 32 a0 w) fun v1 w2 =>
bindV (pFieldAddr P 32 v1 1 w2) fun v3 w4 =>
bindV (pLoad P 3 v3 w4) fun v5 w6 =>
R (.returned v5) w6
theorem F39ok {w : World} {R : Ending → World → Prop} {a0 : Value} (h : F39 a0 w R) : Calls P 39 #[a0] w R :=
  calls_of_ev bodies mixed (c := bodyOf Tryz.f39) (nt := 5) (rs := [(ResultVar.tmp 2)]) (args := [a0]) (fn := Tryz.f39) (by kernel_rfl) (by kernel_rfl) (by kernel_rfl) (by kernel_rfl) (by kernel_rfl) (by simp)
    (eq_mp (show F39 a0 w R = ev P C (bodyOf Tryz.f39) (argE [a0]) w (topK P [(ResultVar.tmp 2)] R) by kernel_rfl) h)
/-! ### (moiety/shelf.Shelf).Get -/
def F42B0 (e : Env) (w : World) (K : KT) : Prop :=
bindV (pBin P BinOp.neq 30 true (e 6) (Value.pointer none) w) fun v9 w10 =>
condE v9 (fun (K11 : KT) =>
K11 .normal (put (put e 9 (e 6)) 10 v9) w10) (fun (K11 : KT) =>
K11 (.exit 0) (put (put e 9 (e 6)) 10 v9) w10) (thenK (fun e12 w13 =>
nilE (e12 6) fun v14 =>
bindV (pFieldAddr P 113 v14 0 w13) fun v15 w16 =>
bindV (pLoad P 9 v15 w16) fun v17 w18 =>
bindV (pBin P BinOp.lss 9 false (e12 1) v17 w18) fun v19 w20 =>
condE v19 (fun (K21 : KT) =>
nilE (e12 6) fun v22 =>
bindV (pFieldAddr P 113 v22 2 w20) fun v23 w24 =>
bindV (pLoad P 30 v23 w24) fun v25 w26 =>
K21 .normal (put (put (put (put (put (put (put (put (put (put (put (put e12 17 (e12 1)) 18 (e12 6)) 19 v14) 20 v15) 21 v17) 22 v19) 16 v19) 23 (e12 6)) 24 v22) 25 v23) 26 v25) 6 v25) w26) (fun (K21 : KT) =>
nilE (e12 6) fun v27 =>
bindV (pFieldAddr P 113 v27 0 w20) fun v28 w29 =>
bindV (pLoad P 9 v28 w29) fun v30 w31 =>
bindV (pBin P BinOp.gtr 9 false (e12 1) v30 w31) fun v32 w33 =>
condE v32 (fun (K34 : KT) =>
nilE (e12 6) fun v35 =>
bindV (pFieldAddr P 113 v35 3 w33) fun v36 w37 =>
bindV (pLoad P 30 v36 w37) fun v38 w39 =>
K34 .normal (put (put (put (put (put (put (put (put (put (put (put (put (put (put (put (put (put (put (put e12 17 (e12 1)) 18 (e12 6)) 19 v14) 20 v15) 21 v17) 22 v19) 16 v19) 28 (e12 1)) 29 (e12 6)) 30 v27) 31 v28) 32 v30) 33 v32) 27 v32) 34 (e12 6)) 35 v35) 36 v36) 37 v38) 6 v38) w39) (fun (K34 : KT) =>
nilE (e12 6) fun v40 =>
bindV (pFieldAddr P 113 v40 1 w33) fun v41 w42 =>
bindV (pLoad P 61 v41 w42) fun v43 w44 =>
callE P 44 #[v43] w44 (fun v47 w48 =>
bindU (pStore P 61 (e12 4) v47 w48) fun w49 =>
K34 .ret (put (put (put (put (put (put (put (put (put (put (put (put (put (put (put (put (put (put (put (put e12 17 (e12 1)) 18 (e12 6)) 19 v14) 20 v15) 21 v17) 22 v19) 16 v19) 28 (e12 1)) 29 (e12 6)) 30 v27) 31 v28) 32 v30) 33 v32) 27 v32) 11 (e12 6)) 12 v40) 13 v41) 14 v43) 15 v47) 5 (Value.bool true)) w49) (fun c45 w46 => K34 (.panic c45) (put (put (put (put (put (put (put (put (put (put (put (put (put (put (put (put (put (put e12 17 (e12 1)) 18 (e12 6)) 19 v14) 20 v15) 21 v17) 22 v19) 16 v19) 28 (e12 1)) 29 (e12 6)) 30 v27) 31 v28) 32 v30) 33 v32) 27 v32) 11 (e12 6)) 12 v40) 13 v41) 14 v43) w46)) K21) (blockK 2 (blockK 1 K))) K)
def F42 (a0 : Value) (a1 : Value) (w : World) (R : Ending → World → Prop) : Prop :=
bindV (pBox P 32 a0 w) fun v1 w2 =>
bindV (pAlloc P 61 w2) fun v3 w4 =>
bindV (pFieldAddr P 32 v1 0 w4) fun v5 w6 =>
bindV (pLoad P 30 v5 w6) fun v7 w8 =>
loopE F42B0 (put (put (put (put (put (put (argE [a0, a1]) 2 v1) 4 v3) 5 (Value.bool false)) 7 v5) 8 v7) 6 v7) w8 (blockK 0 (thenK (fun e50 w51 =>
bindV (pBuild P 61 [] w51) fun v52 w53 =>
bindU (pStore P 61 (e50 4) v52 w53) fun w54 =>
topK P [(ResultVar.cell 4 61), (ResultVar.tmp 5)] R .ret (put (put e50 38 v52) 5 (Value.bool false)) w54) (topK P [(ResultVar.cell 4 61), (ResultVar.tmp 5)] R)))
theorem F42ok {w : World} {R : Ending → World → Prop} {a0 : Value} {a1 : Value} (h : F42 a0 a1 w R) : Calls P 42 #[a0, a1] w R :=
  calls_of_ev bodies mixed (c := bodyOf Tryz.f42) (nt := 39) (rs := [(ResultVar.cell 4 61), (ResultVar.tmp 5)]) (args := [a0, a1]) (fn := Tryz.f42) (by kernel_rfl) (by kernel_rfl) (by kernel_rfl) (by kernel_rfl) (by kernel_rfl) (by simp)
    (eq_mp (show F42 a0 a1 w R = ev P C (bodyOf Tryz.f42) (argE [a0, a1]) w (topK P [(ResultVar.cell 4 61), (ResultVar.tmp 5)] R) by kernel_rfl) h)
/-! ### (*moiety/shelf.node).set -/
def F43 (a0 : Value) (a1 : Value) (a2 : Value) (w : World) (R : Ending → World → Prop) : Prop :=
bindV (pBox P 61 a2 w) fun v1 w2 =>
bindV (pBin P BinOp.eql 30 true a0 (Value.pointer none) w2) fun v3 w4 =>
condE v3 (fun (K5 : KT) =>
bindV (pLoad P 61 v1 w4) fun v6 w7 =>
callE P 71 #[a1, v6, (Value.pointer none), (Value.pointer none)] w7 (fun v10 w11 =>
K5 .ret (put (put (put (put (put (put (put (put (put (argE [a0, a1, a2]) 5 v1) 6 (Value.pointer none)) 8 a0) 9 v3) 7 v3) 10 a1) 11 v6) 12 v10) 6 v10) w11) (fun c8 w9 => K5 (.panic c8) (put (put (put (put (put (put (put (argE [a0, a1, a2]) 5 v1) 6 (Value.pointer none)) 8 a0) 9 v3) 7 v3) 10 a1) 11 v6) w9)) (fun (K5 : KT) =>
nilE a0 fun v12 =>
bindV (pFieldAddr P 113 v12 0 w4) fun v13 w14 =>
bindV (pLoad P 9 v13 w14) fun v15 w16 =>
bindV (pBin P BinOp.lss 9 false a1 v15 w16) fun v17 w18 =>
condE v17 (fun (K19 : KT) =>
takeE (fun w22 => some (a0, w22)) (drew w18) fun v20 h21 =>
takeE (fun w25 => qNil v20 w25) (drew w18) fun v23 h24 =>
takeE (fun w28 => pFieldAddr P 113 v23 0 w28) (drew w18) fun v26 h27 =>
takeE (fun w31 => pLoad P 9 v26 w31) (drew w18) fun v29 h30 =>
takeE (fun w34 => some (a0, w34)) (drew w18) fun v32 h33 =>
takeE (fun w37 => qNil v32 w37) (drew w18) fun v35 h36 =>
takeE (fun w40 => pFieldAddr P 113 v35 1 w40) (drew w18) fun v38 h39 =>
takeE (fun w43 => pLoad P 61 v38 w43) (drew w18) fun v41 h42 =>
takeE (fun w46 => some (a0, w46)) (drew w18) fun v44 h45 =>
takeE (fun w49 => qNil v44 w49) (drew w18) fun v47 h48 =>
takeE (fun w52 => pFieldAddr P 113 v47 2 w52) (drew w18) fun v50 h51 =>
takeE (fun w55 => pLoad P 30 v50 w55) (drew w18) fun v53 h54 =>
takeE (fun w58 => some (a1, w58)) (drew w18) fun v56 h57 =>
takeE (fun w61 => pLoad P 61 v1 w61) (drew w18) fun v59 h60 =>
takeE (fun w64 => some (a0, w64)) (drew w18) fun v62 h63 =>
takeE (fun w67 => qNil v62 w67) (drew w18) fun v65 h66 =>
takeE (fun w70 => pFieldAddr P 113 v65 3 w70) (drew w18) fun v68 h69 =>
takeE (fun w73 => pLoad P 30 v68 w73) (drew w18) fun v71 h72 =>
callE P 43 #[v53, v56, v59] (drew w18) (fun v77 w78 =>
heldE [h72, h69, h66, h63, h42, h39, h36, h33, h30, h27, h24, h21] w78 (callE P 72 #[v29, v41, v77, v71] w78 (fun v82 w83 =>
K19 .ret (put (put (put (put (put (put (put (put (put (put (put (put (put (put (put (put (put (put (put (put (put (put (put (put (put (put (put (put (put (put (put (put (put (argE [a0, a1, a2]) 5 v1) 6 (Value.pointer none)) 8 a0) 9 v3) 7 v3) 14 a1) 15 a0) 16 v12) 17 v13) 18 v15) 19 v17) 13 v17) 20 v20) 21 v23) 22 v26) 23 v29) 24 v32) 25 v35) 26 v38) 27 v41) 28 v44) 29 v47) 30 v50) 31 v53) 32 v56) 33 v59) 35 v62) 36 v65) 37 v68) 38 v71) 34 v77) 39 v82) 6 v82) w83) (fun c80 w81 => ∀ (e79 : Env), agreeOff [20, 21, 22, 23, 24, 25, 26, 27, 28, 29, 30, 31, 32, 33, 34, 35, 36, 37, 38] (put (put (put (put (put (put (put (put (put (put (put (put (put (put (put (put (put (put (put (put (put (put (put (put (put (put (put (put (put (put (put (argE [a0, a1, a2]) 5 v1) 6 (Value.pointer none)) 8 a0) 9 v3) 7 v3) 14 a1) 15 a0) 16 v12) 17 v13) 18 v15) 19 v17) 13 v17) 20 v20) 21 v23) 22 v26) 23 v29) 24 v32) 25 v35) 26 v38) 27 v41) 28 v44) 29 v47) 30 v50) 31 v53) 32 v56) 33 v59) 35 v62) 36 v65) 37 v68) 38 v71) 34 v77) e79 → K19 (.panic c80) e79 w81))) (fun c75 w76 => ∀ (e74 : Env), agreeOff [20, 21, 22, 23, 24, 25, 26, 27, 28, 29, 30, 31, 32, 33, 35, 36, 37, 38] (put (put (put (put (put (put (put (put (put (put (put (put (put (put (put (put (put (put (put (put (put (put (put (put (put (put (put (put (put (put (argE [a0, a1, a2]) 5 v1) 6 (Value.pointer none)) 8 a0) 9 v3) 7 v3) 14 a1) 15 a0) 16 v12) 17 v13) 18 v15) 19 v17) 13 v17) 20 v20) 21 v23) 22 v26) 23 v29) 24 v32) 25 v35) 26 v38) 27 v41) 28 v44) 29 v47) 30 v50) 31 v53) 32 v56) 33 v59) 35 v62) 36 v65) 37 v68) 38 v71) e74 → K19 (.panic c75) e74 w76)) (fun (K19 : KT) =>
nilE a0 fun v85 =>
bindV (pFieldAddr P 113 v85 0 w18) fun v86 w87 =>
bindV (pLoad P 9 v86 w87) fun v88 w89 =>
bindV (pBin P BinOp.gtr 9 false a1 v88 w89) fun v90 w91 =>
condE v90 (fun (K92 : KT) =>
takeE (fun w95 => some (a0, w95)) (drew w91) fun v93 h94 =>
takeE (fun w98 => qNil v93 w98) (drew w91) fun v96 h97 =>
takeE (fun w101 => pFieldAddr P 113 v96 0 w101) (drew w91) fun v99 h100 =>
takeE (fun w104 => pLoad P 9 v99 w104) (drew w91) fun v102 h103 =>
takeE (fun w107 => some (a0, w107)) (drew w91) fun v105 h106 =>
takeE (fun w110 => qNil v105 w110) (drew w91) fun v108 h109 =>
takeE (fun w113 => pFieldAddr P 113 v108 1 w113) (drew w91) fun v111 h112 =>
takeE (fun w116 => pLoad P 61 v111 w116) (drew w91) fun v114 h115 =>
takeE (fun w119 => some (a0, w119)) (drew w91) fun v117 h118 =>
takeE (fun w122 => qNil v117 w122) (drew w91) fun v120 h121 =>
takeE (fun w125 => pFieldAddr P 113 v120 2 w125) (drew w91) fun v123 h124 =>
takeE (fun w128 => pLoad P 30 v123 w128) (drew w91) fun v126 h127 =>
takeE (fun w131 => some (a0, w131)) (drew w91) fun v129 h130 =>
takeE (fun w134 => qNil v129 w134) (drew w91) fun v132 h133 =>
takeE (fun w137 => pFieldAddr P 113 v132 3 w137) (drew w91) fun v135 h136 =>
takeE (fun w140 => pLoad P 30 v135 w140) (drew w91) fun v138 h139 =>
takeE (fun w143 => some (a1, w143)) (drew w91) fun v141 h142 =>
takeE (fun w146 => pLoad P 61 v1 w146) (drew w91) fun v144 h145 =>
callE P 43 #[v138, v141, v144] (drew w91) (fun v150 w151 =>
heldE [h127, h124, h121, h118, h115, h112, h109, h106, h103, h100, h97, h94] w151 (callE P 72 #[v102, v114, v126, v150] w151 (fun v155 w156 =>
K92 .ret (put (put (put (put (put (put (put (put (put (put (put (put (put (put (put (put (put (put (put (put (put (put (put (put (put (put (put (put (put (put (put (put (put (put (put (put (put (put (put (put (argE [a0, a1, a2]) 5 v1) 6 (Value.pointer none)) 8 a0) 9 v3) 7 v3) 14 a1) 15 a0) 16 v12) 17 v13) 18 v15) 19 v17) 13 v17) 41 a1) 42 a0) 43 v85) 44 v86) 45 v88) 46 v90) 40 v90) 47 v93) 48 v96) 49 v99) 50 v102) 51 v105) 52 v108) 53 v111) 54 v114) 55 v117) 56 v120) 57 v123) 58 v126) 59 v129) 60 v132) 61 v135) 62 v138) 63 v141) 64 v144) 65 v150) 66 v155) 6 v155) w156) (fun c153 w154 => ∀ (e152 : Env), agreeOff [47, 48, 49, 50, 51, 52, 53, 54, 55, 56, 57, 58, 59, 60, 61, 62, 63, 64, 65] (put (put (put (put (put (put (put (put (put (put (put (put (put (put (put (put (put (put (put (put (put (put (put (put (put (put (put (put (put (put (put (put (put (put (put (put (put (put (argE [a0, a1, a2]) 5 v1) 6 (Value.pointer none)) 8 a0) 9 v3) 7 v3) 14 a1) 15 a0) 16 v12) 17 v13) 18 v15) 19 v17) 13 v17) 41 a1) 42 a0) 43 v85) 44 v86) 45 v88) 46 v90) 40 v90) 47 v93) 48 v96) 49 v99) 50 v102) 51 v105) 52 v108) 53 v111) 54 v114) 55 v117) 56 v120) 57 v123) 58 v126) 59 v129) 60 v132) 61 v135) 62 v138) 63 v141) 64 v144) 65 v150) e152 → K92 (.panic c153) e152 w154))) (fun c148 w149 => ∀ (e147 : Env), agreeOff [47, 48, 49, 50, 51, 52, 53, 54, 55, 56, 57, 58, 59, 60, 61, 62, 63, 64] (put (put (put (put (put (put (put (put (put (put (put (put (put (put (put (put (put (put (put (put (put (put (put (put (put (put (put (put (put (put (put (put (put (put (put (put (put (argE [a0, a1, a2]) 5 v1) 6 (Value.pointer none)) 8 a0) 9 v3) 7 v3) 14 a1) 15 a0) 16 v12) 17 v13) 18 v15) 19 v17) 13 v17) 41 a1) 42 a0) 43 v85) 44 v86) 45 v88) 46 v90) 40 v90) 47 v93) 48 v96) 49 v99) 50 v102) 51 v105) 52 v108) 53 v111) 54 v114) 55 v117) 56 v120) 57 v123) 58 v126) 59 v129) 60 v132) 61 v135) 62 v138) 63 v141) 64 v144) e147 → K92 (.panic c148) e147 w149)) (fun (K92 : KT) =>
K92 .normal (put (put (put (put (put (put (put (put (put (put (put (put (put (put (put (put (put (put (put (argE [a0, a1, a2]) 5 v1) 6 (Value.pointer none)) 8 a0) 9 v3) 7 v3) 14 a1) 15 a0) 16 v12) 17 v13) 18 v15) 19 v17) 13 v17) 41 a1) 42 a0) 43 v85) 44 v86) 45 v88) 46 v90) 40 v90) w91) K19) K5) (blockK 0 (thenK (fun e158 w159 =>
takeE (fun w162 => some ((e158 1), w162)) (drew w159) fun v160 h161 =>
takeE (fun w165 => pLoad P 61 (e158 5) w165) (drew w159) fun v163 h164 =>
takeE (fun w168 => some ((e158 0), w168)) (drew w159) fun v166 h167 =>
takeE (fun w171 => qNil v166 w171) (drew w159) fun v169 h170 =>
takeE (fun w174 => pFieldAddr P 113 v169 2 w174) (drew w159) fun v172 h173 =>
takeE (fun w177 => pLoad P 30 v172 w177) (drew w159) fun v175 h176 =>
takeE (fun w180 => some ((e158 0), w180)) (drew w159) fun v178 h179 =>
takeE (fun w183 => qNil v178 w183) (drew w159) fun v181 h182 =>
takeE (fun w186 => pFieldAddr P 113 v181 3 w186) (drew w159) fun v184 h185 =>
takeE (fun w189 => pLoad P 30 v184 w189) (drew w159) fun v187 h188 =>
callE P 71 #[v160, v163, v175, v187] (drew w159) (fun v193 w194 =>
R (.returned v193) w194) (fun c191 w192 => ∀ (e190 : Env), agreeOff [67, 68, 69, 70, 71, 72, 73, 74, 75, 76] (put (put (put (put (put (put (put (put (put (put e158 67 v160) 68 v163) 69 v166) 70 v169) 71 v172) 72 v175) 73 v178) 74 v181) 75 v184) 76 v187) e190 → R (.panicked c191) w192)) (topK P [(ResultVar.tmp 6)] R)))
theorem F43ok {w : World} {R : Ending → World → Prop} {a0 : Value} {a1 : Value} {a2 : Value} (h : F43 a0 a1 a2 w R) : Calls P 43 #[a0, a1, a2] w R :=
  calls_of_ev bodies mixed (c := bodyOf Tryz.f43) (nt := 78) (rs := [(ResultVar.tmp 6)]) (args := [a0, a1, a2]) (fn := Tryz.f43) (by kernel_rfl) (by kernel_rfl) (by kernel_rfl) (by kernel_rfl) (by kernel_rfl) (by simp)
    (eq_mp (show F43 a0 a1 a2 w R = ev P C (bodyOf Tryz.f43) (argE [a0, a1, a2]) w (topK P [(ResultVar.tmp 6)] R) by kernel_rfl) h)
/-! ### (*moiety/shelf.node).count -/
def F47 (a0 : Value) (w : World) (R : Ending → World → Prop) : Prop :=
bindV (pBin P BinOp.eql 30 true a0 (Value.pointer none) w) fun v1 w2 =>
condE v1 (fun (K3 : KT) =>
K3 .ret (put (put (put (put (argE [a0]) 2 (Value.int IntKind.i64 0)) 3 a0) 4 v1) 2 (Value.int IntKind.i64 0)) w2) (fun (K3 : KT) =>
K3 .normal (put (put (put (argE [a0]) 2 (Value.int IntKind.i64 0)) 3 a0) 4 v1) w2) (thenK (fun e4 w5 =>
nilE (e4 0) fun v6 =>
bindV (pFieldAddr P 113 v6 4 w5) fun v7 w8 =>
bindV (pLoad P 3 v7 w8) fun v9 w10 =>
R (.returned v9) w10) (topK P [(ResultVar.tmp 2)] R))
theorem F47ok {w : World} {R : Ending → World → Prop} {a0 : Value} (h : F47 a0 w R) : Calls P 47 #[a0] w R :=
  calls_of_ev bodies mixed (c := bodyOf Tryz.f47) (nt := 9) (rs := [(ResultVar.tmp 2)]) (args := [a0]) (fn := Tryz.f47) (by kernel_rfl) (by kernel_rfl) (by kernel_rfl) (by kernel_rfl) (by kernel_rfl) (by simp)
    (eq_mp (show F47 a0 w R = ev P C (bodyOf Tryz.f47) (argE [a0]) w (topK P [(ResultVar.tmp 2)] R) by kernel_rfl) h)
/-! ### moiety/shelf.made -/
def F71 (a0 : Value) (a1 : Value) (a2 : Value) (a3 : Value) (w : World) (R : Ending → World → Prop) : Prop :=
bindV (pBox P 61 a1 w) fun v1 w2 =>
takeE (fun w5 => some (a0, w5)) (drew w2) fun v3 h4 =>
takeE (fun w8 => pLoad P 61 v1 w8) (drew w2) fun v6 h7 =>
takeE (fun w11 => some (a2, w11)) (drew w2) fun v9 h10 =>
takeE (fun w14 => some (a3, w14)) (drew w2) fun v12 h13 =>
takeE (fun w17 => some (a2, w17)) (drew w2) fun v15 h16 =>
takeE (fun w20 => some (a3, w20)) (drew w2) fun v18 h19 =>
callE P 47 #[v15] (drew w2) (fun v24 w25 =>
heldE [h19, h13, h10, h7, h4] w25 (callE P 47 #[v18] w25 (fun v29 w30 =>
heldE [h13, h10, h7, h4] w30 (takeE (fun w33 => pBin P BinOp.add 3 false v24 v29 w33) w30 fun v31 h32 =>
takeE (fun w36 => pBin P BinOp.add 3 true v31 (Value.int IntKind.i64 1) w36) w30 fun v34 h35 =>
bindV (pBuild P 113 [(0, v3), (1, v6), (2, v9), (3, v12), (4, v34)] w30) fun v38 w39 =>
bindV (pBox P 113 v38 w39) fun v41 w42 =>
R (.returned v41) w42)) (fun c27 w28 => ∀ (e26 : Env), agreeOff [9, 10, 11, 12, 13, 14, 15] (put (put (put (put (put (put (put (put (put (argE [a0, a1, a2, a3]) 5 v1) 8 (Value.pointer none)) 9 v3) 10 v6) 11 v9) 12 v12) 13 v15) 15 v18) 14 v24) e26 → R (.panicked c27) w28))) (fun c22 w23 => ∀ (e21 : Env), agreeOff [9, 10, 11, 12, 13, 15] (put (put (put (put (put (put (put (put (argE [a0, a1, a2, a3]) 5 v1) 8 (Value.pointer none)) 9 v3) 10 v6) 11 v9) 12 v12) 13 v15) 15 v18) e21 → R (.panicked c22) w23)
theorem F71ok {w : World} {R : Ending → World → Prop} {a0 : Value} {a1 : Value} {a2 : Value} {a3 : Value} (h : F71 a0 a1 a2 a3 w R) : Calls P 71 #[a0, a1, a2, a3] w R :=
  calls_of_ev bodies mixed (c := bodyOf Tryz.f71) (nt := 21) (rs := [(ResultVar.tmp 8)]) (args := [a0, a1, a2, a3]) (fn := Tryz.f71) (by kernel_rfl) (by kernel_rfl) (by kernel_rfl) (by kernel_rfl) (by kernel_rfl) (by simp)
    (eq_mp (show F71 a0 a1 a2 a3 w R = ev P C (bodyOf Tryz.f71) (argE [a0, a1, a2, a3]) w (topK P [(ResultVar.tmp 8)] R) by kernel_rfl) h)
/-! ### moiety/shelf.even -/
def F72 (a0 : Value) (a1 : Value) (a2 : Value) (a3 : Value) (w : World) (R : Ending → World → Prop) : Prop :=
bindV (pBox P 61 a1 w) fun v1 w2 =>
takeE (fun w5 => some (a3, w5)) (drew w2) fun v3 h4 =>
takeE (fun w8 => some (a2, w8)) (drew w2) fun v6 h7 =>
callE P 94 #[v3, v6] (drew w2) (fun v12 w13 =>
takeE (fun w16 => some (v12, w16)) w13 fun v14 h15 =>
takeE (fun w19 => qGrd v14 true (fun w19 => some (a3, w19)) w19) w13 fun v17 h18 =>
takeE (fun w22 => qGrd v14 true (fun w22 => qNil v17 w22) w22) w13 fun v20 h21 =>
takeE (fun w25 => qGrd v14 true (fun w25 => pFieldAddr P 113 v20 2 w25) w25) w13 fun v23 h24 =>
takeE (fun w28 => qGrd v14 true (fun w28 => pLoad P 30 v23 w28) w28) w13 fun v26 h27 =>
takeE (fun w31 => qGrd v14 true (fun w31 => some (a3, w31)) w31) w13 fun v29 h30 =>
takeE (fun w34 => qGrd v14 true (fun w34 => qNil v29 w34) w34) w13 fun v32 h33 =>
takeE (fun w37 => qGrd v14 true (fun w37 => pFieldAddr P 113 v32 3 w37) w37) w13 fun v35 h36 =>
takeE (fun w40 => qGrd v14 true (fun w40 => pLoad P 30 v35 w40) w40) w13 fun v38 h39 =>
grdE v14 true (fun (k42 : Value → World → Prop) => callE P 47 #[v26] w13 k42 (fun c43 w44 => ∀ (e41 : Env), agreeOff [12, 13, 14, 15, 16, 17, 18, 19, 22, 23, 24, 25] (put (put (put (put (put (put (put (put (put (put (put (put (put (put (argE [a0, a1, a2, a3]) 5 v1) 8 (Value.pointer none)) 12 v3) 13 v6) 14 v12) 15 v14) 16 v17) 17 v20) 18 v23) 19 v26) 22 v29) 23 v32) 24 v35) 25 v38) e41 → R (.panicked c43) w44)) (fun v45 w46 =>
heldE [h39, h36, h33, h30] w46 (takeE (fun w49 => qGrd v14 true (fun w49 => pBin P BinOp.add 3 true v45 (Value.int IntKind.i64 1) w49) w49) w46 fun v47 h48 =>
grdE v14 true (fun (k51 : Value → World → Prop) => callE P 47 #[v38] w46 k51 (fun c52 w53 => ∀ (e50 : Env), agreeOff [12, 13, 14, 15, 16, 17, 18, 19, 20, 21, 22, 23, 24, 25] (put (put (put (put (put (put (put (put (put (put (put (put (put (put (put (put (argE [a0, a1, a2, a3]) 5 v1) 8 (Value.pointer none)) 12 v3) 13 v6) 14 v12) 15 v14) 16 v17) 17 v20) 18 v23) 19 v26) 22 v29) 23 v32) 24 v35) 25 v38) 20 v45) 21 v47) e50 → R (.panicked c52) w53)) (fun v54 w55 =>
heldE [h48] w55 (takeE (fun w58 => qGrd v14 true (fun w58 => pBin P BinOp.add 3 true v54 (Value.int IntKind.i64 1) w58) w58) w55 fun v56 h57 =>
takeE (fun w61 => qGrd v14 true (fun w61 => pBin P BinOp.mul 3 true (Value.int IntKind.i64 2) v56 w61) w61) w55 fun v59 h60 =>
takeE (fun w64 => qGrd v14 true (fun w64 => pBin P BinOp.lss 3 false v47 v59 w64) w64) w55 fun v62 h63 =>
takeE (fun w67 => qPick v14 v62 (Value.bool false) w67) w55 fun v65 h66 =>
condE v65 (fun (K69 : KT) =>
takeE (fun w72 => some (a3, w72)) (drew w55) fun v70 h71 =>
takeE (fun w75 => qNil v70 w75) (drew w55) fun v73 h74 =>
takeE (fun w78 => pFieldAddr P 113 v73 0 w78) (drew w55) fun v76 h77 =>
takeE (fun w81 => pLoad P 9 v76 w81) (drew w55) fun v79 h80 =>
takeE (fun w84 => some (a3, w84)) (drew w55) fun v82 h83 =>
takeE (fun w87 => qNil v82 w87) (drew w55) fun v85 h86 =>
takeE (fun w90 => pFieldAddr P 113 v85 1 w90) (drew w55) fun v88 h89 =>
takeE (fun w93 => pLoad P 61 v88 w93) (drew w55) fun v91 h92 =>
takeE (fun w96 => some (a0, w96)) (drew w55) fun v94 h95 =>
takeE (fun w99 => pLoad P 61 v1 w99) (drew w55) fun v97 h98 =>
takeE (fun w102 => some (a2, w102)) (drew w55) fun v100 h101 =>
takeE (fun w105 => some (a3, w105)) (drew w55) fun v103 h104 =>
takeE (fun w108 => qNil v103 w108) (drew w55) fun v106 h107 =>
takeE (fun w111 => pFieldAddr P 113 v106 2 w111) (drew w55) fun v109 h110 =>
takeE (fun w114 => pLoad P 30 v109 w114) (drew w55) fun v112 h113 =>
takeE (fun w117 => some (a3, w117)) (drew w55) fun v115 h116 =>
takeE (fun w120 => qNil v115 w120) (drew w55) fun v118 h119 =>
takeE (fun w123 => pFieldAddr P 113 v118 3 w123) (drew w55) fun v121 h122 =>
takeE (fun w126 => pLoad P 30 v121 w126) (drew w55) fun v124 h125 =>
callE P 71 #[v94, v97, v100, v112] (drew w55) (fun v130 w131 =>
heldE [h125, h122, h119, h116, h92, h89, h86, h83, h80, h77, h74, h71] w131 (callE P 71 #[v79, v91, v130, v124] w131 (fun v135 w136 =>
K69 .ret (put (put (put (put (put (put (put (put (put (put (put (put (put (put (put (put (put (put (put (put (put (put (put (put (put (put (put (put (put (put (put (put (put (put (put (put (put (put (put (put (put (put (put (put (argE [a0, a1, a2, a3]) 5 v1) 8 (Value.pointer none)) 12 v3) 13 v6) 14 v12) 15 v14) 16 v17) 17 v20) 18 v23) 19 v26) 22 v29) 23 v32) 24 v35) 25 v38) 20 v45) 21 v47) 26 v54) 27 v56) 28 v59) 29 v62) 30 v65) 11 v65) 31 v70) 32 v73) 33 v76) 34 v79) 35 v82) 36 v85) 37 v88) 38 v91) 39 v94) 40 v97) 41 v100) 42 v103) 43 v106) 44 v109) 45 v112) 47 v115) 48 v118) 49 v121) 50 v124) 46 v130) 51 v135) 8 v135) w136) (fun c133 w134 => ∀ (e132 : Env), agreeOff [31, 32, 33, 34, 35, 36, 37, 38, 39, 40, 41, 42, 43, 44, 45, 46, 47, 48, 49, 50] (put (put (put (put (put (put (put (put (put (put (put (put (put (put (put (put (put (put (put (put (put (put (put (put (put (put (put (put (put (put (put (put (put (put (put (put (put (put (put (put (put (put (argE [a0, a1, a2, a3]) 5 v1) 8 (Value.pointer none)) 12 v3) 13 v6) 14 v12) 15 v14) 16 v17) 17 v20) 18 v23) 19 v26) 22 v29) 23 v32) 24 v35) 25 v38) 20 v45) 21 v47) 26 v54) 27 v56) 28 v59) 29 v62) 30 v65) 11 v65) 31 v70) 32 v73) 33 v76) 34 v79) 35 v82) 36 v85) 37 v88) 38 v91) 39 v94) 40 v97) 41 v100) 42 v103) 43 v106) 44 v109) 45 v112) 47 v115) 48 v118) 49 v121) 50 v124) 46 v130) e132 → K69 (.panic c133) e132 w134))) (fun c128 w129 => ∀ (e127 : Env), agreeOff [31, 32, 33, 34, 35, 36, 37, 38, 39, 40, 41, 42, 43, 44, 45, 47, 48, 49, 50] (put (put (put (put (put (put (put (put (put (put (put (put (put (put (put (put (put (put (put (put (put (put (put (put (put (put (put (put (put (put (put (put (put (put (put (put (put (put (put (put (put (argE [a0, a1, a2, a3]) 5 v1) 8 (Value.pointer none)) 12 v3) 13 v6) 14 v12) 15 v14) 16 v17) 17 v20) 18 v23) 19 v26) 22 v29) 23 v32) 24 v35) 25 v38) 20 v45) 21 v47) 26 v54) 27 v56) 28 v59) 29 v62) 30 v65) 11 v65) 31 v70) 32 v73) 33 v76) 34 v79) 35 v82) 36 v85) 37 v88) 38 v91) 39 v94) 40 v97) 41 v100) 42 v103) 43 v106) 44 v109) 45 v112) 47 v115) 48 v118) 49 v121) 50 v124) e127 → K69 (.panic c128) e127 w129)) (fun (K69 : KT) =>
callE P 94 #[a3, a2] w55 (fun v140 w141 =>
condE v140 (fun (K142 : KT) =>
nilE a3 fun v143 =>
bindV (pFieldAddr P 113 v143 2 w141) fun v144 w145 =>
bindV (pLoad P 30 v144 w145) fun v146 w147 =>
takeE (fun w150 => some (v146, w150)) (drew w147) fun v148 h149 =>
takeE (fun w153 => qNil v148 w153) (drew w147) fun v151 h152 =>
takeE (fun w156 => pFieldAddr P 113 v151 0 w156) (drew w147) fun v154 h155 =>
takeE (fun w159 => pLoad P 9 v154 w159) (drew w147) fun v157 h158 =>
takeE (fun w162 => some (v146, w162)) (drew w147) fun v160 h161 =>
takeE (fun w165 => qNil v160 w165) (drew w147) fun v163 h164 =>
takeE (fun w168 => pFieldAddr P 113 v163 1 w168) (drew w147) fun v166 h167 =>
takeE (fun w171 => pLoad P 61 v166 w171) (drew w147) fun v169 h170 =>
takeE (fun w174 => some (a0, w174)) (drew w147) fun v172 h173 =>
takeE (fun w177 => pLoad P 61 v1 w177) (drew w147) fun v175 h176 =>
takeE (fun w180 => some (a2, w180)) (drew w147) fun v178 h179 =>
takeE (fun w183 => some (v146, w183)) (drew w147) fun v181 h182 =>
takeE (fun w186 => qNil v181 w186) (drew w147) fun v184 h185 =>
takeE (fun w189 => pFieldAddr P 113 v184 2 w189) (drew w147) fun v187 h188 =>
takeE (fun w192 => pLoad P 30 v187 w192) (drew w147) fun v190 h191 =>
takeE (fun w195 => some (a3, w195)) (drew w147) fun v193 h194 =>
takeE (fun w198 => qNil v193 w198) (drew w147) fun v196 h197 =>
takeE (fun w201 => pFieldAddr P 113 v196 0 w201) (drew w147) fun v199 h200 =>
takeE (fun w204 => pLoad P 9 v199 w204) (drew w147) fun v202 h203 =>
takeE (fun w207 => some (a3, w207)) (drew w147) fun v205 h206 =>
takeE (fun w210 => qNil v205 w210) (drew w147) fun v208 h209 =>
takeE (fun w213 => pFieldAddr P 113 v208 1 w213) (drew w147) fun v211 h212 =>
takeE (fun w216 => pLoad P 61 v211 w216) (drew w147) fun v214 h215 =>
takeE (fun w219 => some (v146, w219)) (drew w147) fun v217 h218 =>
takeE (fun w222 => qNil v217 w222) (drew w147) fun v220 h221 =>
takeE (fun w225 => pFieldAddr P 113 v220 3 w225) (drew w147) fun v223 h224 =>
takeE (fun w228 => pLoad P 30 v223 w228) (drew w147) fun v226 h227 =>
takeE (fun w231 => some (a3, w231)) (drew w147) fun v229 h230 =>
takeE (fun w234 => qNil v229 w234) (drew w147) fun v232 h233 =>
takeE (fun w237 => pFieldAddr P 113 v232 3 w237) (drew w147) fun v235 h236 =>
takeE (fun w240 => pLoad P 30 v235 w240) (drew w147) fun v238 h239 =>
callE P 71 #[v172, v175, v178, v190] (drew w147) (fun v244 w245 =>
heldE [h239, h236, h233, h230, h227, h224, h221, h218, h215, h212, h209, h206, h203, h200, h197, h194, h170, h167, h164, h161, h158, h155, h152, h149] w245 (callE P 71 #[v202, v214, v226, v238] w245 (fun v249 w250 =>
heldE [h170, h167, h164, h161, h158, h155, h152, h149] w250 (callE P 71 #[v157, v169, v244, v249] w250 (fun v254 w255 =>
K142 .ret (put (put (put (put (put (put (put (put (put (put (put (put (put (put (put (put (put (put (put (put (put (put (put (put (put (put (put (put (put (put (put (put (put (put (put (put (put (put (put (put (put (put (put (put (put (put (put (put (put (put (put (put (put (put (put (put (put (put (put (put (put (put (put (put (put (put (argE [a0, a1, a2, a3]) 5 v1) 8 (Value.pointer none)) 12 v3) 13 v6) 14 v12) 15 v14) 16 v17) 17 v20) 18 v23) 19 v26) 22 v29) 23 v32) 24 v35) 25 v38) 20 v45) 21 v47) 26 v54) 27 v56) 28 v59) 29 v62) 30 v65) 11 v65) 53 a3) 54 a2) 55 v140) 52 v140) 56 a3) 57 v143) 58 v144) 59 v146) 9 v146) 60 v148) 61 v151) 62 v154) 63 v157) 64 v160) 65 v163) 66 v166) 67 v169) 68 v172) 69 v175) 70 v178) 71 v181) 72 v184) 73 v187) 74 v190) 76 v193) 77 v196) 78 v199) 79 v202) 80 v205) 81 v208) 82 v211) 83 v214) 84 v217) 85 v220) 86 v223) 87 v226) 88 v229) 89 v232) 90 v235) 91 v238) 75 v244) 92 v249) 93 v254) 8 v254) w255) (fun c252 w253 => ∀ (e251 : Env), agreeOff [60, 61, 62, 63, 64, 65, 66, 67, 68, 69, 70, 71, 72, 73, 74, 75, 76, 77, 78, 79, 80, 81, 82, 83, 84, 85, 86, 87, 88, 89, 90, 91, 92] (put (put (put (put (put (put (put (put (put (put (put (put (put (put (put (put (put (put (put (put (put (put (put (put (put (put (put (put (put (put (put (put (put (put (put (put (put (put (put (put (put (put (put (put (put (put (put (put (put (put (put (put (put (put (put (put (put (put (put (put (put (put (put (put (argE [a0, a1, a2, a3]) 5 v1) 8 (Value.pointer none)) 12 v3) 13 v6) 14 v12) 15 v14) 16 v17) 17 v20) 18 v23) 19 v26) 22 v29) 23 v32) 24 v35) 25 v38) 20 v45) 21 v47) 26 v54) 27 v56) 28 v59) 29 v62) 30 v65) 11 v65) 53 a3) 54 a2) 55 v140) 52 v140) 56 a3) 57 v143) 58 v144) 59 v146) 9 v146) 60 v148) 61 v151) 62 v154) 63 v157) 64 v160) 65 v163) 66 v166) 67 v169) 68 v172) 69 v175) 70 v178) 71 v181) 72 v184) 73 v187) 74 v190) 76 v193) 77 v196) 78 v199) 79 v202) 80 v205) 81 v208) 82 v211) 83 v214) 84 v217) 85 v220) 86 v223) 87 v226) 88 v229) 89 v232) 90 v235) 91 v238) 75 v244) 92 v249) e251 → K142 (.panic c252) e251 w253))) (fun c247 w248 => ∀ (e246 : Env), agreeOff [60, 61, 62, 63, 64, 65, 66, 67, 68, 69, 70, 71, 72, 73, 74, 75, 76, 77, 78, 79, 80, 81, 82, 83, 84, 85, 86, 87, 88, 89, 90, 91] (put (put (put (put (put (put (put (put (put (put (put (put (put (put (put (put (put (put (put (put (put (put (put (put (put (put (put (put (put (put (put (put (put (put (put (put (put (put (put (put (put (put (put (put (put (put (put (put (put (put (put (put (put (put (put (put (put (put (put (put (put (put (put (argE [a0, a1, a2, a3]) 5 v1) 8 (Value.pointer none)) 12 v3) 13 v6) 14 v12) 15 v14) 16 v17) 17 v20) 18 v23) 19 v26) 22 v29) 23 v32) 24 v35) 25 v38) 20 v45) 21 v47) 26 v54) 27 v56) 28 v59) 29 v62) 30 v65) 11 v65) 53 a3) 54 a2) 55 v140) 52 v140) 56 a3) 57 v143) 58 v144) 59 v146) 9 v146) 60 v148) 61 v151) 62 v154) 63 v157) 64 v160) 65 v163) 66 v166) 67 v169) 68 v172) 69 v175) 70 v178) 71 v181) 72 v184) 73 v187) 74 v190) 76 v193) 77 v196) 78 v199) 79 v202) 80 v205) 81 v208) 82 v211) 83 v214) 84 v217) 85 v220) 86 v223) 87 v226) 88 v229) 89 v232) 90 v235) 91 v238) 75 v244) e246 → K142 (.panic c247) e246 w248))) (fun c242 w243 => ∀ (e241 : Env), agreeOff [60, 61, 62, 63, 64, 65, 66, 67, 68, 69, 70, 71, 72, 73, 74, 76, 77, 78, 79, 80, 81, 82, 83, 84, 85, 86, 87, 88, 89, 90, 91] (put (put (put (put (put (put (put (put (put (put (put (put (put (put (put (put (put (put (put (put (put (put (put (put (put (put (put (put (put (put (put (put (put (put (put (put (put (put (put (put (put (put (put (put (put (put (put (put (put (put (put (put (put (put (put (put (put (put (put (put (put (put (argE [a0, a1, a2, a3]) 5 v1) 8 (Value.pointer none)) 12 v3) 13 v6) 14 v12) 15 v14) 16 v17) 17 v20) 18 v23) 19 v26) 22 v29) 23 v32) 24 v35) 25 v38) 20 v45) 21 v47) 26 v54) 27 v56) 28 v59) 29 v62) 30 v65) 11 v65) 53 a3) 54 a2) 55 v140) 52 v140) 56 a3) 57 v143) 58 v144) 59 v146) 9 v146) 60 v148) 61 v151) 62 v154) 63 v157) 64 v160) 65 v163) 66 v166) 67 v169) 68 v172) 69 v175) 70 v178) 71 v181) 72 v184) 73 v187) 74 v190) 76 v193) 77 v196) 78 v199) 79 v202) 80 v205) 81 v208) 82 v211) 83 v214) 84 v217) 85 v220) 86 v223) 87 v226) 88 v229) 89 v232) 90 v235) 91 v238) e241 → K142 (.panic c242) e241 w243)) (fun (K142 : KT) =>
takeE (fun w259 => some (a2, w259)) (drew w141) fun v257 h258 =>
takeE (fun w262 => some (a3, w262)) (drew w141) fun v260 h261 =>
callE P 94 #[v257, v260] (drew w141) (fun v266 w267 =>
takeE (fun w270 => some (v266, w270)) w267 fun v268 h269 =>
takeE (fun w273 => qGrd v268 true (fun w273 => some (a2, w273)) w273) w267 fun v271 h272 =>
takeE (fun w276 => qGrd v268 true (fun w276 => qNil v271 w276) w276) w267 fun v274 h275 =>
takeE (fun w279 => qGrd v268 true (fun w279 => pFieldAddr P 113 v274 3 w279) w279) w267 fun v277 h278 =>
takeE (fun w282 => qGrd v268 true (fun w282 => pLoad P 30 v277 w282) w282) w267 fun v280 h281 =>
takeE (fun w285 => qGrd v268 true (fun w285 => some (a2, w285)) w285) w267 fun v283 h284 =>
takeE (fun w288 => qGrd v268 true (fun w288 => qNil v283 w288) w288) w267 fun v286 h287 =>
takeE (fun w291 => qGrd v268 true (fun w291 => pFieldAddr P 113 v286 2 w291) w291) w267 fun v289 h290 =>
takeE (fun w294 => qGrd v268 true (fun w294 => pLoad P 30 v289 w294) w294) w267 fun v292 h293 =>
grdE v268 true (fun (k296 : Value → World → Prop) => callE P 47 #[v280] w267 k296 (fun c297 w298 => ∀ (e295 : Env), agreeOff [95, 96, 97, 98, 99, 100, 101, 102, 105, 106, 107, 108] (put (put (put (put (put (put (put (put (put (put (put (put (put (put (put (put (put (put (put (put (put (put (put (put (put (put (put (put (put (put (put (put (put (put (put (put (put (put (argE [a0, a1, a2, a3]) 5 v1) 8 (Value.pointer none)) 12 v3) 13 v6) 14 v12) 15 v14) 16 v17) 17 v20) 18 v23) 19 v26) 22 v29) 23 v32) 24 v35) 25 v38) 20 v45) 21 v47) 26 v54) 27 v56) 28 v59) 29 v62) 30 v65) 11 v65) 53 a3) 54 a2) 55 v140) 52 v140) 95 v257) 96 v260) 97 v266) 98 v268) 99 v271) 100 v274) 101 v277) 102 v280) 105 v283) 106 v286) 107 v289) 108 v292) e295 → K142 (.panic c297) e295 w298)) (fun v299 w300 =>
heldE [h293, h290, h287, h284] w300 (takeE (fun w303 => qGrd v268 true (fun w303 => pBin P BinOp.add 3 true v299 (Value.int IntKind.i64 1) w303) w303) w300 fun v301 h302 =>
grdE v268 true (fun (k305 : Value → World → Prop) => callE P 47 #[v292] w300 k305 (fun c306 w307 => ∀ (e304 : Env), agreeOff [95, 96, 97, 98, 99, 100, 101, 102, 103, 104, 105, 106, 107, 108] (put (put (put (put (put (put (put (put (put (put (put (put (put (put (put (put (put (put (put (put (put (put (put (put (put (put (put (put (put (put (put (put (put (put (put (put (put (put (put (put (argE [a0, a1, a2, a3]) 5 v1) 8 (Value.pointer none)) 12 v3) 13 v6) 14 v12) 15 v14) 16 v17) 17 v20) 18 v23) 19 v26) 22 v29) 23 v32) 24 v35) 25 v38) 20 v45) 21 v47) 26 v54) 27 v56) 28 v59) 29 v62) 30 v65) 11 v65) 53 a3) 54 a2) 55 v140) 52 v140) 95 v257) 96 v260) 97 v266) 98 v268) 99 v271) 100 v274) 101 v277) 102 v280) 105 v283) 106 v286) 107 v289) 108 v292) 103 v299) 104 v301) e304 → K142 (.panic c306) e304 w307)) (fun v308 w309 =>
heldE [h302] w309 (takeE (fun w312 => qGrd v268 true (fun w312 => pBin P BinOp.add 3 true v308 (Value.int IntKind.i64 1) w312) w312) w309 fun v310 h311 =>
takeE (fun w315 => qGrd v268 true (fun w315 => pBin P BinOp.mul 3 true (Value.int IntKind.i64 2) v310 w315) w315) w309 fun v313 h314 =>
takeE (fun w318 => qGrd v268 true (fun w318 => pBin P BinOp.lss 3 false v301 v313 w318) w318) w309 fun v316 h317 =>
takeE (fun w321 => qPick v268 v316 (Value.bool false) w321) w309 fun v319 h320 =>
condE v319 (fun (K323 : KT) =>
takeE (fun w326 => some (a2, w326)) (drew w309) fun v324 h325 =>
takeE (fun w329 => qNil v324 w329) (drew w309) fun v327 h328 =>
takeE (fun w332 => pFieldAddr P 113 v327 0 w332) (drew w309) fun v330 h331 =>
takeE (fun w335 => pLoad P 9 v330 w335) (drew w309) fun v333 h334 =>
takeE (fun w338 => some (a2, w338)) (drew w309) fun v336 h337 =>
takeE (fun w341 => qNil v336 w341) (drew w309) fun v339 h340 =>
takeE (fun w344 => pFieldAddr P 113 v339 1 w344) (drew w309) fun v342 h343 =>
takeE (fun w347 => pLoad P 61 v342 w347) (drew w309) fun v345 h346 =>
takeE (fun w350 => some (a2, w350)) (drew w309) fun v348 h349 =>
takeE (fun w353 => qNil v348 w353) (drew w309) fun v351 h352 =>
takeE (fun w356 => pFieldAddr P 113 v351 2 w356) (drew w309) fun v354 h355 =>
takeE (fun w359 => pLoad P 30 v354 w359) (drew w309) fun v357 h358 =>
takeE (fun w362 => some (a0, w362)) (drew w309) fun v360 h361 =>
takeE (fun w365 => pLoad P 61 v1 w365) (drew w309) fun v363 h364 =>
takeE (fun w368 => some (a2, w368)) (drew w309) fun v366 h367 =>
takeE (fun w371 => qNil v366 w371) (drew w309) fun v369 h370 =>
takeE (fun w374 => pFieldAddr P 113 v369 3 w374) (drew w309) fun v372 h373 =>
takeE (fun w377 => pLoad P 30 v372 w377) (drew w309) fun v375 h376 =>
takeE (fun w380 => some (a3, w380)) (drew w309) fun v378 h379 =>
callE P 71 #[v360, v363, v375, v378] (drew w309) (fun v384 w385 =>
heldE [h358, h355, h352, h349, h346, h343, h340, h337, h334, h331, h328, h325] w385 (callE P 71 #[v333, v345, v357, v384] w385 (fun v389 w390 =>
K323 .ret (put (put (put (put (put (put (put (put (put (put (put (put (put (put (put (put (put (put (put (put (put (put (put (put (put (put (put (put (put (put (put (put (put (put (put (put (put (put (put (put (put (put (put (put (put (put (put (put (put (put (put (put (put (put (put (put (put (put (put (put (put (put (put (put (put (put (put (put (argE [a0, a1, a2, a3]) 5 v1) 8 (Value.pointer none)) 12 v3) 13 v6) 14 v12) 15 v14) 16 v17) 17 v20) 18 v23) 19 v26) 22 v29) 23 v32) 24 v35) 25 v38) 20 v45) 21 v47) 26 v54) 27 v56) 28 v59) 29 v62) 30 v65) 11 v65) 53 a3) 54 a2) 55 v140) 52 v140) 95 v257) 96 v260) 97 v266) 98 v268) 99 v271) 100 v274) 101 v277) 102 v280) 105 v283) 106 v286) 107 v289) 108 v292) 103 v299) 104 v301) 109 v308) 110 v310) 111 v313) 112 v316) 113 v319) 94 v319) 114 v324) 115 v327) 116 v330) 117 v333) 118 v336) 119 v339) 120 v342) 121 v345) 122 v348) 123 v351) 124 v354) 125 v357) 126 v360) 127 v363) 128 v366) 129 v369) 130 v372) 131 v375) 132 v378) 133 v384) 134 v389) 8 v389) w390) (fun c387 w388 => ∀ (e386 : Env), agreeOff [114, 115, 116, 117, 118, 119, 120, 121, 122, 123, 124, 125, 126, 127, 128, 129, 130, 131, 132, 133] (put (put (put (put (put (put (put (put (put (put (put (put (put (put (put (put (put (put (put (put (put (put (put (put (put (put (put (put (put (put (put (put (put (put (put (put (put (put (put (put (put (put (put (put (put (put (put (put (put (put (put (put (put (put (put (put (put (put (put (put (put (put (put (put (put (put (argE [a0, a1, a2, a3]) 5 v1) 8 (Value.pointer none)) 12 v3) 13 v6) 14 v12) 15 v14) 16 v17) 17 v20) 18 v23) 19 v26) 22 v29) 23 v32) 24 v35) 25 v38) 20 v45) 21 v47) 26 v54) 27 v56) 28 v59) 29 v62) 30 v65) 11 v65) 53 a3) 54 a2) 55 v140) 52 v140) 95 v257) 96 v260) 97 v266) 98 v268) 99 v271) 100 v274) 101 v277) 102 v280) 105 v283) 106 v286) 107 v289) 108 v292) 103 v299) 104 v301) 109 v308) 110 v310) 111 v313) 112 v316) 113 v319) 94 v319) 114 v324) 115 v327) 116 v330) 117 v333) 118 v336) 119 v339) 120 v342) 121 v345) 122 v348) 123 v351) 124 v354) 125 v357) 126 v360) 127 v363) 128 v366) 129 v369) 130 v372) 131 v375) 132 v378) 133 v384) e386 → K323 (.panic c387) e386 w388))) (fun c382 w383 => ∀ (e381 : Env), agreeOff [114, 115, 116, 117, 118, 119, 120, 121, 122, 123, 124, 125, 126, 127, 128, 129, 130, 131, 132] (put (put (put (put (put (put (put (put (put (put (put (put (put (put (put (put (put (put (put (put (put (put (put (put (put (put (put (put (put (put (put (put (put (put (put (put (put (put (put (put (put (put (put (put (put (put (put (put (put (put (put (put (put (put (put (put (put (put (put (put (put (put (put (put (put (argE [a0, a1, a2, a3]) 5 v1) 8 (Value.pointer none)) 12 v3) 13 v6) 14 v12) 15 v14) 16 v17) 17 v20) 18 v23) 19 v26) 22 v29) 23 v32) 24 v35) 25 v38) 20 v45) 21 v47) 26 v54) 27 v56) 28 v59) 29 v62) 30 v65) 11 v65) 53 a3) 54 a2) 55 v140) 52 v140) 95 v257) 96 v260) 97 v266) 98 v268) 99 v271) 100 v274) 101 v277) 102 v280) 105 v283) 106 v286) 107 v289) 108 v292) 103 v299) 104 v301) 109 v308) 110 v310) 111 v313) 112 v316) 113 v319) 94 v319) 114 v324) 115 v327) 116 v330) 117 v333) 118 v336) 119 v339) 120 v342) 121 v345) 122 v348) 123 v351) 124 v354) 125 v357) 126 v360) 127 v363) 128 v366) 129 v369) 130 v372) 131 v375) 132 v378) e381 → K323 (.panic c382) e381 w383)) (fun (K323 : KT) =>
callE P 94 #[a2, a3] w309 (fun v394 w395 =>
condE v394 (fun (K396 : KT) =>
nilE a2 fun v397 =>
bindV (pFieldAddr P 113 v397 3 w395) fun v398 w399 =>
bindV (pLoad P 30 v398 w399) fun v400 w401 =>
takeE (fun w404 => some (v400, w404)) (drew w401) fun v402 h403 =>
takeE (fun w407 => qNil v402 w407) (drew w401) fun v405 h406 =>
takeE (fun w410 => pFieldAddr P 113 v405 0 w410) (drew w401) fun v408 h409 =>
takeE (fun w413 => pLoad P 9 v408 w413) (drew w401) fun v411 h412 =>
takeE (fun w416 => some (v400, w416)) (drew w401) fun v414 h415 =>
takeE (fun w419 => qNil v414 w419) (drew w401) fun v417 h418 =>
takeE (fun w422 => pFieldAddr P 113 v417 1 w422) (drew w401) fun v420 h421 =>
takeE (fun w425 => pLoad P 61 v420 w425) (drew w401) fun v423 h424 =>
takeE (fun w428 => some (a2, w428)) (drew w401) fun v426 h427 =>
takeE (fun w431 => qNil v426 w431) (drew w401) fun v429 h430 =>
takeE (fun w434 => pFieldAddr P 113 v429 0 w434) (drew w401) fun v432 h433 =>
takeE (fun w437 => pLoad P 9 v432 w437) (drew w401) fun v435 h436 =>
takeE (fun w440 => some (a2, w440)) (drew w401) fun v438 h439 =>
takeE (fun w443 => qNil v438 w443) (drew w401) fun v441 h442 =>
takeE (fun w446 => pFieldAddr P 113 v441 1 w446) (drew w401) fun v444 h445 =>
takeE (fun w449 => pLoad P 61 v444 w449) (drew w401) fun v447 h448 =>
takeE (fun w452 => some (a2, w452)) (drew w401) fun v450 h451 =>
takeE (fun w455 => qNil v450 w455) (drew w401) fun v453 h454 =>
takeE (fun w458 => pFieldAddr P 113 v453 2 w458) (drew w401) fun v456 h457 =>
takeE (fun w461 => pLoad P 30 v456 w461) (drew w401) fun v459 h460 =>
takeE (fun w464 => some (v400, w464)) (drew w401) fun v462 h463 =>
takeE (fun w467 => qNil v462 w467) (drew w401) fun v465 h466 =>
takeE (fun w470 => pFieldAddr P 113 v465 2 w470) (drew w401) fun v468 h469 =>
takeE (fun w473 => pLoad P 30 v468 w473) (drew w401) fun v471 h472 =>
takeE (fun w476 => some (a0, w476)) (drew w401) fun v474 h475 =>
takeE (fun w479 => pLoad P 61 v1 w479) (drew w401) fun v477 h478 =>
takeE (fun w482 => some (v400, w482)) (drew w401) fun v480 h481 =>
takeE (fun w485 => qNil v480 w485) (drew w401) fun v483 h484 =>
takeE (fun w488 => pFieldAddr P 113 v483 3 w488) (drew w401) fun v486 h487 =>
takeE (fun w491 => pLoad P 30 v486 w491) (drew w401) fun v489 h490 =>
takeE (fun w494 => some (a3, w494)) (drew w401) fun v492 h493 =>
callE P 71 #[v435, v447, v459, v471] (drew w401) (fun v498 w499 =>
heldE [h493, h490, h487, h484, h481, h478, h475, h424, h421, h418, h415, h412, h409, h406, h403] w499 (callE P 71 #[v474, v477, v489, v492] w499 (fun v503 w504 =>
heldE [h424, h421, h418, h415, h412, h409, h406, h403] w504 (callE P 71 #[v411, v423, v498, v503] w504 (fun v508 w509 =>
K396 .ret (put (put (put (put (put (put (put (put (put (put (put (put (put (put (put (put (put (put (put (put (put (put (put (put (put (put (put (put (put (put (put (put (put (put (put (put (put (put (put (put (put (put (put (put (put (put (put (put (put (put (put (put (put (put (put (put (put (put (put (put (put (put (put (put (put (put (put (put (put (put (put (put (put (put (put (put (put (put (put (put (put (put (put (put (put (put (put (put (put (put (argE [a0, a1, a2, a3]) 5 v1) 8 (Value.pointer none)) 12 v3) 13 v6) 14 v12) 15 v14) 16 v17) 17 v20) 18 v23) 19 v26) 22 v29) 23 v32) 24 v35) 25 v38) 20 v45) 21 v47) 26 v54) 27 v56) 28 v59) 29 v62) 30 v65) 11 v65) 53 a3) 54 a2) 55 v140) 52 v140) 95 v257) 96 v260) 97 v266) 98 v268) 99 v271) 100 v274) 101 v277) 102 v280) 105 v283) 106 v286) 107 v289) 108 v292) 103 v299) 104 v301) 109 v308) 110 v310) 111 v313) 112 v316) 113 v319) 94 v319) 136 a2) 137 a3) 138 v394) 135 v394) 139 a2) 140 v397) 141 v398) 142 v400) 10 v400) 143 v402) 144 v405) 145 v408) 146 v411) 147 v414) 148 v417) 149 v420) 150 v423) 151 v426) 152 v429) 153 v432) 154 v435) 155 v438) 156 v441) 157 v444) 158 v447) 159 v450) 160 v453) 161 v456) 162 v459) 163 v462) 164 v465) 165 v468) 166 v471) 168 v474) 169 v477) 170 v480) 171 v483) 172 v486) 173 v489) 174 v492) 167 v498) 175 v503) 176 v508) 8 v508) w509) (fun c506 w507 => ∀ (e505 : Env), agreeOff [143, 144, 145, 146, 147, 148, 149, 150, 151, 152, 153, 154, 155, 156, 157, 158, 159, 160, 161, 162, 163, 164, 165, 166, 167, 168, 169, 170, 171, 172, 173, 174, 175] (put (put (put (put (put (put (put (put (put (put (put (put (put (put (put (put (put (put (put (put (put (put (put (put (put (put (put (put (put (put (put (put (put (put (put (put (put (put (put (put (put (put (put (put (put (put (put (put (put (put (put (put (put (put (put (put (put (put (put (put (put (put (put (put (put (put (put (put (put (put (put (put (put (put (put (put (put (put (put (put (put (put (put (put (put (put (put (put (argE [a0, a1, a2, a3]) 5 v1) 8 (Value.pointer none)) 12 v3) 13 v6) 14 v12) 15 v14) 16 v17) 17 v20) 18 v23) 19 v26) 22 v29) 23 v32) 24 v35) 25 v38) 20 v45) 21 v47) 26 v54) 27 v56) 28 v59) 29 v62) 30 v65) 11 v65) 53 a3) 54 a2) 55 v140) 52 v140) 95 v257) 96 v260) 97 v266) 98 v268) 99 v271) 100 v274) 101 v277) 102 v280) 105 v283) 106 v286) 107 v289) 108 v292) 103 v299) 104 v301) 109 v308) 110 v310) 111 v313) 112 v316) 113 v319) 94 v319) 136 a2) 137 a3) 138 v394) 135 v394) 139 a2) 140 v397) 141 v398) 142 v400) 10 v400) 143 v402) 144 v405) 145 v408) 146 v411) 147 v414) 148 v417) 149 v420) 150 v423) 151 v426) 152 v429) 153 v432) 154 v435) 155 v438) 156 v441) 157 v444) 158 v447) 159 v450) 160 v453) 161 v456) 162 v459) 163 v462) 164 v465) 165 v468) 166 v471) 168 v474) 169 v477) 170 v480) 171 v483) 172 v486) 173 v489) 174 v492) 167 v498) 175 v503) e505 → K396 (.panic c506) e505 w507))) (fun c501 w502 => ∀ (e500 : Env), agreeOff [143, 144, 145, 146, 147, 148, 149, 150, 151, 152, 153, 154, 155, 156, 157, 158, 159, 160, 161, 162, 163, 164, 165, 166, 167, 168, 169, 170, 171, 172, 173, 174] (put (put (put (put (put (put (put (put (put (put (put (put (put (put (put (put (put (put (put (put (put (put (put (put (put (put (put (put (put (put (put (put (put (put (put (put (put (put (put (put (put (put (put (put (put (put (put (put (put (put (put (put (put (put (put (put (put (put (put (put (put (put (put (put (put (put (put (put (put (put (put (put (put (put (put (put (put (put (put (put (put (put (put (put (put (put (put (argE [a0, a1, a2, a3]) 5 v1) 8 (Value.pointer none)) 12 v3) 13 v6) 14 v12) 15 v14) 16 v17) 17 v20) 18 v23) 19 v26) 22 v29) 23 v32) 24 v35) 25 v38) 20 v45) 21 v47) 26 v54) 27 v56) 28 v59) 29 v62) 30 v65) 11 v65) 53 a3) 54 a2) 55 v140) 52 v140) 95 v257) 96 v260) 97 v266) 98 v268) 99 v271) 100 v274) 101 v277) 102 v280) 105 v283) 106 v286) 107 v289) 108 v292) 103 v299) 104 v301) 109 v308) 110 v310) 111 v313) 112 v316) 113 v319) 94 v319) 136 a2) 137 a3) 138 v394) 135 v394) 139 a2) 140 v397) 141 v398) 142 v400) 10 v400) 143 v402) 144 v405) 145 v408) 146 v411) 147 v414) 148 v417) 149 v420) 150 v423) 151 v426) 152 v429) 153 v432) 154 v435) 155 v438) 156 v441) 157 v444) 158 v447) 159 v450) 160 v453) 161 v456) 162 v459) 163 v462) 164 v465) 165 v468) 166 v471) 168 v474) 169 v477) 170 v480) 171 v483) 172 v486) 173 v489) 174 v492) 167 v498) e500 → K396 (.panic c501) e500 w502))) (fun c496 w497 => ∀ (e495 : Env), agreeOff [143, 144, 145, 146, 147, 148, 149, 150, 151, 152, 153, 154, 155, 156, 157, 158, 159, 160, 161, 162, 163, 164, 165, 166, 168, 169, 170, 171, 172, 173, 174] (put (put (put (put (put (put (put (put (put (put (put (put (put (put (put (put (put (put (put (put (put (put (put (put (put (put (put (put (put (put (put (put (put (put (put (put (put (put (put (put (put (put (put (put (put (put (put (put (put (put (put (put (put (put (put (put (put (put (put (put (put (put (put (put (put (put (put (put (put (put (put (put (put (put (put (put (put (put (put (put (put (put (put (put (put (put (argE [a0, a1, a2, a3]) 5 v1) 8 (Value.pointer none)) 12 v3) 13 v6) 14 v12) 15 v14) 16 v17) 17 v20) 18 v23) 19 v26) 22 v29) 23 v32) 24 v35) 25 v38) 20 v45) 21 v47) 26 v54) 27 v56) 28 v59) 29 v62) 30 v65) 11 v65) 53 a3) 54 a2) 55 v140) 52 v140) 95 v257) 96 v260) 97 v266) 98 v268) 99 v271) 100 v274) 101 v277) 102 v280) 105 v283) 106 v286) 107 v289) 108 v292) 103 v299) 104 v301) 109 v308) 110 v310) 111 v313) 112 v316) 113 v319) 94 v319) 136 a2) 137 a3) 138 v394) 135 v394) 139 a2) 140 v397) 141 v398) 142 v400) 10 v400) 143 v402) 144 v405) 145 v408) 146 v411) 147 v414) 148 v417) 149 v420) 150 v423) 151 v426) 152 v429) 153 v432) 154 v435) 155 v438) 156 v441) 157 v444) 158 v447) 159 v450) 160 v453) 161 v456) 162 v459) 163 v462) 164 v465) 165 v468) 166 v471) 168 v474) 169 v477) 170 v480) 171 v483) 172 v486) 173 v489) 174 v492) e495 → K396 (.panic c496) e495 w497)) (fun (K396 : KT) =>
K396 .normal (put (put (put (put (put (put (put (put (put (put (put (put (put (put (put (put (put (put (put (put (put (put (put (put (put (put (put (put (put (put (put (put (put (put (put (put (put (put (put (put (put (put (put (put (put (put (put (put (put (put (argE [a0, a1, a2, a3]) 5 v1) 8 (Value.pointer none)) 12 v3) 13 v6) 14 v12) 15 v14) 16 v17) 17 v20) 18 v23) 19 v26) 22 v29) 23 v32) 24 v35) 25 v38) 20 v45) 21 v47) 26 v54) 27 v56) 28 v59) 29 v62) 30 v65) 11 v65) 53 a3) 54 a2) 55 v140) 52 v140) 95 v257) 96 v260) 97 v266) 98 v268) 99 v271) 100 v274) 101 v277) 102 v280) 105 v283) 106 v286) 107 v289) 108 v292) 103 v299) 104 v301) 109 v308) 110 v310) 111 v313) 112 v316) 113 v319) 94 v319) 136 a2) 137 a3) 138 v394) 135 v394) w395) K323) (fun c392 w393 => K323 (.panic c392) (put (put (put (put (put (put (put (put (put (put (put (put (put (put (put (put (put (put (put (put (put (put (put (put (put (put (put (put (put (put (put (put (put (put (put (put (put (put (put (put (put (put (put (put (put (put (put (put (argE [a0, a1, a2, a3]) 5 v1) 8 (Value.pointer none)) 12 v3) 13 v6) 14 v12) 15 v14) 16 v17) 17 v20) 18 v23) 19 v26) 22 v29) 23 v32) 24 v35) 25 v38) 20 v45) 21 v47) 26 v54) 27 v56) 28 v59) 29 v62) 30 v65) 11 v65) 53 a3) 54 a2) 55 v140) 52 v140) 95 v257) 96 v260) 97 v266) 98 v268) 99 v271) 100 v274) 101 v277) 102 v280) 105 v283) 106 v286) 107 v289) 108 v292) 103 v299) 104 v301) 109 v308) 110 v310) 111 v313) 112 v316) 113 v319) 94 v319) 136 a2) 137 a3) w393)) K142)) w300)) w267) (fun c264 w265 => ∀ (e263 : Env), agreeOff [95, 96] (put (put (put (put (put (put (put (put (put (put (put (put (put (put (put (put (put (put (put (put (put (put (put (put (put (put (put (put (argE [a0, a1, a2, a3]) 5 v1) 8 (Value.pointer none)) 12 v3) 13 v6) 14 v12) 15 v14) 16 v17) 17 v20) 18 v23) 19 v26) 22 v29) 23 v32) 24 v35) 25 v38) 20 v45) 21 v47) 26 v54) 27 v56) 28 v59) 29 v62) 30 v65) 11 v65) 53 a3) 54 a2) 55 v140) 52 v140) 95 v257) 96 v260) e263 → K142 (.panic c264) e263 w265)) K69) (fun c138 w139 => K69 (.panic c138) (put (put (put (put (put (put (put (put (put (put (put (put (put (put (put (put (put (put (put (put (put (put (put (put (argE [a0, a1, a2, a3]) 5 v1) 8 (Value.pointer none)) 12 v3) 13 v6) 14 v12) 15 v14) 16 v17) 17 v20) 18 v23) 19 v26) 22 v29) 23 v32) 24 v35) 25 v38) 20 v45) 21 v47) 26 v54) 27 v56) 28 v59) 29 v62) 30 v65) 11 v65) 53 a3) 54 a2) w139)) (blockK 0 (thenK (fun e511 w512 =>
bindV (pLoad P 61 (e511 5) w512) fun v513 w514 =>
callE P 71 #[(e511 0), v513, (e511 2), (e511 3)] w514 (fun v517 w518 =>
R (.returned v517) w518) (fun c515 w516 => R (.panicked c515) w516)) (topK P [(ResultVar.tmp 8)] R))))) w46)) w13) (fun c10 w11 => ∀ (e9 : Env), agreeOff [12, 13] (put (put (put (put (argE [a0, a1, a2, a3]) 5 v1) 8 (Value.pointer none)) 12 v3) 13 v6) e9 → R (.panicked c10) w11)
theorem F72ok {w : World} {R : Ending → World → Prop} {a0 : Value} {a1 : Value} {a2 : Value} {a3 : Value} (h : F72 a0 a1 a2 a3 w R) : Calls P 72 #[a0, a1, a2, a3] w R :=
  calls_of_ev bodies mixed (c := bodyOf Tryz.f72) (nt := 182) (rs := [(ResultVar.tmp 8)]) (args := [a0, a1, a2, a3]) (fn := Tryz.f72) (by kernel_rfl) (by kernel_rfl) (by kernel_rfl) (by kernel_rfl) (by kernel_rfl) (by simp)
    (eq_mp (show F72 a0 a1 a2 a3 w R = ev P C (bodyOf Tryz.f72) (argE [a0, a1, a2, a3]) w (topK P [(ResultVar.tmp 8)] R) by kernel_rfl) h)
/-! ### moiety/shelf.heavy -/
def F94 (a0 : Value) (a1 : Value) (w : World) (R : Ending → World → Prop) : Prop :=
callE P 47 #[a0] w (fun v3 w4 =>
bindV (pBin P BinOp.add 3 true v3 (Value.int IntKind.i64 1) w4) fun v5 w6 =>
callE P 47 #[a1] w6 (fun v9 w10 =>
bindV (pBin P BinOp.add 3 true v9 (Value.int IntKind.i64 1) w10) fun v11 w12 =>
bindV (pBin P BinOp.mul 3 true (Value.int IntKind.i64 3) v11 w12) fun v13 w14 =>
bindV (pBin P BinOp.gtr 3 false v5 v13 w14) fun v15 w16 =>
R (.returned v15) w16) (fun c7 w8 => R (.panicked c7) w8)) (fun c1 w2 => R (.panicked c1) w2)
theorem F94ok {w : World} {R : Ending → World → Prop} {a0 : Value} {a1 : Value} (h : F94 a0 a1 w R) : Calls P 94 #[a0, a1] w R :=
  calls_of_ev bodies mixed (c := bodyOf Tryz.f94) (nt := 13) (rs := [(ResultVar.tmp 4)]) (args := [a0, a1]) (fn := Tryz.f94) (by kernel_rfl) (by kernel_rfl) (by kernel_rfl) (by kernel_rfl) (by kernel_rfl) (by simp)
    (eq_mp (show F94 a0 a1 w R = ev P C (bodyOf Tryz.f94) (argE [a0, a1]) w (topK P [(ResultVar.tmp 4)] R) by kernel_rfl) h)
end Go.Proofs.YtieejbkbdfccdaaGreat
