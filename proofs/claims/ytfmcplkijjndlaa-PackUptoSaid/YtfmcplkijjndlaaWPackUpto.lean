/- The functions' residual programs, printed by gen.py. -/
import Derived.Test.YtfmcplkijjndlaaBaseD
namespace Go.Proofs.Ytfmcplkijjndlaa
open Go
/-! ### moiety/moietylaw02.PackUpto -/
def F18 (a0 : Value) (a1 : Value) (w : World) (R : Ending → World → Prop) : Prop :=
callE P 39 #[] w (fun v11n3 w4 =>
bindV (pUn P UnOp.not v11n3 w4) fun v12n5 w6 =>
condE v12n5 (fun (K7 : KT) =>
K7 .ret (Env.put (Env.put (Env.put (Env.put (argE [a0, a1]) 4 (Value.bool false)) 11 v11n3) 12 v12n5) 4 (Value.bool false)) w6) (fun (K7 : KT) =>
K7 .normal (Env.put (Env.put (Env.put (argE [a0, a1]) 4 (Value.bool false)) 11 v11n3) 12 v12n5) w6) (thenK (fun e8 w9 =>
bindV (pBuiltin P Builtin.len #[40] 3 [(e8 0)] w9) fun v14n10 w11 =>
bindV (pBin P BinOp.gtr 3 true v14n10 (Value.int IntKind.i64 100) w11) fun v15n12 w13 =>
condE v15n12 (fun (K14 : KT) =>
K14 .ret (Env.put (Env.put (Env.put (Env.put e8 13 (e8 0)) 14 v14n10) 15 v15n12) 4 (Value.bool true)) w13) (fun (K14 : KT) =>
K14 .normal (Env.put (Env.put (Env.put e8 13 (e8 0)) 14 v14n10) 15 v15n12) w13) (thenK (fun e15 w16 =>
callE P 56 #[(e15 0), (e15 1)] w16 (fun v19n19 w20 =>
bindV (pExtract P v19n19 0 w20) fun v20n21 w22 =>
bindV (pExtract P v19n19 1 w22) fun v21n23 w24 =>
bindV (pAlloc P 44 w24) fun v6n25 w26 =>
bindU (pStore P 44 v6n25 v21n23 w26) fun w27 =>
callE P 46 #[(e15 0), (Value.string { data := #[117] }), (Value.int IntKind.i64 0)] w27 (fun v24n30 w31 =>
bindV (pExtract P v24n30 0 w31) fun v25n32 w33 =>
bindV (pExtract P v24n30 1 w33) fun v26n34 w35 =>
bindV (pExtract P v24n30 2 w35) fun v27n36 w37 =>
bindV (pBuiltin P Builtin.len #[40] 3 [(e15 0)] w37) fun v29n38 w39 =>
bindV (pBin P BinOp.eql 3 true v26n34 (Value.int IntKind.i64 3) w39) fun v31n40 w41 =>
condE v31n40 (fun (K42 : KT) =>
bindV (pSlice P 40 (e15 0) none (some v27n36) none w41) fun v36n43 w44 =>
callE P 46 #[v36n43, (Value.string { data := #[117] }), (Value.int IntKind.i64 0)] w44 (fun v37n47 w48 =>
bindV (pExtract P v37n47 0 w48) fun v38n49 w50 =>
bindV (pExtract P v37n47 1 w50) fun v39n51 w52 =>
bindV (pExtract P v37n47 2 w52) fun v40n53 w54 =>
K42 .normal (Env.put (Env.put (Env.put (Env.put (Env.put (Env.put (Env.put (Env.put (Env.put (Env.put (Env.put (Env.put (Env.put (Env.put (Env.put (Env.put (Env.put (Env.put (Env.put (Env.put (Env.put (Env.put (Env.put (Env.put (Env.put (Env.put (Env.put (Env.put (Env.put (Env.put (Env.put (Env.put (Env.put (Env.put (Env.put e15 17 (e15 0)) 18 (e15 1)) 19 v19n19) 16 v19n19) 20 v20n21) 21 v21n23) 6 v6n25) 5 v20n21) 23 (e15 0)) 24 v24n30) 22 v24n30) 25 v25n32) 26 v26n34) 27 v27n36) 7 v25n32) 8 v26n34) 9 v27n36) 28 (e15 0)) 29 v29n38) 10 v29n38) 30 v26n34) 31 v31n40) 32 v27n36) 10 v27n36) 34 (e15 0)) 35 v27n36) 36 v36n43) 37 v37n47) 33 v37n47) 38 v38n49) 39 v39n51) 40 v40n53) 7 v38n49) 8 v39n51) 9 v40n53) w54) (fun c45 w46 => K42 (.panic c45) (Env.put (Env.put (Env.put (Env.put (Env.put (Env.put (Env.put (Env.put (Env.put (Env.put (Env.put (Env.put (Env.put (Env.put (Env.put (Env.put (Env.put (Env.put (Env.put (Env.put (Env.put (Env.put (Env.put (Env.put (Env.put (Env.put (Env.put e15 17 (e15 0)) 18 (e15 1)) 19 v19n19) 16 v19n19) 20 v20n21) 21 v21n23) 6 v6n25) 5 v20n21) 23 (e15 0)) 24 v24n30) 22 v24n30) 25 v25n32) 26 v26n34) 27 v27n36) 7 v25n32) 8 v26n34) 9 v27n36) 28 (e15 0)) 29 v29n38) 10 v29n38) 30 v26n34) 31 v31n40) 32 v27n36) 10 v27n36) 34 (e15 0)) 35 v27n36) 36 v36n43) w46)) (fun (K42 : KT) =>
K42 .normal (Env.put (Env.put (Env.put (Env.put (Env.put (Env.put (Env.put (Env.put (Env.put (Env.put (Env.put (Env.put (Env.put (Env.put (Env.put (Env.put (Env.put (Env.put (Env.put (Env.put (Env.put (Env.put e15 17 (e15 0)) 18 (e15 1)) 19 v19n19) 16 v19n19) 20 v20n21) 21 v21n23) 6 v6n25) 5 v20n21) 23 (e15 0)) 24 v24n30) 22 v24n30) 25 v25n32) 26 v26n34) 27 v27n36) 7 v25n32) 8 v26n34) 9 v27n36) 28 (e15 0)) 29 v29n38) 10 v29n38) 30 v26n34) 31 v31n40) w41) (thenK (fun e55 w56 =>
bindV (pBin P BinOp.eql 3 true (e55 8) (Value.int IntKind.i64 0) w56) fun v42n57 w58 =>
grdE v42n57 true (fun (k59 : Value → World → Prop) => k59 (e55 7) w58) (fun v44n60 w61 =>
grdE v42n57 true (fun (k62 : Value → World → Prop) => bindV (pIndexAddr P 48 v44n60 (Value.int IntKind.i64 0) w61) k62) (fun v45n63 w64 =>
grdE v42n57 true (fun (k65 : Value → World → Prop) => bindV (pFieldAddr P 75 v45n63 1 w64) k65) (fun v46n66 w67 =>
grdE v42n57 true (fun (k68 : Value → World → Prop) => bindV (pLoad P 25 v46n66 w67) k68) (fun v47n69 w70 =>
grdE v42n57 true (fun (k71 : Value → World → Prop) => k71 (e55 1) w70) (fun v48n72 w73 =>
grdE v42n57 true (fun (k74 : Value → World → Prop) => bindV (pBuiltin P Builtin.max #[3, 3] 3 [v48n72, (Value.int IntKind.i64 0)] w73) k74) (fun v49n75 w76 =>
grdE v42n57 true (fun (k77 : Value → World → Prop) => bindV (pConv P 3 25 v49n75 w76) k77) (fun v50n78 w79 =>
grdE v42n57 true (fun (k80 : Value → World → Prop) => bindV (pBin P BinOp.gtr 25 false v47n69 v50n78 w79) k80) (fun v51n81 w82 =>
pickE v42n57 v51n81 (Value.bool false) fun v52n83 =>
condE v52n83 (fun (K84 : KT) =>
K84 .normal (Env.put (Env.put (Env.put (Env.put (Env.put (Env.put (Env.put (Env.put (Env.put (Env.put (Env.put (Env.put (Env.put (Env.put (Env.put e55 41 (e55 8)) 42 v42n57) 43 v42n57) 44 v44n60) 45 v45n63) 46 v46n66) 47 v47n69) 48 v48n72) 49 v49n75) 50 v50n78) 51 v51n81) 52 v52n83) 53 (e55 10)) 8 (Value.int IntKind.i64 1)) 9 (e55 10)) w82) (fun (K84 : KT) =>
K84 .normal (Env.put (Env.put (Env.put (Env.put (Env.put (Env.put (Env.put (Env.put (Env.put (Env.put (Env.put (Env.put e55 41 (e55 8)) 42 v42n57) 43 v42n57) 44 v44n60) 45 v45n63) 46 v46n66) 47 v47n69) 48 v48n72) 49 v49n75) 50 v50n78) 51 v51n81) 52 v52n83) w82) (thenK (fun e85 w86 =>
bindV (pBin P BinOp.neq 3 true (e85 8) (Value.int IntKind.i64 0) w86) fun v55n87 w88 =>
condE v55n87 (fun (K89 : KT) =>
bindV (pFieldAddr P 44 (e85 6) 0 w88) fun v56n90 w91 =>
bindV (pLoad P 42 v56n90 w91) fun v57n92 w93 =>
bindV (pBin P BinOp.eql 3 false v57n92 (e85 8) w93) fun v59n94 w95 =>
grdE v59n94 true (fun (k96 : Value → World → Prop) => bindV (pFieldAddr P 44 (e85 6) 1 w95) k96) (fun v61n97 w98 =>
grdE v59n94 true (fun (k99 : Value → World → Prop) => bindV (pLoad P 3 v61n97 w98) k99) (fun v62n100 w101 =>
grdE v59n94 true (fun (k102 : Value → World → Prop) => k102 (e85 9) w101) (fun v63n103 w104 =>
grdE v59n94 true (fun (k105 : Value → World → Prop) => bindV (pBin P BinOp.eql 3 false v62n100 v63n103 w104) k105) (fun v64n106 w107 =>
pickE v59n94 v64n106 (Value.bool false) fun v65n108 =>
grdE v65n108 true (fun (k109 : Value → World → Prop) => k109 (e85 5) w107) (fun v67n110 w111 =>
grdE v65n108 true (fun (k112 : Value → World → Prop) => bindV (pBin P BinOp.eql 3 true v67n110 (Value.int IntKind.i64 0) w111) k112) (fun v68n113 w114 =>
pickE v65n108 v68n113 (Value.bool false) fun v69n115 =>
K89 .ret (Env.put (Env.put (Env.put (Env.put (Env.put (Env.put (Env.put (Env.put (Env.put (Env.put (Env.put (Env.put (Env.put (Env.put (Env.put (Env.put (Env.put e85 54 (e85 8)) 55 v55n87) 56 v56n90) 57 v57n92) 58 (e85 8)) 59 v59n94) 60 v59n94) 61 v61n97) 62 v62n100) 63 v63n103) 64 v64n106) 65 v65n108) 66 v65n108) 67 v67n110) 68 v68n113) 69 v69n115) 4 v69n115) w114) w111) w107) w104) w101) w98) w95) (fun (K89 : KT) =>
K89 .normal (Env.put (Env.put e85 54 (e85 8)) 55 v55n87) w88) (thenK (fun e116 w117 =>
bindV (pLoad P 44 (e116 6) w117) fun v70n118 w119 =>
bindV (pBuild P 44 [] w119) fun v71n120 w121 =>
bindV (pBin P BinOp.eql 44 false v70n118 v71n120 w121) fun v72n122 w123 =>
grdE v72n122 true (fun (k124 : Value → World → Prop) => k124 (e116 5) w123) (fun v74n125 w126 =>
grdE v72n122 true (fun (k127 : Value → World → Prop) => bindV (pConv P 3 25 v74n125 w126) k127) (fun v75n128 w129 =>
grdE v72n122 true (fun (k130 : Value → World → Prop) => k130 (e116 7) w129) (fun v76n131 w132 =>
grdE v72n122 true (fun (k133 : Value → World → Prop) => bindV (pIndexAddr P 48 v76n131 (Value.int IntKind.i64 0) w132) k133) (fun v77n134 w135 =>
grdE v72n122 true (fun (k136 : Value → World → Prop) => bindV (pFieldAddr P 75 v77n134 1 w135) k136) (fun v78n137 w138 =>
grdE v72n122 true (fun (k139 : Value → World → Prop) => bindV (pLoad P 25 v78n137 w138) k139) (fun v79n140 w141 =>
grdE v72n122 true (fun (k142 : Value → World → Prop) => bindV (pBin P BinOp.eql 25 false v75n128 v79n140 w141) k142) (fun v80n143 w144 =>
pickE v72n122 v80n143 (Value.bool false) fun v81n145 =>
R (.returned v81n145) w144) w141) w138) w135) w132) w129) w126) w123) (topK P [(ResultVar.tmp 4)] R))) (topK P [(ResultVar.tmp 4)] R))) w79) w76) w73) w70) w67) w64) w61) w58) (topK P [(ResultVar.tmp 4)] R))) (fun c28 w29 => R (.panicked c28) w29)) (fun c17 w18 => R (.panicked c17) w18)) (topK P [(ResultVar.tmp 4)] R))) (topK P [(ResultVar.tmp 4)] R))) (fun c1 w2 => R (.panicked c1) w2)
theorem F18ok {w : World} {R : Ending → World → Prop} {a0 : Value} {a1 : Value} (h : F18 a0 a1 w R) : Calls P 18 #[a0, a1] w R :=
  calls_of_ev bodies mixed (c := bodyOf Try.f18) (nt := 82) (rs := [(ResultVar.tmp 4)]) (args := [a0, a1]) (fn := Try.f18) (by kernel_rfl) (by kernel_rfl) (by kernel_rfl) (by kernel_rfl) (by kernel_rfl) (by simp)
    (eq_mp (show F18 a0 a1 w R = ev P C (bodyOf Try.f18) (argE [a0, a1]) w (topK P [(ResultVar.tmp 4)] R) by kernel_rfl) h)

/-! ### moiety/moietylaw02.first -/
def F56 (a0 : Value) (a1 : Value) (w : World) (R : Ending → World → Prop) : Prop :=
bindV (pAlloc P 44 w) fun v5n1 w2 =>
takeE (fun w5 => some (a0, w5)) (drew w2) fun v7n3 h4 =>
takeE (fun w8 => some (a1, w8)) (drew w2) fun v9n6 h7 =>
takeE (fun w11 => pLoad P 44 v5n1 w11) (drew w2) fun v11n9 h10 =>
callE P 62 #[v7n3] (drew w2) (fun v8n15 w16 =>
heldE [h10, h7] w16 (callE P 71 #[v8n15, v9n6] w16 (fun v10n20 w21 =>
heldE [h10] w21 (heldE [h10] w21 (bindU (pStore P 44 v5n1 v11n9 w21) fun w24 =>
leaveE P 70 [v5n1] [(ResultVar.tmp 4), (ResultVar.cell 5 44)] R .returning (Env.put (Env.put (Env.put (Env.put (Env.put (Env.put (Env.put (Env.put (Env.put (argE [a0, a1]) 4 (Value.int IntKind.i64 0)) 5 v5n1) 6 (Value.func (.func 70) #[] #[v5n1])) 7 v7n3) 9 v9n6) 11 v11n9) 8 v8n15) 10 v10n20) 4 v10n20) w24))) (fun c18 w19 => ∀ (e17 : Env), agreeOff [7, 8, 9, 11] (Env.put (Env.put (Env.put (Env.put (Env.put (Env.put (Env.put (argE [a0, a1]) 4 (Value.int IntKind.i64 0)) 5 v5n1) 6 (Value.func (.func 70) #[] #[v5n1])) 7 v7n3) 9 v9n6) 11 v11n9) 8 v8n15) e17 → leaveE P 70 [v5n1] [(ResultVar.tmp 4), (ResultVar.cell 5 44)] R (.panicking c18) e17 w19))) (fun c13 w14 => ∀ (e12 : Env), agreeOff [7, 9, 11] (Env.put (Env.put (Env.put (Env.put (Env.put (Env.put (argE [a0, a1]) 4 (Value.int IntKind.i64 0)) 5 v5n1) 6 (Value.func (.func 70) #[] #[v5n1])) 7 v7n3) 9 v9n6) 11 v11n9) e12 → leaveE P 70 [v5n1] [(ResultVar.tmp 4), (ResultVar.cell 5 44)] R (.panicking c13) e12 w14)
theorem F56ok {w : World} {R : Ending → World → Prop} {a0 : Value} {a1 : Value} (h : F56 a0 a1 w R) : Calls P 56 #[a0, a1] w R :=
  calls_of_evD bodies mixed (A := dA (bodyOf Try.f56)) (rest := dRest (bodyOf Try.f56)) (id := dId (bodyOf Try.f56)) (ops := dOps (bodyOf Try.f56)) (g := (dMk (opAt (dOps (bodyOf Try.f56)) 0)).1) (caps := (dMk (opAt (dOps (bodyOf Try.f56)) 0)).2) (t := 6) (nt := 12) (rs := [(ResultVar.tmp 4), (ResultVar.cell 5 44)]) (args := [a0, a1]) (fn := Try.f56)
    (by kernel_rfl) (by kernel_rfl) (by kernel_rfl) (by kernel_rfl) (by kernel_rfl) (by kernel_rfl) (by kernel_rfl) (by kernel_rfl) (by kernel_rfl) (by kernel_rfl) (by kernel_rfl) (by kernel_rfl) (by kernel_rfl) (by kernel_rfl) (by kernel_rfl) (by kernel_rfl) (by decide) (by simp)
    (eq_mp (show F56 a0 a1 w R = ev P C (dA (bodyOf Try.f56)) (argE [a0, a1]) w (thenD P C (dRest (bodyOf Try.f56)) 6 (dMk (opAt (dOps (bodyOf Try.f56)) 0)).1 (dMk (opAt (dOps (bodyOf Try.f56)) 0)).2 [(ResultVar.tmp 4), (ResultVar.cell 5 44)] R) by kernel_rfl) h)

/-! ### moiety/moietylaw02.first$1 -/
def F70 (a0 : Value) (u : FrameMode) (w : World) (R : Ending → FrameMode → World → Prop) : Prop :=
callE P 55 #[(recV u)] w (fun v2n3 w4 =>
bindU (pStore P 44 a0 v2n3 w4) fun w5 =>
R (.returned (.tuple #[])) (recM u) w5) (fun c1 w2 => R (.panicked c1) (recM u) w2)
theorem F70ok {u : FrameMode} {w : World} {R : Ending → FrameMode → World → Prop} {a0 : Value} (h : F70 a0 u w R) : CallsD P 70 #[a0] u w R :=
  callsD_of_ev bodies mixed (c := bodyOf Try.f70) (nt := 3) (rs := []) (args := [a0]) (fn := Try.f70) (by kernel_rfl) (by kernel_rfl) (by kernel_rfl) (by kernel_rfl) (by kernel_rfl) (by kernel_rfl) (by kernel_rfl) (by kernel_rfl) (by simp)
    (eq_mp (show F70 a0 u w R = evR P C (bodyOf Try.f70) [a0] u w [] R by kernel_rfl) h)

end Go.Proofs.Ytfmcplkijjndlaa
