/- The functions' residual programs, printed by gen.py. -/
import Derived.Test.YtfmcplkijjndlaaBaseD
namespace Go.Proofs.Ytfmcplkijjndlaa
open Go
/-! ### moiety/moietylaw02.PackFails -/
def F16B0 (e : Env) (w : World) (K : KT) : Prop :=
bindV (pBin P BinOp.lss 3 false (e 17) (e 16) w) fun v18n21 w22 =>
condE v18n21 (fun (K23 : KT) =>
K23 .normal (Env.put e 18 v18n21) w22) (fun (K23 : KT) =>
K23 (.exit 0) (Env.put e 18 v18n21) w22) (thenK (fun e24 w25 =>
bindV (pIndexAddr P 68 (e24 15) (e24 17) w25) fun v19n26 w27 =>
bindV (pLoad P 4 v19n26 w27) fun v20n28 w29 =>
callE P 51 #[(e24 5), v20n28] w29 (fun v22n32 w33 =>
bindV (pBin P BinOp.add 3 true (e24 17) (Value.int IntKind.i64 1) w33) fun v23n34 w35 =>
K .normal (Env.put (Env.put (Env.put (Env.put (Env.put (Env.put (Env.put e24 19 v19n26) 20 v20n28) 7 v20n28) 21 v20n28) 22 v22n32) 23 v23n34) 17 v23n34) w35) (fun c30 w31 => K (.panic c30) (Env.put (Env.put (Env.put (Env.put e24 19 v19n26) 20 v20n28) 7 v20n28) 21 v20n28) w31)) K)
def F16 (a0 : Value) (a1 : Value) (w : World) (R : Ending → World → Prop) : Prop :=
callE P 39 #[] w (fun v10n3 w4 =>
bindV (pUn P UnOp.not v10n3 w4) fun v11n5 w6 =>
condE v11n5 (fun (K7 : KT) =>
K7 .ret (Env.put (Env.put (Env.put (Env.put (argE [a0, a1]) 4 (Value.bool false)) 10 v10n3) 11 v11n5) 4 (Value.bool false)) w6) (fun (K7 : KT) =>
K7 .normal (Env.put (Env.put (Env.put (argE [a0, a1]) 4 (Value.bool false)) 10 v10n3) 11 v11n5) w6) (thenK (fun e8 w9 =>
bindV (pBuiltin P Builtin.len #[68] 3 [(e8 0)] w9) fun v13n10 w11 =>
bindV (pBin P BinOp.gtr 3 true v13n10 (Value.int IntKind.i64 100) w11) fun v14n12 w13 =>
condE v14n12 (fun (K14 : KT) =>
K14 .ret (Env.put (Env.put (Env.put (Env.put e8 12 (e8 0)) 13 v13n10) 14 v14n12) 4 (Value.bool true)) w13) (fun (K14 : KT) =>
K14 .normal (Env.put (Env.put (Env.put e8 12 (e8 0)) 13 v13n10) 14 v14n12) w13) (thenK (fun e15 w16 =>
bindV (pAlloc P 58 w16) fun v5n17 w18 =>
bindV (pBuiltin P Builtin.len #[68] 3 [(e15 0)] w18) fun v16n19 w20 =>
loopE F16B0 (Env.put (Env.put (Env.put (Env.put e15 5 v5n17) 15 (e15 0)) 16 v16n19) 17 (Value.int IntKind.i64 0)) w20 (blockK 0 (thenK (fun e36 w37 =>
bindV (pConv P 5 3 (e36 1) w37) fun v25n38 w39 =>
bindV (pBin P BinOp.rem 3 true v25n38 (Value.int IntKind.i64 16) w39) fun v26n40 w41 =>
bindV (pBin P BinOp.add 3 true (Value.int IntKind.i64 1) v26n40 w41) fun v27n42 w43 =>
callE P 52 #[(e36 5)] w43 (fun v28n46 w47 =>
bindV (pBuiltin P Builtin.len #[68] 3 [(e36 0)] w47) fun v30n48 w49 =>
callE P 54 #[v28n46, v30n48, v27n42] w49 (fun v32n52 w53 =>
bindV (pAlloc P 44 w53) fun v9n54 w55 =>
bindU (pStore P 44 v9n54 v32n52 w55) fun w56 =>
bindV (pLoad P 44 v9n54 w56) fun v33n57 w58 =>
bindV (pBuiltin P Builtin.len #[68] 3 [(e36 0)] w58) fun v36n59 w60 =>
bindV (pBuild P 44 [(0, v27n42), (1, v36n59)] w60) fun v37n61 w62 =>
bindV (pBin P BinOp.eql 44 false v33n57 v37n61 w62) fun v38n63 w64 =>
grdE v38n63 true (fun (k65 : Value → World → Prop) => callE P 55 #[Value.nilIface] w64 k65 (fun c66 w67 => R (.panicked c66) w67)) (fun v40n68 w69 =>
grdE v38n63 true (fun (k70 : Value → World → Prop) => bindV (pBuild P 44 [] w69) k70) (fun v41n71 w72 =>
grdE v38n63 true (fun (k73 : Value → World → Prop) => bindV (pBin P BinOp.eql 44 false v40n68 v41n71 w72) k73) (fun v42n74 w75 =>
pickE v38n63 v42n74 (Value.bool false) fun v43n76 =>
R (.returned v43n76) w75) w72) w69) w64) (fun c50 w51 => R (.panicked c50) w51)) (fun c44 w45 => R (.panicked c44) w45)) (topK P [(ResultVar.tmp 4)] R)))) (topK P [(ResultVar.tmp 4)] R))) (topK P [(ResultVar.tmp 4)] R))) (fun c1 w2 => R (.panicked c1) w2)
theorem F16ok {w : World} {R : Ending → World → Prop} {a0 : Value} {a1 : Value} (h : F16 a0 a1 w R) : Calls P 16 #[a0, a1] w R :=
  calls_of_ev bodies mixed (c := bodyOf Try.f16) (nt := 44) (rs := [(ResultVar.tmp 4)]) (args := [a0, a1]) (fn := Try.f16) (by kernel_rfl) (by kernel_rfl) (by kernel_rfl) (by kernel_rfl) (by kernel_rfl) (by simp)
    (eq_mp (show F16 a0 a1 w R = ev P C (bodyOf Try.f16) (argE [a0, a1]) w (topK P [(ResultVar.tmp 4)] R) by kernel_rfl) h)

/-! ### moiety/moietylaw02.failed -/
def F54B0 (e : Env) (w : World) (K : KT) : Prop :=
bindV (pBin P BinOp.lss 3 false (e 12) (e 11) w) fun v13n7 w8 =>
condE v13n7 (fun (K9 : KT) =>
K9 .normal (Env.put e 13 v13n7) w8) (fun (K9 : KT) =>
K9 (.exit 0) (Env.put e 13 v13n7) w8) (thenK (fun e10 w11 =>
callE P 68 #[(e10 7)] w11 (fun v15n14 w15 =>
bindV (pBin P BinOp.add 3 true (e10 12) (Value.int IntKind.i64 1) w15) fun v16n16 w17 =>
K .normal (Env.put (Env.put (Env.put (Env.put e10 14 (e10 7)) 15 v15n14) 16 v16n16) 12 v16n16) w17) (fun c12 w13 => K (.panic c12) (Env.put e10 14 (e10 7)) w13)) K)
def F54 (a0 : Value) (a1 : Value) (a2 : Value) (w : World) (R : Ending → World → Prop) : Prop :=
bindV (pAlloc P 44 w) fun v6n1 w2 =>
callE P 62 #[a0] w2 (fun v10n5 w6 =>
loopE F54B0 (Env.put (Env.put (Env.put (Env.put (Env.put (Env.put (Env.put (argE [a0, a1, a2]) 6 v6n1) 8 (Value.func (.func 67) #[] #[v6n1])) 9 a0) 10 v10n5) 7 v10n5) 11 a1) 12 (Value.int IntKind.i64 0)) w6 (blockK 0 (thenK (fun e18 w19 =>
callE P 69 #[(e18 7), (e18 2)] w19 (fun v19n22 w23 =>
bindV (pLoad P 44 (e18 6) w23) fun v20n24 w25 =>
bindU (pStore P 44 (e18 6) v20n24 w25) fun w26 =>
leaveE P 67 [v6n1] [(ResultVar.cell 6 44)] R .returning (Env.put (Env.put (Env.put (Env.put e18 17 (e18 7)) 18 (e18 2)) 19 v19n22) 20 v20n24) w26) (fun c20 w21 => leaveE P 67 [v6n1] [(ResultVar.cell 6 44)] R (.panicking c20) (Env.put (Env.put e18 17 (e18 7)) 18 (e18 2)) w21)) (topD P 67 [v6n1] [(ResultVar.cell 6 44)] R)))) (fun c3 w4 => leaveE P 67 [v6n1] [(ResultVar.cell 6 44)] R (.panicking c3) (Env.put (Env.put (Env.put (argE [a0, a1, a2]) 6 v6n1) 8 (Value.func (.func 67) #[] #[v6n1])) 9 a0) w4)
theorem F54ok {w : World} {R : Ending → World → Prop} {a0 : Value} {a1 : Value} {a2 : Value} (h : F54 a0 a1 a2 w R) : Calls P 54 #[a0, a1, a2] w R :=
  calls_of_evD bodies mixed (A := dA (bodyOf Try.f54)) (rest := dRest (bodyOf Try.f54)) (id := dId (bodyOf Try.f54)) (ops := dOps (bodyOf Try.f54)) (g := (dMk (opAt (dOps (bodyOf Try.f54)) 0)).1) (caps := (dMk (opAt (dOps (bodyOf Try.f54)) 0)).2) (t := 8) (nt := 21) (rs := [(ResultVar.cell 6 44)]) (args := [a0, a1, a2]) (fn := Try.f54)
    (by kernel_rfl) (by kernel_rfl) (by kernel_rfl) (by kernel_rfl) (by kernel_rfl) (by kernel_rfl) (by kernel_rfl) (by kernel_rfl) (by kernel_rfl) (by kernel_rfl) (by kernel_rfl) (by kernel_rfl) (by kernel_rfl) (by kernel_rfl) (by kernel_rfl) (by kernel_rfl) (by decide) (by simp)
    (eq_mp (show F54 a0 a1 a2 w R = ev P C (dA (bodyOf Try.f54)) (argE [a0, a1, a2]) w (thenD P C (dRest (bodyOf Try.f54)) 8 (dMk (opAt (dOps (bodyOf Try.f54)) 0)).1 (dMk (opAt (dOps (bodyOf Try.f54)) 0)).2 [(ResultVar.cell 6 44)] R) by kernel_rfl) h)

/-! ### moiety/moietylaw02.failed$1 -/
def F67 (a0 : Value) (u : FrameMode) (w : World) (R : Ending → FrameMode → World → Prop) : Prop :=
callE P 55 #[(recV u)] w (fun v2n3 w4 =>
bindU (pStore P 44 a0 v2n3 w4) fun w5 =>
R (.returned (.tuple #[])) (recM u) w5) (fun c1 w2 => R (.panicked c1) (recM u) w2)
theorem F67ok {u : FrameMode} {w : World} {R : Ending → FrameMode → World → Prop} {a0 : Value} (h : F67 a0 u w R) : CallsD P 67 #[a0] u w R :=
  callsD_of_ev bodies mixed (c := bodyOf Try.f67) (nt := 3) (rs := []) (args := [a0]) (fn := Try.f67) (by kernel_rfl) (by kernel_rfl) (by kernel_rfl) (by kernel_rfl) (by kernel_rfl) (by kernel_rfl) (by kernel_rfl) (by kernel_rfl) (by simp)
    (eq_mp (show F67 a0 u w R = evR P C (bodyOf Try.f67) [a0] u w [] R by kernel_rfl) h)

end Go.Proofs.Ytfmcplkijjndlaa
