/- The functions' residual programs, printed by gen.py. -/
import Derived.Test.YtfmcplkijjndlaaBaseD
namespace Go.Proofs.Ytfmcplkijjndlaa
open Go
/-! ### moiety/moietylaw02.PackBack -/
def F11 (a0 : Value) (w : World) (R : Ending → World → Prop) : Prop :=
callE P 39 #[] w (fun v8n3 w4 =>
bindV (pUn P UnOp.not v8n3 w4) fun v9n5 w6 =>
condE v9n5 (fun (K7 : KT) =>
K7 .ret (Env.put (Env.put (Env.put (Env.put (argE [a0]) 2 (Value.bool false)) 8 v8n3) 9 v9n5) 2 (Value.bool false)) w6) (fun (K7 : KT) =>
K7 .normal (Env.put (Env.put (Env.put (argE [a0]) 2 (Value.bool false)) 8 v8n3) 9 v9n5) w6) (thenK (fun e8 w9 =>
callE P 40 #[(e8 0)] w9 (fun v12n12 w13 =>
bindV (pExtract P v12n12 0 w13) fun v13n14 w15 =>
bindV (pExtract P v12n12 1 w15) fun v14n16 w17 =>
bindV (pUn P UnOp.not v14n16 w17) fun v16n18 w19 =>
condE v16n18 (fun (K20 : KT) =>
K20 .ret (Env.put (Env.put (Env.put (Env.put (Env.put (Env.put (Env.put (Env.put (Env.put (Env.put e8 11 (e8 0)) 12 v12n12) 10 v12n12) 13 v13n14) 14 v14n16) 3 v13n14) 4 v14n16) 15 v14n16) 16 v16n18) 2 (Value.bool true)) w19) (fun (K20 : KT) =>
K20 .normal (Env.put (Env.put (Env.put (Env.put (Env.put (Env.put (Env.put (Env.put (Env.put e8 11 (e8 0)) 12 v12n12) 10 v12n12) 13 v13n14) 14 v14n16) 3 v13n14) 4 v14n16) 15 v14n16) 16 v16n18) w19) (thenK (fun e21 w22 =>
callE P 41 #[(e21 0)] w22 (fun v18n25 w26 =>
callE P 42 #[v18n25, (e21 3), (Value.int IntKind.i64 1000)] w26 (fun v22n29 w30 =>
bindV (pExtract P v22n29 0 w30) fun v23n31 w32 =>
bindV (pExtract P v22n29 1 w32) fun v24n33 w34 =>
bindV (pAlloc P 44 w34) fun v7n35 w36 =>
bindU (pStore P 44 v7n35 v24n33 w36) fun w37 =>
takeE (fun w40 => some (v18n25, w40)) (drew w37) fun v25n38 h39 =>
takeE (fun w43 => pConv P 40 9 v25n38 w43) (drew w37) fun v26n41 h42 =>
takeE (fun w46 => some ((e21 0), w46)) (drew w37) fun v27n44 h45 =>
callE P 44 #[v27n44] (drew w37) (fun v28n50 w51 =>
heldE [h42, h39] w51 (callE P 43 #[v28n50] w51 (fun v29n55 w56 =>
heldE [h42, h39] w56 (takeE (fun w59 => pConv P 40 9 v29n55 w59) w56 fun v30n57 h58 =>
takeE (fun w62 => pBin P BinOp.eql 9 false v26n41 v30n57 w62) w56 fun v31n60 h61 =>
takeE (fun w65 => some (v31n60, w65)) w56 fun v32n63 h64 =>
takeE (fun w68 => qGrd v32n63 true (fun w68 => pLoad P 44 v7n35 w68) w68) w56 fun v33n66 h67 =>
grdE v32n63 true (fun (k70 : Value → World → Prop) => bindV (pBuild P 44 [] w56) k70) (fun v34n71 w72 =>
heldE [h67] w72 (takeE (fun w75 => qGrd v32n63 true (fun w75 => pBin P BinOp.eql 44 false v33n66 v34n71 w75) w75) w72 fun v35n73 h74 =>
takeE (fun w78 => qPick v32n63 v35n73 (Value.bool false) w78) w72 fun v36n76 h77 =>
takeE (fun w81 => some (v36n76, w81)) w72 fun v37n79 h80 =>
takeE (fun w84 => qGrd v37n79 true (fun w84 => some (v23n31, w84)) w84) w72 fun v38n82 h83 =>
takeE (fun w87 => qGrd v37n79 true (fun w87 => some ((e21 0), w87)) w87) w72 fun v40n85 h86 =>
grdE v37n79 true (fun (k89 : Value → World → Prop) => callE P 44 #[v38n82] w72 k89 (fun c90 w91 => ∀ (e88 : Env), agreeOff [25, 26, 27, 28, 29, 30, 31, 32, 33, 34, 35, 36, 37, 38, 40] (Env.put (Env.put (Env.put (Env.put (Env.put (Env.put (Env.put (Env.put (Env.put (Env.put (Env.put (Env.put (Env.put (Env.put (Env.put (Env.put (Env.put (Env.put (Env.put (Env.put (Env.put (Env.put (Env.put (Env.put (Env.put (Env.put e21 17 (e21 0)) 18 v18n25) 5 v18n25) 20 v18n25) 21 (e21 3)) 22 v22n29) 19 v22n29) 23 v23n31) 24 v24n33) 7 v7n35) 6 v23n31) 25 v25n38) 26 v26n41) 27 v27n44) 28 v28n50) 29 v29n55) 30 v30n57) 31 v31n60) 32 v32n63) 33 v33n66) 34 v34n71) 35 v35n73) 36 v36n76) 37 v37n79) 38 v38n82) 40 v40n85) e88 → R (.panicked c90) w91)) (fun v39n92 w93 =>
heldE [h86] w93 (grdE v37n79 true (fun (k95 : Value → World → Prop) => callE P 44 #[v40n85] w93 k95 (fun c96 w97 => ∀ (e94 : Env), agreeOff [25, 26, 27, 28, 29, 30, 31, 32, 33, 34, 35, 36, 37, 38, 39, 40] (Env.put (Env.put (Env.put (Env.put (Env.put (Env.put (Env.put (Env.put (Env.put (Env.put (Env.put (Env.put (Env.put (Env.put (Env.put (Env.put (Env.put (Env.put (Env.put (Env.put (Env.put (Env.put (Env.put (Env.put (Env.put (Env.put (Env.put e21 17 (e21 0)) 18 v18n25) 5 v18n25) 20 v18n25) 21 (e21 3)) 22 v22n29) 19 v22n29) 23 v23n31) 24 v24n33) 7 v7n35) 6 v23n31) 25 v25n38) 26 v26n41) 27 v27n44) 28 v28n50) 29 v29n55) 30 v30n57) 31 v31n60) 32 v32n63) 33 v33n66) 34 v34n71) 35 v35n73) 36 v36n76) 37 v37n79) 38 v38n82) 40 v40n85) 39 v39n92) e94 → R (.panicked c96) w97)) (fun v41n98 w99 =>
grdE v37n79 true (fun (k101 : Value → World → Prop) => callE P 45 #[v39n92, v41n98] w99 k101 (fun c102 w103 => ∀ (e100 : Env), agreeOff [25, 26, 27, 28, 29, 30, 31, 32, 33, 34, 35, 36, 37, 38, 39, 40, 41] (Env.put (Env.put (Env.put (Env.put (Env.put (Env.put (Env.put (Env.put (Env.put (Env.put (Env.put (Env.put (Env.put (Env.put (Env.put (Env.put (Env.put (Env.put (Env.put (Env.put (Env.put (Env.put (Env.put (Env.put (Env.put (Env.put (Env.put (Env.put e21 17 (e21 0)) 18 v18n25) 5 v18n25) 20 v18n25) 21 (e21 3)) 22 v22n29) 19 v22n29) 23 v23n31) 24 v24n33) 7 v7n35) 6 v23n31) 25 v25n38) 26 v26n41) 27 v27n44) 28 v28n50) 29 v29n55) 30 v30n57) 31 v31n60) 32 v32n63) 33 v33n66) 34 v34n71) 35 v35n73) 36 v36n76) 37 v37n79) 38 v38n82) 40 v40n85) 39 v39n92) 41 v41n98) e100 → R (.panicked c102) w103)) (fun v42n104 w105 =>
takeE (fun w108 => qPick v37n79 v42n104 (Value.bool false) w108) w105 fun v43n106 h107 =>
R (.returned v43n106) w105) w99) w93)) w72)) w56)) (fun c53 w54 => ∀ (e52 : Env), agreeOff [25, 26, 27, 28] (Env.put (Env.put (Env.put (Env.put (Env.put (Env.put (Env.put (Env.put (Env.put (Env.put (Env.put (Env.put (Env.put (Env.put (Env.put e21 17 (e21 0)) 18 v18n25) 5 v18n25) 20 v18n25) 21 (e21 3)) 22 v22n29) 19 v22n29) 23 v23n31) 24 v24n33) 7 v7n35) 6 v23n31) 25 v25n38) 26 v26n41) 27 v27n44) 28 v28n50) e52 → R (.panicked c53) w54))) (fun c48 w49 => ∀ (e47 : Env), agreeOff [25, 26, 27] (Env.put (Env.put (Env.put (Env.put (Env.put (Env.put (Env.put (Env.put (Env.put (Env.put (Env.put (Env.put (Env.put (Env.put e21 17 (e21 0)) 18 v18n25) 5 v18n25) 20 v18n25) 21 (e21 3)) 22 v22n29) 19 v22n29) 23 v23n31) 24 v24n33) 7 v7n35) 6 v23n31) 25 v25n38) 26 v26n41) 27 v27n44) e47 → R (.panicked c48) w49)) (fun c27 w28 => R (.panicked c27) w28)) (fun c23 w24 => R (.panicked c23) w24)) (topK P [(ResultVar.tmp 2)] R))) (fun c10 w11 => R (.panicked c10) w11)) (topK P [(ResultVar.tmp 2)] R))) (fun c1 w2 => R (.panicked c1) w2)
theorem F11ok {w : World} {R : Ending → World → Prop} {a0 : Value} (h : F11 a0 w R) : Calls P 11 #[a0] w R :=
  calls_of_ev bodies mixed (c := bodyOf Try.f11) (nt := 44) (rs := [(ResultVar.tmp 2)]) (args := [a0]) (fn := Try.f11) (by kernel_rfl) (by kernel_rfl) (by kernel_rfl) (by kernel_rfl) (by kernel_rfl) (by simp)
    (eq_mp (show F11 a0 w R = ev P C (bodyOf Try.f11) (argE [a0]) w (topK P [(ResultVar.tmp 2)] R) by kernel_rfl) h)

end Go.Proofs.Ytfmcplkijjndlaa
