/- The functions' residual programs, printed by gen.py. -/
import Derived.Test.YtfmcplkijjndlaaBaseD
namespace Go.Proofs.Ytfmcplkijjndlaa
open Go
/-! ### moiety/moietylaw02.PackOne -/
def F13 (a0 : Value) (a1 : Value) (w : World) (R : Ending → World → Prop) : Prop :=
callE P 39 #[] w (fun v7n3 w4 =>
bindV (pUn P UnOp.not v7n3 w4) fun v8n5 w6 =>
condE v8n5 (fun (K7 : KT) =>
K7 .ret (Env.put (Env.put (Env.put (Env.put (argE [a0, a1]) 4 (Value.bool false)) 7 v7n3) 8 v8n5) 4 (Value.bool false)) w6) (fun (K7 : KT) =>
K7 .normal (Env.put (Env.put (Env.put (argE [a0, a1]) 4 (Value.bool false)) 7 v7n3) 8 v8n5) w6) (thenK (fun e8 w9 =>
bindV (pBuiltin P Builtin.len #[40] 3 [(e8 0)] w9) fun v10n10 w11 =>
bindV (pBin P BinOp.gtr 3 true v10n10 (Value.int IntKind.i64 2000) w11) fun v11n12 w13 =>
grdE v11n12 false (fun (k14 : Value → World → Prop) => k14 (e8 1) w13) (fun v13n15 w16 =>
grdE v11n12 false (fun (k17 : Value → World → Prop) => bindV (pBuiltin P Builtin.len #[9] 3 [v13n15] w16) k17) (fun v14n18 w19 =>
grdE v11n12 false (fun (k20 : Value → World → Prop) => bindV (pBin P BinOp.gtr 3 true v14n18 (Value.int IntKind.i64 100) w19) k20) (fun v15n21 w22 =>
pickE v11n12 (Value.bool true) v15n21 fun v16n23 =>
condE v16n23 (fun (K24 : KT) =>
K24 .ret (Env.put (Env.put (Env.put (Env.put (Env.put (Env.put (Env.put (Env.put (Env.put e8 9 (e8 0)) 10 v10n10) 11 v11n12) 12 v11n12) 13 v13n15) 14 v14n18) 15 v15n21) 16 v16n23) 4 (Value.bool true)) w22) (fun (K24 : KT) =>
K24 .normal (Env.put (Env.put (Env.put (Env.put (Env.put (Env.put (Env.put (Env.put e8 9 (e8 0)) 10 v10n10) 11 v11n12) 12 v11n12) 13 v13n15) 14 v14n18) 15 v15n21) 16 v16n23) w22) (thenK (fun e25 w26 =>
callE P 42 #[(e25 0), (e25 1), (Value.int IntKind.i64 2000)] w26 (fun v20n29 w30 =>
bindV (pExtract P v20n29 0 w30) fun v21n31 w32 =>
bindV (pExtract P v20n29 1 w32) fun v22n33 w34 =>
bindV (pAlloc P 44 w34) fun v6n35 w36 =>
bindU (pStore P 44 v6n35 v22n33 w36) fun w37 =>
bindV (pFieldAddr P 44 v6n35 0 w37) fun v23n38 w39 =>
bindV (pLoad P 42 v23n38 w39) fun v24n40 w41 =>
bindV (pBin P BinOp.neq 42 true v24n40 (Value.int IntKind.i64 0) w41) fun v25n42 w43 =>
condE v25n42 (fun (K44 : KT) =>
bindV (pBuiltin P Builtin.len #[37] 3 [v21n31] w43) fun v27n45 w46 =>
bindV (pBin P BinOp.eql 3 true v27n45 (Value.int IntKind.i64 0) w46) fun v28n47 w48 =>
K44 .ret (Env.put (Env.put (Env.put (Env.put (Env.put (Env.put (Env.put (Env.put (Env.put (Env.put (Env.put (Env.put (Env.put (Env.put (Env.put e25 18 (e25 0)) 19 (e25 1)) 20 v20n29) 17 v20n29) 21 v21n31) 22 v22n33) 6 v6n35) 5 v21n31) 23 v23n38) 24 v24n40) 25 v25n42) 26 v21n31) 27 v27n45) 28 v28n47) 4 v28n47) w48) (fun (K44 : KT) =>
K44 .normal (Env.put (Env.put (Env.put (Env.put (Env.put (Env.put (Env.put (Env.put (Env.put (Env.put (Env.put e25 18 (e25 0)) 19 (e25 1)) 20 v20n29) 17 v20n29) 21 v21n31) 22 v22n33) 6 v6n35) 5 v21n31) 23 v23n38) 24 v24n40) 25 v25n42) w43) (thenK (fun e49 w50 =>
takeE (fun w53 => some ((e49 5), w53)) (drew w50) fun v29n51 h52 =>
takeE (fun w56 => some ((e49 0), w56)) (drew w50) fun v32n54 h55 =>
takeE (fun w59 => pConv P 40 9 v32n54 w59) (drew w50) fun v33n57 h58 =>
callE P 41 #[v29n51] (drew w50) (fun v30n63 w64 =>
heldE [h58, h55] w64 (takeE (fun w67 => pConv P 40 9 v30n63 w67) w64 fun v31n65 h66 =>
takeE (fun w70 => pBin P BinOp.eql 9 false v31n65 v33n57 w70) w64 fun v34n68 h69 =>
R (.returned v34n68) w64)) (fun c61 w62 => ∀ (e60 : Env), agreeOff [29, 30, 31, 32, 33, 34, 4] (Env.put (Env.put (Env.put e49 29 v29n51) 32 v32n54) 33 v33n57) e60 → R (.panicked c61) w62)) (topK P [(ResultVar.tmp 4)] R))) (fun c27 w28 => R (.panicked c27) w28)) (topK P [(ResultVar.tmp 4)] R))) w19) w16) w13) (topK P [(ResultVar.tmp 4)] R))) (fun c1 w2 => R (.panicked c1) w2)
theorem F13ok {w : World} {R : Ending → World → Prop} {a0 : Value} {a1 : Value} (h : F13 a0 a1 w R) : Calls P 13 #[a0, a1] w R :=
  calls_of_ev bodies mixed (c := bodyOf Try.f13) (nt := 35) (rs := [(ResultVar.tmp 4)]) (args := [a0, a1]) (fn := Try.f13) (by kernel_rfl) (by kernel_rfl) (by kernel_rfl) (by kernel_rfl) (by kernel_rfl) (by simp)
    (eq_mp (show F13 a0 a1 w R = ev P C (bodyOf Try.f13) (argE [a0, a1]) w (topK P [(ResultVar.tmp 4)] R) by kernel_rfl) h)

end Go.Proofs.Ytfmcplkijjndlaa
