/- The functions' residual programs, printed by gen.py. -/
import Derived.Test.YtfmcplkijjndlaaBaseD
namespace Go.Proofs.Ytfmcplkijjndlaa
open Go
/-! ### moiety/moietylaw02.PackOrders -/
def F17 (a0 : Value) (a1 : Value) (w : World) (R : Ending → World → Prop) : Prop :=
callE P 39 #[] w (fun v7n3 w4 =>
bindV (pUn P UnOp.not v7n3 w4) fun v8n5 w6 =>
condE v8n5 (fun (K7 : KT) =>
K7 .ret (Env.put (Env.put (Env.put (Env.put (argE [a0, a1]) 4 (Value.bool false)) 7 v7n3) 8 v8n5) 4 (Value.bool false)) w6) (fun (K7 : KT) =>
K7 .normal (Env.put (Env.put (Env.put (argE [a0, a1]) 4 (Value.bool false)) 7 v7n3) 8 v8n5) w6) (thenK (fun e8 w9 =>
bindV (pBuild P 60 [(0, (Value.int IntKind.u8 102)), (3, (e8 0))] w9) fun v10n10 w11 =>
bindV (pBuildSlice P 37 1 [(0, v10n10)] w11) fun v11n12 w13 =>
callE P 41 #[v11n12] w13 (fun v12n16 w17 =>
bindV (pConv P 40 9 v12n16 w17) fun v13n18 w19 =>
bindV (pBuild P 60 [(0, (Value.int IntKind.u8 102)), (3, (e8 1))] w19) fun v15n20 w21 =>
bindV (pBuildSlice P 37 1 [(0, v15n20)] w21) fun v16n22 w23 =>
callE P 41 #[v16n22] w23 (fun v17n26 w27 =>
bindV (pConv P 40 9 v17n26 w27) fun v18n28 w29 =>
bindV (pBuiltin P Builtin.len #[9] 3 [v13n18] w29) fun v20n30 w31 =>
bindV (pBin P BinOp.eql 3 true v20n30 (Value.int IntKind.i64 8) w31) fun v21n32 w33 =>
grdE v21n32 true (fun (k34 : Value → World → Prop) => k34 v18n28 w33) (fun v23n35 w36 =>
grdE v21n32 true (fun (k37 : Value → World → Prop) => bindV (pBuiltin P Builtin.len #[9] 3 [v23n35] w36) k37) (fun v24n38 w39 =>
grdE v21n32 true (fun (k40 : Value → World → Prop) => bindV (pBin P BinOp.eql 3 true v24n38 (Value.int IntKind.i64 8) w39) k40) (fun v25n41 w42 =>
pickE v21n32 v25n41 (Value.bool false) fun v26n43 =>
grdE v26n43 true (fun (k44 : Value → World → Prop) => k44 v13n18 w42) (fun v28n45 w46 =>
grdE v26n43 true (fun (k47 : Value → World → Prop) => k47 v18n28 w46) (fun v29n48 w49 =>
grdE v26n43 true (fun (k50 : Value → World → Prop) => bindV (pBin P BinOp.lss 9 false v28n45 v29n48 w49) k50) (fun v30n51 w52 =>
grdE v26n43 true (fun (k53 : Value → World → Prop) => k53 (e8 0) w52) (fun v31n54 w55 =>
grdE v26n43 true (fun (k56 : Value → World → Prop) => k56 (e8 1) w55) (fun v32n57 w58 =>
grdE v26n43 true (fun (k59 : Value → World → Prop) => callE P 26 #[v31n54, v32n57] w58 k59 (fun c60 w61 => R (.panicked c60) w61)) (fun v33n62 w63 =>
grdE v26n43 true (fun (k64 : Value → World → Prop) => bindV (pBin P BinOp.eql 4 false v30n51 v33n62 w63) k64) (fun v34n65 w66 =>
pickE v26n43 v34n65 (Value.bool false) fun v35n67 =>
grdE v35n67 true (fun (k68 : Value → World → Prop) => k68 v13n18 w66) (fun v37n69 w70 =>
grdE v35n67 true (fun (k71 : Value → World → Prop) => k71 v18n28 w70) (fun v38n72 w73 =>
grdE v35n67 true (fun (k74 : Value → World → Prop) => bindV (pBin P BinOp.eql 9 false v37n69 v38n72 w73) k74) (fun v39n75 w76 =>
grdE v35n67 true (fun (k77 : Value → World → Prop) => k77 (e8 0) w76) (fun v40n78 w79 =>
grdE v35n67 true (fun (k80 : Value → World → Prop) => k80 (e8 1) w79) (fun v41n81 w82 =>
grdE v35n67 true (fun (k83 : Value → World → Prop) => callE P 27 #[v40n78, v41n81] w82 k83 (fun c84 w85 => R (.panicked c84) w85)) (fun v42n86 w87 =>
grdE v35n67 true (fun (k88 : Value → World → Prop) => bindV (pBin P BinOp.eql 4 false v39n75 v42n86 w87) k88) (fun v43n89 w90 =>
pickE v35n67 v43n89 (Value.bool false) fun v44n91 =>
R (.returned v44n91) w90) w87) w82) w79) w76) w73) w70) w66) w63) w58) w55) w52) w49) w46) w42) w39) w36) w33) (fun c24 w25 => R (.panicked c24) w25)) (fun c14 w15 => R (.panicked c14) w15)) (topK P [(ResultVar.tmp 4)] R))) (fun c1 w2 => R (.panicked c1) w2)
theorem F17ok {w : World} {R : Ending → World → Prop} {a0 : Value} {a1 : Value} (h : F17 a0 a1 w R) : Calls P 17 #[a0, a1] w R :=
  calls_of_ev bodies mixed (c := bodyOf Try.f17) (nt := 45) (rs := [(ResultVar.tmp 4)]) (args := [a0, a1]) (fn := Try.f17) (by kernel_rfl) (by kernel_rfl) (by kernel_rfl) (by kernel_rfl) (by kernel_rfl) (by simp)
    (eq_mp (show F17 a0 a1 w R = ev P C (bodyOf Try.f17) (argE [a0, a1]) w (topK P [(ResultVar.tmp 4)] R) by kernel_rfl) h)

end Go.Proofs.Ytfmcplkijjndlaa
