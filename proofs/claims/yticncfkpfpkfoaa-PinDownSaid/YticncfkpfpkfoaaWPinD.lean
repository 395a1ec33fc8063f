/- The functions' residual programs, printed by gen.py. -/
import Derived.Test.YticncfkpfpkfoaaBaseD
namespace Go.Proofs.Yticncfkpfpkfoaa
open Go
/-! ### moiety/moietylaw22.PinDown -/
def F17 (a0 : Value) (w : World) (R : Ending → World → Prop) : Prop :=
bindV (pBox P 87 a0 w) fun v1n1 w2 =>
callE P 57 #[] w2 (fun v11n5 w6 =>
bindV (pUn P UnOp.not v11n5 w6) fun v12n7 w8 =>
condE v12n7 (fun (K9 : KT) =>
K9 .ret (Env.put (Env.put (Env.put (Env.put (Env.put (argE [a0]) 1 v1n1) 2 (Value.bool false)) 11 v11n5) 12 v12n7) 2 (Value.bool false)) w8) (fun (K9 : KT) =>
K9 .normal (Env.put (Env.put (Env.put (Env.put (argE [a0]) 1 v1n1) 2 (Value.bool false)) 11 v11n5) 12 v12n7) w8) (thenK (fun e10 w11 =>
callE P 27 #[(Value.int IntKind.i64 1)] w11 (fun v14n14 w15 =>
bindV (pExtract P v14n14 0 w15) fun v15n16 w17 =>
bindV (pExtract P v14n14 1 w17) fun v16n18 w19 =>
callE P 27 #[(Value.int IntKind.i64 2)] w19 (fun v18n22 w23 =>
bindV (pExtract P v18n22 0 w23) fun v19n24 w25 =>
bindV (pExtract P v18n22 1 w25) fun v20n26 w27 =>
callE P 41 #[v19n24, (Value.int IntKind.i64 1)] w27 (fun v22n30 w31 =>
bindV (pBuild P 25 [] w31) fun v24n32 w33 =>
callE P 28 #[v19n24, (Value.int IntKind.i64 0), v24n32] w33 (fun v25n36 w37 =>
callE P 60 #[v15n16] w37 (fun v28n40 w41 =>
bindV (pExtract P v28n40 0 w41) fun v29n42 w43 =>
bindV (pExtract P v28n40 1 w43) fun v30n44 w45 =>
bindV (pAlloc P 87 w45) fun v7n46 w47 =>
bindU (pStore P 87 v7n46 v29n42 w47) fun w48 =>
callE P 60 #[v19n24] w48 (fun v33n51 w52 =>
bindV (pExtract P v33n51 0 w52) fun v34n53 w54 =>
bindV (pExtract P v33n51 1 w54) fun v35n55 w56 =>
bindV (pAlloc P 87 w56) fun v9n57 w58 =>
bindU (pStore P 87 v9n57 v34n53 w58) fun w59 =>
bindV (pBin P BinOp.eql 26 true v30n44 (Value.int IntKind.i64 1) w59) fun v37n60 w61 =>
grdE v37n60 true (fun (k62 : Value → World → Prop) => k62 v35n55 w61) (fun v39n63 w64 =>
grdE v37n60 true (fun (k65 : Value → World → Prop) => bindV (pBin P BinOp.eql 26 true v39n63 (Value.int IntKind.i64 14) w64) k65) (fun v40n66 w67 =>
pickE v37n60 v40n66 (Value.bool false) fun v41n68 =>
grdE v41n68 true (fun (k69 : Value → World → Prop) => k69 v15n16 w67) (fun v43n70 w71 =>
grdE v41n68 true (fun (k72 : Value → World → Prop) => bindV (pLoad P 87 (e10 1) w71) k72) (fun v44n73 w74 =>
grdE v41n68 true (fun (k75 : Value → World → Prop) => callE P 59 #[v43n70, v44n73] w74 k75 (fun c76 w77 => R (.panicked c76) w77)) (fun v45n78 w79 =>
grdE v41n68 true (fun (k80 : Value → World → Prop) => bindV (pBin P BinOp.eql 26 true v45n78 (Value.int IntKind.i64 1) w79) k80) (fun v46n81 w82 =>
pickE v41n68 v46n81 (Value.bool false) fun v47n83 =>
grdE v47n83 true (fun (k84 : Value → World → Prop) => k84 v19n24 w82) (fun v49n85 w86 =>
grdE v47n83 true (fun (k87 : Value → World → Prop) => bindV (pLoad P 87 (e10 1) w86) k87) (fun v50n88 w89 =>
grdE v47n83 true (fun (k90 : Value → World → Prop) => callE P 59 #[v49n85, v50n88] w89 k90 (fun c91 w92 => R (.panicked c91) w92)) (fun v51n93 w94 =>
grdE v47n83 true (fun (k95 : Value → World → Prop) => bindV (pBin P BinOp.eql 26 true v51n93 (Value.int IntKind.i64 14) w94) k95) (fun v52n96 w97 =>
pickE v47n83 v52n96 (Value.bool false) fun v53n98 =>
R (.returned v53n98) w97) w94) w89) w86) w82) w79) w74) w71) w67) w64) w61) (fun c49 w50 => R (.panicked c49) w50)) (fun c38 w39 => R (.panicked c38) w39)) (fun c34 w35 => R (.panicked c34) w35)) (fun c28 w29 => R (.panicked c28) w29)) (fun c20 w21 => R (.panicked c20) w21)) (fun c12 w13 => R (.panicked c12) w13)) (topK P [(ResultVar.tmp 2)] R))) (fun c3 w4 => R (.panicked c3) w4)
theorem F17ok {w : World} {R : Ending → World → Prop} {a0 : Value} (h : F17 a0 w R) : Calls P 17 #[a0] w R :=
  calls_of_ev bodies mixed (c := bodyOf Try.f17) (nt := 54) (rs := [(ResultVar.tmp 2)]) (args := [a0]) (fn := Try.f17) (by kernel_rfl) (by kernel_rfl) (by kernel_rfl) (by kernel_rfl) (by kernel_rfl) (by simp)
    (eq_mp (show F17 a0 w R = ev P C (bodyOf Try.f17) (argE [a0]) w (topK P [(ResultVar.tmp 2)] R) by kernel_rfl) h)

end Go.Proofs.Yticncfkpfpkfoaa
