/- The functions' residual programs, printed by gen.py. -/
import Derived.Test.YtfmcplkijjndlaaBaseD
namespace Go.Proofs.Ytfmcplkijjndlaa
open Go
/-! ### moiety/moietylaw02.PackReads -/
def F12 (a0 : Value) (a1 : Value) (a2 : Value) (w : World) (R : Ending → World → Prop) : Prop :=
callE P 39 #[] w (fun v12n3 w4 =>
bindV (pUn P UnOp.not v12n3 w4) fun v13n5 w6 =>
condE v13n5 (fun (K7 : KT) =>
K7 .ret (Env.put (Env.put (Env.put (Env.put (argE [a0, a1, a2]) 6 (Value.bool false)) 12 v12n3) 13 v13n5) 6 (Value.bool false)) w6) (fun (K7 : KT) =>
K7 .normal (Env.put (Env.put (Env.put (argE [a0, a1, a2]) 6 (Value.bool false)) 12 v12n3) 13 v13n5) w6) (thenK (fun e8 w9 =>
bindV (pBuiltin P Builtin.len #[40] 3 [(e8 0)] w9) fun v15n10 w11 =>
bindV (pBin P BinOp.gtr 3 true v15n10 (Value.int IntKind.i64 2000) w11) fun v16n12 w13 =>
grdE v16n12 false (fun (k14 : Value → World → Prop) => k14 (e8 1) w13) (fun v18n15 w16 =>
grdE v16n12 false (fun (k17 : Value → World → Prop) => bindV (pBuiltin P Builtin.len #[9] 3 [v18n15] w16) k17) (fun v19n18 w19 =>
grdE v16n12 false (fun (k20 : Value → World → Prop) => bindV (pBin P BinOp.gtr 3 true v19n18 (Value.int IntKind.i64 100) w19) k20) (fun v20n21 w22 =>
pickE v16n12 (Value.bool true) v20n21 fun v21n23 =>
condE v21n23 (fun (K24 : KT) =>
K24 .ret (Env.put (Env.put (Env.put (Env.put (Env.put (Env.put (Env.put (Env.put (Env.put e8 14 (e8 0)) 15 v15n10) 16 v16n12) 17 v16n12) 18 v18n15) 19 v19n18) 20 v20n21) 21 v21n23) 6 (Value.bool true)) w22) (fun (K24 : KT) =>
K24 .normal (Env.put (Env.put (Env.put (Env.put (Env.put (Env.put (Env.put (Env.put e8 14 (e8 0)) 15 v15n10) 16 v16n12) 17 v16n12) 18 v18n15) 19 v19n18) 20 v20n21) 21 v21n23) w22) (thenK (fun e25 w26 =>
callE P 42 #[(e25 0), (e25 1), (e25 2)] w26 (fun v26n29 w30 =>
bindV (pExtract P v26n29 0 w30) fun v27n31 w32 =>
bindV (pExtract P v26n29 1 w32) fun v28n33 w34 =>
bindV (pAlloc P 44 w34) fun v8n35 w36 =>
bindU (pStore P 44 v8n35 v28n33 w36) fun w37 =>
callE P 46 #[(e25 0), (e25 1), (e25 2)] w37 (fun v33n40 w41 =>
bindV (pExtract P v33n40 0 w41) fun v34n42 w43 =>
bindV (pExtract P v33n40 1 w43) fun v35n44 w45 =>
bindV (pExtract P v33n40 2 w45) fun v36n46 w47 =>
bindV (pFieldAddr P 44 v8n35 0 w47) fun v37n48 w49 =>
bindV (pLoad P 42 v37n48 w49) fun v38n50 w51 =>
bindV (pBin P BinOp.eql 3 false v38n50 v35n44 w51) fun v40n52 w53 =>
grdE v40n52 true (fun (k54 : Value → World → Prop) => bindV (pFieldAddr P 44 v8n35 1 w53) k54) (fun v42n55 w56 =>
grdE v40n52 true (fun (k57 : Value → World → Prop) => bindV (pLoad P 3 v42n55 w56) k57) (fun v43n58 w59 =>
grdE v40n52 true (fun (k60 : Value → World → Prop) => k60 v36n46 w59) (fun v44n61 w62 =>
grdE v40n52 true (fun (k63 : Value → World → Prop) => bindV (pBin P BinOp.eql 3 false v43n58 v44n61 w62) k63) (fun v45n64 w65 =>
pickE v40n52 v45n64 (Value.bool false) fun v46n66 =>
grdE v46n66 true (fun (k67 : Value → World → Prop) => k67 v27n31 w65) (fun v48n68 w69 =>
grdE v46n66 true (fun (k70 : Value → World → Prop) => callE P 44 #[v48n68] w69 k70 (fun c71 w72 => R (.panicked c71) w72)) (fun v49n73 w74 =>
grdE v46n66 true (fun (k75 : Value → World → Prop) => k75 v34n42 w74) (fun v50n76 w77 =>
grdE v46n66 true (fun (k78 : Value → World → Prop) => callE P 45 #[v49n73, v50n76] w77 k78 (fun c79 w80 => R (.panicked c79) w80)) (fun v51n81 w82 =>
pickE v46n66 v51n81 (Value.bool false) fun v52n83 =>
grdE v52n83 true (fun (k84 : Value → World → Prop) => k84 v35n44 w82) (fun v54n85 w86 =>
grdE v52n83 true (fun (k87 : Value → World → Prop) => bindV (pBin P BinOp.eql 3 true v54n85 (Value.int IntKind.i64 0) w86) k87) (fun v55n88 w89 =>
grdE v52n83 true (fun (k90 : Value → World → Prop) => k90 v55n88 w89) (fun v56n91 w92 =>
grdE v56n91 false (fun (k93 : Value → World → Prop) => k93 v27n31 w92) (fun v57n94 w95 =>
grdE v56n91 false (fun (k96 : Value → World → Prop) => bindV (pBuiltin P Builtin.len #[37] 3 [v57n94] w95) k96) (fun v58n97 w98 =>
grdE v56n91 false (fun (k99 : Value → World → Prop) => bindV (pBin P BinOp.eql 3 true v58n97 (Value.int IntKind.i64 0) w98) k99) (fun v59n100 w101 =>
grdE v52n83 true (fun (k102 : Value → World → Prop) => pickE v56n91 (Value.bool true) v59n100 fun v60n103 =>
k102 v60n103 w101) (fun v60n104 w105 =>
pickE v52n83 v60n104 (Value.bool false) fun v61n106 =>
R (.returned v61n106) w105) w101) w98) w95) w92) w89) w86) w82) w77) w74) w69) w65) w62) w59) w56) w53) (fun c38 w39 => R (.panicked c38) w39)) (fun c27 w28 => R (.panicked c27) w28)) (topK P [(ResultVar.tmp 6)] R))) w19) w16) w13) (topK P [(ResultVar.tmp 6)] R))) (fun c1 w2 => R (.panicked c1) w2)
theorem F12ok {w : World} {R : Ending → World → Prop} {a0 : Value} {a1 : Value} {a2 : Value} (h : F12 a0 a1 a2 w R) : Calls P 12 #[a0, a1, a2] w R :=
  calls_of_ev bodies mixed (c := bodyOf Try.f12) (nt := 62) (rs := [(ResultVar.tmp 6)]) (args := [a0, a1, a2]) (fn := Try.f12) (by kernel_rfl) (by kernel_rfl) (by kernel_rfl) (by kernel_rfl) (by kernel_rfl) (by simp)
    (eq_mp (show F12 a0 a1 a2 w R = ev P C (bodyOf Try.f12) (argE [a0, a1, a2]) w (topK P [(ResultVar.tmp 6)] R) by kernel_rfl) h)

end Go.Proofs.Ytfmcplkijjndlaa
