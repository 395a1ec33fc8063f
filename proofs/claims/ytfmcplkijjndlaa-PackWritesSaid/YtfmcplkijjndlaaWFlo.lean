/- The functions' residual programs, printed by gen.py. -/
import Derived.Test.YtfmcplkijjndlaaBase
namespace Go.Proofs.Ytfmcplkijjndlaa
open Go
/-! ### moiety/moietylaw01.FloCanons -/
def F3 (a0 : Value) (w : World) (R : Ending → World → Prop) : Prop :=
callE P 19 #[] w (fun v5n3 w4 =>
bindV (pUn P UnOp.not v5n3 w4) fun v6n5 w6 =>
condE v6n5 (fun (K7 : KT) =>
K7 .ret (Env.put (Env.put (Env.put (Env.put (argE [a0]) 2 (Value.bool false)) 5 v5n3) 6 v6n5) 2 (Value.bool false)) w6) (fun (K7 : KT) =>
K7 .normal (Env.put (Env.put (Env.put (argE [a0]) 2 (Value.bool false)) 5 v5n3) 6 v6n5) w6) (thenK (fun e8 w9 =>
callE P 20 #[(e8 0)] w9 (fun v8n12 w13 =>
bindV (pExtern P 21 [v8n12] w13) fun v10n14 w15 =>
bindV (pBin P BinOp.neq 22 false (e8 0) (e8 0) w15) fun v13n16 w17 =>
condE v13n16 (fun (K18 : KT) =>
bindV (pBin P BinOp.eql 25 true v10n14 (Value.int IntKind.u64 9221120237041090561) w17) fun v15n19 w20 =>
grdE v15n19 true (fun (k21 : Value → World → Prop) => k21 v8n12 w20) (fun v17n22 w23 =>
grdE v15n19 true (fun (k24 : Value → World → Prop) => callE P 22 #[v17n22] w23 k24 (fun c25 w26 => K18 (.panic c25) (Env.put (Env.put (Env.put (Env.put (Env.put (Env.put (Env.put (Env.put (Env.put (Env.put (Env.put (Env.put (Env.put e8 7 (e8 0)) 8 v8n12) 3 v8n12) 9 v8n12) 10 v10n14) 4 v10n14) 11 (e8 0)) 12 (e8 0)) 13 v13n16) 14 v10n14) 15 v15n19) 16 v15n19) 17 v17n22) w26)) (fun v18n27 w28 =>
pickE v15n19 v18n27 (Value.bool false) fun v19n29 =>
grdE v19n29 true (fun (k30 : Value → World → Prop) => k30 (e8 0) w28) (fun v21n31 w32 =>
grdE v19n29 true (fun (k33 : Value → World → Prop) => callE P 22 #[v21n31] w32 k33 (fun c34 w35 => K18 (.panic c34) (Env.put (Env.put (Env.put (Env.put (Env.put (Env.put (Env.put (Env.put (Env.put (Env.put (Env.put (Env.put (Env.put (Env.put (Env.put (Env.put (Env.put e8 7 (e8 0)) 8 v8n12) 3 v8n12) 9 v8n12) 10 v10n14) 4 v10n14) 11 (e8 0)) 12 (e8 0)) 13 v13n16) 14 v10n14) 15 v15n19) 16 v15n19) 17 v17n22) 18 v18n27) 19 v19n29) 20 v19n29) 21 v21n31) w35)) (fun v22n36 w37 =>
grdE v19n29 true (fun (k38 : Value → World → Prop) => k38 (e8 0) w37) (fun v23n39 w40 =>
grdE v19n29 true (fun (k41 : Value → World → Prop) => bindV (pExtern P 21 [v23n39] w40) k41) (fun v24n42 w43 =>
grdE v19n29 true (fun (k44 : Value → World → Prop) => k44 v10n14 w43) (fun v25n45 w46 =>
grdE v19n29 true (fun (k47 : Value → World → Prop) => bindV (pBin P BinOp.eql 25 false v24n42 v25n45 w46) k47) (fun v26n48 w49 =>
grdE v19n29 true (fun (k50 : Value → World → Prop) => bindV (pBin P BinOp.eql 4 false v22n36 v26n48 w49) k50) (fun v27n51 w52 =>
pickE v19n29 v27n51 (Value.bool false) fun v28n53 =>
K18 .ret (Env.put (Env.put (Env.put (Env.put (Env.put (Env.put (Env.put (Env.put (Env.put (Env.put (Env.put (Env.put (Env.put (Env.put (Env.put (Env.put (Env.put (Env.put (Env.put (Env.put (Env.put (Env.put (Env.put (Env.put (Env.put e8 7 (e8 0)) 8 v8n12) 3 v8n12) 9 v8n12) 10 v10n14) 4 v10n14) 11 (e8 0)) 12 (e8 0)) 13 v13n16) 14 v10n14) 15 v15n19) 16 v15n19) 17 v17n22) 18 v18n27) 19 v19n29) 20 v19n29) 21 v21n31) 22 v22n36) 23 v23n39) 24 v24n42) 25 v25n45) 26 v26n48) 27 v27n51) 28 v28n53) 2 v28n53) w52) w49) w46) w43) w40) w37) w32) w28) w23) w20) (fun (K18 : KT) =>
K18 .normal (Env.put (Env.put (Env.put (Env.put (Env.put (Env.put (Env.put (Env.put (Env.put e8 7 (e8 0)) 8 v8n12) 3 v8n12) 9 v8n12) 10 v10n14) 4 v10n14) 11 (e8 0)) 12 (e8 0)) 13 v13n16) w17) (thenK (fun e54 w55 =>
bindV (pExtern P 21 [(e54 0)] w55) fun v31n56 w57 =>
bindV (pBin P BinOp.eql 25 false (e54 4) v31n56 w57) fun v32n58 w59 =>
grdE v32n58 true (fun (k60 : Value → World → Prop) => k60 (e54 0) w59) (fun v34n61 w62 =>
grdE v32n58 true (fun (k63 : Value → World → Prop) => callE P 22 #[v34n61] w62 k63 (fun c64 w65 => R (.panicked c64) w65)) (fun v35n66 w67 =>
pickE v32n58 v35n66 (Value.bool false) fun v36n68 =>
grdE v36n68 true (fun (k69 : Value → World → Prop) => k69 (e54 3) w67) (fun v38n70 w71 =>
grdE v36n68 true (fun (k72 : Value → World → Prop) => callE P 20 #[v38n70] w71 k72 (fun c73 w74 => R (.panicked c73) w74)) (fun v39n75 w76 =>
grdE v36n68 true (fun (k77 : Value → World → Prop) => bindV (pExtern P 21 [v39n75] w76) k77) (fun v40n78 w79 =>
grdE v36n68 true (fun (k80 : Value → World → Prop) => k80 (e54 4) w79) (fun v41n81 w82 =>
grdE v36n68 true (fun (k83 : Value → World → Prop) => bindV (pBin P BinOp.eql 25 false v40n78 v41n81 w82) k83) (fun v42n84 w85 =>
pickE v36n68 v42n84 (Value.bool false) fun v43n86 =>
R (.returned v43n86) w85) w82) w79) w76) w71) w67) w62) w59) (topK P [(ResultVar.tmp 2)] R))) (fun c10 w11 => R (.panicked c10) w11)) (topK P [(ResultVar.tmp 2)] R))) (fun c1 w2 => R (.panicked c1) w2)
theorem F3ok {w : World} {R : Ending → World → Prop} {a0 : Value} (h : F3 a0 w R) : Calls P 3 #[a0] w R :=
  calls_of_ev bodies mixed (c := bodyOf Try.f3) (nt := 44) (rs := [(ResultVar.tmp 2)]) (args := [a0]) (fn := Try.f3) (by kernel_rfl) (by kernel_rfl) (by kernel_rfl) (by kernel_rfl) (by kernel_rfl) (by simp)
    (eq_mp (show F3 a0 w R = ev P C (bodyOf Try.f3) (argE [a0]) w (topK P [(ResultVar.tmp 2)] R) by kernel_rfl) h)

/-! ### moiety/moietylaw01.FloKeys -/
def F4 (a0 : Value) (w : World) (R : Ending → World → Prop) : Prop :=
callE P 19 #[] w (fun v4n3 w4 =>
bindV (pUn P UnOp.not v4n3 w4) fun v5n5 w6 =>
condE v5n5 (fun (K7 : KT) =>
K7 .ret (Env.put (Env.put (Env.put (Env.put (argE [a0]) 2 (Value.bool false)) 4 v4n3) 5 v5n5) 2 (Value.bool false)) w6) (fun (K7 : KT) =>
K7 .normal (Env.put (Env.put (Env.put (argE [a0]) 2 (Value.bool false)) 4 v4n3) 5 v5n5) w6) (thenK (fun e8 w9 =>
bindV (pExtern P 21 [(e8 0)] w9) fun v7n10 w11 =>
bindV (pBin P BinOp.neq 22 false (e8 0) (e8 0) w11) fun v11n12 w13 =>
condE v11n12 (fun (K14 : KT) =>
callE P 23 #[(e8 0)] w13 (fun v13n17 w18 =>
bindV (pBin P BinOp.eql 25 true v13n17 (Value.int IntKind.u64 18444492273895866369) w18) fun v14n19 w20 =>
K14 .ret (Env.put (Env.put (Env.put (Env.put (Env.put (Env.put (Env.put (Env.put (Env.put (Env.put (Env.put e8 6 (e8 0)) 7 v7n10) 3 v7n10) 9 (e8 0)) 10 (e8 0)) 11 v11n12) 8 v11n12) 12 (e8 0)) 13 v13n17) 14 v14n19) 2 v14n19) w20) (fun c15 w16 => K14 (.panic c15) (Env.put (Env.put (Env.put (Env.put (Env.put (Env.put (Env.put (Env.put e8 6 (e8 0)) 7 v7n10) 3 v7n10) 9 (e8 0)) 10 (e8 0)) 11 v11n12) 8 v11n12) 12 (e8 0)) w16)) (fun (K14 : KT) =>
bindV (pBin P BinOp.shr 25 true v7n10 (Value.int IntKind.u64 63) w13) fun v17n21 w22 =>
bindV (pBin P BinOp.eql 25 true v17n21 (Value.int IntKind.u64 1) w22) fun v18n23 w24 =>
condE v18n23 (fun (K25 : KT) =>
callE P 23 #[(e8 0)] w24 (fun v20n28 w29 =>
bindV (pBin P BinOp.sub 25 true (Value.int IntKind.u64 18446744073709551615) v7n10 w29) fun v22n30 w31 =>
bindV (pBin P BinOp.eql 25 false v20n28 v22n30 w31) fun v23n32 w33 =>
K25 .ret (Env.put (Env.put (Env.put (Env.put (Env.put (Env.put (Env.put (Env.put (Env.put (Env.put (Env.put (Env.put (Env.put (Env.put (Env.put (Env.put (Env.put e8 6 (e8 0)) 7 v7n10) 3 v7n10) 9 (e8 0)) 10 (e8 0)) 11 v11n12) 8 v11n12) 16 v7n10) 17 v17n21) 18 v18n23) 15 v18n23) 19 (e8 0)) 20 v20n28) 21 v7n10) 22 v22n30) 23 v23n32) 2 v23n32) w33) (fun c26 w27 => K25 (.panic c26) (Env.put (Env.put (Env.put (Env.put (Env.put (Env.put (Env.put (Env.put (Env.put (Env.put (Env.put (Env.put e8 6 (e8 0)) 7 v7n10) 3 v7n10) 9 (e8 0)) 10 (e8 0)) 11 v11n12) 8 v11n12) 16 v7n10) 17 v17n21) 18 v18n23) 15 v18n23) 19 (e8 0)) w27)) (fun (K25 : KT) =>
K25 .normal (Env.put (Env.put (Env.put (Env.put (Env.put (Env.put (Env.put (Env.put (Env.put (Env.put (Env.put e8 6 (e8 0)) 7 v7n10) 3 v7n10) 9 (e8 0)) 10 (e8 0)) 11 v11n12) 8 v11n12) 16 v7n10) 17 v17n21) 18 v18n23) 15 v18n23) w24) K14) (blockK 0 (thenK (fun e34 w35 =>
callE P 23 #[(e34 0)] w35 (fun v25n38 w39 =>
bindV (pBin P BinOp.add 25 true (e34 3) (Value.int IntKind.u64 9223372036854775808) w39) fun v27n40 w41 =>
bindV (pBin P BinOp.eql 25 false v25n38 v27n40 w41) fun v28n42 w43 =>
R (.returned v28n42) w43) (fun c36 w37 => R (.panicked c36) w37)) (topK P [(ResultVar.tmp 2)] R)))) (topK P [(ResultVar.tmp 2)] R))) (fun c1 w2 => R (.panicked c1) w2)
theorem F4ok {w : World} {R : Ending → World → Prop} {a0 : Value} (h : F4 a0 w R) : Calls P 4 #[a0] w R :=
  calls_of_ev bodies mixed (c := bodyOf Try.f4) (nt := 29) (rs := [(ResultVar.tmp 2)]) (args := [a0]) (fn := Try.f4) (by kernel_rfl) (by kernel_rfl) (by kernel_rfl) (by kernel_rfl) (by kernel_rfl) (by simp)
    (eq_mp (show F4 a0 w R = ev P C (bodyOf Try.f4) (argE [a0]) w (topK P [(ResultVar.tmp 2)] R) by kernel_rfl) h)

/-! ### moiety/moietylaw01.FloOrders -/
def F5 (a0 : Value) (a1 : Value) (w : World) (R : Ending → World → Prop) : Prop :=
callE P 19 #[] w (fun v7n3 w4 =>
bindV (pUn P UnOp.not v7n3 w4) fun v8n5 w6 =>
condE v8n5 (fun (K7 : KT) =>
K7 .ret (Env.put (Env.put (Env.put (Env.put (argE [a0, a1]) 4 (Value.bool false)) 7 v7n3) 8 v8n5) 4 (Value.bool false)) w6) (fun (K7 : KT) =>
K7 .normal (Env.put (Env.put (Env.put (argE [a0, a1]) 4 (Value.bool false)) 7 v7n3) 8 v8n5) w6) (thenK (fun e8 w9 =>
callE P 24 #[(e8 0), (e8 1)] w9 (fun v11n12 w13 =>
callE P 25 #[(e8 0), (e8 1)] w13 (fun v14n16 w17 =>
callE P 26 #[(e8 0), (e8 1)] w17 (fun v17n20 w21 =>
bindV (pBin P BinOp.eql 4 false v17n20 v11n12 w21) fun v19n22 w23 =>
grdE v19n22 true (fun (k24 : Value → World → Prop) => k24 (e8 0) w23) (fun v21n25 w26 =>
grdE v19n22 true (fun (k27 : Value → World → Prop) => k27 (e8 1) w26) (fun v22n28 w29 =>
grdE v19n22 true (fun (k30 : Value → World → Prop) => callE P 27 #[v21n25, v22n28] w29 k30 (fun c31 w32 => R (.panicked c31) w32)) (fun v23n33 w34 =>
grdE v19n22 true (fun (k35 : Value → World → Prop) => k35 v14n16 w34) (fun v24n36 w37 =>
grdE v19n22 true (fun (k38 : Value → World → Prop) => bindV (pBin P BinOp.eql 4 false v23n33 v24n36 w37) k38) (fun v25n39 w40 =>
pickE v19n22 v25n39 (Value.bool false) fun v26n41 =>
grdE v26n41 true (fun (k42 : Value → World → Prop) => k42 (e8 0) w40) (fun v28n43 w44 =>
grdE v26n41 true (fun (k45 : Value → World → Prop) => callE P 23 #[v28n43] w44 k45 (fun c46 w47 => R (.panicked c46) w47)) (fun v29n48 w49 =>
grdE v26n41 true (fun (k50 : Value → World → Prop) => k50 (e8 1) w49) (fun v30n51 w52 =>
grdE v26n41 true (fun (k53 : Value → World → Prop) => callE P 23 #[v30n51] w52 k53 (fun c54 w55 => R (.panicked c54) w55)) (fun v31n56 w57 =>
grdE v26n41 true (fun (k58 : Value → World → Prop) => bindV (pBin P BinOp.lss 25 false v29n48 v31n56 w57) k58) (fun v32n59 w60 =>
grdE v26n41 true (fun (k61 : Value → World → Prop) => k61 v11n12 w60) (fun v33n62 w63 =>
grdE v26n41 true (fun (k64 : Value → World → Prop) => bindV (pBin P BinOp.eql 4 false v32n59 v33n62 w63) k64) (fun v34n65 w66 =>
pickE v26n41 v34n65 (Value.bool false) fun v35n67 =>
grdE v35n67 true (fun (k68 : Value → World → Prop) => k68 (e8 0) w66) (fun v37n69 w70 =>
grdE v35n67 true (fun (k71 : Value → World → Prop) => callE P 23 #[v37n69] w70 k71 (fun c72 w73 => R (.panicked c72) w73)) (fun v38n74 w75 =>
grdE v35n67 true (fun (k76 : Value → World → Prop) => k76 (e8 1) w75) (fun v39n77 w78 =>
grdE v35n67 true (fun (k79 : Value → World → Prop) => callE P 23 #[v39n77] w78 k79 (fun c80 w81 => R (.panicked c80) w81)) (fun v40n82 w83 =>
grdE v35n67 true (fun (k84 : Value → World → Prop) => bindV (pBin P BinOp.eql 25 false v38n74 v40n82 w83) k84) (fun v41n85 w86 =>
grdE v35n67 true (fun (k87 : Value → World → Prop) => k87 v14n16 w86) (fun v42n88 w89 =>
grdE v35n67 true (fun (k90 : Value → World → Prop) => bindV (pBin P BinOp.eql 4 false v41n85 v42n88 w89) k90) (fun v43n91 w92 =>
pickE v35n67 v43n91 (Value.bool false) fun v44n93 =>
R (.returned v44n93) w92) w89) w86) w83) w78) w75) w70) w66) w63) w60) w57) w52) w49) w44) w40) w37) w34) w29) w26) w23) (fun c18 w19 => R (.panicked c18) w19)) (fun c14 w15 => R (.panicked c14) w15)) (fun c10 w11 => R (.panicked c10) w11)) (topK P [(ResultVar.tmp 4)] R))) (fun c1 w2 => R (.panicked c1) w2)
theorem F5ok {w : World} {R : Ending → World → Prop} {a0 : Value} {a1 : Value} (h : F5 a0 a1 w R) : Calls P 5 #[a0, a1] w R :=
  calls_of_ev bodies mixed (c := bodyOf Try.f5) (nt := 45) (rs := [(ResultVar.tmp 4)]) (args := [a0, a1]) (fn := Try.f5) (by kernel_rfl) (by kernel_rfl) (by kernel_rfl) (by kernel_rfl) (by kernel_rfl) (by simp)
    (eq_mp (show F5 a0 a1 w R = ev P C (bodyOf Try.f5) (argE [a0, a1]) w (topK P [(ResultVar.tmp 4)] R) by kernel_rfl) h)

/-! ### moiety/moietylaw01.FloBacks -/
def F6 (a0 : Value) (a1 : Value) (w : World) (R : Ending → World → Prop) : Prop :=
callE P 19 #[] w (fun v9n3 w4 =>
bindV (pUn P UnOp.not v9n3 w4) fun v10n5 w6 =>
condE v10n5 (fun (K7 : KT) =>
K7 .ret (Env.put (Env.put (Env.put (Env.put (argE [a0, a1]) 4 (Value.bool false)) 9 v9n3) 10 v10n5) 4 (Value.bool false)) w6) (fun (K7 : KT) =>
K7 .normal (Env.put (Env.put (Env.put (argE [a0, a1]) 4 (Value.bool false)) 9 v9n3) 10 v10n5) w6) (thenK (fun e8 w9 =>
callE P 23 #[(e8 0)] w9 (fun v13n12 w13 =>
callE P 28 #[v13n12] w13 (fun v14n16 w17 =>
bindV (pExtract P v14n16 0 w17) fun v15n18 w19 =>
bindV (pExtract P v14n16 1 w19) fun v16n20 w21 =>
bindV (pUn P UnOp.not v16n20 w21) fun v18n22 w23 =>
grdE v18n22 false (fun (k24 : Value → World → Prop) => k24 v15n18 w23) (fun v20n25 w26 =>
grdE v18n22 false (fun (k27 : Value → World → Prop) => bindV (pExtern P 21 [v20n25] w26) k27) (fun v21n28 w29 =>
grdE v18n22 false (fun (k30 : Value → World → Prop) => k30 (e8 0) w29) (fun v22n31 w32 =>
grdE v18n22 false (fun (k33 : Value → World → Prop) => callE P 20 #[v22n31] w32 k33 (fun c34 w35 => R (.panicked c34) w35)) (fun v23n36 w37 =>
grdE v18n22 false (fun (k38 : Value → World → Prop) => bindV (pExtern P 21 [v23n36] w37) k38) (fun v24n39 w40 =>
grdE v18n22 false (fun (k41 : Value → World → Prop) => bindV (pBin P BinOp.neq 25 false v21n28 v24n39 w40) k41) (fun v25n42 w43 =>
pickE v18n22 (Value.bool true) v25n42 fun v26n44 =>
condE v26n44 (fun (K45 : KT) =>
K45 .ret (Env.put (Env.put (Env.put (Env.put (Env.put (Env.put (Env.put (Env.put (Env.put (Env.put (Env.put (Env.put (Env.put (Env.put (Env.put (Env.put (Env.put (Env.put (Env.put e8 12 (e8 0)) 13 v13n12) 14 v14n16) 11 v14n16) 15 v15n18) 16 v16n20) 5 v15n18) 6 v16n20) 17 v16n20) 18 v18n22) 19 v18n22) 20 v20n25) 21 v21n28) 22 v22n31) 23 v23n36) 24 v24n39) 25 v25n42) 26 v26n44) 4 (Value.bool false)) w43) (fun (K45 : KT) =>
K45 .normal (Env.put (Env.put (Env.put (Env.put (Env.put (Env.put (Env.put (Env.put (Env.put (Env.put (Env.put (Env.put (Env.put (Env.put (Env.put (Env.put (Env.put (Env.put e8 12 (e8 0)) 13 v13n12) 14 v14n16) 11 v14n16) 15 v15n18) 16 v16n20) 5 v15n18) 6 v16n20) 17 v16n20) 18 v18n22) 19 v18n22) 20 v20n25) 21 v21n28) 22 v22n31) 23 v23n36) 24 v24n39) 25 v25n42) 26 v26n44) w43) (thenK (fun e46 w47 =>
callE P 28 #[(e46 1)] w47 (fun v29n50 w51 =>
bindV (pExtract P v29n50 0 w51) fun v30n52 w53 =>
bindV (pExtract P v29n50 1 w53) fun v31n54 w55 =>
bindV (pUn P UnOp.not v31n54 w55) fun v33n56 w57 =>
condE v33n56 (fun (K58 : KT) =>
bindV (pExtern P 21 [v30n52] w57) fun v35n59 w60 =>
bindV (pBin P BinOp.eql 25 true v35n59 (Value.int IntKind.u64 0) w60) fun v36n61 w62 =>
grdE v36n61 true (fun (k63 : Value → World → Prop) => k63 (e46 0) w62) (fun v38n64 w65 =>
grdE v36n61 true (fun (k66 : Value → World → Prop) => callE P 23 #[v38n64] w65 k66 (fun c67 w68 => K58 (.panic c67) (Env.put (Env.put (Env.put (Env.put (Env.put (Env.put (Env.put (Env.put (Env.put (Env.put (Env.put (Env.put (Env.put (Env.put e46 28 (e46 1)) 29 v29n50) 27 v29n50) 30 v30n52) 31 v31n54) 7 v30n52) 8 v31n54) 32 v31n54) 33 v33n56) 34 v30n52) 35 v35n59) 36 v36n61) 37 v36n61) 38 v38n64) w68)) (fun v39n69 w70 =>
grdE v36n61 true (fun (k71 : Value → World → Prop) => k71 (e46 1) w70) (fun v40n72 w73 =>
grdE v36n61 true (fun (k74 : Value → World → Prop) => bindV (pBin P BinOp.neq 25 false v39n69 v40n72 w73) k74) (fun v41n75 w76 =>
pickE v36n61 v41n75 (Value.bool false) fun v42n77 =>
K58 .ret (Env.put (Env.put (Env.put (Env.put (Env.put (Env.put (Env.put (Env.put (Env.put (Env.put (Env.put (Env.put (Env.put (Env.put (Env.put (Env.put (Env.put (Env.put (Env.put e46 28 (e46 1)) 29 v29n50) 27 v29n50) 30 v30n52) 31 v31n54) 7 v30n52) 8 v31n54) 32 v31n54) 33 v33n56) 34 v30n52) 35 v35n59) 36 v36n61) 37 v36n61) 38 v38n64) 39 v39n69) 40 v40n72) 41 v41n75) 42 v42n77) 4 v42n77) w76) w73) w70) w65) w62) (fun (K58 : KT) =>
K58 .normal (Env.put (Env.put (Env.put (Env.put (Env.put (Env.put (Env.put (Env.put (Env.put e46 28 (e46 1)) 29 v29n50) 27 v29n50) 30 v30n52) 31 v31n54) 7 v30n52) 8 v31n54) 32 v31n54) 33 v33n56) w57) (thenK (fun e78 w79 =>
callE P 23 #[(e78 7)] w79 (fun v44n82 w83 =>
bindV (pBin P BinOp.eql 25 false v44n82 (e78 1) w83) fun v46n84 w85 =>
grdE v46n84 true (fun (k86 : Value → World → Prop) => k86 (e78 7) w85) (fun v48n87 w88 =>
grdE v46n84 true (fun (k89 : Value → World → Prop) => callE P 22 #[v48n87] w88 k89 (fun c90 w91 => R (.panicked c90) w91)) (fun v49n92 w93 =>
pickE v46n84 v49n92 (Value.bool false) fun v50n94 =>
R (.returned v50n94) w93) w88) w85) (fun c80 w81 => R (.panicked c80) w81)) (topK P [(ResultVar.tmp 4)] R))) (fun c48 w49 => R (.panicked c48) w49)) (topK P [(ResultVar.tmp 4)] R))) w40) w37) w32) w29) w26) w23) (fun c14 w15 => R (.panicked c14) w15)) (fun c10 w11 => R (.panicked c10) w11)) (topK P [(ResultVar.tmp 4)] R))) (fun c1 w2 => R (.panicked c1) w2)
theorem F6ok {w : World} {R : Ending → World → Prop} {a0 : Value} {a1 : Value} (h : F6 a0 a1 w R) : Calls P 6 #[a0, a1] w R :=
  calls_of_ev bodies mixed (c := bodyOf Try.f6) (nt := 51) (rs := [(ResultVar.tmp 4)]) (args := [a0, a1]) (fn := Try.f6) (by kernel_rfl) (by kernel_rfl) (by kernel_rfl) (by kernel_rfl) (by kernel_rfl) (by simp)
    (eq_mp (show F6 a0 a1 w R = ev P C (bodyOf Try.f6) (argE [a0, a1]) w (topK P [(ResultVar.tmp 4)] R) by kernel_rfl) h)

/-! ### moiety/moietylaw01.FloSums -/
def F7 (a0 : Value) (a1 : Value) (w : World) (R : Ending → World → Prop) : Prop :=
callE P 19 #[] w (fun v9n3 w4 =>
bindV (pUn P UnOp.not v9n3 w4) fun v10n5 w6 =>
condE v10n5 (fun (K7 : KT) =>
K7 .ret (Env.put (Env.put (Env.put (Env.put (argE [a0, a1]) 4 (Value.bool false)) 9 v9n3) 10 v10n5) 4 (Value.bool false)) w6) (fun (K7 : KT) =>
K7 .normal (Env.put (Env.put (Env.put (argE [a0, a1]) 4 (Value.bool false)) 9 v9n3) 10 v10n5) w6) (thenK (fun e8 w9 =>
callE P 29 #[(e8 0), (e8 1)] w9 (fun v13n12 w13 =>
callE P 30 #[(e8 0), (e8 1)] w13 (fun v16n16 w17 =>
callE P 22 #[v13n12] w17 (fun v18n20 w21 =>
bindV (pUn P UnOp.not v18n20 w21) fun v19n22 w23 =>
grdE v19n22 false (fun (k24 : Value → World → Prop) => k24 v16n16 w23) (fun v21n25 w26 =>
grdE v19n22 false (fun (k27 : Value → World → Prop) => callE P 22 #[v21n25] w26 k27 (fun c28 w29 => R (.panicked c28) w29)) (fun v22n30 w31 =>
grdE v19n22 false (fun (k32 : Value → World → Prop) => bindV (pUn P UnOp.not v22n30 w31) k32) (fun v23n33 w34 =>
pickE v19n22 (Value.bool true) v23n33 fun v24n35 =>
grdE v24n35 false (fun (k36 : Value → World → Prop) => k36 v13n12 w34) (fun v26n37 w38 =>
grdE v24n35 false (fun (k39 : Value → World → Prop) => k39 (e8 1) w38) (fun v27n40 w41 =>
grdE v24n35 false (fun (k42 : Value → World → Prop) => k42 (e8 0) w41) (fun v28n43 w44 =>
grdE v24n35 false (fun (k45 : Value → World → Prop) => callE P 29 #[v27n40, v28n43] w44 k45 (fun c46 w47 => R (.panicked c46) w47)) (fun v29n48 w49 =>
grdE v24n35 false (fun (k50 : Value → World → Prop) => callE P 27 #[v26n37, v29n48] w49 k50 (fun c51 w52 => R (.panicked c51) w52)) (fun v30n53 w54 =>
grdE v24n35 false (fun (k55 : Value → World → Prop) => bindV (pUn P UnOp.not v30n53 w54) k55) (fun v31n56 w57 =>
pickE v24n35 (Value.bool true) v31n56 fun v32n58 =>
grdE v32n58 false (fun (k59 : Value → World → Prop) => k59 v16n16 w57) (fun v34n60 w61 =>
grdE v32n58 false (fun (k62 : Value → World → Prop) => k62 (e8 1) w61) (fun v35n63 w64 =>
grdE v32n58 false (fun (k65 : Value → World → Prop) => k65 (e8 0) w64) (fun v36n66 w67 =>
grdE v32n58 false (fun (k68 : Value → World → Prop) => callE P 30 #[v35n63, v36n66] w67 k68 (fun c69 w70 => R (.panicked c69) w70)) (fun v37n71 w72 =>
grdE v32n58 false (fun (k73 : Value → World → Prop) => callE P 27 #[v34n60, v37n71] w72 k73 (fun c74 w75 => R (.panicked c74) w75)) (fun v38n76 w77 =>
grdE v32n58 false (fun (k78 : Value → World → Prop) => bindV (pUn P UnOp.not v38n76 w77) k78) (fun v39n79 w80 =>
pickE v32n58 (Value.bool true) v39n79 fun v40n81 =>
condE v40n81 (fun (K82 : KT) =>
K82 .ret (Env.put (Env.put (Env.put (Env.put (Env.put (Env.put (Env.put (Env.put (Env.put (Env.put (Env.put (Env.put (Env.put (Env.put (Env.put (Env.put (Env.put (Env.put (Env.put (Env.put (Env.put (Env.put (Env.put (Env.put (Env.put (Env.put (Env.put (Env.put (Env.put (Env.put (Env.put (Env.put (Env.put e8 11 (e8 0)) 12 (e8 1)) 13 v13n12) 14 (e8 0)) 15 (e8 1)) 16 v16n16) 5 v13n12) 6 v16n16) 17 v13n12) 18 v18n20) 19 v19n22) 20 v19n22) 21 v21n25) 22 v22n30) 23 v23n33) 24 v24n35) 25 v24n35) 26 v26n37) 27 v27n40) 28 v28n43) 29 v29n48) 30 v30n53) 31 v31n56) 32 v32n58) 33 v32n58) 34 v34n60) 35 v35n63) 36 v36n66) 37 v37n71) 38 v38n76) 39 v39n79) 40 v40n81) 4 (Value.bool false)) w80) (fun (K82 : KT) =>
K82 .normal (Env.put (Env.put (Env.put (Env.put (Env.put (Env.put (Env.put (Env.put (Env.put (Env.put (Env.put (Env.put (Env.put (Env.put (Env.put (Env.put (Env.put (Env.put (Env.put (Env.put (Env.put (Env.put (Env.put (Env.put (Env.put (Env.put (Env.put (Env.put (Env.put (Env.put (Env.put (Env.put e8 11 (e8 0)) 12 (e8 1)) 13 v13n12) 14 (e8 0)) 15 (e8 1)) 16 v16n16) 5 v13n12) 6 v16n16) 17 v13n12) 18 v18n20) 19 v19n22) 20 v19n22) 21 v21n25) 22 v22n30) 23 v23n33) 24 v24n35) 25 v24n35) 26 v26n37) 27 v27n40) 28 v28n43) 29 v29n48) 30 v30n53) 31 v31n56) 32 v32n58) 33 v32n58) 34 v34n60) 35 v35n63) 36 v36n66) 37 v37n71) 38 v38n76) 39 v39n79) 40 v40n81) w80) (thenK (fun e83 w84 =>
bindV (pBin P BinOp.add 22 false (e83 0) (e83 1) w84) fun v43n85 w86 =>
bindV (pBin P BinOp.mul 22 false (e83 0) (e83 1) w86) fun v46n87 w88 =>
callE P 27 #[(e83 5), v43n85] w88 (fun v49n91 w92 =>
grdE v49n91 true (fun (k93 : Value → World → Prop) => k93 (e83 6) w92) (fun v51n94 w95 =>
grdE v49n91 true (fun (k96 : Value → World → Prop) => k96 v46n87 w95) (fun v52n97 w98 =>
grdE v49n91 true (fun (k99 : Value → World → Prop) => callE P 27 #[v51n94, v52n97] w98 k99 (fun c100 w101 => R (.panicked c100) w101)) (fun v53n102 w103 =>
pickE v49n91 v53n102 (Value.bool false) fun v54n104 =>
R (.returned v54n104) w103) w98) w95) w92) (fun c89 w90 => R (.panicked c89) w90)) (topK P [(ResultVar.tmp 4)] R))) w77) w72) w67) w64) w61) w57) w54) w49) w44) w41) w38) w34) w31) w26) w23) (fun c18 w19 => R (.panicked c18) w19)) (fun c14 w15 => R (.panicked c14) w15)) (fun c10 w11 => R (.panicked c10) w11)) (topK P [(ResultVar.tmp 4)] R))) (fun c1 w2 => R (.panicked c1) w2)
theorem F7ok {w : World} {R : Ending → World → Prop} {a0 : Value} {a1 : Value} (h : F7 a0 a1 w R) : Calls P 7 #[a0, a1] w R :=
  calls_of_ev bodies mixed (c := bodyOf Try.f7) (nt := 55) (rs := [(ResultVar.tmp 4)]) (args := [a0, a1]) (fn := Try.f7) (by kernel_rfl) (by kernel_rfl) (by kernel_rfl) (by kernel_rfl) (by kernel_rfl) (by simp)
    (eq_mp (show F7 a0 a1 w R = ev P C (bodyOf Try.f7) (argE [a0, a1]) w (topK P [(ResultVar.tmp 4)] R) by kernel_rfl) h)

/-! ### moiety/moietylaw01.FloAbove -/
def F8 (a0 : Value) (a1 : Value) (w : World) (R : Ending → World → Prop) : Prop :=
callE P 19 #[] w (fun v6n3 w4 =>
bindV (pUn P UnOp.not v6n3 w4) fun v7n5 w6 =>
condE v7n5 (fun (K7 : KT) =>
K7 .ret (Env.put (Env.put (Env.put (Env.put (argE [a0, a1]) 4 (Value.bool false)) 6 v6n3) 7 v7n5) 4 (Value.bool false)) w6) (fun (K7 : KT) =>
K7 .normal (Env.put (Env.put (Env.put (argE [a0, a1]) 4 (Value.bool false)) 6 v6n3) 7 v7n5) w6) (thenK (fun e8 w9 =>
callE P 31 #[(e8 0)] w9 (fun v9n12 w13 =>
bindV (pBin P BinOp.neq 22 false (e8 0) (e8 0) w13) fun v12n14 w15 =>
condE v12n14 (fun (K16 : KT) =>
bindV (pBin P BinOp.neq 22 false v9n12 v9n12 w15) fun v15n17 w18 =>
grdE v15n17 true (fun (k19 : Value → World → Prop) => k19 v9n12 w18) (fun v17n20 w21 =>
grdE v15n17 true (fun (k22 : Value → World → Prop) => callE P 22 #[v17n20] w21 k22 (fun c23 w24 => K16 (.panic c23) (Env.put (Env.put (Env.put (Env.put (Env.put (Env.put (Env.put (Env.put (Env.put (Env.put (Env.put e8 8 (e8 0)) 9 v9n12) 5 v9n12) 10 (e8 0)) 11 (e8 0)) 12 v12n14) 13 v9n12) 14 v9n12) 15 v15n17) 16 v15n17) 17 v17n20) w24)) (fun v18n25 w26 =>
pickE v15n17 v18n25 (Value.bool false) fun v19n27 =>
K16 .ret (Env.put (Env.put (Env.put (Env.put (Env.put (Env.put (Env.put (Env.put (Env.put (Env.put (Env.put (Env.put (Env.put (Env.put e8 8 (e8 0)) 9 v9n12) 5 v9n12) 10 (e8 0)) 11 (e8 0)) 12 v12n14) 13 v9n12) 14 v9n12) 15 v15n17) 16 v15n17) 17 v17n20) 18 v18n25) 19 v19n27) 4 v19n27) w26) w21) w18) (fun (K16 : KT) =>
K16 .normal (Env.put (Env.put (Env.put (Env.put (Env.put (Env.put e8 8 (e8 0)) 9 v9n12) 5 v9n12) 10 (e8 0)) 11 (e8 0)) 12 v12n14) w15) (thenK (fun e28 w29 =>
callE P 26 #[(e28 0), (e28 5)] w29 (fun v22n32 w33 =>
grdE v22n32 true (fun (k34 : Value → World → Prop) => k34 (e28 5) w33) (fun v24n35 w36 =>
grdE v22n32 true (fun (k37 : Value → World → Prop) => callE P 22 #[v24n35] w36 k37 (fun c38 w39 => R (.panicked c38) w39)) (fun v25n40 w41 =>
pickE v22n32 v25n40 (Value.bool false) fun v26n42 =>
grdE v26n42 true (fun (k43 : Value → World → Prop) => k43 (e28 0) w41) (fun v28n44 w45 =>
grdE v26n42 true (fun (k46 : Value → World → Prop) => k46 (e28 1) w45) (fun v29n47 w48 =>
grdE v26n42 true (fun (k49 : Value → World → Prop) => callE P 26 #[v28n44, v29n47] w48 k49 (fun c50 w51 => R (.panicked c50) w51)) (fun v30n52 w53 =>
grdE v26n42 true (fun (k54 : Value → World → Prop) => k54 v30n52 w53) (fun v31n55 w56 =>
grdE v31n55 true (fun (k57 : Value → World → Prop) => k57 (e28 1) w56) (fun v32n58 w59 =>
grdE v31n55 true (fun (k60 : Value → World → Prop) => k60 (e28 5) w59) (fun v33n61 w62 =>
grdE v31n55 true (fun (k63 : Value → World → Prop) => callE P 26 #[v32n58, v33n61] w62 k63 (fun c64 w65 => R (.panicked c64) w65)) (fun v34n66 w67 =>
grdE v26n42 true (fun (k68 : Value → World → Prop) => pickE v31n55 v34n66 (Value.bool false) fun v35n69 =>
k68 v35n69 w67) (fun v35n70 w71 =>
grdE v26n42 true (fun (k72 : Value → World → Prop) => bindV (pUn P UnOp.not v35n70 w71) k72) (fun v36n73 w74 =>
pickE v26n42 v36n73 (Value.bool false) fun v37n75 =>
R (.returned v37n75) w74) w71) w67) w62) w59) w56) w53) w48) w45) w41) w36) w33) (fun c30 w31 => R (.panicked c30) w31)) (topK P [(ResultVar.tmp 4)] R))) (fun c10 w11 => R (.panicked c10) w11)) (topK P [(ResultVar.tmp 4)] R))) (fun c1 w2 => R (.panicked c1) w2)
theorem F8ok {w : World} {R : Ending → World → Prop} {a0 : Value} {a1 : Value} (h : F8 a0 a1 w R) : Calls P 8 #[a0, a1] w R :=
  calls_of_ev bodies mixed (c := bodyOf Try.f8) (nt := 38) (rs := [(ResultVar.tmp 4)]) (args := [a0, a1]) (fn := Try.f8) (by kernel_rfl) (by kernel_rfl) (by kernel_rfl) (by kernel_rfl) (by kernel_rfl) (by simp)
    (eq_mp (show F8 a0 a1 w R = ev P C (bodyOf Try.f8) (argE [a0, a1]) w (topK P [(ResultVar.tmp 4)] R) by kernel_rfl) h)

/-! ### moiety/moietylaw01.FloLattice -/
def F9 (a0 : Value) (a1 : Value) (a2 : Value) (w : World) (R : Ending → World → Prop) : Prop :=
callE P 19 #[] w (fun v7n3 w4 =>
bindV (pUn P UnOp.not v7n3 w4) fun v8n5 w6 =>
condE v8n5 (fun (K7 : KT) =>
K7 .ret (Env.put (Env.put (Env.put (Env.put (argE [a0, a1, a2]) 6 (Value.bool false)) 7 v7n3) 8 v8n5) 6 (Value.bool false)) w6) (fun (K7 : KT) =>
K7 .normal (Env.put (Env.put (Env.put (argE [a0, a1, a2]) 6 (Value.bool false)) 7 v7n3) 8 v8n5) w6) (thenK (fun e8 w9 =>
callE P 32 #[(e8 0), (e8 1)] w9 (fun v11n12 w13 =>
callE P 33 #[(e8 0), (e8 1)] w13 (fun v14n16 w17 =>
callE P 27 #[v11n12, v14n16] w17 (fun v15n20 w21 =>
bindV (pUn P UnOp.not v15n20 w21) fun v16n22 w23 =>
grdE v16n22 false (fun (k24 : Value → World → Prop) => k24 (e8 0) w23) (fun v18n25 w26 =>
grdE v16n22 false (fun (k27 : Value → World → Prop) => k27 (e8 1) w26) (fun v19n28 w29 =>
grdE v16n22 false (fun (k30 : Value → World → Prop) => callE P 34 #[v18n25, v19n28] w29 k30 (fun c31 w32 => R (.panicked c31) w32)) (fun v20n33 w34 =>
grdE v16n22 false (fun (k35 : Value → World → Prop) => k35 (e8 0) w34) (fun v21n36 w37 =>
grdE v16n22 false (fun (k38 : Value → World → Prop) => k38 (e8 1) w37) (fun v22n39 w40 =>
grdE v16n22 false (fun (k41 : Value → World → Prop) => callE P 35 #[v21n36, v22n39] w40 k41 (fun c42 w43 => R (.panicked c42) w43)) (fun v23n44 w45 =>
grdE v16n22 false (fun (k46 : Value → World → Prop) => callE P 27 #[v20n33, v23n44] w45 k46 (fun c47 w48 => R (.panicked c47) w48)) (fun v24n49 w50 =>
grdE v16n22 false (fun (k51 : Value → World → Prop) => bindV (pUn P UnOp.not v24n49 w50) k51) (fun v25n52 w53 =>
pickE v16n22 (Value.bool true) v25n52 fun v26n54 =>
grdE v26n54 false (fun (k55 : Value → World → Prop) => k55 (e8 0) w53) (fun v28n56 w57 =>
grdE v26n54 false (fun (k58 : Value → World → Prop) => k58 (e8 1) w57) (fun v29n59 w60 =>
grdE v26n54 false (fun (k61 : Value → World → Prop) => callE P 32 #[v28n56, v29n59] w60 k61 (fun c62 w63 => R (.panicked c62) w63)) (fun v30n64 w65 =>
grdE v26n54 false (fun (k66 : Value → World → Prop) => callE P 22 #[v30n64] w65 k66 (fun c67 w68 => R (.panicked c67) w68)) (fun v31n69 w70 =>
grdE v26n54 false (fun (k71 : Value → World → Prop) => bindV (pUn P UnOp.not v31n69 w70) k71) (fun v32n72 w73 =>
pickE v26n54 (Value.bool true) v32n72 fun v33n74 =>
grdE v33n74 false (fun (k75 : Value → World → Prop) => k75 (e8 0) w73) (fun v35n76 w77 =>
grdE v33n74 false (fun (k78 : Value → World → Prop) => k78 (e8 1) w77) (fun v36n79 w80 =>
grdE v33n74 false (fun (k81 : Value → World → Prop) => callE P 34 #[v35n76, v36n79] w80 k81 (fun c82 w83 => R (.panicked c82) w83)) (fun v37n84 w85 =>
grdE v33n74 false (fun (k86 : Value → World → Prop) => callE P 22 #[v37n84] w85 k86 (fun c87 w88 => R (.panicked c87) w88)) (fun v38n89 w90 =>
grdE v33n74 false (fun (k91 : Value → World → Prop) => bindV (pUn P UnOp.not v38n89 w90) k91) (fun v39n92 w93 =>
pickE v33n74 (Value.bool true) v39n92 fun v40n94 =>
condE v40n94 (fun (K95 : KT) =>
K95 .ret (Env.put (Env.put (Env.put (Env.put (Env.put (Env.put (Env.put (Env.put (Env.put (Env.put (Env.put (Env.put (Env.put (Env.put (Env.put (Env.put (Env.put (Env.put (Env.put (Env.put (Env.put (Env.put (Env.put (Env.put (Env.put (Env.put (Env.put (Env.put (Env.put (Env.put (Env.put (Env.put (Env.put e8 9 (e8 0)) 10 (e8 1)) 11 v11n12) 12 (e8 0)) 13 (e8 1)) 14 v14n16) 15 v15n20) 16 v16n22) 17 v16n22) 18 v18n25) 19 v19n28) 20 v20n33) 21 v21n36) 22 v22n39) 23 v23n44) 24 v24n49) 25 v25n52) 26 v26n54) 27 v26n54) 28 v28n56) 29 v29n59) 30 v30n64) 31 v31n69) 32 v32n72) 33 v33n74) 34 v33n74) 35 v35n76) 36 v36n79) 37 v37n84) 38 v38n89) 39 v39n92) 40 v40n94) 6 (Value.bool false)) w93) (fun (K95 : KT) =>
K95 .normal (Env.put (Env.put (Env.put (Env.put (Env.put (Env.put (Env.put (Env.put (Env.put (Env.put (Env.put (Env.put (Env.put (Env.put (Env.put (Env.put (Env.put (Env.put (Env.put (Env.put (Env.put (Env.put (Env.put (Env.put (Env.put (Env.put (Env.put (Env.put (Env.put (Env.put (Env.put (Env.put e8 9 (e8 0)) 10 (e8 1)) 11 v11n12) 12 (e8 0)) 13 (e8 1)) 14 v14n16) 15 v15n20) 16 v16n22) 17 v16n22) 18 v18n25) 19 v19n28) 20 v20n33) 21 v21n36) 22 v22n39) 23 v23n44) 24 v24n49) 25 v25n52) 26 v26n54) 27 v26n54) 28 v28n56) 29 v29n59) 30 v30n64) 31 v31n69) 32 v32n72) 33 v33n74) 34 v33n74) 35 v35n76) 36 v36n79) 37 v37n84) 38 v38n89) 39 v39n92) 40 v40n94) w93) (thenK (fun e96 w97 =>
callE P 32 #[(e96 0), (e96 1)] w97 (fun v43n100 w101 =>
callE P 32 #[(e96 1), (e96 0)] w101 (fun v46n104 w105 =>
callE P 27 #[v43n100, v46n104] w105 (fun v47n108 w109 =>
bindV (pUn P UnOp.not v47n108 w109) fun v48n110 w111 =>
grdE v48n110 false (fun (k112 : Value → World → Prop) => k112 (e96 0) w111) (fun v50n113 w114 =>
grdE v48n110 false (fun (k115 : Value → World → Prop) => k115 (e96 1) w114) (fun v51n116 w117 =>
grdE v48n110 false (fun (k118 : Value → World → Prop) => callE P 32 #[v50n113, v51n116] w117 k118 (fun c119 w120 => R (.panicked c119) w120)) (fun v52n121 w122 =>
grdE v48n110 false (fun (k123 : Value → World → Prop) => k123 (e96 2) w122) (fun v53n124 w125 =>
grdE v48n110 false (fun (k126 : Value → World → Prop) => callE P 32 #[v52n121, v53n124] w125 k126 (fun c127 w128 => R (.panicked c127) w128)) (fun v54n129 w130 =>
grdE v48n110 false (fun (k131 : Value → World → Prop) => k131 (e96 0) w130) (fun v55n132 w133 =>
grdE v48n110 false (fun (k134 : Value → World → Prop) => k134 (e96 1) w133) (fun v56n135 w136 =>
grdE v48n110 false (fun (k137 : Value → World → Prop) => k137 (e96 2) w136) (fun v57n138 w139 =>
grdE v48n110 false (fun (k140 : Value → World → Prop) => callE P 32 #[v56n135, v57n138] w139 k140 (fun c141 w142 => R (.panicked c141) w142)) (fun v58n143 w144 =>
grdE v48n110 false (fun (k145 : Value → World → Prop) => callE P 32 #[v55n132, v58n143] w144 k145 (fun c146 w147 => R (.panicked c146) w147)) (fun v59n148 w149 =>
grdE v48n110 false (fun (k150 : Value → World → Prop) => callE P 27 #[v54n129, v59n148] w149 k150 (fun c151 w152 => R (.panicked c151) w152)) (fun v60n153 w154 =>
grdE v48n110 false (fun (k155 : Value → World → Prop) => bindV (pUn P UnOp.not v60n153 w154) k155) (fun v61n156 w157 =>
pickE v48n110 (Value.bool true) v61n156 fun v62n158 =>
grdE v62n158 false (fun (k159 : Value → World → Prop) => k159 (e96 0) w157) (fun v64n160 w161 =>
grdE v62n158 false (fun (k162 : Value → World → Prop) => k162 (e96 0) w161) (fun v65n163 w164 =>
grdE v62n158 false (fun (k165 : Value → World → Prop) => callE P 32 #[v64n160, v65n163] w164 k165 (fun c166 w167 => R (.panicked c166) w167)) (fun v66n168 w169 =>
grdE v62n158 false (fun (k170 : Value → World → Prop) => k170 (e96 0) w169) (fun v67n171 w172 =>
grdE v62n158 false (fun (k173 : Value → World → Prop) => callE P 27 #[v66n168, v67n171] w172 k173 (fun c174 w175 => R (.panicked c174) w175)) (fun v68n176 w177 =>
grdE v62n158 false (fun (k178 : Value → World → Prop) => bindV (pUn P UnOp.not v68n176 w177) k178) (fun v69n179 w180 =>
pickE v62n158 (Value.bool true) v69n179 fun v70n181 =>
condE v70n181 (fun (K182 : KT) =>
K182 .ret (Env.put (Env.put (Env.put (Env.put (Env.put (Env.put (Env.put (Env.put (Env.put (Env.put (Env.put (Env.put (Env.put (Env.put (Env.put (Env.put (Env.put (Env.put (Env.put (Env.put (Env.put (Env.put (Env.put (Env.put (Env.put (Env.put (Env.put (Env.put (Env.put (Env.put (Env.put e96 41 (e96 0)) 42 (e96 1)) 43 v43n100) 44 (e96 1)) 45 (e96 0)) 46 v46n104) 47 v47n108) 48 v48n110) 49 v48n110) 50 v50n113) 51 v51n116) 52 v52n121) 53 v53n124) 54 v54n129) 55 v55n132) 56 v56n135) 57 v57n138) 58 v58n143) 59 v59n148) 60 v60n153) 61 v61n156) 62 v62n158) 63 v62n158) 64 v64n160) 65 v65n163) 66 v66n168) 67 v67n171) 68 v68n176) 69 v69n179) 70 v70n181) 6 (Value.bool false)) w180) (fun (K182 : KT) =>
K182 .normal (Env.put (Env.put (Env.put (Env.put (Env.put (Env.put (Env.put (Env.put (Env.put (Env.put (Env.put (Env.put (Env.put (Env.put (Env.put (Env.put (Env.put (Env.put (Env.put (Env.put (Env.put (Env.put (Env.put (Env.put (Env.put (Env.put (Env.put (Env.put (Env.put (Env.put e96 41 (e96 0)) 42 (e96 1)) 43 v43n100) 44 (e96 1)) 45 (e96 0)) 46 v46n104) 47 v47n108) 48 v48n110) 49 v48n110) 50 v50n113) 51 v51n116) 52 v52n121) 53 v53n124) 54 v54n129) 55 v55n132) 56 v56n135) 57 v57n138) 58 v58n143) 59 v59n148) 60 v60n153) 61 v61n156) 62 v62n158) 63 v62n158) 64 v64n160) 65 v65n163) 66 v66n168) 67 v67n171) 68 v68n176) 69 v69n179) 70 v70n181) w180) (thenK (fun e183 w184 =>
callE P 34 #[(e183 0), (e183 1)] w184 (fun v73n187 w188 =>
callE P 34 #[(e183 1), (e183 0)] w188 (fun v76n191 w192 =>
callE P 27 #[v73n187, v76n191] w192 (fun v77n195 w196 =>
bindV (pUn P UnOp.not v77n195 w196) fun v78n197 w198 =>
grdE v78n197 false (fun (k199 : Value → World → Prop) => k199 (e183 0) w198) (fun v80n200 w201 =>
grdE v78n197 false (fun (k202 : Value → World → Prop) => k202 (e183 1) w201) (fun v81n203 w204 =>
grdE v78n197 false (fun (k205 : Value → World → Prop) => callE P 34 #[v80n200, v81n203] w204 k205 (fun c206 w207 => R (.panicked c206) w207)) (fun v82n208 w209 =>
grdE v78n197 false (fun (k210 : Value → World → Prop) => k210 (e183 2) w209) (fun v83n211 w212 =>
grdE v78n197 false (fun (k213 : Value → World → Prop) => callE P 34 #[v82n208, v83n211] w212 k213 (fun c214 w215 => R (.panicked c214) w215)) (fun v84n216 w217 =>
grdE v78n197 false (fun (k218 : Value → World → Prop) => k218 (e183 0) w217) (fun v85n219 w220 =>
grdE v78n197 false (fun (k221 : Value → World → Prop) => k221 (e183 1) w220) (fun v86n222 w223 =>
grdE v78n197 false (fun (k224 : Value → World → Prop) => k224 (e183 2) w223) (fun v87n225 w226 =>
grdE v78n197 false (fun (k227 : Value → World → Prop) => callE P 34 #[v86n222, v87n225] w226 k227 (fun c228 w229 => R (.panicked c228) w229)) (fun v88n230 w231 =>
grdE v78n197 false (fun (k232 : Value → World → Prop) => callE P 34 #[v85n219, v88n230] w231 k232 (fun c233 w234 => R (.panicked c233) w234)) (fun v89n235 w236 =>
grdE v78n197 false (fun (k237 : Value → World → Prop) => callE P 27 #[v84n216, v89n235] w236 k237 (fun c238 w239 => R (.panicked c238) w239)) (fun v90n240 w241 =>
grdE v78n197 false (fun (k242 : Value → World → Prop) => bindV (pUn P UnOp.not v90n240 w241) k242) (fun v91n243 w244 =>
pickE v78n197 (Value.bool true) v91n243 fun v92n245 =>
grdE v92n245 false (fun (k246 : Value → World → Prop) => k246 (e183 0) w244) (fun v94n247 w248 =>
grdE v92n245 false (fun (k249 : Value → World → Prop) => k249 (e183 0) w248) (fun v95n250 w251 =>
grdE v92n245 false (fun (k252 : Value → World → Prop) => callE P 34 #[v94n247, v95n250] w251 k252 (fun c253 w254 => R (.panicked c253) w254)) (fun v96n255 w256 =>
grdE v92n245 false (fun (k257 : Value → World → Prop) => k257 (e183 0) w256) (fun v97n258 w259 =>
grdE v92n245 false (fun (k260 : Value → World → Prop) => callE P 27 #[v96n255, v97n258] w259 k260 (fun c261 w262 => R (.panicked c261) w262)) (fun v98n263 w264 =>
grdE v92n245 false (fun (k265 : Value → World → Prop) => bindV (pUn P UnOp.not v98n263 w264) k265) (fun v99n266 w267 =>
pickE v92n245 (Value.bool true) v99n266 fun v100n268 =>
condE v100n268 (fun (K269 : KT) =>
K269 .ret (Env.put (Env.put (Env.put (Env.put (Env.put (Env.put (Env.put (Env.put (Env.put (Env.put (Env.put (Env.put (Env.put (Env.put (Env.put (Env.put (Env.put (Env.put (Env.put (Env.put (Env.put (Env.put (Env.put (Env.put (Env.put (Env.put (Env.put (Env.put (Env.put (Env.put (Env.put e183 71 (e183 0)) 72 (e183 1)) 73 v73n187) 74 (e183 1)) 75 (e183 0)) 76 v76n191) 77 v77n195) 78 v78n197) 79 v78n197) 80 v80n200) 81 v81n203) 82 v82n208) 83 v83n211) 84 v84n216) 85 v85n219) 86 v86n222) 87 v87n225) 88 v88n230) 89 v89n235) 90 v90n240) 91 v91n243) 92 v92n245) 93 v92n245) 94 v94n247) 95 v95n250) 96 v96n255) 97 v97n258) 98 v98n263) 99 v99n266) 100 v100n268) 6 (Value.bool false)) w267) (fun (K269 : KT) =>
K269 .normal (Env.put (Env.put (Env.put (Env.put (Env.put (Env.put (Env.put (Env.put (Env.put (Env.put (Env.put (Env.put (Env.put (Env.put (Env.put (Env.put (Env.put (Env.put (Env.put (Env.put (Env.put (Env.put (Env.put (Env.put (Env.put (Env.put (Env.put (Env.put (Env.put (Env.put e183 71 (e183 0)) 72 (e183 1)) 73 v73n187) 74 (e183 1)) 75 (e183 0)) 76 v76n191) 77 v77n195) 78 v78n197) 79 v78n197) 80 v80n200) 81 v81n203) 82 v82n208) 83 v83n211) 84 v84n216) 85 v85n219) 86 v86n222) 87 v87n225) 88 v88n230) 89 v89n235) 90 v90n240) 91 v91n243) 92 v92n245) 93 v92n245) 94 v94n247) 95 v95n250) 96 v96n255) 97 v97n258) 98 v98n263) 99 v99n266) 100 v100n268) w267) (thenK (fun e270 w271 =>
callE P 36 #[(Value.int IntKind.i64 (-1))] w271 (fun v102n274 w275 =>
callE P 32 #[(e270 0), v102n274] w275 (fun v103n278 w279 =>
callE P 27 #[v103n278, (e270 0)] w279 (fun v105n282 w283 =>
grdE v105n282 true (fun (k284 : Value → World → Prop) => k284 (e270 0) w283) (fun v107n285 w286 =>
grdE v105n282 true (fun (k287 : Value → World → Prop) => callE P 37 #[] w286 k287 (fun c288 w289 => R (.panicked c288) w289)) (fun v108n290 w291 =>
grdE v105n282 true (fun (k292 : Value → World → Prop) => callE P 34 #[v107n285, v108n290] w291 k292 (fun c293 w294 => R (.panicked c293) w294)) (fun v109n295 w296 =>
grdE v105n282 true (fun (k297 : Value → World → Prop) => k297 (e270 0) w296) (fun v110n298 w299 =>
grdE v105n282 true (fun (k300 : Value → World → Prop) => callE P 27 #[v109n295, v110n298] w299 k300 (fun c301 w302 => R (.panicked c301) w302)) (fun v111n303 w304 =>
pickE v105n282 v111n303 (Value.bool false) fun v112n305 =>
R (.returned v112n305) w304) w299) w296) w291) w286) w283) (fun c280 w281 => R (.panicked c280) w281)) (fun c276 w277 => R (.panicked c276) w277)) (fun c272 w273 => R (.panicked c272) w273)) (topK P [(ResultVar.tmp 6)] R))) w264) w259) w256) w251) w248) w244) w241) w236) w231) w226) w223) w220) w217) w212) w209) w204) w201) w198) (fun c193 w194 => R (.panicked c193) w194)) (fun c189 w190 => R (.panicked c189) w190)) (fun c185 w186 => R (.panicked c185) w186)) (topK P [(ResultVar.tmp 6)] R))) w177) w172) w169) w164) w161) w157) w154) w149) w144) w139) w136) w133) w130) w125) w122) w117) w114) w111) (fun c106 w107 => R (.panicked c106) w107)) (fun c102 w103 => R (.panicked c102) w103)) (fun c98 w99 => R (.panicked c98) w99)) (topK P [(ResultVar.tmp 6)] R))) w90) w85) w80) w77) w73) w70) w65) w60) w57) w53) w50) w45) w40) w37) w34) w29) w26) w23) (fun c18 w19 => R (.panicked c18) w19)) (fun c14 w15 => R (.panicked c14) w15)) (fun c10 w11 => R (.panicked c10) w11)) (topK P [(ResultVar.tmp 6)] R))) (fun c1 w2 => R (.panicked c1) w2)
theorem F9ok {w : World} {R : Ending → World → Prop} {a0 : Value} {a1 : Value} {a2 : Value} (h : F9 a0 a1 a2 w R) : Calls P 9 #[a0, a1, a2] w R :=
  calls_of_ev bodies mixed (c := bodyOf Try.f9) (nt := 113) (rs := [(ResultVar.tmp 6)]) (args := [a0, a1, a2]) (fn := Try.f9) (by kernel_rfl) (by kernel_rfl) (by kernel_rfl) (by kernel_rfl) (by kernel_rfl) (by simp)
    (eq_mp (show F9 a0 a1 a2 w R = ev P C (bodyOf Try.f9) (argE [a0, a1, a2]) w (topK P [(ResultVar.tmp 6)] R) by kernel_rfl) h)

/-! ### moiety/moietylaw01.FloEdges -/
def F10 (w : World) (R : Ending → World → Prop) : Prop :=
callE P 19 #[] w (fun v4n3 w4 =>
bindV (pUn P UnOp.not v4n3 w4) fun v5n5 w6 =>
condE v5n5 (fun (K7 : KT) =>
K7 .ret (Env.put (Env.put (Env.put (Env.put (argE []) 0 (Value.bool false)) 4 v4n3) 5 v5n5) 0 (Value.bool false)) w6) (fun (K7 : KT) =>
K7 .normal (Env.put (Env.put (Env.put (argE []) 0 (Value.bool false)) 4 v4n3) 5 v5n5) w6) (thenK (fun e8 w9 =>
callE P 36 #[(Value.int IntKind.i64 1)] w9 (fun v6n12 w13 =>
callE P 38 #[(Value.float FloatKind.f64 0), (Value.float FloatKind.f64 13830554455654793216)] w13 (fun v7n16 w17 =>
bindV (pUn P UnOp.neg v6n12 w17) fun v10n18 w19 =>
callE P 29 #[v6n12, v10n18] w19 (fun v11n22 w23 =>
callE P 37 #[] w23 (fun v12n26 w27 =>
callE P 27 #[v11n22, v12n26] w27 (fun v13n30 w31 =>
bindV (pUn P UnOp.not v13n30 w31) fun v14n32 w33 =>
grdE v14n32 false (fun (k34 : Value → World → Prop) => k34 (Value.float FloatKind.f64 0) w33) (fun v16n35 w36 =>
grdE v14n32 false (fun (k37 : Value → World → Prop) => k37 v6n12 w36) (fun v17n38 w39 =>
grdE v14n32 false (fun (k40 : Value → World → Prop) => callE P 30 #[v16n35, v17n38] w39 k40 (fun c41 w42 => R (.panicked c41) w42)) (fun v18n43 w44 =>
grdE v14n32 false (fun (k45 : Value → World → Prop) => callE P 37 #[] w44 k45 (fun c46 w47 => R (.panicked c46) w47)) (fun v19n48 w49 =>
grdE v14n32 false (fun (k50 : Value → World → Prop) => callE P 27 #[v18n43, v19n48] w49 k50 (fun c51 w52 => R (.panicked c51) w52)) (fun v20n53 w54 =>
grdE v14n32 false (fun (k55 : Value → World → Prop) => bindV (pUn P UnOp.not v20n53 w54) k55) (fun v21n56 w57 =>
pickE v14n32 (Value.bool true) v21n56 fun v22n58 =>
grdE v22n58 false (fun (k59 : Value → World → Prop) => k59 (Value.float FloatKind.f64 0) w57) (fun v24n60 w61 =>
grdE v22n58 false (fun (k62 : Value → World → Prop) => callE P 30 #[v24n60, (Value.float FloatKind.f64 13830554455654793216)] w61 k62 (fun c63 w64 => R (.panicked c63) w64)) (fun v25n65 w66 =>
grdE v22n58 false (fun (k67 : Value → World → Prop) => k67 v7n16 w66) (fun v26n68 w69 =>
grdE v22n58 false (fun (k70 : Value → World → Prop) => callE P 27 #[v25n65, v26n68] w69 k70 (fun c71 w72 => R (.panicked c71) w72)) (fun v27n73 w74 =>
grdE v22n58 false (fun (k75 : Value → World → Prop) => bindV (pUn P UnOp.not v27n73 w74) k75) (fun v28n76 w77 =>
pickE v22n58 (Value.bool true) v28n76 fun v29n78 =>
grdE v29n78 false (fun (k79 : Value → World → Prop) => k79 v7n16 w77) (fun v31n80 w81 =>
grdE v29n78 false (fun (k82 : Value → World → Prop) => k82 v7n16 w81) (fun v32n83 w84 =>
grdE v29n78 false (fun (k85 : Value → World → Prop) => callE P 29 #[v31n80, v32n83] w84 k85 (fun c86 w87 => R (.panicked c86) w87)) (fun v33n88 w89 =>
grdE v29n78 false (fun (k90 : Value → World → Prop) => k90 v7n16 w89) (fun v34n91 w92 =>
grdE v29n78 false (fun (k93 : Value → World → Prop) => callE P 27 #[v33n88, v34n91] w92 k93 (fun c94 w95 => R (.panicked c94) w95)) (fun v35n96 w97 =>
grdE v29n78 false (fun (k98 : Value → World → Prop) => bindV (pUn P UnOp.not v35n96 w97) k98) (fun v36n99 w100 =>
pickE v29n78 (Value.bool true) v36n99 fun v37n101 =>
condE v37n101 (fun (K102 : KT) =>
K102 .ret (Env.put (Env.put (Env.put (Env.put (Env.put (Env.put (Env.put (Env.put (Env.put (Env.put (Env.put (Env.put (Env.put (Env.put (Env.put (Env.put (Env.put (Env.put (Env.put (Env.put (Env.put (Env.put (Env.put (Env.put (Env.put (Env.put (Env.put (Env.put (Env.put (Env.put (Env.put (Env.put (Env.put (Env.put (Env.put (Env.put e8 6 v6n12) 1 v6n12) 2 (Value.float FloatKind.f64 0)) 7 v7n16) 3 v7n16) 8 v6n12) 9 v6n12) 10 v10n18) 11 v11n22) 12 v12n26) 13 v13n30) 14 v14n32) 15 v14n32) 16 v16n35) 17 v17n38) 18 v18n43) 19 v19n48) 20 v20n53) 21 v21n56) 22 v22n58) 23 v22n58) 24 v24n60) 25 v25n65) 26 v26n68) 27 v27n73) 28 v28n76) 29 v29n78) 30 v29n78) 31 v31n80) 32 v32n83) 33 v33n88) 34 v34n91) 35 v35n96) 36 v36n99) 37 v37n101) 0 (Value.bool false)) w100) (fun (K102 : KT) =>
K102 .normal (Env.put (Env.put (Env.put (Env.put (Env.put (Env.put (Env.put (Env.put (Env.put (Env.put (Env.put (Env.put (Env.put (Env.put (Env.put (Env.put (Env.put (Env.put (Env.put (Env.put (Env.put (Env.put (Env.put (Env.put (Env.put (Env.put (Env.put (Env.put (Env.put (Env.put (Env.put (Env.put (Env.put (Env.put (Env.put e8 6 v6n12) 1 v6n12) 2 (Value.float FloatKind.f64 0)) 7 v7n16) 3 v7n16) 8 v6n12) 9 v6n12) 10 v10n18) 11 v11n22) 12 v12n26) 13 v13n30) 14 v14n32) 15 v14n32) 16 v16n35) 17 v17n38) 18 v18n43) 19 v19n48) 20 v20n53) 21 v21n56) 22 v22n58) 23 v22n58) 24 v24n60) 25 v25n65) 26 v26n68) 27 v27n73) 28 v28n76) 29 v29n78) 30 v29n78) 31 v31n80) 32 v32n83) 33 v33n88) 34 v34n91) 35 v35n96) 36 v36n99) 37 v37n101) w100) (thenK (fun e103 w104 =>
callE P 29 #[(e103 3), (e103 2)] w104 (fun v40n107 w108 =>
callE P 27 #[v40n107, (e103 2)] w108 (fun v42n111 w112 =>
bindV (pUn P UnOp.not v42n111 w112) fun v43n113 w114 =>
grdE v43n113 false (fun (k115 : Value → World → Prop) => callE P 29 #[(Value.float FloatKind.f64 9218868437227405311), (Value.float FloatKind.f64 9218868437227405311)] w114 k115 (fun c116 w117 => R (.panicked c116) w117)) (fun v45n118 w119 =>
grdE v43n113 false (fun (k120 : Value → World → Prop) => k120 (e103 1) w119) (fun v46n121 w122 =>
grdE v43n113 false (fun (k123 : Value → World → Prop) => callE P 27 #[v45n118, v46n121] w122 k123 (fun c124 w125 => R (.panicked c124) w125)) (fun v47n126 w127 =>
grdE v43n113 false (fun (k128 : Value → World → Prop) => bindV (pUn P UnOp.not v47n126 w127) k128) (fun v48n129 w130 =>
pickE v43n113 (Value.bool true) v48n129 fun v49n131 =>
grdE v49n131 false (fun (k132 : Value → World → Prop) => callE P 30 #[(Value.float FloatKind.f64 9218868437227405311), (Value.float FloatKind.f64 13835058055282163712)] w130 k132 (fun c133 w134 => R (.panicked c133) w134)) (fun v51n135 w136 =>
grdE v49n131 false (fun (k137 : Value → World → Prop) => k137 (e103 1) w136) (fun v52n138 w139 =>
grdE v49n131 false (fun (k140 : Value → World → Prop) => bindV (pUn P UnOp.neg v52n138 w139) k140) (fun v53n141 w142 =>
grdE v49n131 false (fun (k143 : Value → World → Prop) => callE P 27 #[v51n135, v53n141] w142 k143 (fun c144 w145 => R (.panicked c144) w145)) (fun v54n146 w147 =>
grdE v49n131 false (fun (k148 : Value → World → Prop) => bindV (pUn P UnOp.not v54n146 w147) k148) (fun v55n149 w150 =>
pickE v49n131 (Value.bool true) v55n149 fun v56n151 =>
grdE v56n151 false (fun (k152 : Value → World → Prop) => callE P 30 #[(Value.float FloatKind.f64 1), (Value.float FloatKind.f64 4598175219545276416)] w150 k152 (fun c153 w154 => R (.panicked c153) w154)) (fun v58n155 w156 =>
grdE v56n151 false (fun (k157 : Value → World → Prop) => k157 (e103 2) w156) (fun v59n158 w159 =>
grdE v56n151 false (fun (k160 : Value → World → Prop) => callE P 27 #[v58n155, v59n158] w159 k160 (fun c161 w162 => R (.panicked c161) w162)) (fun v60n163 w164 =>
grdE v56n151 false (fun (k165 : Value → World → Prop) => bindV (pUn P UnOp.not v60n163 w164) k165) (fun v61n166 w167 =>
pickE v56n151 (Value.bool true) v61n166 fun v62n168 =>
condE v62n168 (fun (K169 : KT) =>
K169 .ret (Env.put (Env.put (Env.put (Env.put (Env.put (Env.put (Env.put (Env.put (Env.put (Env.put (Env.put (Env.put (Env.put (Env.put (Env.put (Env.put (Env.put (Env.put (Env.put (Env.put (Env.put (Env.put (Env.put (Env.put (Env.put (Env.put e103 38 (e103 3)) 39 (e103 2)) 40 v40n107) 41 (e103 2)) 42 v42n111) 43 v43n113) 44 v43n113) 45 v45n118) 46 v46n121) 47 v47n126) 48 v48n129) 49 v49n131) 50 v49n131) 51 v51n135) 52 v52n138) 53 v53n141) 54 v54n146) 55 v55n149) 56 v56n151) 57 v56n151) 58 v58n155) 59 v59n158) 60 v60n163) 61 v61n166) 62 v62n168) 0 (Value.bool false)) w167) (fun (K169 : KT) =>
K169 .normal (Env.put (Env.put (Env.put (Env.put (Env.put (Env.put (Env.put (Env.put (Env.put (Env.put (Env.put (Env.put (Env.put (Env.put (Env.put (Env.put (Env.put (Env.put (Env.put (Env.put (Env.put (Env.put (Env.put (Env.put (Env.put e103 38 (e103 3)) 39 (e103 2)) 40 v40n107) 41 (e103 2)) 42 v42n111) 43 v43n113) 44 v43n113) 45 v45n118) 46 v46n121) 47 v47n126) 48 v48n129) 49 v49n131) 50 v49n131) 51 v51n135) 52 v52n138) 53 v53n141) 54 v54n146) 55 v55n149) 56 v56n151) 57 v56n151) 58 v58n155) 59 v59n158) 60 v60n163) 61 v61n166) 62 v62n168) w167) (thenK (fun e170 w171 =>
callE P 26 #[(e170 3), (e170 2)] w171 (fun v65n174 w175 =>
grdE v65n174 true (fun (k176 : Value → World → Prop) => k176 (e170 3) w175) (fun v67n177 w178 =>
grdE v65n174 true (fun (k179 : Value → World → Prop) => callE P 31 #[v67n177] w178 k179 (fun c180 w181 => R (.panicked c180) w181)) (fun v68n182 w183 =>
grdE v65n174 true (fun (k184 : Value → World → Prop) => k184 (e170 2) w183) (fun v69n185 w186 =>
grdE v65n174 true (fun (k187 : Value → World → Prop) => callE P 27 #[v68n182, v69n185] w186 k187 (fun c188 w189 => R (.panicked c188) w189)) (fun v70n190 w191 =>
pickE v65n174 v70n190 (Value.bool false) fun v71n192 =>
grdE v71n192 true (fun (k193 : Value → World → Prop) => k193 (e170 1) w191) (fun v73n194 w195 =>
grdE v71n192 true (fun (k196 : Value → World → Prop) => callE P 31 #[v73n194] w195 k196 (fun c197 w198 => R (.panicked c197) w198)) (fun v74n199 w200 =>
grdE v71n192 true (fun (k201 : Value → World → Prop) => callE P 37 #[] w200 k201 (fun c202 w203 => R (.panicked c202) w203)) (fun v75n204 w205 =>
grdE v71n192 true (fun (k206 : Value → World → Prop) => callE P 27 #[v74n199, v75n204] w205 k206 (fun c207 w208 => R (.panicked c207) w208)) (fun v76n209 w210 =>
pickE v71n192 v76n209 (Value.bool false) fun v77n211 =>
grdE v77n211 true (fun (k212 : Value → World → Prop) => callE P 31 #[(Value.float FloatKind.f64 9218868437227405311)] w210 k212 (fun c213 w214 => R (.panicked c213) w214)) (fun v79n215 w216 =>
grdE v77n211 true (fun (k217 : Value → World → Prop) => k217 (e170 1) w216) (fun v80n218 w219 =>
grdE v77n211 true (fun (k220 : Value → World → Prop) => callE P 27 #[v79n215, v80n218] w219 k220 (fun c221 w222 => R (.panicked c221) w222)) (fun v81n223 w224 =>
pickE v77n211 v81n223 (Value.bool false) fun v82n225 =>
grdE v82n225 true (fun (k226 : Value → World → Prop) => k226 (e170 1) w224) (fun v84n227 w228 =>
grdE v82n225 true (fun (k229 : Value → World → Prop) => bindV (pUn P UnOp.neg v84n227 w228) k229) (fun v85n230 w231 =>
grdE v82n225 true (fun (k232 : Value → World → Prop) => callE P 31 #[v85n230] w231 k232 (fun c233 w234 => R (.panicked c233) w234)) (fun v86n235 w236 =>
grdE v82n225 true (fun (k237 : Value → World → Prop) => callE P 27 #[v86n235, (Value.float FloatKind.f64 18442240474082181119)] w236 k237 (fun c238 w239 => R (.panicked c238) w239)) (fun v87n240 w241 =>
pickE v82n225 v87n240 (Value.bool false) fun v88n242 =>
grdE v88n242 true (fun (k243 : Value → World → Prop) => k243 (e170 3) w241) (fun v90n244 w245 =>
grdE v88n242 true (fun (k246 : Value → World → Prop) => k246 (e170 2) w245) (fun v91n247 w248 =>
grdE v88n242 true (fun (k249 : Value → World → Prop) => callE P 32 #[v90n244, v91n247] w248 k249 (fun c250 w251 => R (.panicked c250) w251)) (fun v92n252 w253 =>
grdE v88n242 true (fun (k254 : Value → World → Prop) => k254 (e170 2) w253) (fun v93n255 w256 =>
grdE v88n242 true (fun (k257 : Value → World → Prop) => callE P 27 #[v92n252, v93n255] w256 k257 (fun c258 w259 => R (.panicked c258) w259)) (fun v94n260 w261 =>
pickE v88n242 v94n260 (Value.bool false) fun v95n262 =>
grdE v95n262 true (fun (k263 : Value → World → Prop) => k263 (e170 2) w261) (fun v97n264 w265 =>
grdE v95n262 true (fun (k266 : Value → World → Prop) => k266 (e170 3) w265) (fun v98n267 w268 =>
grdE v95n262 true (fun (k269 : Value → World → Prop) => callE P 34 #[v97n264, v98n267] w268 k269 (fun c270 w271 => R (.panicked c270) w271)) (fun v99n272 w273 =>
grdE v95n262 true (fun (k274 : Value → World → Prop) => k274 (e170 3) w273) (fun v100n275 w276 =>
grdE v95n262 true (fun (k277 : Value → World → Prop) => callE P 27 #[v99n272, v100n275] w276 k277 (fun c278 w279 => R (.panicked c278) w279)) (fun v101n280 w281 =>
pickE v95n262 v101n280 (Value.bool false) fun v102n282 =>
R (.returned v102n282) w281) w276) w273) w268) w265) w261) w256) w253) w248) w245) w241) w236) w231) w228) w224) w219) w216) w210) w205) w200) w195) w191) w186) w183) w178) w175) (fun c172 w173 => R (.panicked c172) w173)) (topK P [(ResultVar.tmp 0)] R))) w164) w159) w156) w150) w147) w142) w139) w136) w130) w127) w122) w119) w114) (fun c109 w110 => R (.panicked c109) w110)) (fun c105 w106 => R (.panicked c105) w106)) (topK P [(ResultVar.tmp 0)] R))) w97) w92) w89) w84) w81) w77) w74) w69) w66) w61) w57) w54) w49) w44) w39) w36) w33) (fun c28 w29 => R (.panicked c28) w29)) (fun c24 w25 => R (.panicked c24) w25)) (fun c20 w21 => R (.panicked c20) w21)) (fun c14 w15 => R (.panicked c14) w15)) (fun c10 w11 => R (.panicked c10) w11)) (topK P [(ResultVar.tmp 0)] R))) (fun c1 w2 => R (.panicked c1) w2)
theorem F10ok {w : World} {R : Ending → World → Prop} (h : F10  w R) : Calls P 10 #[] w R :=
  calls_of_ev bodies mixed (c := bodyOf Try.f10) (nt := 103) (rs := [(ResultVar.tmp 0)]) (args := []) (fn := Try.f10) (by kernel_rfl) (by kernel_rfl) (by kernel_rfl) (by kernel_rfl) (by kernel_rfl) (by simp)
    (eq_mp (show F10  w R = ev P C (bodyOf Try.f10) (argE []) w (topK P [(ResultVar.tmp 0)] R) by kernel_rfl) h)

/-! ### moiety/moietylaw01.speaks -/
def F19 (w : World) (R : Ending → World → Prop) : Prop :=
callE P 28 #[(Value.int IntKind.u64 9223372036854775807)] w (fun v7n3 w4 =>
bindV (pExtract P v7n3 0 w4) fun v8n5 w6 =>
bindV (pExtract P v7n3 1 w6) fun v9n7 w8 =>
callE P 28 #[(Value.int IntKind.u64 18446744073709551615)] w8 (fun v11n11 w12 =>
bindV (pExtract P v11n11 0 w12) fun v12n13 w14 =>
bindV (pExtract P v11n11 1 w14) fun v13n15 w16 =>
callE P 23 #[(Value.float FloatKind.f64 0)] w16 (fun v15n19 w20 =>
bindV (pBin P BinOp.eql 25 true v15n19 (Value.int IntKind.u64 9223372036854775808) w20) fun v16n21 w22 =>
grdE v16n21 true (fun (k23 : Value → World → Prop) => callE P 23 #[(Value.float FloatKind.f64 4607182418800017408)] w22 k23 (fun c24 w25 => R (.panicked c24) w25)) (fun v18n26 w27 =>
grdE v16n21 true (fun (k28 : Value → World → Prop) => bindV (pBin P BinOp.eql 25 true v18n26 (Value.int IntKind.u64 13830554455654793216) w27) k28) (fun v19n29 w30 =>
pickE v16n21 v19n29 (Value.bool false) fun v20n31 =>
grdE v20n31 true (fun (k32 : Value → World → Prop) => k32 v9n7 w30) (fun v22n33 w34 =>
pickE v20n31 v22n33 (Value.bool false) fun v23n35 =>
grdE v23n35 true (fun (k36 : Value → World → Prop) => k36 v8n5 w34) (fun v25n37 w38 =>
grdE v23n35 true (fun (k39 : Value → World → Prop) => bindV (pBin P BinOp.eql 22 true v25n37 (Value.float FloatKind.f64 0) w38) k39) (fun v26n40 w41 =>
pickE v23n35 v26n40 (Value.bool false) fun v27n42 =>
grdE v27n42 true (fun (k43 : Value → World → Prop) => k43 v8n5 w41) (fun v29n44 w45 =>
grdE v27n42 true (fun (k46 : Value → World → Prop) => callE P 57 #[v29n44] w45 k46 (fun c47 w48 => R (.panicked c47) w48)) (fun v30n49 w50 =>
pickE v27n42 v30n49 (Value.bool false) fun v31n51 =>
grdE v31n51 true (fun (k52 : Value → World → Prop) => k52 v13n15 w50) (fun v33n53 w54 =>
grdE v31n51 true (fun (k55 : Value → World → Prop) => bindV (pUn P UnOp.not v33n53 w54) k55) (fun v34n56 w57 =>
pickE v31n51 v34n56 (Value.bool false) fun v35n58 =>
grdE v35n58 true (fun (k59 : Value → World → Prop) => k59 (Value.float FloatKind.f64 0) w57) (fun v37n60 w61 =>
grdE v35n58 true (fun (k62 : Value → World → Prop) => callE P 26 #[(Value.float FloatKind.f64 13830554455654793216), v37n60] w61 k62 (fun c63 w64 => R (.panicked c63) w64)) (fun v38n65 w66 =>
pickE v35n58 v38n65 (Value.bool false) fun v39n67 =>
grdE v39n67 true (fun (k68 : Value → World → Prop) => callE P 32 #[(Value.float FloatKind.f64 4611686018427387904), (Value.float FloatKind.f64 4613937818241073152)] w66 k68 (fun c69 w70 => R (.panicked c69) w70)) (fun v41n71 w72 =>
grdE v39n67 true (fun (k73 : Value → World → Prop) => bindV (pBin P BinOp.eql 22 true v41n71 (Value.float FloatKind.f64 4613937818241073152) w72) k73) (fun v42n74 w75 =>
pickE v39n67 v42n74 (Value.bool false) fun v43n76 =>
grdE v43n76 true (fun (k77 : Value → World → Prop) => callE P 34 #[(Value.float FloatKind.f64 4611686018427387904), (Value.float FloatKind.f64 4613937818241073152)] w75 k77 (fun c78 w79 => R (.panicked c78) w79)) (fun v45n80 w81 =>
grdE v43n76 true (fun (k82 : Value → World → Prop) => bindV (pBin P BinOp.eql 22 true v45n80 (Value.float FloatKind.f64 4611686018427387904) w81) k82) (fun v46n83 w84 =>
pickE v43n76 v46n83 (Value.bool false) fun v47n85 =>
grdE v47n85 true (fun (k86 : Value → World → Prop) => callE P 29 #[(Value.float FloatKind.f64 4611686018427387904), (Value.float FloatKind.f64 4613937818241073152)] w84 k86 (fun c87 w88 => R (.panicked c87) w88)) (fun v49n89 w90 =>
grdE v47n85 true (fun (k91 : Value → World → Prop) => bindV (pBin P BinOp.eql 22 true v49n89 (Value.float FloatKind.f64 4617315517961601024) w90) k91) (fun v50n92 w93 =>
pickE v47n85 v50n92 (Value.bool false) fun v51n94 =>
grdE v51n94 true (fun (k95 : Value → World → Prop) => callE P 30 #[(Value.float FloatKind.f64 4611686018427387904), (Value.float FloatKind.f64 4613937818241073152)] w93 k95 (fun c96 w97 => R (.panicked c96) w97)) (fun v53n98 w99 =>
grdE v51n94 true (fun (k100 : Value → World → Prop) => bindV (pBin P BinOp.eql 22 true v53n98 (Value.float FloatKind.f64 4618441417868443648) w99) k100) (fun v54n101 w102 =>
pickE v51n94 v54n101 (Value.bool false) fun v55n103 =>
grdE v55n103 true (fun (k104 : Value → World → Prop) => callE P 22 #[(Value.float FloatKind.f64 4619567317775286272)] w102 k104 (fun c105 w106 => R (.panicked c105) w106)) (fun v57n107 w108 =>
pickE v55n103 v57n107 (Value.bool false) fun v58n109 =>
grdE v58n109 true (fun (k110 : Value → World → Prop) => k110 (Value.float FloatKind.f64 0) w108) (fun v60n111 w112 =>
grdE v58n109 true (fun (k113 : Value → World → Prop) => callE P 31 #[v60n111] w112 k113 (fun c114 w115 => R (.panicked c114) w115)) (fun v61n116 w117 =>
grdE v58n109 true (fun (k118 : Value → World → Prop) => callE P 27 #[v61n116, (Value.float FloatKind.f64 1)] w117 k118 (fun c119 w120 => R (.panicked c119) w120)) (fun v62n121 w122 =>
pickE v58n109 v62n121 (Value.bool false) fun v63n123 =>
R (.returned v63n123) w122) w117) w112) w108) w102) w99) w93) w90) w84) w81) w75) w72) w66) w61) w57) w54) w50) w45) w41) w38) w34) w30) w27) w22) (fun c17 w18 => R (.panicked c17) w18)) (fun c9 w10 => R (.panicked c9) w10)) (fun c1 w2 => R (.panicked c1) w2)
theorem F19ok {w : World} {R : Ending → World → Prop} (h : F19  w R) : Calls P 19 #[] w R :=
  calls_of_ev bodies mixed (c := bodyOf Try.f19) (nt := 64) (rs := [(ResultVar.tmp 0)]) (args := []) (fn := Try.f19) (by kernel_rfl) (by kernel_rfl) (by kernel_rfl) (by kernel_rfl) (by kernel_rfl) (by simp)
    (eq_mp (show F19  w R = ev P C (bodyOf Try.f19) (argE []) w (topK P [(ResultVar.tmp 0)] R) by kernel_rfl) h)

/-! ### moiety/flo.Canon -/
def F20 (a0 : Value) (w : World) (R : Ending → World → Prop) : Prop :=
bindV (pBin P BinOp.neq 22 false a0 a0 w) fun v5n1 w2 =>
condE v5n1 (fun (K3 : KT) =>
callE P 37 #[] w2 (fun v6n6 w7 =>
K3 .ret (Env.put (Env.put (Env.put (Env.put (Env.put (Env.put (argE [a0]) 2 (Value.float FloatKind.f64 0)) 3 a0) 4 a0) 5 v5n1) 6 v6n6) 2 v6n6) w7) (fun c4 w5 => K3 (.panic c4) (Env.put (Env.put (Env.put (Env.put (argE [a0]) 2 (Value.float FloatKind.f64 0)) 3 a0) 4 a0) 5 v5n1) w5)) (fun (K3 : KT) =>
K3 .normal (Env.put (Env.put (Env.put (Env.put (argE [a0]) 2 (Value.float FloatKind.f64 0)) 3 a0) 4 a0) 5 v5n1) w2) (thenK (fun e8 w9 =>
R (.returned (e8 0)) w9) (topK P [(ResultVar.tmp 2)] R))
theorem F20ok {w : World} {R : Ending → World → Prop} {a0 : Value} (h : F20 a0 w R) : Calls P 20 #[a0] w R :=
  calls_of_ev bodies mixed (c := bodyOf Try.f20) (nt := 8) (rs := [(ResultVar.tmp 2)]) (args := [a0]) (fn := Try.f20) (by kernel_rfl) (by kernel_rfl) (by kernel_rfl) (by kernel_rfl) (by kernel_rfl) (by simp)
    (eq_mp (show F20 a0 w R = ev P C (bodyOf Try.f20) (argE [a0]) w (topK P [(ResultVar.tmp 2)] R) by kernel_rfl) h)

/-! ### moiety/flo.Proper -/
def F22 (a0 : Value) (w : World) (R : Ending → World → Prop) : Prop :=
bindV (pExtern P 21 [a0] w) fun v4n1 w2 =>
callE P 20 #[a0] w2 (fun v6n5 w6 =>
bindV (pExtern P 21 [v6n5] w6) fun v7n7 w8 =>
bindV (pBin P BinOp.eql 25 false v4n1 v7n7 w8) fun v8n9 w10 =>
R (.returned v8n9) w10) (fun c3 w4 => R (.panicked c3) w4)
theorem F22ok {w : World} {R : Ending → World → Prop} {a0 : Value} (h : F22 a0 w R) : Calls P 22 #[a0] w R :=
  calls_of_ev bodies mixed (c := bodyOf Try.f22) (nt := 9) (rs := [(ResultVar.tmp 2)]) (args := [a0]) (fn := Try.f22) (by kernel_rfl) (by kernel_rfl) (by kernel_rfl) (by kernel_rfl) (by kernel_rfl) (by simp)
    (eq_mp (show F22 a0 w R = ev P C (bodyOf Try.f22) (argE [a0]) w (topK P [(ResultVar.tmp 2)] R) by kernel_rfl) h)

/-! ### moiety/flo.Key -/
def F23 (a0 : Value) (w : World) (R : Ending → World → Prop) : Prop :=
callE P 20 #[a0] w (fun v5n3 w4 =>
bindV (pExtern P 21 [v5n3] w4) fun v6n5 w6 =>
bindV (pBin P BinOp.and 25 true v6n5 (Value.int IntKind.u64 9223372036854775808) w6) fun v8n7 w8 =>
bindV (pBin P BinOp.neq 25 true v8n7 (Value.int IntKind.u64 0) w8) fun v9n9 w10 =>
condE v9n9 (fun (K11 : KT) =>
bindV (pUn P UnOp.xor v6n5 w10) fun v11n12 w13 =>
K11 .ret (Env.put (Env.put (Env.put (Env.put (Env.put (Env.put (Env.put (Env.put (Env.put (Env.put (Env.put (argE [a0]) 2 (Value.int IntKind.u64 0)) 4 a0) 5 v5n3) 6 v6n5) 3 v6n5) 7 v6n5) 8 v8n7) 9 v9n9) 10 v6n5) 11 v11n12) 2 v11n12) w13) (fun (K11 : KT) =>
K11 .normal (Env.put (Env.put (Env.put (Env.put (Env.put (Env.put (Env.put (Env.put (argE [a0]) 2 (Value.int IntKind.u64 0)) 4 a0) 5 v5n3) 6 v6n5) 3 v6n5) 7 v6n5) 8 v8n7) 9 v9n9) w10) (thenK (fun e14 w15 =>
bindV (pBin P BinOp.or 25 true (e14 3) (Value.int IntKind.u64 9223372036854775808) w15) fun v13n16 w17 =>
R (.returned v13n16) w17) (topK P [(ResultVar.tmp 2)] R))) (fun c1 w2 => R (.panicked c1) w2)
theorem F23ok {w : World} {R : Ending → World → Prop} {a0 : Value} (h : F23 a0 w R) : Calls P 23 #[a0] w R :=
  calls_of_ev bodies mixed (c := bodyOf Try.f23) (nt := 14) (rs := [(ResultVar.tmp 2)]) (args := [a0]) (fn := Try.f23) (by kernel_rfl) (by kernel_rfl) (by kernel_rfl) (by kernel_rfl) (by kernel_rfl) (by simp)
    (eq_mp (show F23 a0 w R = ev P C (bodyOf Try.f23) (argE [a0]) w (topK P [(ResultVar.tmp 2)] R) by kernel_rfl) h)

/-! ### moiety/moietyref01.Less -/
def F24 (a0 : Value) (a1 : Value) (w : World) (R : Ending → World → Prop) : Prop :=
callE P 58 #[a0] w (fun v6n3 w4 =>
condE v6n3 (fun (K5 : KT) =>
K5 .ret (Env.put (Env.put (Env.put (Env.put (argE [a0, a1]) 4 (Value.bool false)) 5 a0) 6 v6n3) 4 (Value.bool false)) w4) (fun (K5 : KT) =>
K5 .normal (Env.put (Env.put (Env.put (argE [a0, a1]) 4 (Value.bool false)) 5 a0) 6 v6n3) w4) (thenK (fun e6 w7 =>
callE P 58 #[(e6 1)] w7 (fun v8n10 w11 =>
condE v8n10 (fun (K12 : KT) =>
K12 .ret (Env.put (Env.put (Env.put e6 7 (e6 1)) 8 v8n10) 4 (Value.bool true)) w11) (fun (K12 : KT) =>
K12 .normal (Env.put (Env.put e6 7 (e6 1)) 8 v8n10) w11) (thenK (fun e13 w14 =>
bindV (pBin P BinOp.eql 22 true (e13 0) (Value.float FloatKind.f64 0) w14) fun v10n15 w16 =>
grdE v10n15 true (fun (k17 : Value → World → Prop) => k17 (e13 1) w16) (fun v12n18 w19 =>
grdE v10n15 true (fun (k20 : Value → World → Prop) => bindV (pBin P BinOp.eql 22 true v12n18 (Value.float FloatKind.f64 0) w19) k20) (fun v13n21 w22 =>
pickE v10n15 v13n21 (Value.bool false) fun v14n23 =>
condE v14n23 (fun (K24 : KT) =>
callE P 59 #[(e13 0)] w22 (fun v16n27 w28 =>
grdE v16n27 true (fun (k29 : Value → World → Prop) => k29 (e13 1) w28) (fun v18n30 w31 =>
grdE v16n27 true (fun (k32 : Value → World → Prop) => callE P 59 #[v18n30] w31 k32 (fun c33 w34 => K24 (.panic c33) (Env.put (Env.put (Env.put (Env.put (Env.put (Env.put (Env.put (Env.put (Env.put (Env.put e13 9 (e13 0)) 10 v10n15) 11 v10n15) 12 v12n18) 13 v13n21) 14 v14n23) 15 (e13 0)) 16 v16n27) 17 v16n27) 18 v18n30) w34)) (fun v19n35 w36 =>
grdE v16n27 true (fun (k37 : Value → World → Prop) => bindV (pUn P UnOp.not v19n35 w36) k37) (fun v20n38 w39 =>
pickE v16n27 v20n38 (Value.bool false) fun v21n40 =>
K24 .ret (Env.put (Env.put (Env.put (Env.put (Env.put (Env.put (Env.put (Env.put (Env.put (Env.put (Env.put (Env.put (Env.put (Env.put e13 9 (e13 0)) 10 v10n15) 11 v10n15) 12 v12n18) 13 v13n21) 14 v14n23) 15 (e13 0)) 16 v16n27) 17 v16n27) 18 v18n30) 19 v19n35) 20 v20n38) 21 v21n40) 4 v21n40) w39) w36) w31) w28) (fun c25 w26 => K24 (.panic c25) (Env.put (Env.put (Env.put (Env.put (Env.put (Env.put (Env.put e13 9 (e13 0)) 10 v10n15) 11 v10n15) 12 v12n18) 13 v13n21) 14 v14n23) 15 (e13 0)) w26)) (fun (K24 : KT) =>
K24 .normal (Env.put (Env.put (Env.put (Env.put (Env.put (Env.put e13 9 (e13 0)) 10 v10n15) 11 v10n15) 12 v12n18) 13 v13n21) 14 v14n23) w22) (thenK (fun e41 w42 =>
bindV (pBin P BinOp.lss 22 false (e41 0) (e41 1) w42) fun v24n43 w44 =>
R (.returned v24n43) w44) (topK P [(ResultVar.tmp 4)] R))) w19) w16) (topK P [(ResultVar.tmp 4)] R))) (fun c8 w9 => R (.panicked c8) w9)) (topK P [(ResultVar.tmp 4)] R))) (fun c1 w2 => R (.panicked c1) w2)
theorem F24ok {w : World} {R : Ending → World → Prop} {a0 : Value} {a1 : Value} (h : F24 a0 a1 w R) : Calls P 24 #[a0, a1] w R :=
  calls_of_ev bodies mixed (c := bodyOf Try.f24) (nt := 25) (rs := [(ResultVar.tmp 4)]) (args := [a0, a1]) (fn := Try.f24) (by kernel_rfl) (by kernel_rfl) (by kernel_rfl) (by kernel_rfl) (by kernel_rfl) (by simp)
    (eq_mp (show F24 a0 a1 w R = ev P C (bodyOf Try.f24) (argE [a0, a1]) w (topK P [(ResultVar.tmp 4)] R) by kernel_rfl) h)

/-! ### moiety/moietyref01.Same -/
def F25 (a0 : Value) (a1 : Value) (w : World) (R : Ending → World → Prop) : Prop :=
callE P 24 #[a0, a1] w (fun v7n3 w4 =>
bindV (pUn P UnOp.not v7n3 w4) fun v8n5 w6 =>
grdE v8n5 true (fun (k7 : Value → World → Prop) => k7 a1 w6) (fun v10n8 w9 =>
grdE v8n5 true (fun (k10 : Value → World → Prop) => k10 a0 w9) (fun v11n11 w12 =>
grdE v8n5 true (fun (k13 : Value → World → Prop) => callE P 24 #[v10n8, v11n11] w12 k13 (fun c14 w15 => R (.panicked c14) w15)) (fun v12n16 w17 =>
grdE v8n5 true (fun (k18 : Value → World → Prop) => bindV (pUn P UnOp.not v12n16 w17) k18) (fun v13n19 w20 =>
pickE v8n5 v13n19 (Value.bool false) fun v14n21 =>
R (.returned v14n21) w20) w17) w12) w9) w6) (fun c1 w2 => R (.panicked c1) w2)
theorem F25ok {w : World} {R : Ending → World → Prop} {a0 : Value} {a1 : Value} (h : F25 a0 a1 w R) : Calls P 25 #[a0, a1] w R :=
  calls_of_ev bodies mixed (c := bodyOf Try.f25) (nt := 15) (rs := [(ResultVar.tmp 4)]) (args := [a0, a1]) (fn := Try.f25) (by kernel_rfl) (by kernel_rfl) (by kernel_rfl) (by kernel_rfl) (by kernel_rfl) (by simp)
    (eq_mp (show F25 a0 a1 w R = ev P C (bodyOf Try.f25) (argE [a0, a1]) w (topK P [(ResultVar.tmp 4)] R) by kernel_rfl) h)

/-! ### moiety/flo.Less -/
def F26 (a0 : Value) (a1 : Value) (w : World) (R : Ending → World → Prop) : Prop :=
callE P 23 #[a0] w (fun v6n3 w4 =>
callE P 23 #[a1] w4 (fun v8n7 w8 =>
bindV (pBin P BinOp.lss 25 false v6n3 v8n7 w8) fun v9n9 w10 =>
R (.returned v9n9) w10) (fun c5 w6 => R (.panicked c5) w6)) (fun c1 w2 => R (.panicked c1) w2)
theorem F26ok {w : World} {R : Ending → World → Prop} {a0 : Value} {a1 : Value} (h : F26 a0 a1 w R) : Calls P 26 #[a0, a1] w R :=
  calls_of_ev bodies mixed (c := bodyOf Try.f26) (nt := 10) (rs := [(ResultVar.tmp 4)]) (args := [a0, a1]) (fn := Try.f26) (by kernel_rfl) (by kernel_rfl) (by kernel_rfl) (by kernel_rfl) (by kernel_rfl) (by simp)
    (eq_mp (show F26 a0 a1 w R = ev P C (bodyOf Try.f26) (argE [a0, a1]) w (topK P [(ResultVar.tmp 4)] R) by kernel_rfl) h)

/-! ### moiety/flo.Same -/
def F27 (a0 : Value) (a1 : Value) (w : World) (R : Ending → World → Prop) : Prop :=
callE P 23 #[a0] w (fun v6n3 w4 =>
callE P 23 #[a1] w4 (fun v8n7 w8 =>
bindV (pBin P BinOp.eql 25 false v6n3 v8n7 w8) fun v9n9 w10 =>
R (.returned v9n9) w10) (fun c5 w6 => R (.panicked c5) w6)) (fun c1 w2 => R (.panicked c1) w2)
theorem F27ok {w : World} {R : Ending → World → Prop} {a0 : Value} {a1 : Value} (h : F27 a0 a1 w R) : Calls P 27 #[a0, a1] w R :=
  calls_of_ev bodies mixed (c := bodyOf Try.f27) (nt := 10) (rs := [(ResultVar.tmp 4)]) (args := [a0, a1]) (fn := Try.f27) (by kernel_rfl) (by kernel_rfl) (by kernel_rfl) (by kernel_rfl) (by kernel_rfl) (by simp)
    (eq_mp (show F27 a0 a1 w R = ev P C (bodyOf Try.f27) (argE [a0, a1]) w (topK P [(ResultVar.tmp 4)] R) by kernel_rfl) h)

/-! ### moiety/flo.Back -/
def F28 (a0 : Value) (w : World) (R : Ending → World → Prop) : Prop :=
bindV (pUn P UnOp.xor a0 w) fun v7n1 w2 =>
bindV (pBin P BinOp.and 25 true a0 (Value.int IntKind.u64 9223372036854775808) w2) fun v9n3 w4 =>
bindV (pBin P BinOp.neq 25 true v9n3 (Value.int IntKind.u64 0) w4) fun v10n5 w6 =>
condE v10n5 (fun (K7 : KT) =>
bindV (pBin P BinOp.andNot 25 true a0 (Value.int IntKind.u64 9223372036854775808) w6) fun v12n8 w9 =>
K7 .normal (Env.put (Env.put (Env.put (Env.put (Env.put (Env.put (Env.put (Env.put (Env.put (Env.put (Env.put (argE [a0]) 2 (Value.float FloatKind.f64 0)) 3 (Value.bool false)) 6 a0) 7 v7n1) 4 v7n1) 8 a0) 9 v9n3) 10 v10n5) 11 a0) 12 v12n8) 4 v12n8) w9) (fun (K7 : KT) =>
K7 .normal (Env.put (Env.put (Env.put (Env.put (Env.put (Env.put (Env.put (Env.put (argE [a0]) 2 (Value.float FloatKind.f64 0)) 3 (Value.bool false)) 6 a0) 7 v7n1) 4 v7n1) 8 a0) 9 v9n3) 10 v10n5) w6) (thenK (fun e10 w11 =>
bindV (pExtern P 60 [(e10 4)] w11) fun v14n12 w13 =>
callE P 23 #[v14n12] w13 (fun v16n16 w17 =>
bindV (pBin P BinOp.neq 25 false v16n16 (e10 0) w17) fun v18n18 w19 =>
condE v18n18 (fun (K20 : KT) =>
K20 .ret (Env.put (Env.put (Env.put (Env.put (Env.put (Env.put (Env.put (Env.put (Env.put e10 13 (e10 4)) 14 v14n12) 5 v14n12) 15 v14n12) 16 v16n16) 17 (e10 0)) 18 v18n18) 2 (Value.float FloatKind.f64 0)) 3 (Value.bool false)) w19) (fun (K20 : KT) =>
K20 .normal (Env.put (Env.put (Env.put (Env.put (Env.put (Env.put (Env.put e10 13 (e10 4)) 14 v14n12) 5 v14n12) 15 v14n12) 16 v16n16) 17 (e10 0)) 18 v18n18) w19) (thenK (fun e21 w22 =>
R (.returned (.tuple #[(e21 5), (Value.bool true)])) w22) (topK P [(ResultVar.tmp 2), (ResultVar.tmp 3)] R))) (fun c14 w15 => R (.panicked c14) w15)) (topK P [(ResultVar.tmp 2), (ResultVar.tmp 3)] R))
theorem F28ok {w : World} {R : Ending → World → Prop} {a0 : Value} (h : F28 a0 w R) : Calls P 28 #[a0] w R :=
  calls_of_ev bodies mixed (c := bodyOf Try.f28) (nt := 20) (rs := [(ResultVar.tmp 2), (ResultVar.tmp 3)]) (args := [a0]) (fn := Try.f28) (by kernel_rfl) (by kernel_rfl) (by kernel_rfl) (by kernel_rfl) (by kernel_rfl) (by simp)
    (eq_mp (show F28 a0 w R = ev P C (bodyOf Try.f28) (argE [a0]) w (topK P [(ResultVar.tmp 2), (ResultVar.tmp 3)] R) by kernel_rfl) h)

/-! ### moiety/flo.Plus -/
def F29 (a0 : Value) (a1 : Value) (w : World) (R : Ending → World → Prop) : Prop :=
bindV (pBin P BinOp.add 22 false a0 a1 w) fun v7n1 w2 =>
callE P 20 #[v7n1] w2 (fun v8n5 w6 =>
R (.returned v8n5) w6) (fun c3 w4 => R (.panicked c3) w4)
theorem F29ok {w : World} {R : Ending → World → Prop} {a0 : Value} {a1 : Value} (h : F29 a0 a1 w R) : Calls P 29 #[a0, a1] w R :=
  calls_of_ev bodies mixed (c := bodyOf Try.f29) (nt := 9) (rs := [(ResultVar.tmp 4)]) (args := [a0, a1]) (fn := Try.f29) (by kernel_rfl) (by kernel_rfl) (by kernel_rfl) (by kernel_rfl) (by kernel_rfl) (by simp)
    (eq_mp (show F29 a0 a1 w R = ev P C (bodyOf Try.f29) (argE [a0, a1]) w (topK P [(ResultVar.tmp 4)] R) by kernel_rfl) h)

/-! ### moiety/flo.Times -/
def F30 (a0 : Value) (a1 : Value) (w : World) (R : Ending → World → Prop) : Prop :=
bindV (pBin P BinOp.mul 22 false a0 a1 w) fun v7n1 w2 =>
callE P 20 #[v7n1] w2 (fun v8n5 w6 =>
R (.returned v8n5) w6) (fun c3 w4 => R (.panicked c3) w4)
theorem F30ok {w : World} {R : Ending → World → Prop} {a0 : Value} {a1 : Value} (h : F30 a0 a1 w R) : Calls P 30 #[a0, a1] w R :=
  calls_of_ev bodies mixed (c := bodyOf Try.f30) (nt := 9) (rs := [(ResultVar.tmp 4)]) (args := [a0, a1]) (fn := Try.f30) (by kernel_rfl) (by kernel_rfl) (by kernel_rfl) (by kernel_rfl) (by kernel_rfl) (by simp)
    (eq_mp (show F30 a0 a1 w R = ev P C (bodyOf Try.f30) (argE [a0, a1]) w (topK P [(ResultVar.tmp 4)] R) by kernel_rfl) h)

/-! ### moiety/flo.Above -/
def F31 (a0 : Value) (w : World) (R : Ending → World → Prop) : Prop :=
bindV (pBin P BinOp.neq 22 false a0 a0 w) fun v7n1 w2 =>
condE v7n1 (fun (K3 : KT) =>
callE P 20 #[a0] w2 (fun v9n6 w7 =>
K3 .ret (Env.put (Env.put (Env.put (Env.put (Env.put (Env.put (Env.put (argE [a0]) 2 (Value.float FloatKind.f64 0)) 5 a0) 6 a0) 7 v7n1) 8 a0) 9 v9n6) 2 v9n6) w7) (fun c4 w5 => K3 (.panic c4) (Env.put (Env.put (Env.put (Env.put (Env.put (argE [a0]) 2 (Value.float FloatKind.f64 0)) 5 a0) 6 a0) 7 v7n1) 8 a0) w5)) (fun (K3 : KT) =>
K3 .normal (Env.put (Env.put (Env.put (Env.put (argE [a0]) 2 (Value.float FloatKind.f64 0)) 5 a0) 6 a0) 7 v7n1) w2) (thenK (fun e8 w9 =>
callE P 23 #[(e8 0)] w9 (fun v12n12 w13 =>
bindV (pBin P BinOp.add 25 true v12n12 (Value.int IntKind.u64 1) w13) fun v13n14 w15 =>
callE P 28 #[v13n14] w15 (fun v14n18 w19 =>
bindV (pExtract P v14n18 0 w19) fun v15n20 w21 =>
bindV (pExtract P v14n18 1 w21) fun v16n22 w23 =>
condE v16n22 (fun (K24 : KT) =>
K24 .ret (Env.put (Env.put (Env.put (Env.put (Env.put (Env.put (Env.put (Env.put (Env.put (Env.put (Env.put (Env.put e8 11 (e8 0)) 12 v12n12) 13 v13n14) 14 v14n18) 10 v14n18) 15 v15n20) 16 v16n22) 3 v15n20) 4 v16n22) 17 v16n22) 18 v15n20) 2 v15n20) w23) (fun (K24 : KT) =>
K24 .normal (Env.put (Env.put (Env.put (Env.put (Env.put (Env.put (Env.put (Env.put (Env.put (Env.put e8 11 (e8 0)) 12 v12n12) 13 v13n14) 14 v14n18) 10 v14n18) 15 v15n20) 16 v16n22) 3 v15n20) 4 v16n22) 17 v16n22) w23) (thenK (fun e25 w26 =>
callE P 37 #[] w26 (fun v19n29 w30 =>
R (.returned v19n29) w30) (fun c27 w28 => R (.panicked c27) w28)) (topK P [(ResultVar.tmp 2)] R))) (fun c16 w17 => R (.panicked c16) w17)) (fun c10 w11 => R (.panicked c10) w11)) (topK P [(ResultVar.tmp 2)] R))
theorem F31ok {w : World} {R : Ending → World → Prop} {a0 : Value} (h : F31 a0 w R) : Calls P 31 #[a0] w R :=
  calls_of_ev bodies mixed (c := bodyOf Try.f31) (nt := 20) (rs := [(ResultVar.tmp 2)]) (args := [a0]) (fn := Try.f31) (by kernel_rfl) (by kernel_rfl) (by kernel_rfl) (by kernel_rfl) (by kernel_rfl) (by simp)
    (eq_mp (show F31 a0 w R = ev P C (bodyOf Try.f31) (argE [a0]) w (topK P [(ResultVar.tmp 2)] R) by kernel_rfl) h)

/-! ### moiety/flo.Max -/
def F32 (a0 : Value) (a1 : Value) (w : World) (R : Ending → World → Prop) : Prop :=
callE P 26 #[a0, a1] w (fun v7n3 w4 =>
condE v7n3 (fun (K5 : KT) =>
callE P 20 #[a1] w4 (fun v9n8 w9 =>
K5 .ret (Env.put (Env.put (Env.put (Env.put (Env.put (Env.put (Env.put (argE [a0, a1]) 4 (Value.float FloatKind.f64 0)) 5 a0) 6 a1) 7 v7n3) 8 a1) 9 v9n8) 4 v9n8) w9) (fun c6 w7 => K5 (.panic c6) (Env.put (Env.put (Env.put (Env.put (Env.put (argE [a0, a1]) 4 (Value.float FloatKind.f64 0)) 5 a0) 6 a1) 7 v7n3) 8 a1) w7)) (fun (K5 : KT) =>
K5 .normal (Env.put (Env.put (Env.put (Env.put (argE [a0, a1]) 4 (Value.float FloatKind.f64 0)) 5 a0) 6 a1) 7 v7n3) w4) (thenK (fun e10 w11 =>
callE P 20 #[(e10 0)] w11 (fun v11n14 w15 =>
R (.returned v11n14) w15) (fun c12 w13 => R (.panicked c12) w13)) (topK P [(ResultVar.tmp 4)] R))) (fun c1 w2 => R (.panicked c1) w2)
theorem F32ok {w : World} {R : Ending → World → Prop} {a0 : Value} {a1 : Value} (h : F32 a0 a1 w R) : Calls P 32 #[a0, a1] w R :=
  calls_of_ev bodies mixed (c := bodyOf Try.f32) (nt := 12) (rs := [(ResultVar.tmp 4)]) (args := [a0, a1]) (fn := Try.f32) (by kernel_rfl) (by kernel_rfl) (by kernel_rfl) (by kernel_rfl) (by kernel_rfl) (by simp)
    (eq_mp (show F32 a0 a1 w R = ev P C (bodyOf Try.f32) (argE [a0, a1]) w (topK P [(ResultVar.tmp 4)] R) by kernel_rfl) h)

/-! ### moiety/moietyref01.Max -/
def F33 (a0 : Value) (a1 : Value) (w : World) (R : Ending → World → Prop) : Prop :=
callE P 24 #[a0, a1] w (fun v7n3 w4 =>
condE v7n3 (fun (K5 : KT) =>
K5 .ret (Env.put (Env.put (Env.put (Env.put (Env.put (Env.put (argE [a0, a1]) 4 (Value.float FloatKind.f64 0)) 5 a0) 6 a1) 7 v7n3) 8 a1) 4 a1) w4) (fun (K5 : KT) =>
K5 .normal (Env.put (Env.put (Env.put (Env.put (argE [a0, a1]) 4 (Value.float FloatKind.f64 0)) 5 a0) 6 a1) 7 v7n3) w4) (thenK (fun e6 w7 =>
R (.returned (e6 0)) w7) (topK P [(ResultVar.tmp 4)] R))) (fun c1 w2 => R (.panicked c1) w2)
theorem F33ok {w : World} {R : Ending → World → Prop} {a0 : Value} {a1 : Value} (h : F33 a0 a1 w R) : Calls P 33 #[a0, a1] w R :=
  calls_of_ev bodies mixed (c := bodyOf Try.f33) (nt := 10) (rs := [(ResultVar.tmp 4)]) (args := [a0, a1]) (fn := Try.f33) (by kernel_rfl) (by kernel_rfl) (by kernel_rfl) (by kernel_rfl) (by kernel_rfl) (by simp)
    (eq_mp (show F33 a0 a1 w R = ev P C (bodyOf Try.f33) (argE [a0, a1]) w (topK P [(ResultVar.tmp 4)] R) by kernel_rfl) h)

/-! ### moiety/flo.Min -/
def F34 (a0 : Value) (a1 : Value) (w : World) (R : Ending → World → Prop) : Prop :=
callE P 26 #[a1, a0] w (fun v7n3 w4 =>
condE v7n3 (fun (K5 : KT) =>
callE P 20 #[a1] w4 (fun v9n8 w9 =>
K5 .ret (Env.put (Env.put (Env.put (Env.put (Env.put (Env.put (Env.put (argE [a0, a1]) 4 (Value.float FloatKind.f64 0)) 5 a1) 6 a0) 7 v7n3) 8 a1) 9 v9n8) 4 v9n8) w9) (fun c6 w7 => K5 (.panic c6) (Env.put (Env.put (Env.put (Env.put (Env.put (argE [a0, a1]) 4 (Value.float FloatKind.f64 0)) 5 a1) 6 a0) 7 v7n3) 8 a1) w7)) (fun (K5 : KT) =>
K5 .normal (Env.put (Env.put (Env.put (Env.put (argE [a0, a1]) 4 (Value.float FloatKind.f64 0)) 5 a1) 6 a0) 7 v7n3) w4) (thenK (fun e10 w11 =>
callE P 20 #[(e10 0)] w11 (fun v11n14 w15 =>
R (.returned v11n14) w15) (fun c12 w13 => R (.panicked c12) w13)) (topK P [(ResultVar.tmp 4)] R))) (fun c1 w2 => R (.panicked c1) w2)
theorem F34ok {w : World} {R : Ending → World → Prop} {a0 : Value} {a1 : Value} (h : F34 a0 a1 w R) : Calls P 34 #[a0, a1] w R :=
  calls_of_ev bodies mixed (c := bodyOf Try.f34) (nt := 12) (rs := [(ResultVar.tmp 4)]) (args := [a0, a1]) (fn := Try.f34) (by kernel_rfl) (by kernel_rfl) (by kernel_rfl) (by kernel_rfl) (by kernel_rfl) (by simp)
    (eq_mp (show F34 a0 a1 w R = ev P C (bodyOf Try.f34) (argE [a0, a1]) w (topK P [(ResultVar.tmp 4)] R) by kernel_rfl) h)

/-! ### moiety/moietyref01.Min -/
def F35 (a0 : Value) (a1 : Value) (w : World) (R : Ending → World → Prop) : Prop :=
callE P 24 #[a1, a0] w (fun v7n3 w4 =>
condE v7n3 (fun (K5 : KT) =>
K5 .ret (Env.put (Env.put (Env.put (Env.put (Env.put (Env.put (argE [a0, a1]) 4 (Value.float FloatKind.f64 0)) 5 a1) 6 a0) 7 v7n3) 8 a1) 4 a1) w4) (fun (K5 : KT) =>
K5 .normal (Env.put (Env.put (Env.put (Env.put (argE [a0, a1]) 4 (Value.float FloatKind.f64 0)) 5 a1) 6 a0) 7 v7n3) w4) (thenK (fun e6 w7 =>
R (.returned (e6 0)) w7) (topK P [(ResultVar.tmp 4)] R))) (fun c1 w2 => R (.panicked c1) w2)
theorem F35ok {w : World} {R : Ending → World → Prop} {a0 : Value} {a1 : Value} (h : F35 a0 a1 w R) : Calls P 35 #[a0, a1] w R :=
  calls_of_ev bodies mixed (c := bodyOf Try.f35) (nt := 10) (rs := [(ResultVar.tmp 4)]) (args := [a0, a1]) (fn := Try.f35) (by kernel_rfl) (by kernel_rfl) (by kernel_rfl) (by kernel_rfl) (by kernel_rfl) (by simp)
    (eq_mp (show F35 a0 a1 w R = ev P C (bodyOf Try.f35) (argE [a0, a1]) w (topK P [(ResultVar.tmp 4)] R) by kernel_rfl) h)

/-! ### math.Inf -/
def F36 (a0 : Value) (w : World) (R : Ending → World → Prop) : Prop :=
bindV (pBin P BinOp.geq 3 true a0 (Value.int IntKind.i64 0) w) fun v5n1 w2 =>
condE v5n1 (fun (K3 : KT) =>
K3 .normal (Env.put (Env.put (Env.put (Env.put (Env.put (argE [a0]) 2 (Value.float FloatKind.f64 0)) 3 (Value.int IntKind.u64 0)) 4 a0) 5 v5n1) 3 (Value.int IntKind.u64 9218868437227405312)) w2) (fun (K3 : KT) =>
K3 .normal (Env.put (Env.put (Env.put (Env.put (Env.put (argE [a0]) 2 (Value.float FloatKind.f64 0)) 3 (Value.int IntKind.u64 0)) 4 a0) 5 v5n1) 3 (Value.int IntKind.u64 18442240474082181120)) w2) (thenK (fun e4 w5 =>
bindV (pExtern P 60 [(e4 3)] w5) fun v7n6 w7 =>
R (.returned v7n6) w7) (topK P [(ResultVar.tmp 2)] R))
theorem F36ok {w : World} {R : Ending → World → Prop} {a0 : Value} (h : F36 a0 w R) : Calls P 36 #[a0] w R :=
  calls_of_ev bodies mixed (c := bodyOf Try.f36) (nt := 8) (rs := [(ResultVar.tmp 2)]) (args := [a0]) (fn := Try.f36) (by kernel_rfl) (by kernel_rfl) (by kernel_rfl) (by kernel_rfl) (by kernel_rfl) (by simp)
    (eq_mp (show F36 a0 w R = ev P C (bodyOf Try.f36) (argE [a0]) w (topK P [(ResultVar.tmp 2)] R) by kernel_rfl) h)

/-! ### math.NaN -/
def F37 (w : World) (R : Ending → World → Prop) : Prop :=
bindV (pExtern P 60 [(Value.int IntKind.u64 9221120237041090561)] w) fun v1n1 w2 =>
R (.returned v1n1) w2
theorem F37ok {w : World} {R : Ending → World → Prop} (h : F37  w R) : Calls P 37 #[] w R :=
  calls_of_ev bodies mixed (c := bodyOf Try.f37) (nt := 2) (rs := [(ResultVar.tmp 0)]) (args := []) (fn := Try.f37) (by kernel_rfl) (by kernel_rfl) (by kernel_rfl) (by kernel_rfl) (by kernel_rfl) (by simp)
    (eq_mp (show F37  w R = ev P C (bodyOf Try.f37) (argE []) w (topK P [(ResultVar.tmp 0)] R) by kernel_rfl) h)

/-! ### math.Copysign -/
def F38 (a0 : Value) (a1 : Value) (w : World) (R : Ending → World → Prop) : Prop :=
bindV (pExtern P 21 [a0] w) fun v6n1 w2 =>
bindV (pBin P BinOp.andNot 25 true v6n1 (Value.int IntKind.u64 9223372036854775808) w2) fun v7n3 w4 =>
bindV (pExtern P 21 [a1] w4) fun v9n5 w6 =>
bindV (pBin P BinOp.and 25 true v9n5 (Value.int IntKind.u64 9223372036854775808) w6) fun v10n7 w8 =>
bindV (pBin P BinOp.or 25 false v7n3 v10n7 w8) fun v11n9 w10 =>
bindV (pExtern P 60 [v11n9] w10) fun v12n11 w12 =>
R (.returned v12n11) w12
theorem F38ok {w : World} {R : Ending → World → Prop} {a0 : Value} {a1 : Value} (h : F38 a0 a1 w R) : Calls P 38 #[a0, a1] w R :=
  calls_of_ev bodies mixed (c := bodyOf Try.f38) (nt := 13) (rs := [(ResultVar.tmp 4)]) (args := [a0, a1]) (fn := Try.f38) (by kernel_rfl) (by kernel_rfl) (by kernel_rfl) (by kernel_rfl) (by kernel_rfl) (by simp)
    (eq_mp (show F38 a0 a1 w R = ev P C (bodyOf Try.f38) (argE [a0, a1]) w (topK P [(ResultVar.tmp 4)] R) by kernel_rfl) h)

/-! ### math.Signbit -/
def F57 (a0 : Value) (w : World) (R : Ending → World → Prop) : Prop :=
bindV (pExtern P 21 [a0] w) fun v4n1 w2 =>
bindV (pConv P 25 2 v4n1 w2) fun v5n3 w4 =>
bindV (pBin P BinOp.lss 2 true v5n3 (Value.int IntKind.i64 0) w4) fun v6n5 w6 =>
R (.returned v6n5) w6
theorem F57ok {w : World} {R : Ending → World → Prop} {a0 : Value} (h : F57 a0 w R) : Calls P 57 #[a0] w R :=
  calls_of_ev bodies mixed (c := bodyOf Try.f57) (nt := 7) (rs := [(ResultVar.tmp 2)]) (args := [a0]) (fn := Try.f57) (by kernel_rfl) (by kernel_rfl) (by kernel_rfl) (by kernel_rfl) (by kernel_rfl) (by simp)
    (eq_mp (show F57 a0 w R = ev P C (bodyOf Try.f57) (argE [a0]) w (topK P [(ResultVar.tmp 2)] R) by kernel_rfl) h)

/-! ### moiety/moietyref01.none -/
def F58 (a0 : Value) (w : World) (R : Ending → World → Prop) : Prop :=
bindV (pBin P BinOp.neq 22 false a0 a0 w) fun v5n1 w2 =>
R (.returned v5n1) w2
theorem F58ok {w : World} {R : Ending → World → Prop} {a0 : Value} (h : F58 a0 w R) : Calls P 58 #[a0] w R :=
  calls_of_ev bodies mixed (c := bodyOf Try.f58) (nt := 6) (rs := [(ResultVar.tmp 2)]) (args := [a0]) (fn := Try.f58) (by kernel_rfl) (by kernel_rfl) (by kernel_rfl) (by kernel_rfl) (by kernel_rfl) (by simp)
    (eq_mp (show F58 a0 w R = ev P C (bodyOf Try.f58) (argE [a0]) w (topK P [(ResultVar.tmp 2)] R) by kernel_rfl) h)

/-! ### moiety/moietyref01.below -/
def F59 (a0 : Value) (w : World) (R : Ending → World → Prop) : Prop :=
bindV (pBin P BinOp.eql 22 true a0 (Value.float FloatKind.f64 0) w) fun v4n1 w2 =>
condE v4n1 (fun (K3 : KT) =>
bindV (pBin P BinOp.quo 22 true (Value.float FloatKind.f64 4607182418800017408) a0 w2) fun v6n4 w5 =>
bindV (pBin P BinOp.lss 22 true v6n4 (Value.float FloatKind.f64 0) w5) fun v7n6 w7 =>
K3 .ret (Env.put (Env.put (Env.put (Env.put (Env.put (Env.put (Env.put (argE [a0]) 2 (Value.bool false)) 3 a0) 4 v4n1) 5 a0) 6 v6n4) 7 v7n6) 2 v7n6) w7) (fun (K3 : KT) =>
K3 .normal (Env.put (Env.put (Env.put (argE [a0]) 2 (Value.bool false)) 3 a0) 4 v4n1) w2) (thenK (fun e8 w9 =>
bindV (pBin P BinOp.lss 22 true (e8 0) (Value.float FloatKind.f64 0) w9) fun v9n10 w11 =>
R (.returned v9n10) w11) (topK P [(ResultVar.tmp 2)] R))
theorem F59ok {w : World} {R : Ending → World → Prop} {a0 : Value} (h : F59 a0 w R) : Calls P 59 #[a0] w R :=
  calls_of_ev bodies mixed (c := bodyOf Try.f59) (nt := 10) (rs := [(ResultVar.tmp 2)]) (args := [a0]) (fn := Try.f59) (by kernel_rfl) (by kernel_rfl) (by kernel_rfl) (by kernel_rfl) (by kernel_rfl) (by simp)
    (eq_mp (show F59 a0 w R = ev P C (bodyOf Try.f59) (argE [a0]) w (topK P [(ResultVar.tmp 2)] R) by kernel_rfl) h)

end Go.Proofs.Ytfmcplkijjndlaa
