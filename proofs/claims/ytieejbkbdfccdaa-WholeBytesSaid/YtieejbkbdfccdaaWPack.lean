/- The functions' residual programs, printed by gen.py. -/
import Derived.Test.YtieejbkbdfccdaaBaseD
namespace Go.Proofs.Ytieejbkbdfccdaa
open Go
/-! ### moiety/pack.Write -/
def F4B0 (e : Env) (w : World) (K : KT) : Prop :=
bindV (pBin P BinOp.lss 3 false (e 8) (e 7) w) fun v9n5 w6 =>
condE v9n5 (fun (K7 : KT) =>
K7 .normal (Env.put e 9 v9n5) w6) (fun (K7 : KT) =>
K7 (.exit 0) (Env.put e 9 v9n5) w6) (thenK (fun e8 w9 =>
bindV (pIndexAddr P 32 (e8 6) (e8 8) w9) fun v10n10 w11 =>
bindV (pLoad P 28 v10n10 w11) fun v11n12 w13 =>
bindV (pAlloc P 28 w13) fun v5n14 w15 =>
bindU (pStore P 28 v5n14 v11n12 w15) fun w16 =>
bindV (pFieldAddr P 28 v5n14 0 w16) fun v12n17 w18 =>
bindV (pLoad P 5 v12n17 w18) fun v13n19 w20 =>
bindV (pBin P BinOp.eql 5 true v13n19 (Value.int IntKind.u8 117) w20) fun v15n21 w22 =>
condE v15n21 (fun (K23 : KT) =>
bindV (pFieldAddr P 28 v5n14 1 w22) fun v16n24 w25 =>
bindV (pLoad P 26 v16n24 w25) fun v17n26 w27 =>
callE P 11 #[(e8 3), v17n26] w27 (fun v18n30 w31 =>
K23 .normal (Env.put (Env.put (Env.put (Env.put (Env.put (Env.put (Env.put (Env.put (Env.put (Env.put e8 10 v10n10) 11 v11n12) 5 v5n14) 12 v12n17) 13 v13n19) 15 v15n21) 14 v15n21) 16 v16n24) 17 v17n26) 18 v18n30) w31) (fun c28 w29 => K23 (.panic c28) (Env.put (Env.put (Env.put (Env.put (Env.put (Env.put (Env.put (Env.put (Env.put e8 10 v10n10) 11 v11n12) 5 v5n14) 12 v12n17) 13 v13n19) 15 v15n21) 14 v15n21) 16 v16n24) 17 v17n26) w29)) (fun (K23 : KT) =>
bindV (pBin P BinOp.eql 5 true v13n19 (Value.int IntKind.u8 105) w22) fun v20n32 w33 =>
condE v20n32 (fun (K34 : KT) =>
bindV (pFieldAddr P 28 v5n14 2 w33) fun v21n35 w36 =>
bindV (pLoad P 2 v21n35 w36) fun v22n37 w38 =>
callE P 12 #[(e8 3), v22n37] w38 (fun v23n41 w42 =>
K34 .normal (Env.put (Env.put (Env.put (Env.put (Env.put (Env.put (Env.put (Env.put (Env.put (Env.put (Env.put (Env.put e8 10 v10n10) 11 v11n12) 5 v5n14) 12 v12n17) 13 v13n19) 15 v15n21) 14 v15n21) 20 v20n32) 19 v20n32) 21 v21n35) 22 v22n37) 23 v23n41) w42) (fun c39 w40 => K34 (.panic c39) (Env.put (Env.put (Env.put (Env.put (Env.put (Env.put (Env.put (Env.put (Env.put (Env.put (Env.put e8 10 v10n10) 11 v11n12) 5 v5n14) 12 v12n17) 13 v13n19) 15 v15n21) 14 v15n21) 20 v20n32) 19 v20n32) 21 v21n35) 22 v22n37) w40)) (fun (K34 : KT) =>
bindV (pBin P BinOp.eql 5 true v13n19 (Value.int IntKind.u8 102) w33) fun v25n43 w44 =>
condE v25n43 (fun (K45 : KT) =>
bindV (pFieldAddr P 28 v5n14 3 w44) fun v26n46 w47 =>
bindV (pLoad P 25 v26n46 w47) fun v27n48 w49 =>
callE P 13 #[(e8 3), v27n48] w49 (fun v28n52 w53 =>
K45 .normal (Env.put (Env.put (Env.put (Env.put (Env.put (Env.put (Env.put (Env.put (Env.put (Env.put (Env.put (Env.put (Env.put (Env.put e8 10 v10n10) 11 v11n12) 5 v5n14) 12 v12n17) 13 v13n19) 15 v15n21) 14 v15n21) 20 v20n32) 19 v20n32) 25 v25n43) 24 v25n43) 26 v26n46) 27 v27n48) 28 v28n52) w53) (fun c50 w51 => K45 (.panic c50) (Env.put (Env.put (Env.put (Env.put (Env.put (Env.put (Env.put (Env.put (Env.put (Env.put (Env.put (Env.put (Env.put e8 10 v10n10) 11 v11n12) 5 v5n14) 12 v12n17) 13 v13n19) 15 v15n21) 14 v15n21) 20 v20n32) 19 v20n32) 25 v25n43) 24 v25n43) 26 v26n46) 27 v27n48) w51)) (fun (K45 : KT) =>
bindV (pBin P BinOp.eql 5 true v13n19 (Value.int IntKind.u8 115) w44) fun v30n54 w55 =>
condE v30n54 (fun (K56 : KT) =>
bindV (pFieldAddr P 28 v5n14 4 w55) fun v31n57 w58 =>
bindV (pLoad P 9 v31n57 w58) fun v32n59 w60 =>
callE P 14 #[(e8 3), v32n59] w60 (fun v33n63 w64 =>
K56 .normal (Env.put (Env.put (Env.put (Env.put (Env.put (Env.put (Env.put (Env.put (Env.put (Env.put (Env.put (Env.put (Env.put (Env.put (Env.put (Env.put e8 10 v10n10) 11 v11n12) 5 v5n14) 12 v12n17) 13 v13n19) 15 v15n21) 14 v15n21) 20 v20n32) 19 v20n32) 25 v25n43) 24 v25n43) 30 v30n54) 29 v30n54) 31 v31n57) 32 v32n59) 33 v33n63) w64) (fun c61 w62 => K56 (.panic c61) (Env.put (Env.put (Env.put (Env.put (Env.put (Env.put (Env.put (Env.put (Env.put (Env.put (Env.put (Env.put (Env.put (Env.put (Env.put e8 10 v10n10) 11 v11n12) 5 v5n14) 12 v12n17) 13 v13n19) 15 v15n21) 14 v15n21) 20 v20n32) 19 v20n32) 25 v25n43) 24 v25n43) 30 v30n54) 29 v30n54) 31 v31n57) 32 v32n59) w62)) (fun (K56 : KT) =>
bindV (pBin P BinOp.eql 5 true v13n19 (Value.int IntKind.u8 98) w55) fun v35n65 w66 =>
condE v35n65 (fun (K67 : KT) =>
bindV (pFieldAddr P 28 v5n14 5 w66) fun v36n68 w69 =>
bindV (pLoad P 4 v36n68 w69) fun v37n70 w71 =>
callE P 15 #[(e8 3), v37n70] w71 (fun v38n74 w75 =>
K67 .normal (Env.put (Env.put (Env.put (Env.put (Env.put (Env.put (Env.put (Env.put (Env.put (Env.put (Env.put (Env.put (Env.put (Env.put (Env.put (Env.put (Env.put (Env.put e8 10 v10n10) 11 v11n12) 5 v5n14) 12 v12n17) 13 v13n19) 15 v15n21) 14 v15n21) 20 v20n32) 19 v20n32) 25 v25n43) 24 v25n43) 30 v30n54) 29 v30n54) 35 v35n65) 34 v35n65) 36 v36n68) 37 v37n70) 38 v38n74) w75) (fun c72 w73 => K67 (.panic c72) (Env.put (Env.put (Env.put (Env.put (Env.put (Env.put (Env.put (Env.put (Env.put (Env.put (Env.put (Env.put (Env.put (Env.put (Env.put (Env.put (Env.put e8 10 v10n10) 11 v11n12) 5 v5n14) 12 v12n17) 13 v13n19) 15 v15n21) 14 v15n21) 20 v20n32) 19 v20n32) 25 v25n43) 24 v25n43) 30 v30n54) 29 v30n54) 35 v35n65) 34 v35n65) 36 v36n68) 37 v37n70) w73)) (fun (K67 : KT) =>
K67 .normal (Env.put (Env.put (Env.put (Env.put (Env.put (Env.put (Env.put (Env.put (Env.put (Env.put (Env.put (Env.put (Env.put (Env.put (Env.put e8 10 v10n10) 11 v11n12) 5 v5n14) 12 v12n17) 13 v13n19) 15 v15n21) 14 v15n21) 20 v20n32) 19 v20n32) 25 v25n43) 24 v25n43) 30 v30n54) 29 v30n54) 35 v35n65) 34 v35n65) w66) K56) K45) K34) K23) (blockK 2 (blockK 1 (thenK (fun e76 w77 =>
bindV (pBin P BinOp.add 3 true (e76 8) (Value.int IntKind.i64 1) w77) fun v39n78 w79 =>
K .normal (Env.put (Env.put e76 39 v39n78) 8 v39n78) w79) K)))) K)
def F4 (a0 : Value) (w : World) (R : Ending → World → Prop) : Prop :=
bindV (pAlloc P 41 w) fun v3n1 w2 =>
bindV (pBuiltin P Builtin.len #[32] 3 [a0] w2) fun v7n3 w4 =>
loopE F4B0 (Env.put (Env.put (Env.put (Env.put (Env.put (argE [a0]) 2 (Value.slice none 0 0)) 3 v3n1) 6 a0) 7 v7n3) 8 (Value.int IntKind.i64 0)) w4 (blockK 0 (thenK (fun e80 w81 =>
callE P 16 #[(e80 3)] w81 (fun v40n84 w85 =>
R (.returned v40n84) w85) (fun c82 w83 => R (.panicked c82) w83)) (topK P [(ResultVar.tmp 2)] R)))
theorem F4ok {w : World} {R : Ending → World → Prop} {a0 : Value} (h : F4 a0 w R) : Calls P 4 #[a0] w R :=
  calls_of_ev bodies mixed (c := bodyOf Try.f4) (nt := 41) (rs := [(ResultVar.tmp 2)]) (args := [a0]) (fn := Try.f4) (by kernel_rfl) (by kernel_rfl) (by kernel_rfl) (by kernel_rfl) (by kernel_rfl) (by simp)
    (eq_mp (show F4 a0 w R = ev P C (bodyOf Try.f4) (argE [a0]) w (topK P [(ResultVar.tmp 2)] R) by kernel_rfl) h)

/-! ### moiety/pack.Read -/
def F8B0 (e : Env) (w : World) (K : KT) : Prop :=
bindV (pBin P BinOp.lss 3 false (e 15) (e 14) w) fun v16n11 w12 =>
condE v16n11 (fun (K13 : KT) =>
K13 .normal (Env.put e 16 v16n11) w12) (fun (K13 : KT) =>
K13 (.exit 0) (Env.put e 16 v16n11) w12) (thenK (fun e14 w15 =>
takeE (fun w18 => pLoad P 32 (e14 6) w18) (drew w15) fun v18n16 h17 =>
takeE (fun w21 => some ((e14 8), w21)) (drew w15) fun v19n19 h20 =>
takeE (fun w24 => some ((e14 1), w24)) (drew w15) fun v20n22 h23 =>
takeE (fun w27 => some ((e14 15), w27)) (drew w15) fun v21n25 h26 =>
takeE (fun w30 => pIndex P 9 v20n22 v21n25 w30) (drew w15) fun v22n28 h29 =>
takeE (fun w33 => some ((e14 2), w33)) (drew w15) fun v23n31 h32 =>
callE P 24 #[v19n19, v22n28, v23n31] (drew w15) (fun v24n37 w38 =>
heldE [h17] w38 (bindV (pBuildSlice P 32 1 [(0, v24n37)] w38) fun v25n40 w41 =>
heldE [h17] w41 (bindV (pBuiltin P Builtin.append #[32, 32] 32 [v18n16, v25n40] w41) fun v26n43 w44 =>
bindU (pStore P 32 (e14 6) v26n43 w44) fun w46 =>
bindV (pBin P BinOp.add 3 true (e14 15) (Value.int IntKind.i64 1) w46) fun v27n47 w48 =>
K .normal (Env.put (Env.put (Env.put (Env.put (Env.put (Env.put (Env.put (Env.put (Env.put (Env.put (Env.put (Env.put (Env.put e14 17 (e14 15)) 9 (e14 15)) 18 v18n16) 19 v19n19) 20 v20n22) 21 v21n25) 22 v22n28) 23 v23n31) 24 v24n37) 25 v25n40) 26 v26n43) 27 v27n47) 15 v27n47) w48))) (fun c35 w36 => ∀ (e34 : Env), agreeOff [18, 19, 20, 21, 22, 23] (Env.put (Env.put (Env.put (Env.put (Env.put (Env.put (Env.put (Env.put e14 17 (e14 15)) 9 (e14 15)) 18 v18n16) 19 v19n19) 20 v20n22) 21 v21n25) 22 v22n28) 23 v23n31) e34 → K (.panic c35) e34 w36)) K)
def F8 (a0 : Value) (a1 : Value) (a2 : Value) (w : World) (R : Ending → World → Prop) : Prop :=
bindV (pAlloc P 32 w) fun v6n1 w2 =>
bindV (pAlloc P 35 w2) fun v7n3 w4 =>
callE P 23 #[a0] w4 (fun v12n7 w8 =>
bindV (pBuiltin P Builtin.len #[9] 3 [a1] w8) fun v14n9 w10 =>
loopE F8B0 (Env.put (Env.put (Env.put (Env.put (Env.put (Env.put (Env.put (Env.put (Env.put (argE [a0, a1, a2]) 6 v6n1) 7 v7n3) 10 (Value.func (.func 21) #[] #[v6n1, v7n3])) 11 a0) 12 v12n7) 8 v12n7) 13 a1) 14 v14n9) 15 (Value.int IntKind.i64 0)) w10 (blockK 0 (thenK (fun e49 w50 =>
callE P 25 #[(e49 8)] w50 (fun v29n53 w54 =>
bindV (pLoad P 32 (e49 6) w54) fun v30n55 w56 =>
bindV (pBuild P 35 [] w56) fun v31n57 w58 =>
bindU (pStore P 32 (e49 6) v30n55 w58) fun w59 =>
bindU (pStore P 35 (e49 7) v31n57 w59) fun w60 =>
leaveE P 21 [v6n1, v7n3] [(ResultVar.cell 6 32), (ResultVar.cell 7 35)] R .returning (Env.put (Env.put (Env.put (Env.put e49 28 (e49 8)) 29 v29n53) 30 v30n55) 31 v31n57) w60) (fun c51 w52 => leaveE P 21 [v6n1, v7n3] [(ResultVar.cell 6 32), (ResultVar.cell 7 35)] R (.panicking c51) (Env.put e49 28 (e49 8)) w52)) (topD P 21 [v6n1, v7n3] [(ResultVar.cell 6 32), (ResultVar.cell 7 35)] R)))) (fun c5 w6 => leaveE P 21 [v6n1, v7n3] [(ResultVar.cell 6 32), (ResultVar.cell 7 35)] R (.panicking c5) (Env.put (Env.put (Env.put (Env.put (argE [a0, a1, a2]) 6 v6n1) 7 v7n3) 10 (Value.func (.func 21) #[] #[v6n1, v7n3])) 11 a0) w6)
theorem F8ok {w : World} {R : Ending → World → Prop} {a0 : Value} {a1 : Value} {a2 : Value} (h : F8 a0 a1 a2 w R) : Calls P 8 #[a0, a1, a2] w R :=
  calls_of_evD bodies mixed (A := dA (bodyOf Try.f8)) (rest := dRest (bodyOf Try.f8)) (id := dId (bodyOf Try.f8)) (ops := dOps (bodyOf Try.f8)) (g := (dMk (opAt (dOps (bodyOf Try.f8)) 0)).1) (caps := (dMk (opAt (dOps (bodyOf Try.f8)) 0)).2) (t := 10) (nt := 32) (rs := [(ResultVar.cell 6 32), (ResultVar.cell 7 35)]) (args := [a0, a1, a2]) (fn := Try.f8)
    (by kernel_rfl) (by kernel_rfl) (by kernel_rfl) (by kernel_rfl) (by kernel_rfl) (by kernel_rfl) (by kernel_rfl) (by kernel_rfl) (by kernel_rfl) (by kernel_rfl) (by kernel_rfl) (by kernel_rfl) (by kernel_rfl) (by kernel_rfl) (by kernel_rfl) (by kernel_rfl) (by decide) (by simp)
    (eq_mp (show F8 a0 a1 a2 w R = ev P C (dA (bodyOf Try.f8)) (argE [a0, a1, a2]) w (thenD P C (dRest (bodyOf Try.f8)) 10 (dMk (opAt (dOps (bodyOf Try.f8)) 0)).1 (dMk (opAt (dOps (bodyOf Try.f8)) 0)).2 [(ResultVar.cell 6 32), (ResultVar.cell 7 35)] R) by kernel_rfl) h)

/-! ### (*moiety/pack.Writer).U -/
def F11B0 (e : Env) (w : World) (K : KT) : Prop :=
bindV (pBin P BinOp.geq 26 true (e 1) (Value.int IntKind.u64 128) w) fun v5n1 w2 =>
condE v5n1 (fun (K3 : KT) =>
K3 .normal (Env.put (Env.put e 4 (e 1)) 5 v5n1) w2) (fun (K3 : KT) =>
K3 (.exit 0) (Env.put (Env.put e 4 (e 1)) 5 v5n1) w2) (thenK (fun e4 w5 =>
nilE (e4 0) fun v8n6 =>
bindV (pFieldAddr P 41 v8n6 0 w5) fun v9n7 w8 =>
bindV (pLoad P 23 v9n7 w8) fun v10n9 w10 =>
bindV (pConv P 26 5 (e4 1) w10) fun v12n11 w12 =>
bindV (pBin P BinOp.or 5 true v12n11 (Value.int IntKind.u8 128) w12) fun v13n13 w14 =>
bindV (pBuildSlice P 23 1 [(0, v13n13)] w14) fun v14n15 w16 =>
bindV (pBuiltin P Builtin.append #[23, 23] 23 [v10n9, v14n15] w16) fun v15n17 w18 =>
nilE (e4 0) fun v16n19 =>
bindV (pFieldAddr P 41 v16n19 0 w18) fun v17n20 w21 =>
bindU (pStore P 23 v17n20 v15n17 w21) fun w22 =>
bindV (pBin P BinOp.shr 26 true (e4 1) (Value.int IntKind.u64 7) w22) fun v19n23 w24 =>
K .normal (Env.put (Env.put (Env.put (Env.put (Env.put (Env.put (Env.put (Env.put (Env.put (Env.put (Env.put (Env.put (Env.put (Env.put (Env.put e4 6 (e4 0)) 7 (e4 0)) 8 v8n6) 9 v9n7) 10 v10n9) 11 (e4 1)) 12 v12n11) 13 v13n13) 14 v14n15) 15 v15n17) 16 v16n19) 17 v17n20) 18 (e4 1)) 19 v19n23) 1 v19n23) w24) K)
def F11 (a0 : Value) (a1 : Value) (w : World) (R : Ending → World → Prop) : Prop :=
loopE F11B0 (argE [a0, a1]) w (blockK 0 (thenK (fun e25 w26 =>
nilE (e25 0) fun v22n27 =>
bindV (pFieldAddr P 41 v22n27 0 w26) fun v23n28 w29 =>
bindV (pLoad P 23 v23n28 w29) fun v24n30 w31 =>
bindV (pConv P 26 5 (e25 1) w31) fun v26n32 w33 =>
bindV (pBuildSlice P 23 1 [(0, v26n32)] w33) fun v27n34 w35 =>
bindV (pBuiltin P Builtin.append #[23, 23] 23 [v24n30, v27n34] w35) fun v28n36 w37 =>
nilE (e25 0) fun v29n38 =>
bindV (pFieldAddr P 41 v29n38 0 w37) fun v30n39 w40 =>
bindU (pStore P 23 v30n39 v28n36 w40) fun w41 =>
R (.returned (.tuple #[])) w41) (topK P [] R)))
theorem F11ok {w : World} {R : Ending → World → Prop} {a0 : Value} {a1 : Value} (h : F11 a0 a1 w R) : Calls P 11 #[a0, a1] w R :=
  calls_of_ev bodies mixed (c := bodyOf Try.f11) (nt := 31) (rs := []) (args := [a0, a1]) (fn := Try.f11) (by kernel_rfl) (by kernel_rfl) (by kernel_rfl) (by kernel_rfl) (by kernel_rfl) (by simp)
    (eq_mp (show F11 a0 a1 w R = ev P C (bodyOf Try.f11) (argE [a0, a1]) w (topK P [] R) by kernel_rfl) h)

/-! ### (*moiety/pack.Writer).I -/
def F12 (a0 : Value) (a1 : Value) (w : World) (R : Ending → World → Prop) : Prop :=
bindV (pConv P 2 26 a1 w) fun v6n1 w2 =>
bindV (pBin P BinOp.shl 26 true v6n1 (Value.int IntKind.u64 1) w2) fun v7n3 w4 =>
bindV (pBin P BinOp.shr 2 true a1 (Value.int IntKind.u64 63) w4) fun v9n5 w6 =>
bindV (pConv P 2 26 v9n5 w6) fun v10n7 w8 =>
bindV (pBin P BinOp.xor 26 false v7n3 v10n7 w8) fun v11n9 w10 =>
callE P 11 #[a0, v11n9] w10 (fun v12n13 w14 =>
R (.returned (.tuple #[])) w14) (fun c11 w12 => R (.panicked c11) w12)
theorem F12ok {w : World} {R : Ending → World → Prop} {a0 : Value} {a1 : Value} (h : F12 a0 a1 w R) : Calls P 12 #[a0, a1] w R :=
  calls_of_ev bodies mixed (c := bodyOf Try.f12) (nt := 13) (rs := []) (args := [a0, a1]) (fn := Try.f12) (by kernel_rfl) (by kernel_rfl) (by kernel_rfl) (by kernel_rfl) (by kernel_rfl) (by simp)
    (eq_mp (show F12 a0 a1 w R = ev P C (bodyOf Try.f12) (argE [a0, a1]) w (topK P [] R) by kernel_rfl) h)

/-! ### (*moiety/pack.Writer).F -/
def F13B0 (e : Env) (w : World) (K : KT) : Prop :=
bindV (pBin P BinOp.geq 3 true (e 5) (Value.int IntKind.i64 0) w) fun v9n5 w6 =>
condE v9n5 (fun (K7 : KT) =>
K7 .normal (Env.put (Env.put e 8 (e 5)) 9 v9n5) w6) (fun (K7 : KT) =>
K7 (.exit 0) (Env.put (Env.put e 8 (e 5)) 9 v9n5) w6) (thenK (fun e8 w9 =>
takeE (fun w12 => some ((e8 0), w12)) (drew w9) fun v12n10 h11 =>
takeE (fun w15 => some ((e8 0), w15)) (drew w9) fun v13n13 h14 =>
takeE (fun w18 => qNil v13n13 w18) (drew w9) fun v14n16 h17 =>
takeE (fun w21 => pFieldAddr P 41 v14n16 0 w21) (drew w9) fun v15n19 h20 =>
takeE (fun w24 => pLoad P 23 v15n19 w24) (drew w9) fun v16n22 h23 =>
takeE (fun w27 => some ((e8 4), w27)) (drew w9) fun v17n25 h26 =>
takeE (fun w30 => some ((e8 5), w30)) (drew w9) fun v18n28 h29 =>
takeE (fun w33 => pBin P BinOp.shr 26 false v17n25 v18n28 w33) (drew w9) fun v19n31 h32 =>
takeE (fun w36 => pConv P 26 5 v19n31 w36) (drew w9) fun v20n34 h35 =>
bindV (pBuildSlice P 23 1 [(0, v20n34)] (drew w9)) fun v21n38 w39 =>
heldE [h23, h20, h17, h14, h11] w39 (bindV (pBuiltin P Builtin.append #[23, 23] 23 [v16n22, v21n38] w39) fun v22n41 w42 =>
heldE [h11] w42 (takeE (fun w45 => qNil v12n10 w45) w42 fun v23n43 h44 =>
takeE (fun w48 => pFieldAddr P 41 v23n43 0 w48) w42 fun v24n46 h47 =>
bindU (pStore P 23 v24n46 v22n41 w42) fun w50 =>
bindV (pBin P BinOp.sub 3 true (e8 5) (Value.int IntKind.i64 8) w50) fun v11n51 w52 =>
K .normal (Env.put (Env.put (Env.put (Env.put (Env.put (Env.put (Env.put (Env.put (Env.put (Env.put (Env.put (Env.put (Env.put (Env.put (Env.put (Env.put e8 12 v12n10) 13 v13n13) 14 v14n16) 15 v15n19) 16 v16n22) 17 v17n25) 18 v18n28) 19 v19n31) 20 v20n34) 21 v21n38) 22 v22n41) 23 v23n43) 24 v24n46) 10 (e8 5)) 11 v11n51) 5 v11n51) w52))) K)
def F13 (a0 : Value) (a1 : Value) (w : World) (R : Ending → World → Prop) : Prop :=
callE P 28 #[a1] w (fun v7n3 w4 =>
loopE F13B0 (Env.put (Env.put (Env.put (Env.put (argE [a0, a1]) 6 a1) 7 v7n3) 4 v7n3) 5 (Value.int IntKind.i64 56)) w4 (blockK 0 (topK P [] R))) (fun c1 w2 => R (.panicked c1) w2)
theorem F13ok {w : World} {R : Ending → World → Prop} {a0 : Value} {a1 : Value} (h : F13 a0 a1 w R) : Calls P 13 #[a0, a1] w R :=
  calls_of_ev bodies mixed (c := bodyOf Try.f13) (nt := 25) (rs := []) (args := [a0, a1]) (fn := Try.f13) (by kernel_rfl) (by kernel_rfl) (by kernel_rfl) (by kernel_rfl) (by kernel_rfl) (by simp)
    (eq_mp (show F13 a0 a1 w R = ev P C (bodyOf Try.f13) (argE [a0, a1]) w (topK P [] R) by kernel_rfl) h)

/-! ### (*moiety/pack.Writer).S -/
def F14 (a0 : Value) (a1 : Value) (w : World) (R : Ending → World → Prop) : Prop :=
bindV (pBuiltin P Builtin.len #[9] 3 [a1] w) fun v6n1 w2 =>
bindV (pConv P 3 26 v6n1 w2) fun v7n3 w4 =>
callE P 11 #[a0, v7n3] w4 (fun v8n7 w8 =>
nilE a0 fun v11n9 =>
bindV (pFieldAddr P 41 v11n9 0 w8) fun v12n10 w11 =>
bindV (pLoad P 23 v12n10 w11) fun v13n12 w13 =>
bindV (pBuiltin P Builtin.append #[23, 9] 23 [v13n12, a1] w13) fun v15n14 w15 =>
nilE a0 fun v16n16 =>
bindV (pFieldAddr P 41 v16n16 0 w15) fun v17n17 w18 =>
bindU (pStore P 23 v17n17 v15n14 w18) fun w19 =>
R (.returned (.tuple #[])) w19) (fun c5 w6 => R (.panicked c5) w6)
theorem F14ok {w : World} {R : Ending → World → Prop} {a0 : Value} {a1 : Value} (h : F14 a0 a1 w R) : Calls P 14 #[a0, a1] w R :=
  calls_of_ev bodies mixed (c := bodyOf Try.f14) (nt := 18) (rs := []) (args := [a0, a1]) (fn := Try.f14) (by kernel_rfl) (by kernel_rfl) (by kernel_rfl) (by kernel_rfl) (by kernel_rfl) (by simp)
    (eq_mp (show F14 a0 a1 w R = ev P C (bodyOf Try.f14) (argE [a0, a1]) w (topK P [] R) by kernel_rfl) h)

/-! ### (*moiety/pack.Writer).Flag -/
def F15 (a0 : Value) (a1 : Value) (w : World) (R : Ending → World → Prop) : Prop :=
condE a1 (fun (K1 : KT) =>
nilE a0 fun v7n2 =>
bindV (pFieldAddr P 41 v7n2 0 w) fun v8n3 w4 =>
bindV (pLoad P 23 v8n3 w4) fun v9n5 w6 =>
bindV (pBuildSlice P 23 1 [(0, (Value.int IntKind.u8 1))] w6) fun v10n7 w8 =>
bindV (pBuiltin P Builtin.append #[23, 23] 23 [v9n5, v10n7] w8) fun v11n9 w10 =>
nilE a0 fun v12n11 =>
bindV (pFieldAddr P 41 v12n11 0 w10) fun v13n12 w13 =>
bindU (pStore P 23 v13n12 v11n9 w13) fun w14 =>
K1 .ret (Env.put (Env.put (Env.put (Env.put (Env.put (Env.put (Env.put (Env.put (Env.put (Env.put (argE [a0, a1]) 4 a1) 5 a0) 6 a0) 7 v7n2) 8 v8n3) 9 v9n5) 10 v10n7) 11 v11n9) 12 v12n11) 13 v13n12) w14) (fun (K1 : KT) =>
K1 .normal (Env.put (argE [a0, a1]) 4 a1) w) (thenK (fun e15 w16 =>
nilE (e15 0) fun v16n17 =>
bindV (pFieldAddr P 41 v16n17 0 w16) fun v17n18 w19 =>
bindV (pLoad P 23 v17n18 w19) fun v18n20 w21 =>
bindV (pBuildSlice P 23 1 [(0, (Value.int IntKind.u8 0))] w21) fun v19n22 w23 =>
bindV (pBuiltin P Builtin.append #[23, 23] 23 [v18n20, v19n22] w23) fun v20n24 w25 =>
nilE (e15 0) fun v21n26 =>
bindV (pFieldAddr P 41 v21n26 0 w25) fun v22n27 w28 =>
bindU (pStore P 23 v22n27 v20n24 w28) fun w29 =>
R (.returned (.tuple #[])) w29) (topK P [] R))
theorem F15ok {w : World} {R : Ending → World → Prop} {a0 : Value} {a1 : Value} (h : F15 a0 a1 w R) : Calls P 15 #[a0, a1] w R :=
  calls_of_ev bodies mixed (c := bodyOf Try.f15) (nt := 23) (rs := []) (args := [a0, a1]) (fn := Try.f15) (by kernel_rfl) (by kernel_rfl) (by kernel_rfl) (by kernel_rfl) (by kernel_rfl) (by simp)
    (eq_mp (show F15 a0 a1 w R = ev P C (bodyOf Try.f15) (argE [a0, a1]) w (topK P [] R) by kernel_rfl) h)

/-! ### (*moiety/pack.Writer).Bytes -/
def F16 (a0 : Value) (w : World) (R : Ending → World → Prop) : Prop :=
nilE a0 fun v4n1 =>
bindV (pFieldAddr P 41 v4n1 0 w) fun v5n2 w3 =>
bindV (pLoad P 23 v5n2 w3) fun v6n4 w5 =>
bindV (pBuiltin P Builtin.append #[23, 23] 23 [(Value.slice none 0 0), v6n4] w5) fun v7n6 w7 =>
R (.returned v7n6) w7
theorem F16ok {w : World} {R : Ending → World → Prop} {a0 : Value} (h : F16 a0 w R) : Calls P 16 #[a0] w R :=
  calls_of_ev bodies mixed (c := bodyOf Try.f16) (nt := 8) (rs := [(ResultVar.tmp 2)]) (args := [a0]) (fn := Try.f16) (by kernel_rfl) (by kernel_rfl) (by kernel_rfl) (by kernel_rfl) (by kernel_rfl) (by simp)
    (eq_mp (show F16 a0 w R = ev P C (bodyOf Try.f16) (argE [a0]) w (topK P [(ResultVar.tmp 2)] R) by kernel_rfl) h)

/-! ### moiety/pack.Read$1 -/
def F21 (a0 : Value) (a1 : Value) (u : FrameMode) (w : World) (R : Ending → FrameMode → World → Prop) : Prop :=
callE P 22 #[(recV u)] w (fun v4n3 w4 =>
bindV (pAlloc P 35 w4) fun v2n5 w6 =>
bindU (pStore P 35 v2n5 v4n3 w6) fun w7 =>
bindV (pFieldAddr P 35 v2n5 0 w7) fun v5n8 w9 =>
bindV (pLoad P 33 v5n8 w9) fun v6n10 w11 =>
bindV (pBin P BinOp.neq 33 true v6n10 (Value.int IntKind.i64 0) w11) fun v7n12 w13 =>
condE v7n12 (fun (K14 : KT) =>
takeE (fun w17 => pLoad P 35 v2n5 w17) (drew w13) fun v8n15 h16 =>
bindU (pStore P 32 a0 (Value.slice none 0 0) (drew w13)) fun w19 =>
heldE [h16] w19 (bindU (pStore P 35 a1 v8n15 w19) fun w21 =>
K14 .normal (Env.put (Env.put (Env.put (Env.put (Env.put (Env.put (Env.put (argE [a0, a1]) 3 (recV u)) 4 v4n3) 2 v2n5) 5 v5n8) 6 v6n10) 7 v7n12) 8 v8n15) w21)) (fun (K14 : KT) =>
K14 .normal (Env.put (Env.put (Env.put (Env.put (Env.put (Env.put (argE [a0, a1]) 3 (recV u)) 4 v4n3) 2 v2n5) 5 v5n8) 6 v6n10) 7 v7n12) w13) (topK P [] (fun x w => R x (recM u) w))) (fun c1 w2 => R (.panicked c1) (recM u) w2)
theorem F21ok {u : FrameMode} {w : World} {R : Ending → FrameMode → World → Prop} {a0 : Value} {a1 : Value} (h : F21 a0 a1 u w R) : CallsD P 21 #[a0, a1] u w R :=
  callsD_of_ev bodies mixed (c := bodyOf Try.f21) (nt := 9) (rs := []) (args := [a0, a1]) (fn := Try.f21) (by kernel_rfl) (by kernel_rfl) (by kernel_rfl) (by kernel_rfl) (by kernel_rfl) (by kernel_rfl) (by kernel_rfl) (by kernel_rfl) (by simp)
    (eq_mp (show F21 a0 a1 u w R = evR P C (bodyOf Try.f21) [a0, a1] u w [] R by kernel_rfl) h)

/-! ### moiety/pack.Caught -/
def F22 (a0 : Value) (w : World) (R : Ending → World → Prop) : Prop :=
bindV (pAlloc P 35 w) fun v2n1 w2 =>
bindV (pBin P BinOp.eql 20 true a0 Value.nilIface w2) fun v6n3 w4 =>
condE v6n3 (fun (K5 : KT) =>
bindV (pBuild P 35 [] w4) fun v7n6 w7 =>
bindU (pStore P 35 v2n1 v7n6 w7) fun w8 =>
K5 .ret (Env.put (Env.put (Env.put (Env.put (argE [a0]) 2 v2n1) 5 a0) 6 v6n3) 7 v7n6) w8) (fun (K5 : KT) =>
K5 .normal (Env.put (Env.put (Env.put (argE [a0]) 2 v2n1) 5 a0) 6 v6n3) w4) (thenK (fun e9 w10 =>
bindV (pAssert P (e9 0) 20 35 true w10) fun v10n11 w12 =>
bindV (pExtract P v10n11 0 w12) fun v11n13 w14 =>
bindV (pExtract P v10n11 1 w14) fun v12n15 w16 =>
bindV (pAlloc P 35 w16) fun v3n17 w18 =>
bindU (pStore P 35 v3n17 v11n13 w18) fun w19 =>
bindV (pUn P UnOp.not v12n15 w19) fun v14n20 w21 =>
condE v14n20 (fun (K22 : KT) =>
panicE P (e9 0) w21 fun c23 w24 =>
K22 (.panic c23) (Env.put (Env.put (Env.put (Env.put (Env.put (Env.put (Env.put (Env.put (Env.put (Env.put e9 9 (e9 0)) 10 v10n11) 8 v10n11) 11 v11n13) 12 v12n15) 3 v3n17) 4 v12n15) 13 v12n15) 14 v14n20) 15 (e9 0)) w24) (fun (K22 : KT) =>
K22 .normal (Env.put (Env.put (Env.put (Env.put (Env.put (Env.put (Env.put (Env.put (Env.put e9 9 (e9 0)) 10 v10n11) 8 v10n11) 11 v11n13) 12 v12n15) 3 v3n17) 4 v12n15) 13 v12n15) 14 v14n20) w21) (thenK (fun e25 w26 =>
bindV (pLoad P 35 (e25 3) w26) fun v16n27 w28 =>
bindU (pStore P 35 (e25 2) v16n27 w28) fun w29 =>
topK P [(ResultVar.cell 2 35)] R .ret (Env.put e25 16 v16n27) w29) (topK P [(ResultVar.cell 2 35)] R))) (topK P [(ResultVar.cell 2 35)] R))
theorem F22ok {w : World} {R : Ending → World → Prop} {a0 : Value} (h : F22 a0 w R) : Calls P 22 #[a0] w R :=
  calls_of_ev bodies mixed (c := bodyOf Try.f22) (nt := 17) (rs := [(ResultVar.cell 2 35)]) (args := [a0]) (fn := Try.f22) (by kernel_rfl) (by kernel_rfl) (by kernel_rfl) (by kernel_rfl) (by kernel_rfl) (by simp)
    (eq_mp (show F22 a0 w R = ev P C (bodyOf Try.f22) (argE [a0]) w (topK P [(ResultVar.cell 2 35)] R) by kernel_rfl) h)

/-! ### moiety/pack.New -/
def F23 (a0 : Value) (w : World) (R : Ending → World → Prop) : Prop :=
bindV (pBuild P 74 [(0, a0)] w) fun v4n1 w2 =>
bindV (pBox P 74 v4n1 w2) fun v5n3 w4 =>
R (.returned v5n3) w4
theorem F23ok {w : World} {R : Ending → World → Prop} {a0 : Value} (h : F23 a0 w R) : Calls P 23 #[a0] w R :=
  calls_of_ev bodies mixed (c := bodyOf Try.f23) (nt := 6) (rs := [(ResultVar.tmp 2)]) (args := [a0]) (fn := Try.f23) (by kernel_rfl) (by kernel_rfl) (by kernel_rfl) (by kernel_rfl) (by kernel_rfl) (by simp)
    (eq_mp (show F23 a0 w R = ev P C (bodyOf Try.f23) (argE [a0]) w (topK P [(ResultVar.tmp 2)] R) by kernel_rfl) h)

/-! ### (*moiety/pack.Reader).part -/
def F24 (a0 : Value) (a1 : Value) (a2 : Value) (w : World) (R : Ending → World → Prop) : Prop :=
bindV (pAlloc P 28 w) fun v6n1 w2 =>
bindV (pBuild P 28 [(0, a1)] w2) fun v9n3 w4 =>
bindV (pAlloc P 28 w4) fun v7n5 w6 =>
bindU (pStore P 28 v7n5 v9n3 w6) fun w7 =>
bindV (pBin P BinOp.eql 5 true a1 (Value.int IntKind.u8 117) w7) fun v14n8 w9 =>
condE v14n8 (fun (K10 : KT) =>
callE P 41 #[a0] w9 (fun v16n13 w14 =>
bindV (pFieldAddr P 28 v7n5 1 w14) fun v17n15 w16 =>
bindU (pStore P 26 v17n15 v16n13 w16) fun w17 =>
K10 .normal (Env.put (Env.put (Env.put (Env.put (Env.put (Env.put (Env.put (Env.put (Env.put (Env.put (argE [a0, a1, a2]) 6 v6n1) 8 a1) 9 v9n3) 7 v7n5) 10 a1) 14 v14n8) 13 v14n8) 15 a0) 16 v16n13) 17 v17n15) w17) (fun c11 w12 => K10 (.panic c11) (Env.put (Env.put (Env.put (Env.put (Env.put (Env.put (Env.put (Env.put (argE [a0, a1, a2]) 6 v6n1) 8 a1) 9 v9n3) 7 v7n5) 10 a1) 14 v14n8) 13 v14n8) 15 a0) w12)) (fun (K10 : KT) =>
bindV (pBin P BinOp.eql 5 true a1 (Value.int IntKind.u8 105) w9) fun v19n18 w19 =>
condE v19n18 (fun (K20 : KT) =>
callE P 42 #[a0] w19 (fun v21n23 w24 =>
bindV (pFieldAddr P 28 v7n5 2 w24) fun v22n25 w26 =>
bindU (pStore P 2 v22n25 v21n23 w26) fun w27 =>
K20 .normal (Env.put (Env.put (Env.put (Env.put (Env.put (Env.put (Env.put (Env.put (Env.put (Env.put (Env.put (Env.put (argE [a0, a1, a2]) 6 v6n1) 8 a1) 9 v9n3) 7 v7n5) 10 a1) 14 v14n8) 13 v14n8) 19 v19n18) 18 v19n18) 20 a0) 21 v21n23) 22 v22n25) w27) (fun c21 w22 => K20 (.panic c21) (Env.put (Env.put (Env.put (Env.put (Env.put (Env.put (Env.put (Env.put (Env.put (Env.put (argE [a0, a1, a2]) 6 v6n1) 8 a1) 9 v9n3) 7 v7n5) 10 a1) 14 v14n8) 13 v14n8) 19 v19n18) 18 v19n18) 20 a0) w22)) (fun (K20 : KT) =>
bindV (pBin P BinOp.eql 5 true a1 (Value.int IntKind.u8 102) w19) fun v24n28 w29 =>
condE v24n28 (fun (K30 : KT) =>
callE P 43 #[a0] w29 (fun v26n33 w34 =>
bindV (pFieldAddr P 28 v7n5 3 w34) fun v27n35 w36 =>
bindU (pStore P 25 v27n35 v26n33 w36) fun w37 =>
K30 .normal (Env.put (Env.put (Env.put (Env.put (Env.put (Env.put (Env.put (Env.put (Env.put (Env.put (Env.put (Env.put (Env.put (Env.put (argE [a0, a1, a2]) 6 v6n1) 8 a1) 9 v9n3) 7 v7n5) 10 a1) 14 v14n8) 13 v14n8) 19 v19n18) 18 v19n18) 24 v24n28) 23 v24n28) 25 a0) 26 v26n33) 27 v27n35) w37) (fun c31 w32 => K30 (.panic c31) (Env.put (Env.put (Env.put (Env.put (Env.put (Env.put (Env.put (Env.put (Env.put (Env.put (Env.put (Env.put (argE [a0, a1, a2]) 6 v6n1) 8 a1) 9 v9n3) 7 v7n5) 10 a1) 14 v14n8) 13 v14n8) 19 v19n18) 18 v19n18) 24 v24n28) 23 v24n28) 25 a0) w32)) (fun (K30 : KT) =>
bindV (pBin P BinOp.eql 5 true a1 (Value.int IntKind.u8 115) w29) fun v29n38 w39 =>
condE v29n38 (fun (K40 : KT) =>
callE P 44 #[a0, a2] w39 (fun v32n43 w44 =>
bindV (pFieldAddr P 28 v7n5 4 w44) fun v33n45 w46 =>
bindU (pStore P 9 v33n45 v32n43 w46) fun w47 =>
K40 .normal (Env.put (Env.put (Env.put (Env.put (Env.put (Env.put (Env.put (Env.put (Env.put (Env.put (Env.put (Env.put (Env.put (Env.put (Env.put (Env.put (Env.put (argE [a0, a1, a2]) 6 v6n1) 8 a1) 9 v9n3) 7 v7n5) 10 a1) 14 v14n8) 13 v14n8) 19 v19n18) 18 v19n18) 24 v24n28) 23 v24n28) 29 v29n38) 28 v29n38) 30 a0) 31 a2) 32 v32n43) 33 v33n45) w47) (fun c41 w42 => K40 (.panic c41) (Env.put (Env.put (Env.put (Env.put (Env.put (Env.put (Env.put (Env.put (Env.put (Env.put (Env.put (Env.put (Env.put (Env.put (Env.put (argE [a0, a1, a2]) 6 v6n1) 8 a1) 9 v9n3) 7 v7n5) 10 a1) 14 v14n8) 13 v14n8) 19 v19n18) 18 v19n18) 24 v24n28) 23 v24n28) 29 v29n38) 28 v29n38) 30 a0) 31 a2) w42)) (fun (K40 : KT) =>
bindV (pBin P BinOp.eql 5 true a1 (Value.int IntKind.u8 98) w39) fun v35n48 w49 =>
condE v35n48 (fun (K50 : KT) =>
callE P 45 #[a0] w49 (fun v37n53 w54 =>
bindV (pFieldAddr P 28 v7n5 5 w54) fun v38n55 w56 =>
bindU (pStore P 4 v38n55 v37n53 w56) fun w57 =>
K50 .normal (Env.put (Env.put (Env.put (Env.put (Env.put (Env.put (Env.put (Env.put (Env.put (Env.put (Env.put (Env.put (Env.put (Env.put (Env.put (Env.put (Env.put (Env.put (argE [a0, a1, a2]) 6 v6n1) 8 a1) 9 v9n3) 7 v7n5) 10 a1) 14 v14n8) 13 v14n8) 19 v19n18) 18 v19n18) 24 v24n28) 23 v24n28) 29 v29n38) 28 v29n38) 35 v35n48) 34 v35n48) 36 a0) 37 v37n53) 38 v38n55) w57) (fun c51 w52 => K50 (.panic c51) (Env.put (Env.put (Env.put (Env.put (Env.put (Env.put (Env.put (Env.put (Env.put (Env.put (Env.put (Env.put (Env.put (Env.put (Env.put (Env.put (argE [a0, a1, a2]) 6 v6n1) 8 a1) 9 v9n3) 7 v7n5) 10 a1) 14 v14n8) 13 v14n8) 19 v19n18) 18 v19n18) 24 v24n28) 23 v24n28) 29 v29n38) 28 v29n38) 35 v35n48) 34 v35n48) 36 a0) w52)) (fun (K50 : KT) =>
callE P 46 #[a0, (Value.int IntKind.i64 5)] w49 (fun v12n60 w61 =>
K50 .normal (Env.put (Env.put (Env.put (Env.put (Env.put (Env.put (Env.put (Env.put (Env.put (Env.put (Env.put (Env.put (Env.put (Env.put (Env.put (Env.put (Env.put (argE [a0, a1, a2]) 6 v6n1) 8 a1) 9 v9n3) 7 v7n5) 10 a1) 14 v14n8) 13 v14n8) 19 v19n18) 18 v19n18) 24 v24n28) 23 v24n28) 29 v29n38) 28 v29n38) 35 v35n48) 34 v35n48) 11 a0) 12 v12n60) w61) (fun c58 w59 => K50 (.panic c58) (Env.put (Env.put (Env.put (Env.put (Env.put (Env.put (Env.put (Env.put (Env.put (Env.put (Env.put (Env.put (Env.put (Env.put (Env.put (Env.put (argE [a0, a1, a2]) 6 v6n1) 8 a1) 9 v9n3) 7 v7n5) 10 a1) 14 v14n8) 13 v14n8) 19 v19n18) 18 v19n18) 24 v24n28) 23 v24n28) 29 v29n38) 28 v29n38) 35 v35n48) 34 v35n48) 11 a0) w59)) K40) K30) K20) K10) (blockK 0 (thenK (fun e62 w63 =>
bindV (pLoad P 28 (e62 7) w63) fun v39n64 w65 =>
bindU (pStore P 28 (e62 6) v39n64 w65) fun w66 =>
topK P [(ResultVar.cell 6 28)] R .ret (Env.put e62 39 v39n64) w66) (topK P [(ResultVar.cell 6 28)] R)))
theorem F24ok {w : World} {R : Ending → World → Prop} {a0 : Value} {a1 : Value} {a2 : Value} (h : F24 a0 a1 a2 w R) : Calls P 24 #[a0, a1, a2] w R :=
  calls_of_ev bodies mixed (c := bodyOf Try.f24) (nt := 40) (rs := [(ResultVar.cell 6 28)]) (args := [a0, a1, a2]) (fn := Try.f24) (by kernel_rfl) (by kernel_rfl) (by kernel_rfl) (by kernel_rfl) (by kernel_rfl) (by simp)
    (eq_mp (show F24 a0 a1 a2 w R = ev P C (bodyOf Try.f24) (argE [a0, a1, a2]) w (topK P [(ResultVar.cell 6 28)] R) by kernel_rfl) h)

/-! ### (*moiety/pack.Reader).End -/
def F25 (a0 : Value) (w : World) (R : Ending → World → Prop) : Prop :=
callE P 47 #[a0] w (fun v3n3 w4 =>
bindV (pBin P BinOp.gtr 3 true v3n3 (Value.int IntKind.i64 0) w4) fun v4n5 w6 =>
condE v4n5 (fun (K7 : KT) =>
callE P 46 #[a0, (Value.int IntKind.i64 3)] w6 (fun v6n10 w11 =>
K7 .normal (Env.put (Env.put (Env.put (Env.put (Env.put (argE [a0]) 2 a0) 3 v3n3) 4 v4n5) 5 a0) 6 v6n10) w11) (fun c8 w9 => K7 (.panic c8) (Env.put (Env.put (Env.put (Env.put (argE [a0]) 2 a0) 3 v3n3) 4 v4n5) 5 a0) w9)) (fun (K7 : KT) =>
K7 .normal (Env.put (Env.put (Env.put (argE [a0]) 2 a0) 3 v3n3) 4 v4n5) w6) (topK P [] R)) (fun c1 w2 => R (.panicked c1) w2)
theorem F25ok {w : World} {R : Ending → World → Prop} {a0 : Value} (h : F25 a0 w R) : Calls P 25 #[a0] w R :=
  calls_of_ev bodies mixed (c := bodyOf Try.f25) (nt := 7) (rs := []) (args := [a0]) (fn := Try.f25) (by kernel_rfl) (by kernel_rfl) (by kernel_rfl) (by kernel_rfl) (by kernel_rfl) (by simp)
    (eq_mp (show F25 a0 w R = ev P C (bodyOf Try.f25) (argE [a0]) w (topK P [] R) by kernel_rfl) h)

/-! ### (*moiety/pack.Reader).U -/
def F41B0 (e : Env) (w : World) (K : KT) : Prop :=
callE P 56 #[(e 0)] w (fun v9n3 w4 =>
letK (blockK 1 (thenK (fun e6 w7 =>
bindV (pBin P BinOp.add 3 true (e6 4) (Value.int IntKind.i64 7) w7) fun v7n8 w9 =>
K .normal (Env.put (Env.put (Env.put e6 6 (e6 4)) 7 v7n8) 4 v7n8) w9) K)) fun (K5 : KT) =>
bindV (pBin P BinOp.eql 3 true (e 4) (Value.int IntKind.i64 63) w4) fun v11n10 w11 =>
grdE v11n10 true (fun (k12 : Value → World → Prop) => k12 v9n3 w11) (fun v13n13 w14 =>
grdE v11n10 true (fun (k15 : Value → World → Prop) => bindV (pBin P BinOp.gtr 5 true v13n13 (Value.int IntKind.u8 1) w14) k15) (fun v14n16 w17 =>
pickE v11n10 v14n16 (Value.bool false) fun v15n18 =>
condE v15n18 (fun (K19 : KT) =>
callE P 46 #[(e 0), (Value.int IntKind.i64 1)] w17 (fun v17n22 w23 =>
K19 .normal (Env.put (Env.put (Env.put (Env.put (Env.put (Env.put (Env.put (Env.put (Env.put (Env.put (Env.put e 8 (e 0)) 9 v9n3) 5 v9n3) 10 (e 4)) 11 v11n10) 12 v11n10) 13 v13n13) 14 v14n16) 15 v15n18) 16 (e 0)) 17 v17n22) w23) (fun c20 w21 => K19 (.panic c20) (Env.put (Env.put (Env.put (Env.put (Env.put (Env.put (Env.put (Env.put (Env.put (Env.put e 8 (e 0)) 9 v9n3) 5 v9n3) 10 (e 4)) 11 v11n10) 12 v11n10) 13 v13n13) 14 v14n16) 15 v15n18) 16 (e 0)) w21)) (fun (K19 : KT) =>
K19 .normal (Env.put (Env.put (Env.put (Env.put (Env.put (Env.put (Env.put (Env.put (Env.put e 8 (e 0)) 9 v9n3) 5 v9n3) 10 (e 4)) 11 v11n10) 12 v11n10) 13 v13n13) 14 v14n16) 15 v15n18) w17) (thenK (fun e24 w25 =>
bindV (pBin P BinOp.and 5 true (e24 5) (Value.int IntKind.u8 127) w25) fun v20n26 w27 =>
bindV (pConv P 5 26 v20n26 w27) fun v21n28 w29 =>
bindV (pBin P BinOp.shl 26 false v21n28 (e24 4) w29) fun v23n30 w31 =>
bindV (pBin P BinOp.or 26 false (e24 3) v23n30 w31) fun v24n32 w33 =>
bindV (pBin P BinOp.geq 5 true (e24 5) (Value.int IntKind.u8 128) w33) fun v26n34 w35 =>
condE v26n34 (fun (K36 : KT) =>
K36 (.exit 1) (Env.put (Env.put (Env.put (Env.put (Env.put (Env.put (Env.put (Env.put (Env.put (Env.put e24 18 (e24 3)) 19 (e24 5)) 20 v20n26) 21 v21n28) 22 (e24 4)) 23 v23n30) 24 v24n32) 3 v24n32) 25 (e24 5)) 26 v26n34) w35) (fun (K36 : KT) =>
K36 .normal (Env.put (Env.put (Env.put (Env.put (Env.put (Env.put (Env.put (Env.put (Env.put (Env.put e24 18 (e24 3)) 19 (e24 5)) 20 v20n26) 21 v21n28) 22 (e24 4)) 23 v23n30) 24 v24n32) 3 v24n32) 25 (e24 5)) 26 v26n34) w35) (thenK (fun e37 w38 =>
bindV (pBin P BinOp.eql 5 true (e37 5) (Value.int IntKind.u8 0) w38) fun v28n39 w40 =>
grdE v28n39 true (fun (k41 : Value → World → Prop) => k41 (e37 4) w40) (fun v30n42 w43 =>
grdE v28n39 true (fun (k44 : Value → World → Prop) => bindV (pBin P BinOp.gtr 3 true v30n42 (Value.int IntKind.i64 0) w43) k44) (fun v31n45 w46 =>
pickE v28n39 v31n45 (Value.bool false) fun v32n47 =>
condE v32n47 (fun (K48 : KT) =>
callE P 46 #[(e37 0), (Value.int IntKind.i64 4)] w46 (fun v34n51 w52 =>
K48 .normal (Env.put (Env.put (Env.put (Env.put (Env.put (Env.put (Env.put (Env.put e37 27 (e37 5)) 28 v28n39) 29 v28n39) 30 v30n42) 31 v31n45) 32 v32n47) 33 (e37 0)) 34 v34n51) w52) (fun c49 w50 => K48 (.panic c49) (Env.put (Env.put (Env.put (Env.put (Env.put (Env.put (Env.put e37 27 (e37 5)) 28 v28n39) 29 v28n39) 30 v30n42) 31 v31n45) 32 v32n47) 33 (e37 0)) w50)) (fun (K48 : KT) =>
K48 .normal (Env.put (Env.put (Env.put (Env.put (Env.put (Env.put e37 27 (e37 5)) 28 v28n39) 29 v28n39) 30 v30n42) 31 v31n45) 32 v32n47) w46) (thenK (fun e53 w54 =>
K5 .ret (Env.put (Env.put e53 35 (e53 3)) 2 (e53 3)) w54) K5)) w43) w40) K5)) K5)) w14) w11) (fun c1 w2 => K (.panic c1) (Env.put e 8 (e 0)) w2)
def F41 (a0 : Value) (w : World) (R : Ending → World → Prop) : Prop :=
loopE F41B0 (Env.put (Env.put (Env.put (argE [a0]) 2 (Value.int IntKind.u64 0)) 3 (Value.int IntKind.u64 0)) 4 (Value.int IntKind.i64 0)) w (blockK 0 (topK P [(ResultVar.tmp 2)] R))
theorem F41ok {w : World} {R : Ending → World → Prop} {a0 : Value} (h : F41 a0 w R) : Calls P 41 #[a0] w R :=
  calls_of_ev bodies mixed (c := bodyOf Try.f41) (nt := 36) (rs := [(ResultVar.tmp 2)]) (args := [a0]) (fn := Try.f41) (by kernel_rfl) (by kernel_rfl) (by kernel_rfl) (by kernel_rfl) (by kernel_rfl) (by simp)
    (eq_mp (show F41 a0 w R = ev P C (bodyOf Try.f41) (argE [a0]) w (topK P [(ResultVar.tmp 2)] R) by kernel_rfl) h)

/-! ### (*moiety/pack.Reader).I -/
def F42 (a0 : Value) (w : World) (R : Ending → World → Prop) : Prop :=
callE P 41 #[a0] w (fun v5n3 w4 =>
bindV (pBin P BinOp.shr 26 true v5n3 (Value.int IntKind.u64 1) w4) fun v7n5 w6 =>
bindV (pConv P 26 2 v7n5 w6) fun v8n7 w8 =>
bindV (pBin P BinOp.and 26 true v5n3 (Value.int IntKind.u64 1) w8) fun v10n9 w10 =>
bindV (pConv P 26 2 v10n9 w10) fun v11n11 w12 =>
bindV (pUn P UnOp.neg v11n11 w12) fun v12n13 w14 =>
bindV (pBin P BinOp.xor 2 false v8n7 v12n13 w14) fun v13n15 w16 =>
R (.returned v13n15) w16) (fun c1 w2 => R (.panicked c1) w2)
theorem F42ok {w : World} {R : Ending → World → Prop} {a0 : Value} (h : F42 a0 w R) : Calls P 42 #[a0] w R :=
  calls_of_ev bodies mixed (c := bodyOf Try.f42) (nt := 14) (rs := [(ResultVar.tmp 2)]) (args := [a0]) (fn := Try.f42) (by kernel_rfl) (by kernel_rfl) (by kernel_rfl) (by kernel_rfl) (by kernel_rfl) (by simp)
    (eq_mp (show F42 a0 w R = ev P C (bodyOf Try.f42) (argE [a0]) w (topK P [(ResultVar.tmp 2)] R) by kernel_rfl) h)

/-! ### (*moiety/pack.Reader).F -/
def F43B0 (e : Env) (w : World) (K : KT) : Prop :=
bindV (pBin P BinOp.lss 3 true (e 6) (Value.int IntKind.i64 8) w) fun v7n1 w2 =>
condE v7n1 (fun (K3 : KT) =>
K3 .normal (Env.put e 7 v7n1) w2) (fun (K3 : KT) =>
K3 (.exit 0) (Env.put e 7 v7n1) w2) (thenK (fun e4 w5 =>
bindV (pBin P BinOp.shl 26 true (e4 3) (Value.int IntKind.u64 8) w5) fun v9n6 w7 =>
callE P 56 #[(e4 0)] w7 (fun v11n10 w11 =>
bindV (pConv P 5 26 v11n10 w11) fun v12n12 w13 =>
bindV (pBin P BinOp.or 26 false v9n6 v12n12 w13) fun v13n14 w15 =>
bindV (pBin P BinOp.add 3 true (e4 6) (Value.int IntKind.i64 1) w15) fun v14n16 w17 =>
K .normal (Env.put (Env.put (Env.put (Env.put (Env.put (Env.put (Env.put (Env.put (Env.put e4 8 (e4 3)) 9 v9n6) 10 (e4 0)) 11 v11n10) 12 v12n12) 13 v13n14) 3 v13n14) 14 v14n16) 6 v14n16) w17) (fun c8 w9 => K (.panic c8) (Env.put (Env.put (Env.put e4 8 (e4 3)) 9 v9n6) 10 (e4 0)) w9)) K)
def F43 (a0 : Value) (w : World) (R : Ending → World → Prop) : Prop :=
loopE F43B0 (Env.put (Env.put (Env.put (argE [a0]) 2 (Value.float FloatKind.f64 0)) 3 (Value.int IntKind.u64 0)) 6 (Value.int IntKind.i64 0)) w (blockK 0 (thenK (fun e18 w19 =>
callE P 57 #[(e18 3)] w19 (fun v17n22 w23 =>
bindV (pExtract P v17n22 0 w23) fun v18n24 w25 =>
bindV (pExtract P v17n22 1 w25) fun v19n26 w27 =>
bindV (pUn P UnOp.not v19n26 w27) fun v21n28 w29 =>
condE v21n28 (fun (K30 : KT) =>
callE P 46 #[(e18 0), (Value.int IntKind.i64 4)] w29 (fun v23n33 w34 =>
K30 .normal (Env.put (Env.put (Env.put (Env.put (Env.put (Env.put (Env.put (Env.put (Env.put (Env.put (Env.put e18 16 (e18 3)) 17 v17n22) 15 v17n22) 18 v18n24) 19 v19n26) 4 v18n24) 5 v19n26) 20 v19n26) 21 v21n28) 22 (e18 0)) 23 v23n33) w34) (fun c31 w32 => K30 (.panic c31) (Env.put (Env.put (Env.put (Env.put (Env.put (Env.put (Env.put (Env.put (Env.put (Env.put e18 16 (e18 3)) 17 v17n22) 15 v17n22) 18 v18n24) 19 v19n26) 4 v18n24) 5 v19n26) 20 v19n26) 21 v21n28) 22 (e18 0)) w32)) (fun (K30 : KT) =>
K30 .normal (Env.put (Env.put (Env.put (Env.put (Env.put (Env.put (Env.put (Env.put (Env.put e18 16 (e18 3)) 17 v17n22) 15 v17n22) 18 v18n24) 19 v19n26) 4 v18n24) 5 v19n26) 20 v19n26) 21 v21n28) w29) (thenK (fun e35 w36 =>
R (.returned (e35 4)) w36) (topK P [(ResultVar.tmp 2)] R))) (fun c20 w21 => R (.panicked c20) w21)) (topK P [(ResultVar.tmp 2)] R)))
theorem F43ok {w : World} {R : Ending → World → Prop} {a0 : Value} (h : F43 a0 w R) : Calls P 43 #[a0] w R :=
  calls_of_ev bodies mixed (c := bodyOf Try.f43) (nt := 25) (rs := [(ResultVar.tmp 2)]) (args := [a0]) (fn := Try.f43) (by kernel_rfl) (by kernel_rfl) (by kernel_rfl) (by kernel_rfl) (by kernel_rfl) (by simp)
    (eq_mp (show F43 a0 w R = ev P C (bodyOf Try.f43) (argE [a0]) w (topK P [(ResultVar.tmp 2)] R) by kernel_rfl) h)

/-! ### (*moiety/pack.Reader).S -/
def F44 (a0 : Value) (a1 : Value) (w : World) (R : Ending → World → Prop) : Prop :=
callE P 41 #[a0] w (fun v7n3 w4 =>
bindV (pBuiltin P Builtin.max #[3, 3] 3 [a1, (Value.int IntKind.i64 0)] w4) fun v11n5 w6 =>
bindV (pConv P 3 26 v11n5 w6) fun v12n7 w8 =>
bindV (pBin P BinOp.gtr 26 false v7n3 v12n7 w8) fun v13n9 w10 =>
condE v13n9 (fun (K11 : KT) =>
callE P 46 #[a0, (Value.int IntKind.i64 3)] w10 (fun v15n14 w15 =>
K11 .normal (Env.put (Env.put (Env.put (Env.put (Env.put (Env.put (Env.put (Env.put (Env.put (Env.put (Env.put (Env.put (argE [a0, a1]) 4 (Value.string { data := #[] })) 6 a0) 7 v7n3) 5 v7n3) 9 v7n3) 10 a1) 11 v11n5) 12 v12n7) 13 v13n9) 8 v13n9) 14 a0) 15 v15n14) w15) (fun c12 w13 => K11 (.panic c12) (Env.put (Env.put (Env.put (Env.put (Env.put (Env.put (Env.put (Env.put (Env.put (Env.put (Env.put (argE [a0, a1]) 4 (Value.string { data := #[] })) 6 a0) 7 v7n3) 5 v7n3) 9 v7n3) 10 a1) 11 v11n5) 12 v12n7) 13 v13n9) 8 v13n9) 14 a0) w13)) (fun (K11 : KT) =>
callE P 47 #[a0] w10 (fun v19n18 w19 =>
bindV (pConv P 3 26 v19n18 w19) fun v20n20 w21 =>
bindV (pBin P BinOp.gtr 26 false v7n3 v20n20 w21) fun v21n22 w23 =>
condE v21n22 (fun (K24 : KT) =>
callE P 46 #[a0, (Value.int IntKind.i64 2)] w23 (fun v23n27 w28 =>
K24 .normal (Env.put (Env.put (Env.put (Env.put (Env.put (Env.put (Env.put (Env.put (Env.put (Env.put (Env.put (Env.put (Env.put (Env.put (Env.put (Env.put (Env.put (Env.put (argE [a0, a1]) 4 (Value.string { data := #[] })) 6 a0) 7 v7n3) 5 v7n3) 9 v7n3) 10 a1) 11 v11n5) 12 v12n7) 13 v13n9) 8 v13n9) 17 v7n3) 18 a0) 19 v19n18) 20 v20n20) 21 v21n22) 16 v21n22) 22 a0) 23 v23n27) w28) (fun c25 w26 => K24 (.panic c25) (Env.put (Env.put (Env.put (Env.put (Env.put (Env.put (Env.put (Env.put (Env.put (Env.put (Env.put (Env.put (Env.put (Env.put (Env.put (Env.put (Env.put (argE [a0, a1]) 4 (Value.string { data := #[] })) 6 a0) 7 v7n3) 5 v7n3) 9 v7n3) 10 a1) 11 v11n5) 12 v12n7) 13 v13n9) 8 v13n9) 17 v7n3) 18 a0) 19 v19n18) 20 v20n20) 21 v21n22) 16 v21n22) 22 a0) w26)) (fun (K24 : KT) =>
K24 .normal (Env.put (Env.put (Env.put (Env.put (Env.put (Env.put (Env.put (Env.put (Env.put (Env.put (Env.put (Env.put (Env.put (Env.put (Env.put (Env.put (argE [a0, a1]) 4 (Value.string { data := #[] })) 6 a0) 7 v7n3) 5 v7n3) 9 v7n3) 10 a1) 11 v11n5) 12 v12n7) 13 v13n9) 8 v13n9) 17 v7n3) 18 a0) 19 v19n18) 20 v20n20) 21 v21n22) 16 v21n22) w23) K11) (fun c16 w17 => K11 (.panic c16) (Env.put (Env.put (Env.put (Env.put (Env.put (Env.put (Env.put (Env.put (Env.put (Env.put (Env.put (Env.put (argE [a0, a1]) 4 (Value.string { data := #[] })) 6 a0) 7 v7n3) 5 v7n3) 9 v7n3) 10 a1) 11 v11n5) 12 v12n7) 13 v13n9) 8 v13n9) 17 v7n3) 18 a0) w17)) (blockK 0 (thenK (fun e29 w30 =>
nilE (e29 0) fun v25n31 =>
bindV (pFieldAddr P 74 v25n31 1 w30) fun v26n32 w33 =>
bindV (pLoad P 3 v26n32 w33) fun v27n34 w35 =>
bindV (pConv P 26 3 (e29 5) w35) fun v29n36 w37 =>
bindV (pBin P BinOp.add 3 false v27n34 v29n36 w37) fun v30n38 w39 =>
nilE (e29 0) fun v31n40 =>
bindV (pFieldAddr P 74 v31n40 1 w39) fun v32n41 w42 =>
bindU (pStore P 3 v32n41 v30n38 w42) fun w43 =>
takeE (fun w46 => some ((e29 0), w46)) (drew w43) fun v33n44 h45 =>
takeE (fun w49 => qNil v33n44 w49) (drew w43) fun v34n47 h48 =>
takeE (fun w52 => pFieldAddr P 74 v34n47 0 w52) (drew w43) fun v35n50 h51 =>
takeE (fun w55 => pLoad P 23 v35n50 w55) (drew w43) fun v36n53 h54 =>
takeE (fun w58 => some ((e29 0), w58)) (drew w43) fun v37n56 h57 =>
takeE (fun w61 => qNil v37n56 w61) (drew w43) fun v38n59 h60 =>
takeE (fun w64 => pFieldAddr P 74 v38n59 1 w64) (drew w43) fun v39n62 h63 =>
takeE (fun w67 => pLoad P 3 v39n62 w67) (drew w43) fun v40n65 h66 =>
takeE (fun w70 => some ((e29 5), w70)) (drew w43) fun v41n68 h69 =>
takeE (fun w73 => pConv P 26 3 v41n68 w73) (drew w43) fun v42n71 h72 =>
takeE (fun w76 => pBin P BinOp.sub 3 false v40n65 v42n71 w76) (drew w43) fun v43n74 h75 =>
takeE (fun w79 => some ((e29 0), w79)) (drew w43) fun v44n77 h78 =>
takeE (fun w82 => qNil v44n77 w82) (drew w43) fun v45n80 h81 =>
takeE (fun w85 => pFieldAddr P 74 v45n80 1 w85) (drew w43) fun v46n83 h84 =>
takeE (fun w88 => pLoad P 3 v46n83 w88) (drew w43) fun v47n86 h87 =>
takeE (fun w91 => pSlice P 23 v36n53 (some v43n74) (some v47n86) none w91) (drew w43) fun v48n89 h90 =>
takeE (fun w94 => pConv P 23 9 v48n89 w94) (drew w43) fun v49n92 h93 =>
R (.returned v49n92) (drew w43)) (topK P [(ResultVar.tmp 4)] R)))) (fun c1 w2 => R (.panicked c1) w2)
theorem F44ok {w : World} {R : Ending → World → Prop} {a0 : Value} {a1 : Value} (h : F44 a0 a1 w R) : Calls P 44 #[a0, a1] w R :=
  calls_of_ev bodies mixed (c := bodyOf Try.f44) (nt := 50) (rs := [(ResultVar.tmp 4)]) (args := [a0, a1]) (fn := Try.f44) (by kernel_rfl) (by kernel_rfl) (by kernel_rfl) (by kernel_rfl) (by kernel_rfl) (by simp)
    (eq_mp (show F44 a0 a1 w R = ev P C (bodyOf Try.f44) (argE [a0, a1]) w (topK P [(ResultVar.tmp 4)] R) by kernel_rfl) h)

/-! ### (*moiety/pack.Reader).Flag -/
def F45 (a0 : Value) (w : World) (R : Ending → World → Prop) : Prop :=
callE P 56 #[a0] w (fun v5n3 w4 =>
bindV (pBin P BinOp.gtr 5 true v5n3 (Value.int IntKind.u8 1) w4) fun v7n5 w6 =>
condE v7n5 (fun (K7 : KT) =>
callE P 46 #[a0, (Value.int IntKind.i64 4)] w6 (fun v9n10 w11 =>
K7 .normal (Env.put (Env.put (Env.put (Env.put (Env.put (Env.put (Env.put (Env.put (argE [a0]) 2 (Value.bool false)) 4 a0) 5 v5n3) 3 v5n3) 6 v5n3) 7 v7n5) 8 a0) 9 v9n10) w11) (fun c8 w9 => K7 (.panic c8) (Env.put (Env.put (Env.put (Env.put (Env.put (Env.put (Env.put (argE [a0]) 2 (Value.bool false)) 4 a0) 5 v5n3) 3 v5n3) 6 v5n3) 7 v7n5) 8 a0) w9)) (fun (K7 : KT) =>
K7 .normal (Env.put (Env.put (Env.put (Env.put (Env.put (Env.put (argE [a0]) 2 (Value.bool false)) 4 a0) 5 v5n3) 3 v5n3) 6 v5n3) 7 v7n5) w6) (thenK (fun e12 w13 =>
bindV (pBin P BinOp.eql 5 true (e12 3) (Value.int IntKind.u8 1) w13) fun v11n14 w15 =>
R (.returned v11n14) w15) (topK P [(ResultVar.tmp 2)] R))) (fun c1 w2 => R (.panicked c1) w2)
theorem F45ok {w : World} {R : Ending → World → Prop} {a0 : Value} (h : F45 a0 w R) : Calls P 45 #[a0] w R :=
  calls_of_ev bodies mixed (c := bodyOf Try.f45) (nt := 12) (rs := [(ResultVar.tmp 2)]) (args := [a0]) (fn := Try.f45) (by kernel_rfl) (by kernel_rfl) (by kernel_rfl) (by kernel_rfl) (by kernel_rfl) (by simp)
    (eq_mp (show F45 a0 w R = ev P C (bodyOf Try.f45) (argE [a0]) w (topK P [(ResultVar.tmp 2)] R) by kernel_rfl) h)

/-! ### (*moiety/pack.Reader).fail -/
def F46 (a0 : Value) (a1 : Value) (w : World) (R : Ending → World → Prop) : Prop :=
nilE a0 fun v6n1 =>
bindV (pFieldAddr P 74 v6n1 1 w) fun v7n2 w3 =>
bindV (pLoad P 3 v7n2 w3) fun v8n4 w5 =>
bindV (pBuild P 35 [(0, a1), (1, v8n4)] w5) fun v9n6 w7 =>
bindV (pIface P 35 v9n6 w7) fun v10n8 w9 =>
panicE P v10n8 w9 fun c10 w11 =>
R (.panicked c10) w11
theorem F46ok {w : World} {R : Ending → World → Prop} {a0 : Value} {a1 : Value} (h : F46 a0 a1 w R) : Calls P 46 #[a0, a1] w R :=
  calls_of_ev bodies mixed (c := bodyOf Try.f46) (nt := 11) (rs := []) (args := [a0, a1]) (fn := Try.f46) (by kernel_rfl) (by kernel_rfl) (by kernel_rfl) (by kernel_rfl) (by kernel_rfl) (by simp)
    (eq_mp (show F46 a0 a1 w R = ev P C (bodyOf Try.f46) (argE [a0, a1]) w (topK P [] R) by kernel_rfl) h)

/-! ### (*moiety/pack.Reader).Left -/
def F47 (a0 : Value) (w : World) (R : Ending → World → Prop) : Prop :=
takeE (fun w3 => some (a0, w3)) (drew w) fun v3n1 h2 =>
takeE (fun w6 => qNil v3n1 w6) (drew w) fun v4n4 h5 =>
takeE (fun w9 => pFieldAddr P 74 v4n4 0 w9) (drew w) fun v5n7 h8 =>
takeE (fun w12 => pLoad P 23 v5n7 w12) (drew w) fun v6n10 h11 =>
takeE (fun w15 => pBuiltin P Builtin.len #[23] 3 [v6n10] w15) (drew w) fun v7n13 h14 =>
takeE (fun w18 => some (a0, w18)) (drew w) fun v8n16 h17 =>
takeE (fun w21 => qNil v8n16 w21) (drew w) fun v9n19 h20 =>
takeE (fun w24 => pFieldAddr P 74 v9n19 1 w24) (drew w) fun v10n22 h23 =>
takeE (fun w27 => pLoad P 3 v10n22 w27) (drew w) fun v11n25 h26 =>
takeE (fun w30 => pBin P BinOp.sub 3 false v7n13 v11n25 w30) (drew w) fun v12n28 h29 =>
R (.returned v12n28) (drew w)
theorem F47ok {w : World} {R : Ending → World → Prop} {a0 : Value} (h : F47 a0 w R) : Calls P 47 #[a0] w R :=
  calls_of_ev bodies mixed (c := bodyOf Try.f47) (nt := 13) (rs := [(ResultVar.tmp 2)]) (args := [a0]) (fn := Try.f47) (by kernel_rfl) (by kernel_rfl) (by kernel_rfl) (by kernel_rfl) (by kernel_rfl) (by simp)
    (eq_mp (show F47 a0 w R = ev P C (bodyOf Try.f47) (argE [a0]) w (topK P [(ResultVar.tmp 2)] R) by kernel_rfl) h)

/-! ### (*moiety/pack.Reader).one -/
def F56 (a0 : Value) (w : World) (R : Ending → World → Prop) : Prop :=
takeE (fun w3 => some (a0, w3)) (drew w) fun v3n1 h2 =>
takeE (fun w6 => qNil v3n1 w6) (drew w) fun v4n4 h5 =>
takeE (fun w9 => pFieldAddr P 74 v4n4 1 w9) (drew w) fun v5n7 h8 =>
takeE (fun w12 => pLoad P 3 v5n7 w12) (drew w) fun v6n10 h11 =>
takeE (fun w15 => some (a0, w15)) (drew w) fun v7n13 h14 =>
takeE (fun w18 => qNil v7n13 w18) (drew w) fun v8n16 h17 =>
takeE (fun w21 => pFieldAddr P 74 v8n16 0 w21) (drew w) fun v9n19 h20 =>
takeE (fun w24 => pLoad P 23 v9n19 w24) (drew w) fun v10n22 h23 =>
takeE (fun w27 => pBuiltin P Builtin.len #[23] 3 [v10n22] w27) (drew w) fun v11n25 h26 =>
takeE (fun w30 => pBin P BinOp.geq 3 false v6n10 v11n25 w30) (drew w) fun v12n28 h29 =>
condE v12n28 (fun (K31 : KT) =>
callE P 46 #[a0, (Value.int IntKind.i64 2)] (drew w) (fun v14n34 w35 =>
K31 .normal (Env.put (Env.put (Env.put (Env.put (Env.put (Env.put (Env.put (Env.put (Env.put (Env.put (Env.put (Env.put (Env.put (argE [a0]) 2 (Value.int IntKind.u8 0)) 3 v3n1) 4 v4n4) 5 v5n7) 6 v6n10) 7 v7n13) 8 v8n16) 9 v9n19) 10 v10n22) 11 v11n25) 12 v12n28) 13 a0) 14 v14n34) w35) (fun c32 w33 => K31 (.panic c32) (Env.put (Env.put (Env.put (Env.put (Env.put (Env.put (Env.put (Env.put (Env.put (Env.put (Env.put (Env.put (argE [a0]) 2 (Value.int IntKind.u8 0)) 3 v3n1) 4 v4n4) 5 v5n7) 6 v6n10) 7 v7n13) 8 v8n16) 9 v9n19) 10 v10n22) 11 v11n25) 12 v12n28) 13 a0) w33)) (fun (K31 : KT) =>
K31 .normal (Env.put (Env.put (Env.put (Env.put (Env.put (Env.put (Env.put (Env.put (Env.put (Env.put (Env.put (argE [a0]) 2 (Value.int IntKind.u8 0)) 3 v3n1) 4 v4n4) 5 v5n7) 6 v6n10) 7 v7n13) 8 v8n16) 9 v9n19) 10 v10n22) 11 v11n25) 12 v12n28) (drew w)) (thenK (fun e36 w37 =>
nilE (e36 0) fun v16n38 =>
bindV (pFieldAddr P 74 v16n38 1 w37) fun v17n39 w40 =>
bindV (pLoad P 3 v17n39 w40) fun v18n41 w42 =>
bindV (pBin P BinOp.add 3 true v18n41 (Value.int IntKind.i64 1) w42) fun v19n43 w44 =>
nilE (e36 0) fun v20n45 =>
bindV (pFieldAddr P 74 v20n45 1 w44) fun v21n46 w47 =>
bindU (pStore P 3 v21n46 v19n43 w47) fun w48 =>
takeE (fun w51 => some ((e36 0), w51)) (drew w48) fun v22n49 h50 =>
takeE (fun w54 => qNil v22n49 w54) (drew w48) fun v23n52 h53 =>
takeE (fun w57 => pFieldAddr P 74 v23n52 0 w57) (drew w48) fun v24n55 h56 =>
takeE (fun w60 => pLoad P 23 v24n55 w60) (drew w48) fun v25n58 h59 =>
takeE (fun w63 => some ((e36 0), w63)) (drew w48) fun v26n61 h62 =>
takeE (fun w66 => qNil v26n61 w66) (drew w48) fun v27n64 h65 =>
takeE (fun w69 => pFieldAddr P 74 v27n64 1 w69) (drew w48) fun v28n67 h68 =>
takeE (fun w72 => pLoad P 3 v28n67 w72) (drew w48) fun v29n70 h71 =>
takeE (fun w75 => pBin P BinOp.sub 3 true v29n70 (Value.int IntKind.i64 1) w75) (drew w48) fun v30n73 h74 =>
takeE (fun w78 => pIndexAddr P 23 v25n58 v30n73 w78) (drew w48) fun v31n76 h77 =>
takeE (fun w81 => pLoad P 5 v31n76 w81) (drew w48) fun v32n79 h80 =>
R (.returned v32n79) (drew w48)) (topK P [(ResultVar.tmp 2)] R))
theorem F56ok {w : World} {R : Ending → World → Prop} {a0 : Value} (h : F56 a0 w R) : Calls P 56 #[a0] w R :=
  calls_of_ev bodies mixed (c := bodyOf Try.f56) (nt := 33) (rs := [(ResultVar.tmp 2)]) (args := [a0]) (fn := Try.f56) (by kernel_rfl) (by kernel_rfl) (by kernel_rfl) (by kernel_rfl) (by kernel_rfl) (by simp)
    (eq_mp (show F56 a0 w R = ev P C (bodyOf Try.f56) (argE [a0]) w (topK P [(ResultVar.tmp 2)] R) by kernel_rfl) h)

end Go.Proofs.Ytieejbkbdfccdaa
