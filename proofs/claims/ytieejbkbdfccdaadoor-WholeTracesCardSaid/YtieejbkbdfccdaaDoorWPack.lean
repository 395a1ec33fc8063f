/- The functions' residual programs, printed by gen.py. -/
import Derived.Test.YtieejbkbdfccdaaDoorBaseD
set_option linter.unusedVariables false
set_option linter.unusedSimpArgs false
namespace Go.Proofs.YtieejbkbdfccdaaDoor
open Go
/-! ### (*moiety/pack.Writer).Bytes -/
def F25 (a0 : Value) (w : World) (R : Ending → World → Prop) : Prop :=
nilE a0 fun v4n1 =>
bindV (pFieldAddr P 69 v4n1 0 w) fun v5n2 w3 =>
bindV (pLoad P 28 v5n2 w3) fun v6n4 w5 =>
bindV (pBuiltin P Builtin.append #[28, 28] 28 [(Value.slice none 0 0), v6n4] w5) fun v7n6 w7 =>
R (.returned v7n6) w7
theorem F25ok {w : World} {R : Ending → World → Prop} {a0 : Value} (h : F25 a0 w R) : Calls P 25 #[a0] w R :=
  calls_of_ev bodies mixed (c := bodyOf Tryd.f25) (nt := 8) (rs := [(ResultVar.tmp 2)]) (args := [a0]) (fn := Tryd.f25) (by kernel_rfl) (by kernel_rfl) (by kernel_rfl) (by kernel_rfl) (by kernel_rfl) (by simp)
    (eq_mp (show F25 a0 w R = ev P C (bodyOf Tryd.f25) (argE [a0]) w (topK P [(ResultVar.tmp 2)] R) by kernel_rfl) h)

/-! ### (*moiety/pack.Writer).U -/
def F50B0 (e : Env) (w : World) (K : KT) : Prop :=
bindV (pBin P BinOp.geq 58 true (e 1) (Value.int IntKind.u64 128) w) fun v5n1 w2 =>
condE v5n1 (fun (K3 : KT) =>
K3 .normal (Env.put (Env.put e 4 (e 1)) 5 v5n1) w2) (fun (K3 : KT) =>
K3 (.exit 0) (Env.put (Env.put e 4 (e 1)) 5 v5n1) w2) (thenK (fun e4 w5 =>
nilE (e4 0) fun v8n6 =>
bindV (pFieldAddr P 69 v8n6 0 w5) fun v9n7 w8 =>
bindV (pLoad P 28 v9n7 w8) fun v10n9 w10 =>
bindV (pConv P 58 5 (e4 1) w10) fun v12n11 w12 =>
bindV (pBin P BinOp.or 5 true v12n11 (Value.int IntKind.u8 128) w12) fun v13n13 w14 =>
bindV (pBuildSlice P 28 1 [(0, v13n13)] w14) fun v14n15 w16 =>
bindV (pBuiltin P Builtin.append #[28, 28] 28 [v10n9, v14n15] w16) fun v15n17 w18 =>
nilE (e4 0) fun v16n19 =>
bindV (pFieldAddr P 69 v16n19 0 w18) fun v17n20 w21 =>
bindU (pStore P 28 v17n20 v15n17 w21) fun w22 =>
bindV (pBin P BinOp.shr 58 true (e4 1) (Value.int IntKind.u64 7) w22) fun v19n23 w24 =>
K .normal (Env.put (Env.put (Env.put (Env.put (Env.put (Env.put (Env.put (Env.put (Env.put (Env.put (Env.put (Env.put (Env.put (Env.put (Env.put e4 6 (e4 0)) 7 (e4 0)) 8 v8n6) 9 v9n7) 10 v10n9) 11 (e4 1)) 12 v12n11) 13 v13n13) 14 v14n15) 15 v15n17) 16 v16n19) 17 v17n20) 18 (e4 1)) 19 v19n23) 1 v19n23) w24) K)
def F50 (a0 : Value) (a1 : Value) (w : World) (R : Ending → World → Prop) : Prop :=
loopE F50B0 (argE [a0, a1]) w (blockK 0 (thenK (fun e25 w26 =>
nilE (e25 0) fun v22n27 =>
bindV (pFieldAddr P 69 v22n27 0 w26) fun v23n28 w29 =>
bindV (pLoad P 28 v23n28 w29) fun v24n30 w31 =>
bindV (pConv P 58 5 (e25 1) w31) fun v26n32 w33 =>
bindV (pBuildSlice P 28 1 [(0, v26n32)] w33) fun v27n34 w35 =>
bindV (pBuiltin P Builtin.append #[28, 28] 28 [v24n30, v27n34] w35) fun v28n36 w37 =>
nilE (e25 0) fun v29n38 =>
bindV (pFieldAddr P 69 v29n38 0 w37) fun v30n39 w40 =>
bindU (pStore P 28 v30n39 v28n36 w40) fun w41 =>
R (.returned (.tuple #[])) w41) (topK P [] R)))
theorem F50ok {w : World} {R : Ending → World → Prop} {a0 : Value} {a1 : Value} (h : F50 a0 a1 w R) : Calls P 50 #[a0, a1] w R :=
  calls_of_ev bodies mixed (c := bodyOf Tryd.f50) (nt := 31) (rs := []) (args := [a0, a1]) (fn := Tryd.f50) (by kernel_rfl) (by kernel_rfl) (by kernel_rfl) (by kernel_rfl) (by kernel_rfl) (by simp)
    (eq_mp (show F50 a0 a1 w R = ev P C (bodyOf Tryd.f50) (argE [a0, a1]) w (topK P [] R) by kernel_rfl) h)

/-! ### (*moiety/pack.Writer).Flag -/
def F51 (a0 : Value) (a1 : Value) (w : World) (R : Ending → World → Prop) : Prop :=
condE a1 (fun (K1 : KT) =>
nilE a0 fun v7n2 =>
bindV (pFieldAddr P 69 v7n2 0 w) fun v8n3 w4 =>
bindV (pLoad P 28 v8n3 w4) fun v9n5 w6 =>
bindV (pBuildSlice P 28 1 [(0, (Value.int IntKind.u8 1))] w6) fun v10n7 w8 =>
bindV (pBuiltin P Builtin.append #[28, 28] 28 [v9n5, v10n7] w8) fun v11n9 w10 =>
nilE a0 fun v12n11 =>
bindV (pFieldAddr P 69 v12n11 0 w10) fun v13n12 w13 =>
bindU (pStore P 28 v13n12 v11n9 w13) fun w14 =>
K1 .ret (Env.put (Env.put (Env.put (Env.put (Env.put (Env.put (Env.put (Env.put (Env.put (Env.put (argE [a0, a1]) 4 a1) 5 a0) 6 a0) 7 v7n2) 8 v8n3) 9 v9n5) 10 v10n7) 11 v11n9) 12 v12n11) 13 v13n12) w14) (fun (K1 : KT) =>
K1 .normal (Env.put (argE [a0, a1]) 4 a1) w) (thenK (fun e15 w16 =>
nilE (e15 0) fun v16n17 =>
bindV (pFieldAddr P 69 v16n17 0 w16) fun v17n18 w19 =>
bindV (pLoad P 28 v17n18 w19) fun v18n20 w21 =>
bindV (pBuildSlice P 28 1 [(0, (Value.int IntKind.u8 0))] w21) fun v19n22 w23 =>
bindV (pBuiltin P Builtin.append #[28, 28] 28 [v18n20, v19n22] w23) fun v20n24 w25 =>
nilE (e15 0) fun v21n26 =>
bindV (pFieldAddr P 69 v21n26 0 w25) fun v22n27 w28 =>
bindU (pStore P 28 v22n27 v20n24 w28) fun w29 =>
R (.returned (.tuple #[])) w29) (topK P [] R))
theorem F51ok {w : World} {R : Ending → World → Prop} {a0 : Value} {a1 : Value} (h : F51 a0 a1 w R) : Calls P 51 #[a0, a1] w R :=
  calls_of_ev bodies mixed (c := bodyOf Tryd.f51) (nt := 23) (rs := []) (args := [a0, a1]) (fn := Tryd.f51) (by kernel_rfl) (by kernel_rfl) (by kernel_rfl) (by kernel_rfl) (by kernel_rfl) (by simp)
    (eq_mp (show F51 a0 a1 w R = ev P C (bodyOf Tryd.f51) (argE [a0, a1]) w (topK P [] R) by kernel_rfl) h)

/-! ### (*moiety/pack.Writer).S -/
def F52 (a0 : Value) (a1 : Value) (w : World) (R : Ending → World → Prop) : Prop :=
bindV (pBuiltin P Builtin.len #[9] 3 [a1] w) fun v6n1 w2 =>
bindV (pConv P 3 58 v6n1 w2) fun v7n3 w4 =>
callE P 50 #[a0, v7n3] w4 (fun v8n7 w8 =>
nilE a0 fun v11n9 =>
bindV (pFieldAddr P 69 v11n9 0 w8) fun v12n10 w11 =>
bindV (pLoad P 28 v12n10 w11) fun v13n12 w13 =>
bindV (pBuiltin P Builtin.append #[28, 9] 28 [v13n12, a1] w13) fun v15n14 w15 =>
nilE a0 fun v16n16 =>
bindV (pFieldAddr P 69 v16n16 0 w15) fun v17n17 w18 =>
bindU (pStore P 28 v17n17 v15n14 w18) fun w19 =>
R (.returned (.tuple #[])) w19) (fun c5 w6 => R (.panicked c5) w6)
theorem F52ok {w : World} {R : Ending → World → Prop} {a0 : Value} {a1 : Value} (h : F52 a0 a1 w R) : Calls P 52 #[a0, a1] w R :=
  calls_of_ev bodies mixed (c := bodyOf Tryd.f52) (nt := 18) (rs := []) (args := [a0, a1]) (fn := Tryd.f52) (by kernel_rfl) (by kernel_rfl) (by kernel_rfl) (by kernel_rfl) (by kernel_rfl) (by simp)
    (eq_mp (show F52 a0 a1 w R = ev P C (bodyOf Tryd.f52) (argE [a0, a1]) w (topK P [] R) by kernel_rfl) h)

/-! ### (*moiety/pack.Writer).I -/
def F54 (a0 : Value) (a1 : Value) (w : World) (R : Ending → World → Prop) : Prop :=
bindV (pConv P 2 58 a1 w) fun v6n1 w2 =>
bindV (pBin P BinOp.shl 58 true v6n1 (Value.int IntKind.u64 1) w2) fun v7n3 w4 =>
bindV (pBin P BinOp.shr 2 true a1 (Value.int IntKind.u64 63) w4) fun v9n5 w6 =>
bindV (pConv P 2 58 v9n5 w6) fun v10n7 w8 =>
bindV (pBin P BinOp.xor 58 false v7n3 v10n7 w8) fun v11n9 w10 =>
callE P 50 #[a0, v11n9] w10 (fun v12n13 w14 =>
R (.returned (.tuple #[])) w14) (fun c11 w12 => R (.panicked c11) w12)
theorem F54ok {w : World} {R : Ending → World → Prop} {a0 : Value} {a1 : Value} (h : F54 a0 a1 w R) : Calls P 54 #[a0, a1] w R :=
  calls_of_ev bodies mixed (c := bodyOf Tryd.f54) (nt := 13) (rs := []) (args := [a0, a1]) (fn := Tryd.f54) (by kernel_rfl) (by kernel_rfl) (by kernel_rfl) (by kernel_rfl) (by kernel_rfl) (by simp)
    (eq_mp (show F54 a0 a1 w R = ev P C (bodyOf Tryd.f54) (argE [a0, a1]) w (topK P [] R) by kernel_rfl) h)

/-! ### (*moiety/pack.Writer).F -/
def F55B0 (e : Env) (w : World) (K : KT) : Prop :=
bindV (pBin P BinOp.geq 3 true (e 5) (Value.int IntKind.i64 0) w) fun v9n5 w6 =>
condE v9n5 (fun (K7 : KT) =>
K7 .normal (Env.put (Env.put e 8 (e 5)) 9 v9n5) w6) (fun (K7 : KT) =>
K7 (.exit 0) (Env.put (Env.put e 8 (e 5)) 9 v9n5) w6) (thenK (fun e8 w9 =>
takeE (fun w12 => some ((e8 0), w12)) (drew w9) fun v12n10 h11 =>
takeE (fun w15 => some ((e8 0), w15)) (drew w9) fun v13n13 h14 =>
takeE (fun w18 => qNil v13n13 w18) (drew w9) fun v14n16 h17 =>
takeE (fun w21 => pFieldAddr P 69 v14n16 0 w21) (drew w9) fun v15n19 h20 =>
takeE (fun w24 => pLoad P 28 v15n19 w24) (drew w9) fun v16n22 h23 =>
takeE (fun w27 => some ((e8 4), w27)) (drew w9) fun v17n25 h26 =>
takeE (fun w30 => some ((e8 5), w30)) (drew w9) fun v18n28 h29 =>
takeE (fun w33 => pBin P BinOp.shr 58 false v17n25 v18n28 w33) (drew w9) fun v19n31 h32 =>
takeE (fun w36 => pConv P 58 5 v19n31 w36) (drew w9) fun v20n34 h35 =>
bindV (pBuildSlice P 28 1 [(0, v20n34)] (drew w9)) fun v21n38 w39 =>
heldE [h23, h20, h17, h14, h11] w39 (bindV (pBuiltin P Builtin.append #[28, 28] 28 [v16n22, v21n38] w39) fun v22n41 w42 =>
heldE [h11] w42 (takeE (fun w45 => qNil v12n10 w45) w42 fun v23n43 h44 =>
takeE (fun w48 => pFieldAddr P 69 v23n43 0 w48) w42 fun v24n46 h47 =>
bindU (pStore P 28 v24n46 v22n41 w42) fun w50 =>
bindV (pBin P BinOp.sub 3 true (e8 5) (Value.int IntKind.i64 8) w50) fun v11n51 w52 =>
K .normal (Env.put (Env.put (Env.put (Env.put (Env.put (Env.put (Env.put (Env.put (Env.put (Env.put (Env.put (Env.put (Env.put (Env.put (Env.put (Env.put e8 12 v12n10) 13 v13n13) 14 v14n16) 15 v15n19) 16 v16n22) 17 v17n25) 18 v18n28) 19 v19n31) 20 v20n34) 21 v21n38) 22 v22n41) 23 v23n43) 24 v24n46) 10 (e8 5)) 11 v11n51) 5 v11n51) w52))) K)
def F55 (a0 : Value) (a1 : Value) (w : World) (R : Ending → World → Prop) : Prop :=
callE P 66 #[a1] w (fun v7n3 w4 =>
loopE F55B0 (Env.put (Env.put (Env.put (Env.put (argE [a0, a1]) 6 a1) 7 v7n3) 4 v7n3) 5 (Value.int IntKind.i64 56)) w4 (blockK 0 (topK P [] R))) (fun c1 w2 => R (.panicked c1) w2)
theorem F55ok {w : World} {R : Ending → World → Prop} {a0 : Value} {a1 : Value} (h : F55 a0 a1 w R) : Calls P 55 #[a0, a1] w R :=
  calls_of_ev bodies mixed (c := bodyOf Tryd.f55) (nt := 25) (rs := []) (args := [a0, a1]) (fn := Tryd.f55) (by kernel_rfl) (by kernel_rfl) (by kernel_rfl) (by kernel_rfl) (by kernel_rfl) (by simp)
    (eq_mp (show F55 a0 a1 w R = ev P C (bodyOf Tryd.f55) (argE [a0, a1]) w (topK P [] R) by kernel_rfl) h)

end Go.Proofs.YtieejbkbdfccdaaDoor
