/- The functions' residual programs, printed by gen.py. -/
import Derived.Test.YtieejbkbdfccdaaDoorBaseD
set_option linter.unusedVariables false
set_option linter.unusedSimpArgs false
namespace Go.Proofs.YtieejbkbdfccdaaDoor
open Go
/-! ### moiety/rule.changes$1 -/
def F81 (a0 : Value) (a1 : Value) (a2 : Value) (w : World) (R : Ending → World → Prop) : Prop :=
bindV (pBox P 27 a1 w) fun v4n1 w2 =>
bindV (pFieldAddr P 27 v4n1 4 w2) fun v8n3 w4 =>
bindV (pLoad P 9 v8n3 w4) fun v9n5 w6 =>
nilE a0 fun v10n7 =>
bindV (pFieldAddr P 25 v10n7 6 w6) fun v11n8 w9 =>
bindU (pStore P 9 v11n8 v9n5 w9) fun w10 =>
R (.returned (Value.int IntKind.i64 0)) w10
theorem F81ok {w : World} {R : Ending → World → Prop} {a0 : Value} {a1 : Value} {a2 : Value} (h : F81 a0 a1 a2 w R) : Calls P 81 #[a0, a1, a2] w R :=
  calls_of_ev bodies mixed (c := bodyOf Tryd.f81) (nt := 12) (rs := [(ResultVar.tmp 6)]) (args := [a0, a1, a2]) (fn := Tryd.f81) (by kernel_rfl) (by kernel_rfl) (by kernel_rfl) (by kernel_rfl) (by kernel_rfl) (by simp)
    (eq_mp (show F81 a0 a1 a2 w R = ev P C (bodyOf Tryd.f81) (argE [a0, a1, a2]) w (topK P [(ResultVar.tmp 6)] R) by kernel_rfl) h)

/-! ### moiety/rule.changes$2 -/
def F82 (a0 : Value) (a1 : Value) (a2 : Value) (w : World) (R : Ending → World → Prop) : Prop :=
bindV (pBox P 27 a1 w) fun v4n1 w2 =>
nilE a0 fun v9n3 =>
bindV (pLoad P 25 v9n3 w2) fun v10n4 w5 =>
callE P 36 #[v10n4] w5 (fun v11n8 w9 =>
nilE a2 fun v12n10 =>
bindV (pFieldAddr P 49 v12n10 2 w9) fun v13n11 w12 =>
bindU (pStore P 25 v13n11 v11n8 w12) fun w13 =>
bindV (pFieldAddr P 27 v4n1 4 w13) fun v15n14 w15 =>
bindV (pLoad P 9 v15n14 w15) fun v16n16 w17 =>
nilE a0 fun v17n18 =>
bindV (pFieldAddr P 25 v17n18 6 w17) fun v18n19 w20 =>
bindU (pStore P 9 v18n19 v16n16 w20) fun w21 =>
R (.returned (Value.int IntKind.i64 0)) w21) (fun c6 w7 => R (.panicked c6) w7)
theorem F82ok {w : World} {R : Ending → World → Prop} {a0 : Value} {a1 : Value} {a2 : Value} (h : F82 a0 a1 a2 w R) : Calls P 82 #[a0, a1, a2] w R :=
  calls_of_ev bodies mixed (c := bodyOf Tryd.f82) (nt := 19) (rs := [(ResultVar.tmp 6)]) (args := [a0, a1, a2]) (fn := Tryd.f82) (by kernel_rfl) (by kernel_rfl) (by kernel_rfl) (by kernel_rfl) (by kernel_rfl) (by simp)
    (eq_mp (show F82 a0 a1 a2 w R = ev P C (bodyOf Tryd.f82) (argE [a0, a1, a2]) w (topK P [(ResultVar.tmp 6)] R) by kernel_rfl) h)

/-! ### moiety/rule.plus -/
def F84 (a0 : Value) (a1 : Value) (a2 : Value) (w : World) (R : Ending → World → Prop) : Prop :=
bindV (pBox P 27 a1 w) fun v4n1 w2 =>
takeE (fun w5 => pFieldAddr P 27 v4n1 2 w5) (drew w2) fun v7n3 h4 =>
takeE (fun w8 => pLoad P 2 v7n3 w8) (drew w2) fun v8n6 h7 =>
takeE (fun w11 => pBin P BinOp.gtr 2 true v8n6 (Value.int IntKind.i64 0) w11) (drew w2) fun v9n9 h10 =>
takeE (fun w14 => some (v9n9, w14)) (drew w2) fun v10n12 h13 =>
takeE (fun w17 => qGrd v10n12 true (fun w17 => some (a0, w17)) w17) (drew w2) fun v11n15 h16 =>
takeE (fun w20 => qGrd v10n12 true (fun w20 => qNil v11n15 w20) w20) (drew w2) fun v12n18 h19 =>
takeE (fun w23 => qGrd v10n12 true (fun w23 => pFieldAddr P 25 v12n18 1 w23) w23) (drew w2) fun v13n21 h22 =>
takeE (fun w26 => qGrd v10n12 true (fun w26 => pLoad P 2 v13n21 w26) w26) (drew w2) fun v14n24 h25 =>
takeE (fun w29 => qGrd v10n12 true (fun w29 => pFieldAddr P 27 v4n1 2 w29) w29) (drew w2) fun v15n27 h28 =>
takeE (fun w32 => qGrd v10n12 true (fun w32 => pLoad P 2 v15n27 w32) w32) (drew w2) fun v16n30 h31 =>
takeE (fun w35 => qGrd v10n12 true (fun w35 => pBin P BinOp.sub 2 true (Value.int IntKind.i64 9223372036854775807) v16n30 w35) w35) (drew w2) fun v17n33 h34 =>
takeE (fun w38 => qGrd v10n12 true (fun w38 => pBin P BinOp.gtr 2 false v14n24 v17n33 w38) w38) (drew w2) fun v18n36 h37 =>
takeE (fun w41 => qPick v10n12 v18n36 (Value.bool false) w41) (drew w2) fun v19n39 h40 =>
takeE (fun w44 => some (v19n39, w44)) (drew w2) fun v20n42 h43 =>
takeE (fun w47 => qGrd v20n42 false (fun w47 => pFieldAddr P 27 v4n1 2 w47) w47) (drew w2) fun v21n45 h46 =>
takeE (fun w50 => qGrd v20n42 false (fun w50 => pLoad P 2 v21n45 w50) w50) (drew w2) fun v22n48 h49 =>
takeE (fun w53 => qGrd v20n42 false (fun w53 => pBin P BinOp.lss 2 true v22n48 (Value.int IntKind.i64 0) w53) w53) (drew w2) fun v23n51 h52 =>
takeE (fun w56 => qGrd v20n42 false (fun w56 => some (v23n51, w56)) w56) (drew w2) fun v24n54 h55 =>
takeE (fun w59 => qGrd v24n54 true (fun w59 => some (a0, w59)) w59) (drew w2) fun v25n57 h58 =>
takeE (fun w62 => qGrd v24n54 true (fun w62 => qNil v25n57 w62) w62) (drew w2) fun v26n60 h61 =>
takeE (fun w65 => qGrd v24n54 true (fun w65 => pFieldAddr P 25 v26n60 1 w65) w65) (drew w2) fun v27n63 h64 =>
takeE (fun w68 => qGrd v24n54 true (fun w68 => pLoad P 2 v27n63 w68) w68) (drew w2) fun v28n66 h67 =>
takeE (fun w71 => qGrd v24n54 true (fun w71 => pFieldAddr P 27 v4n1 2 w71) w71) (drew w2) fun v29n69 h70 =>
takeE (fun w74 => qGrd v24n54 true (fun w74 => pLoad P 2 v29n69 w74) w74) (drew w2) fun v30n72 h73 =>
takeE (fun w77 => qGrd v24n54 true (fun w77 => pBin P BinOp.sub 2 true (Value.int IntKind.i64 (-9223372036854775808)) v30n72 w77) w77) (drew w2) fun v31n75 h76 =>
takeE (fun w80 => qGrd v24n54 true (fun w80 => pBin P BinOp.lss 2 false v28n66 v31n75 w80) w80) (drew w2) fun v32n78 h79 =>
takeE (fun w83 => qGrd v20n42 false (fun w83 => qPick v24n54 v32n78 (Value.bool false) w83) w83) (drew w2) fun v33n81 h82 =>
takeE (fun w86 => qPick v20n42 (Value.bool true) v33n81 w86) (drew w2) fun v34n84 h85 =>
condE v34n84 (fun (K87 : KT) =>
K87 .ret (Env.put (Env.put (Env.put (Env.put (Env.put (Env.put (Env.put (Env.put (Env.put (Env.put (Env.put (Env.put (Env.put (Env.put (Env.put (Env.put (Env.put (Env.put (Env.put (Env.put (Env.put (Env.put (Env.put (Env.put (Env.put (Env.put (Env.put (Env.put (Env.put (Env.put (Env.put (argE [a0, a1, a2]) 4 v4n1) 6 (Value.int IntKind.i64 0)) 7 v7n3) 8 v8n6) 9 v9n9) 10 v10n12) 11 v11n15) 12 v12n18) 13 v13n21) 14 v14n24) 15 v15n27) 16 v16n30) 17 v17n33) 18 v18n36) 19 v19n39) 20 v20n42) 21 v21n45) 22 v22n48) 23 v23n51) 24 v24n54) 25 v25n57) 26 v26n60) 27 v27n63) 28 v28n66) 29 v29n69) 30 v30n72) 31 v31n75) 32 v32n78) 33 v33n81) 34 v34n84) 6 (Value.int IntKind.i64 9)) (drew w2)) (fun (K87 : KT) =>
K87 .normal (Env.put (Env.put (Env.put (Env.put (Env.put (Env.put (Env.put (Env.put (Env.put (Env.put (Env.put (Env.put (Env.put (Env.put (Env.put (Env.put (Env.put (Env.put (Env.put (Env.put (Env.put (Env.put (Env.put (Env.put (Env.put (Env.put (Env.put (Env.put (Env.put (Env.put (argE [a0, a1, a2]) 4 v4n1) 6 (Value.int IntKind.i64 0)) 7 v7n3) 8 v8n6) 9 v9n9) 10 v10n12) 11 v11n15) 12 v12n18) 13 v13n21) 14 v14n24) 15 v15n27) 16 v16n30) 17 v17n33) 18 v18n36) 19 v19n39) 20 v20n42) 21 v21n45) 22 v22n48) 23 v23n51) 24 v24n54) 25 v25n57) 26 v26n60) 27 v27n63) 28 v28n66) 29 v29n69) 30 v30n72) 31 v31n75) 32 v32n78) 33 v33n81) 34 v34n84) (drew w2)) (thenK (fun e88 w89 =>
takeE (fun w92 => some ((e88 0), w92)) (drew w89) fun v35n90 h91 =>
takeE (fun w95 => qNil v35n90 w95) (drew w89) fun v36n93 h94 =>
takeE (fun w98 => pFieldAddr P 25 v36n93 1 w98) (drew w89) fun v37n96 h97 =>
takeE (fun w101 => pLoad P 2 v37n96 w101) (drew w89) fun v38n99 h100 =>
takeE (fun w104 => pFieldAddr P 27 (e88 4) 2 w104) (drew w89) fun v39n102 h103 =>
takeE (fun w107 => pLoad P 2 v39n102 w107) (drew w89) fun v40n105 h106 =>
takeE (fun w110 => pBin P BinOp.add 2 false v38n99 v40n105 w110) (drew w89) fun v41n108 h109 =>
takeE (fun w113 => qNil v35n90 w113) (drew w89) fun v42n111 h112 =>
takeE (fun w116 => pFieldAddr P 25 v42n111 1 w116) (drew w89) fun v43n114 h115 =>
bindU (pStore P 2 v43n114 v41n108 (drew w89)) fun w118 =>
R (.returned (Value.int IntKind.i64 0)) w118) (topK P [(ResultVar.tmp 6)] R))
theorem F84ok {w : World} {R : Ending → World → Prop} {a0 : Value} {a1 : Value} {a2 : Value} (h : F84 a0 a1 a2 w R) : Calls P 84 #[a0, a1, a2] w R :=
  calls_of_ev bodies mixed (c := bodyOf Tryd.f84) (nt := 44) (rs := [(ResultVar.tmp 6)]) (args := [a0, a1, a2]) (fn := Tryd.f84) (by kernel_rfl) (by kernel_rfl) (by kernel_rfl) (by kernel_rfl) (by kernel_rfl) (by simp)
    (eq_mp (show F84 a0 a1 a2 w R = ev P C (bodyOf Tryd.f84) (argE [a0, a1, a2]) w (topK P [(ResultVar.tmp 6)] R) by kernel_rfl) h)

/-! ### moiety/rule.atLeast -/
def F85 (a0 : Value) (a1 : Value) (a2 : Value) (w : World) (R : Ending → World → Prop) : Prop :=
bindV (pBox P 27 a1 w) fun v4n1 w2 =>
takeE (fun w5 => some (a0, w5)) (drew w2) fun v7n3 h4 =>
takeE (fun w8 => qNil v7n3 w8) (drew w2) fun v8n6 h7 =>
takeE (fun w11 => pFieldAddr P 25 v8n6 1 w11) (drew w2) fun v9n9 h10 =>
takeE (fun w14 => pLoad P 2 v9n9 w14) (drew w2) fun v10n12 h13 =>
takeE (fun w17 => pFieldAddr P 27 v4n1 2 w17) (drew w2) fun v11n15 h16 =>
takeE (fun w20 => pLoad P 2 v11n15 w20) (drew w2) fun v12n18 h19 =>
takeE (fun w23 => pBin P BinOp.lss 2 false v10n12 v12n18 w23) (drew w2) fun v13n21 h22 =>
condE v13n21 (fun (K24 : KT) =>
K24 .ret (Env.put (Env.put (Env.put (Env.put (Env.put (Env.put (Env.put (Env.put (Env.put (Env.put (argE [a0, a1, a2]) 4 v4n1) 6 (Value.int IntKind.i64 0)) 7 v7n3) 8 v8n6) 9 v9n9) 10 v10n12) 11 v11n15) 12 v12n18) 13 v13n21) 6 (Value.int IntKind.i64 11)) (drew w2)) (fun (K24 : KT) =>
K24 .normal (Env.put (Env.put (Env.put (Env.put (Env.put (Env.put (Env.put (Env.put (Env.put (argE [a0, a1, a2]) 4 v4n1) 6 (Value.int IntKind.i64 0)) 7 v7n3) 8 v8n6) 9 v9n9) 10 v10n12) 11 v11n15) 12 v12n18) 13 v13n21) (drew w2)) (thenK (fun e25 w26 =>
R (.returned (Value.int IntKind.i64 0)) w26) (topK P [(ResultVar.tmp 6)] R))
theorem F85ok {w : World} {R : Ending → World → Prop} {a0 : Value} {a1 : Value} {a2 : Value} (h : F85 a0 a1 a2 w R) : Calls P 85 #[a0, a1, a2] w R :=
  calls_of_ev bodies mixed (c := bodyOf Tryd.f85) (nt := 14) (rs := [(ResultVar.tmp 6)]) (args := [a0, a1, a2]) (fn := Tryd.f85) (by kernel_rfl) (by kernel_rfl) (by kernel_rfl) (by kernel_rfl) (by kernel_rfl) (by simp)
    (eq_mp (show F85 a0 a1 a2 w R = ev P C (bodyOf Tryd.f85) (argE [a0, a1, a2]) w (topK P [(ResultVar.tmp 6)] R) by kernel_rfl) h)

/-! ### moiety/rule.changes$4 -/
def F86 (a0 : Value) (a1 : Value) (a2 : Value) (w : World) (R : Ending → World → Prop) : Prop :=
bindV (pBox P 27 a1 w) fun v4n1 w2 =>
takeE (fun w5 => pFieldAddr P 27 v4n1 2 w5) (drew w2) fun v7n3 h4 =>
takeE (fun w8 => pLoad P 2 v7n3 w8) (drew w2) fun v8n6 h7 =>
takeE (fun w11 => some (a0, w11)) (drew w2) fun v9n9 h10 =>
takeE (fun w14 => qNil v9n9 w14) (drew w2) fun v10n12 h13 =>
takeE (fun w17 => pFieldAddr P 25 v10n12 3 w17) (drew w2) fun v11n15 h16 =>
takeE (fun w20 => pLoad P 2 v11n15 w20) (drew w2) fun v12n18 h19 =>
takeE (fun w23 => some (a0, w23)) (drew w2) fun v13n21 h22 =>
takeE (fun w26 => qNil v13n21 w26) (drew w2) fun v14n24 h25 =>
takeE (fun w29 => pFieldAddr P 25 v14n24 1 w29) (drew w2) fun v15n27 h28 =>
takeE (fun w32 => pLoad P 2 v15n27 w32) (drew w2) fun v16n30 h31 =>
takeE (fun w35 => pBin P BinOp.sub 2 false v12n18 v16n30 w35) (drew w2) fun v17n33 h34 =>
takeE (fun w38 => pBin P BinOp.gtr 2 false v8n6 v17n33 w38) (drew w2) fun v18n36 h37 =>
condE v18n36 (fun (K39 : KT) =>
K39 .ret (Env.put (Env.put (Env.put (Env.put (Env.put (Env.put (Env.put (Env.put (Env.put (Env.put (Env.put (Env.put (Env.put (Env.put (Env.put (argE [a0, a1, a2]) 4 v4n1) 6 (Value.int IntKind.i64 0)) 7 v7n3) 8 v8n6) 9 v9n9) 10 v10n12) 11 v11n15) 12 v12n18) 13 v13n21) 14 v14n24) 15 v15n27) 16 v16n30) 17 v17n33) 18 v18n36) 6 (Value.int IntKind.i64 9)) (drew w2)) (fun (K39 : KT) =>
K39 .normal (Env.put (Env.put (Env.put (Env.put (Env.put (Env.put (Env.put (Env.put (Env.put (Env.put (Env.put (Env.put (Env.put (Env.put (argE [a0, a1, a2]) 4 v4n1) 6 (Value.int IntKind.i64 0)) 7 v7n3) 8 v8n6) 9 v9n9) 10 v10n12) 11 v11n15) 12 v12n18) 13 v13n21) 14 v14n24) 15 v15n27) 16 v16n30) 17 v17n33) 18 v18n36) (drew w2)) (thenK (fun e40 w41 =>
takeE (fun w44 => some ((e40 0), w44)) (drew w41) fun v19n42 h43 =>
takeE (fun w47 => qNil v19n42 w47) (drew w41) fun v20n45 h46 =>
takeE (fun w50 => pFieldAddr P 25 v20n45 1 w50) (drew w41) fun v21n48 h49 =>
takeE (fun w53 => pLoad P 2 v21n48 w53) (drew w41) fun v22n51 h52 =>
takeE (fun w56 => pFieldAddr P 27 (e40 4) 2 w56) (drew w41) fun v23n54 h55 =>
takeE (fun w59 => pLoad P 2 v23n54 w59) (drew w41) fun v24n57 h58 =>
takeE (fun w62 => pBin P BinOp.add 2 false v22n51 v24n57 w62) (drew w41) fun v25n60 h61 =>
takeE (fun w65 => qNil v19n42 w65) (drew w41) fun v26n63 h64 =>
takeE (fun w68 => pFieldAddr P 25 v26n63 1 w68) (drew w41) fun v27n66 h67 =>
bindU (pStore P 2 v27n66 v25n60 (drew w41)) fun w70 =>
R (.returned (Value.int IntKind.i64 0)) w70) (topK P [(ResultVar.tmp 6)] R))
theorem F86ok {w : World} {R : Ending → World → Prop} {a0 : Value} {a1 : Value} {a2 : Value} (h : F86 a0 a1 a2 w R) : Calls P 86 #[a0, a1, a2] w R :=
  calls_of_ev bodies mixed (c := bodyOf Tryd.f86) (nt := 28) (rs := [(ResultVar.tmp 6)]) (args := [a0, a1, a2]) (fn := Tryd.f86) (by kernel_rfl) (by kernel_rfl) (by kernel_rfl) (by kernel_rfl) (by kernel_rfl) (by simp)
    (eq_mp (show F86 a0 a1 a2 w R = ev P C (bodyOf Tryd.f86) (argE [a0, a1, a2]) w (topK P [(ResultVar.tmp 6)] R) by kernel_rfl) h)

/-! ### moiety/rule.changes$5 -/
def F87 (a0 : Value) (a1 : Value) (a2 : Value) (w : World) (R : Ending → World → Prop) : Prop :=
bindV (pBox P 27 a1 w) fun v4n1 w2 =>
takeE (fun w5 => pFieldAddr P 27 v4n1 2 w5) (drew w2) fun v7n3 h4 =>
takeE (fun w8 => pLoad P 2 v7n3 w8) (drew w2) fun v8n6 h7 =>
takeE (fun w11 => some (a0, w11)) (drew w2) fun v9n9 h10 =>
takeE (fun w14 => qNil v9n9 w14) (drew w2) fun v10n12 h13 =>
takeE (fun w17 => pFieldAddr P 25 v10n12 1 w17) (drew w2) fun v11n15 h16 =>
takeE (fun w20 => pLoad P 2 v11n15 w20) (drew w2) fun v12n18 h19 =>
takeE (fun w23 => some (a0, w23)) (drew w2) fun v13n21 h22 =>
takeE (fun w26 => qNil v13n21 w26) (drew w2) fun v14n24 h25 =>
takeE (fun w29 => pFieldAddr P 25 v14n24 2 w29) (drew w2) fun v15n27 h28 =>
takeE (fun w32 => pLoad P 2 v15n27 w32) (drew w2) fun v16n30 h31 =>
takeE (fun w35 => pBin P BinOp.sub 2 false v12n18 v16n30 w35) (drew w2) fun v17n33 h34 =>
takeE (fun w38 => pBin P BinOp.gtr 2 false v8n6 v17n33 w38) (drew w2) fun v18n36 h37 =>
condE v18n36 (fun (K39 : KT) =>
K39 .ret (Env.put (Env.put (Env.put (Env.put (Env.put (Env.put (Env.put (Env.put (Env.put (Env.put (Env.put (Env.put (Env.put (Env.put (Env.put (argE [a0, a1, a2]) 4 v4n1) 6 (Value.int IntKind.i64 0)) 7 v7n3) 8 v8n6) 9 v9n9) 10 v10n12) 11 v11n15) 12 v12n18) 13 v13n21) 14 v14n24) 15 v15n27) 16 v16n30) 17 v17n33) 18 v18n36) 6 (Value.int IntKind.i64 10)) (drew w2)) (fun (K39 : KT) =>
K39 .normal (Env.put (Env.put (Env.put (Env.put (Env.put (Env.put (Env.put (Env.put (Env.put (Env.put (Env.put (Env.put (Env.put (Env.put (argE [a0, a1, a2]) 4 v4n1) 6 (Value.int IntKind.i64 0)) 7 v7n3) 8 v8n6) 9 v9n9) 10 v10n12) 11 v11n15) 12 v12n18) 13 v13n21) 14 v14n24) 15 v15n27) 16 v16n30) 17 v17n33) 18 v18n36) (drew w2)) (thenK (fun e40 w41 =>
takeE (fun w44 => some ((e40 0), w44)) (drew w41) fun v19n42 h43 =>
takeE (fun w47 => qNil v19n42 w47) (drew w41) fun v20n45 h46 =>
takeE (fun w50 => pFieldAddr P 25 v20n45 1 w50) (drew w41) fun v21n48 h49 =>
takeE (fun w53 => pLoad P 2 v21n48 w53) (drew w41) fun v22n51 h52 =>
takeE (fun w56 => pFieldAddr P 27 (e40 4) 2 w56) (drew w41) fun v23n54 h55 =>
takeE (fun w59 => pLoad P 2 v23n54 w59) (drew w41) fun v24n57 h58 =>
takeE (fun w62 => pBin P BinOp.sub 2 false v22n51 v24n57 w62) (drew w41) fun v25n60 h61 =>
takeE (fun w65 => qNil v19n42 w65) (drew w41) fun v26n63 h64 =>
takeE (fun w68 => pFieldAddr P 25 v26n63 1 w68) (drew w41) fun v27n66 h67 =>
bindU (pStore P 2 v27n66 v25n60 (drew w41)) fun w70 =>
R (.returned (Value.int IntKind.i64 0)) w70) (topK P [(ResultVar.tmp 6)] R))
theorem F87ok {w : World} {R : Ending → World → Prop} {a0 : Value} {a1 : Value} {a2 : Value} (h : F87 a0 a1 a2 w R) : Calls P 87 #[a0, a1, a2] w R :=
  calls_of_ev bodies mixed (c := bodyOf Tryd.f87) (nt := 28) (rs := [(ResultVar.tmp 6)]) (args := [a0, a1, a2]) (fn := Tryd.f87) (by kernel_rfl) (by kernel_rfl) (by kernel_rfl) (by kernel_rfl) (by kernel_rfl) (by simp)
    (eq_mp (show F87 a0 a1 a2 w R = ev P C (bodyOf Tryd.f87) (argE [a0, a1, a2]) w (topK P [(ResultVar.tmp 6)] R) by kernel_rfl) h)

/-! ### moiety/rule.changes$6 -/
def F91 (a0 : Value) (a1 : Value) (w : World) (R : Ending → World → Prop) : Prop :=
R (.returned a1) w
theorem F91ok {w : World} {R : Ending → World → Prop} {a0 : Value} {a1 : Value} (h : F91 a0 a1 w R) : Calls P 91 #[a0, a1] w R :=
  calls_of_ev bodies mixed (c := bodyOf Tryd.f91) (nt := 6) (rs := [(ResultVar.tmp 4)]) (args := [a0, a1]) (fn := Tryd.f91) (by kernel_rfl) (by kernel_rfl) (by kernel_rfl) (by kernel_rfl) (by kernel_rfl) (by simp)
    (eq_mp (show F91 a0 a1 w R = ev P C (bodyOf Tryd.f91) (argE [a0, a1]) w (topK P [(ResultVar.tmp 4)] R) by kernel_rfl) h)

/-! ### moiety/rule.join -/
def F92 (a0 : Value) (a1 : Value) (a2 : Value) (w : World) (R : Ending → World → Prop) : Prop :=
bindV (pBox P 27 a1 w) fun v4n1 w2 =>
takeE (fun w5 => some (a0, w5)) (drew w2) fun v10n3 h4 =>
takeE (fun w8 => qNil v10n3 w8) (drew w2) fun v11n6 h7 =>
takeE (fun w11 => pFieldAddr P 25 v11n6 7 w11) (drew w2) fun v12n9 h10 =>
takeE (fun w14 => pLoad P 23 v12n9 w14) (drew w2) fun v13n12 h13 =>
takeE (fun w17 => pFieldAddr P 27 v4n1 4 w17) (drew w2) fun v14n15 h16 =>
takeE (fun w20 => pLoad P 9 v14n15 w20) (drew w2) fun v15n18 h19 =>
callE P 94 #[v13n12, v15n18] (drew w2) (fun v16n24 w25 =>
takeE (fun w28 => some (v16n24, w28)) w25 fun v9n26 h27 =>
takeE (fun w31 => pExtract P v9n26 0 w31) w25 fun v17n29 h30 =>
takeE (fun w34 => pExtract P v9n26 1 w34) w25 fun v18n32 h33 =>
heldE [h33] w25 (condE v18n32 (fun (K37 : KT) =>
K37 .ret (Env.put (Env.put (Env.put (Env.put (Env.put (Env.put (Env.put (Env.put (Env.put (Env.put (Env.put (Env.put (Env.put (Env.put (Env.put (Env.put (Env.put (argE [a0, a1, a2]) 4 v4n1) 6 (Value.int IntKind.i64 0)) 10 v10n3) 11 v11n6) 12 v12n9) 13 v13n12) 14 v14n15) 15 v15n18) 16 v16n24) 9 v9n26) 17 v17n29) 18 v18n32) 7 v17n29) 8 v18n32) 20 v18n32) 19 v18n32) 6 (Value.int IntKind.i64 0)) w25) (fun (K37 : KT) =>
takeE (fun w40 => some (a0, w40)) (drew w25) fun v22n38 h39 =>
takeE (fun w43 => qNil v22n38 w43) (drew w25) fun v23n41 h42 =>
takeE (fun w46 => pFieldAddr P 25 v23n41 7 w46) (drew w25) fun v24n44 h45 =>
takeE (fun w49 => pLoad P 23 v24n44 w49) (drew w25) fun v25n47 h48 =>
takeE (fun w52 => pBuiltin P Builtin.len #[23] 3 [v25n47] w52) (drew w25) fun v26n50 h51 =>
takeE (fun w55 => some (a0, w55)) (drew w25) fun v27n53 h54 =>
takeE (fun w58 => qNil v27n53 w58) (drew w25) fun v28n56 h57 =>
takeE (fun w61 => pFieldAddr P 25 v28n56 5 w61) (drew w25) fun v29n59 h60 =>
takeE (fun w64 => pLoad P 3 v29n59 w64) (drew w25) fun v30n62 h63 =>
takeE (fun w67 => pBin P BinOp.geq 3 false v26n50 v30n62 w67) (drew w25) fun v31n65 h66 =>
condE v31n65 (fun (K69 : KT) =>
K69 .ret (Env.put (Env.put (Env.put (Env.put (Env.put (Env.put (Env.put (Env.put (Env.put (Env.put (Env.put (Env.put (Env.put (Env.put (Env.put (Env.put (Env.put (Env.put (Env.put (Env.put (Env.put (Env.put (Env.put (Env.put (Env.put (Env.put (Env.put (Env.put (argE [a0, a1, a2]) 4 v4n1) 6 (Value.int IntKind.i64 0)) 10 v10n3) 11 v11n6) 12 v12n9) 13 v13n12) 14 v14n15) 15 v15n18) 16 v16n24) 9 v9n26) 17 v17n29) 18 v18n32) 7 v17n29) 8 v18n32) 20 v18n32) 19 v18n32) 22 v22n38) 23 v23n41) 24 v24n44) 25 v25n47) 26 v26n50) 27 v27n53) 28 v28n56) 29 v29n59) 30 v30n62) 31 v31n65) 21 v31n65) 6 (Value.int IntKind.i64 8)) (drew w25)) (fun (K69 : KT) =>
K69 .normal (Env.put (Env.put (Env.put (Env.put (Env.put (Env.put (Env.put (Env.put (Env.put (Env.put (Env.put (Env.put (Env.put (Env.put (Env.put (Env.put (Env.put (Env.put (Env.put (Env.put (Env.put (Env.put (Env.put (Env.put (Env.put (Env.put (Env.put (argE [a0, a1, a2]) 4 v4n1) 6 (Value.int IntKind.i64 0)) 10 v10n3) 11 v11n6) 12 v12n9) 13 v13n12) 14 v14n15) 15 v15n18) 16 v16n24) 9 v9n26) 17 v17n29) 18 v18n32) 7 v17n29) 8 v18n32) 20 v18n32) 19 v18n32) 22 v22n38) 23 v23n41) 24 v24n44) 25 v25n47) 26 v26n50) 27 v27n53) 28 v28n56) 29 v29n59) 30 v30n62) 31 v31n65) 21 v31n65) (drew w25)) K37) (blockK 0 (thenK (fun e70 w71 =>
drawE (fun (k72 : Env → World → Prop) (kp73 : List PanicEntry → Env → World → Prop) =>
takeE (fun w76 => some ((e70 0), w76)) (drew w71) fun v32n74 h75 =>
takeE (fun w79 => some ((e70 0), w79)) (drew w71) fun v33n77 h78 =>
takeE (fun w82 => qNil v33n77 w82) (drew w71) fun v34n80 h81 =>
takeE (fun w85 => pFieldAddr P 25 v34n80 7 w85) (drew w71) fun v35n83 h84 =>
takeE (fun w88 => pLoad P 23 v35n83 w88) (drew w71) fun v36n86 h87 =>
takeE (fun w91 => some ((e70 7), w91)) (drew w71) fun v38n89 h90 =>
takeE (fun w94 => pFieldAddr P 27 (e70 4) 4 w94) (drew w71) fun v39n92 h93 =>
takeE (fun w97 => pLoad P 9 v39n92 w97) (drew w71) fun v40n95 h96 =>
(callE P 71 #[v36n86] (drew w71) (fun v37n101 w102 =>
heldE [h96, h93, h90, h75] w102 (bindV (pBuild P 80 [(1, v40n95)] w102) fun v41n104 w105 =>
heldE [h90, h75] w105 (bindV (pBuildSlice P 23 1 [(0, v41n104)] w105) fun v42n107 w108 =>
heldE [h90, h75] w108 (callE P 99 #[v37n101, v38n89, v42n107] w108 (fun v43n112 w113 =>
heldE [h75] w113 (takeE (fun w116 => qNil v32n74 w116) w113 fun v44n114 h115 =>
takeE (fun w119 => pFieldAddr P 25 v44n114 7 w119) w113 fun v45n117 h118 =>
bindU (pStore P 23 v45n117 v43n112 w113) fun w121 =>
k72 (Env.put (Env.put (Env.put (Env.put (Env.put (Env.put (Env.put (Env.put (Env.put (Env.put (Env.put (Env.put (Env.put (Env.put e70 32 v32n74) 33 v33n77) 34 v34n80) 35 v35n83) 36 v36n86) 38 v38n89) 39 v39n92) 40 v40n95) 37 v37n101) 41 v41n104) 42 v42n107) 43 v43n112) 44 v44n114) 45 v45n117) w121)) (fun c110 w111 => ∀ (e109 : Env), agreeOff [32, 33, 34, 35, 36, 37, 38, 39, 40, 41, 42] (Env.put (Env.put (Env.put (Env.put (Env.put (Env.put (Env.put (Env.put (Env.put (Env.put (Env.put e70 32 v32n74) 33 v33n77) 34 v34n80) 35 v35n83) 36 v36n86) 38 v38n89) 39 v39n92) 40 v40n95) 37 v37n101) 41 v41n104) 42 v42n107) e109 → kp73 c110 e109 w111))))) (fun c99 w100 => ∀ (e98 : Env), agreeOff [32, 33, 34, 35, 36, 38, 39, 40] (Env.put (Env.put (Env.put (Env.put (Env.put (Env.put (Env.put (Env.put e70 32 v32n74) 33 v33n77) 34 v34n80) 35 v35n83) 36 v36n86) 38 v38n89) 39 v39n92) 40 v40n95) e98 → kp73 c99 e98 w100)) ∧
(bindV (pBuild P 80 [(1, v40n95)] (drew w71)) fun v41n123 w124 =>
heldE [h90, h87, h84, h81, h78, h75] w124 ((callE P 71 #[v36n86] w124 (fun v37n128 w129 =>
heldE [h90, h75] w129 (bindV (pBuildSlice P 23 1 [(0, v41n123)] w129) fun v42n131 w132 =>
heldE [h90, h75] w132 (callE P 99 #[v37n128, v38n89, v42n131] w132 (fun v43n136 w137 =>
heldE [h75] w137 (takeE (fun w140 => qNil v32n74 w140) w137 fun v44n138 h139 =>
takeE (fun w143 => pFieldAddr P 25 v44n138 7 w143) w137 fun v45n141 h142 =>
bindU (pStore P 23 v45n141 v43n136 w137) fun w145 =>
k72 (Env.put (Env.put (Env.put (Env.put (Env.put (Env.put (Env.put (Env.put (Env.put (Env.put (Env.put (Env.put (Env.put (Env.put e70 32 v32n74) 33 v33n77) 34 v34n80) 35 v35n83) 36 v36n86) 38 v38n89) 39 v39n92) 40 v40n95) 41 v41n123) 37 v37n128) 42 v42n131) 43 v43n136) 44 v44n138) 45 v45n141) w145)) (fun c134 w135 => ∀ (e133 : Env), agreeOff [32, 33, 34, 35, 36, 37, 38, 39, 40, 41, 42] (Env.put (Env.put (Env.put (Env.put (Env.put (Env.put (Env.put (Env.put (Env.put (Env.put (Env.put e70 32 v32n74) 33 v33n77) 34 v34n80) 35 v35n83) 36 v36n86) 38 v38n89) 39 v39n92) 40 v40n95) 41 v41n123) 37 v37n128) 42 v42n131) e133 → kp73 c134 e133 w135)))) (fun c126 w127 => ∀ (e125 : Env), agreeOff [32, 33, 34, 35, 36, 38, 39, 40, 41] (Env.put (Env.put (Env.put (Env.put (Env.put (Env.put (Env.put (Env.put (Env.put e70 32 v32n74) 33 v33n77) 34 v34n80) 35 v35n83) 36 v36n86) 38 v38n89) 39 v39n92) 40 v40n95) 41 v41n123) e125 → kp73 c126 e125 w127)) ∧
(bindV (pBuildSlice P 23 1 [(0, v41n123)] w124) fun v42n147 w148 =>
heldE [h90, h87, h84, h81, h78, h75] w148 (callE P 71 #[v36n86] w148 (fun v37n152 w153 =>
heldE [h90, h75] w153 (callE P 99 #[v37n152, v38n89, v42n147] w153 (fun v43n157 w158 =>
heldE [h75] w158 (takeE (fun w161 => qNil v32n74 w161) w158 fun v44n159 h160 =>
takeE (fun w164 => pFieldAddr P 25 v44n159 7 w164) w158 fun v45n162 h163 =>
bindU (pStore P 23 v45n162 v43n157 w158) fun w166 =>
k72 (Env.put (Env.put (Env.put (Env.put (Env.put (Env.put (Env.put (Env.put (Env.put (Env.put (Env.put (Env.put (Env.put (Env.put e70 32 v32n74) 33 v33n77) 34 v34n80) 35 v35n83) 36 v36n86) 38 v38n89) 39 v39n92) 40 v40n95) 41 v41n123) 42 v42n147) 37 v37n152) 43 v43n157) 44 v44n159) 45 v45n162) w166)) (fun c155 w156 => ∀ (e154 : Env), agreeOff [32, 33, 34, 35, 36, 37, 38, 39, 40, 41, 42] (Env.put (Env.put (Env.put (Env.put (Env.put (Env.put (Env.put (Env.put (Env.put (Env.put (Env.put e70 32 v32n74) 33 v33n77) 34 v34n80) 35 v35n83) 36 v36n86) 38 v38n89) 39 v39n92) 40 v40n95) 41 v41n123) 42 v42n147) 37 v37n152) e154 → kp73 c155 e154 w156))) (fun c150 w151 => ∀ (e149 : Env), agreeOff [32, 33, 34, 35, 36, 38, 39, 40, 41, 42] (Env.put (Env.put (Env.put (Env.put (Env.put (Env.put (Env.put (Env.put (Env.put (Env.put e70 32 v32n74) 33 v33n77) 34 v34n80) 35 v35n83) 36 v36n86) 38 v38n89) 39 v39n92) 40 v40n95) 41 v41n123) 42 v42n147) e149 → kp73 c150 e149 w151)))))) (fun e167 w168 =>
R (.returned (Value.int IntKind.i64 0)) w168) (fun c169 e170 w171 => R (.panicked c169) w171)) (topK P [(ResultVar.tmp 6)] R))))) (fun c22 w23 => ∀ (e21 : Env), agreeOff [10, 11, 12, 13, 14, 15] (Env.put (Env.put (Env.put (Env.put (Env.put (Env.put (Env.put (Env.put (argE [a0, a1, a2]) 4 v4n1) 6 (Value.int IntKind.i64 0)) 10 v10n3) 11 v11n6) 12 v12n9) 13 v13n12) 14 v14n15) 15 v15n18) e21 → R (.panicked c22) w23)
theorem F92ok {w : World} {R : Ending → World → Prop} {a0 : Value} {a1 : Value} {a2 : Value} (h : F92 a0 a1 a2 w R) : Calls P 92 #[a0, a1, a2] w R :=
  calls_of_ev bodies mixed (c := bodyOf Tryd.f92) (nt := 46) (rs := [(ResultVar.tmp 6)]) (args := [a0, a1, a2]) (fn := Tryd.f92) (by kernel_rfl) (by kernel_rfl) (by kernel_rfl) (by kernel_rfl) (by kernel_rfl) (by simp)
    (eq_mp (show F92 a0 a1 a2 w R = ev P C (bodyOf Tryd.f92) (argE [a0, a1, a2]) w (topK P [(ResultVar.tmp 6)] R) by kernel_rfl) h)

/-! ### moiety/rule.changes$7 -/
def F93 (a0 : Value) (a1 : Value) (a2 : Value) (w : World) (R : Ending → World → Prop) : Prop :=
bindV (pBox P 27 a1 w) fun v4n1 w2 =>
takeE (fun w5 => some (a0, w5)) (drew w2) fun v10n3 h4 =>
takeE (fun w8 => qNil v10n3 w8) (drew w2) fun v11n6 h7 =>
takeE (fun w11 => pFieldAddr P 25 v11n6 7 w11) (drew w2) fun v12n9 h10 =>
takeE (fun w14 => pLoad P 23 v12n9 w14) (drew w2) fun v13n12 h13 =>
takeE (fun w17 => pFieldAddr P 27 v4n1 4 w17) (drew w2) fun v14n15 h16 =>
takeE (fun w20 => pLoad P 9 v14n15 w20) (drew w2) fun v15n18 h19 =>
callE P 94 #[v13n12, v15n18] (drew w2) (fun v16n24 w25 =>
takeE (fun w28 => some (v16n24, w28)) w25 fun v9n26 h27 =>
takeE (fun w31 => pExtract P v9n26 0 w31) w25 fun v17n29 h30 =>
takeE (fun w34 => pExtract P v9n26 1 w34) w25 fun v18n32 h33 =>
heldE [h33] w25 (condE v18n32 (fun (K37 : KT) =>
nilE a0 fun v22n38 =>
bindV (pFieldAddr P 25 v22n38 7 w25) fun v23n39 w40 =>
bindV (pLoad P 23 v23n39 w40) fun v24n41 w42 =>
callE P 71 #[v24n41] w42 (fun v25n45 w46 =>
bindV (pBin P BinOp.add 3 true v17n29 (Value.int IntKind.i64 1) w46) fun v28n47 w48 =>
callE P 95 #[v25n45, v17n29, v28n47] w48 (fun v29n51 w52 =>
nilE a0 fun v30n53 =>
bindV (pFieldAddr P 25 v30n53 7 w52) fun v31n54 w55 =>
bindU (pStore P 23 v31n54 v29n51 w55) fun w56 =>
K37 .normal (Env.put (Env.put (Env.put (Env.put (Env.put (Env.put (Env.put (Env.put (Env.put (Env.put (Env.put (Env.put (Env.put (Env.put (Env.put (Env.put (Env.put (Env.put (Env.put (Env.put (Env.put (Env.put (Env.put (Env.put (Env.put (Env.put (Env.put (argE [a0, a1, a2]) 4 v4n1) 6 (Value.int IntKind.i64 0)) 10 v10n3) 11 v11n6) 12 v12n9) 13 v13n12) 14 v14n15) 15 v15n18) 16 v16n24) 9 v9n26) 17 v17n29) 18 v18n32) 7 v17n29) 8 v18n32) 19 v18n32) 20 a0) 21 a0) 22 v22n38) 23 v23n39) 24 v24n41) 25 v25n45) 26 v17n29) 27 v17n29) 28 v28n47) 29 v29n51) 30 v30n53) 31 v31n54) w56) (fun c49 w50 => K37 (.panic c49) (Env.put (Env.put (Env.put (Env.put (Env.put (Env.put (Env.put (Env.put (Env.put (Env.put (Env.put (Env.put (Env.put (Env.put (Env.put (Env.put (Env.put (Env.put (Env.put (Env.put (Env.put (Env.put (Env.put (Env.put (argE [a0, a1, a2]) 4 v4n1) 6 (Value.int IntKind.i64 0)) 10 v10n3) 11 v11n6) 12 v12n9) 13 v13n12) 14 v14n15) 15 v15n18) 16 v16n24) 9 v9n26) 17 v17n29) 18 v18n32) 7 v17n29) 8 v18n32) 19 v18n32) 20 a0) 21 a0) 22 v22n38) 23 v23n39) 24 v24n41) 25 v25n45) 26 v17n29) 27 v17n29) 28 v28n47) w50)) (fun c43 w44 => K37 (.panic c43) (Env.put (Env.put (Env.put (Env.put (Env.put (Env.put (Env.put (Env.put (Env.put (Env.put (Env.put (Env.put (Env.put (Env.put (Env.put (Env.put (Env.put (Env.put (Env.put (Env.put (argE [a0, a1, a2]) 4 v4n1) 6 (Value.int IntKind.i64 0)) 10 v10n3) 11 v11n6) 12 v12n9) 13 v13n12) 14 v14n15) 15 v15n18) 16 v16n24) 9 v9n26) 17 v17n29) 18 v18n32) 7 v17n29) 8 v18n32) 19 v18n32) 20 a0) 21 a0) 22 v22n38) 23 v23n39) 24 v24n41) w44)) (fun (K37 : KT) =>
K37 .normal (Env.put (Env.put (Env.put (Env.put (Env.put (Env.put (Env.put (Env.put (Env.put (Env.put (Env.put (Env.put (Env.put (Env.put (Env.put (argE [a0, a1, a2]) 4 v4n1) 6 (Value.int IntKind.i64 0)) 10 v10n3) 11 v11n6) 12 v12n9) 13 v13n12) 14 v14n15) 15 v15n18) 16 v16n24) 9 v9n26) 17 v17n29) 18 v18n32) 7 v17n29) 8 v18n32) 19 v18n32) w25) (thenK (fun e57 w58 =>
R (.returned (Value.int IntKind.i64 0)) w58) (topK P [(ResultVar.tmp 6)] R)))) (fun c22 w23 => ∀ (e21 : Env), agreeOff [10, 11, 12, 13, 14, 15] (Env.put (Env.put (Env.put (Env.put (Env.put (Env.put (Env.put (Env.put (argE [a0, a1, a2]) 4 v4n1) 6 (Value.int IntKind.i64 0)) 10 v10n3) 11 v11n6) 12 v12n9) 13 v13n12) 14 v14n15) 15 v15n18) e21 → R (.panicked c22) w23)
theorem F93ok {w : World} {R : Ending → World → Prop} {a0 : Value} {a1 : Value} {a2 : Value} (h : F93 a0 a1 a2 w R) : Calls P 93 #[a0, a1, a2] w R :=
  calls_of_ev bodies mixed (c := bodyOf Tryd.f93) (nt := 32) (rs := [(ResultVar.tmp 6)]) (args := [a0, a1, a2]) (fn := Tryd.f93) (by kernel_rfl) (by kernel_rfl) (by kernel_rfl) (by kernel_rfl) (by kernel_rfl) (by simp)
    (eq_mp (show F93 a0 a1 a2 w R = ev P C (bodyOf Tryd.f93) (argE [a0, a1, a2]) w (topK P [(ResultVar.tmp 6)] R) by kernel_rfl) h)

/-! ### moiety/rule.find -/
def F94 (a0 : Value) (a1 : Value) (w : World) (R : Ending → World → Prop) : Prop :=
callE P 100 #[a0, a1, (Value.func (.func 101) #[] #[])] w (fun v8n3 w4 =>
bindV (pExtract P v8n3 0 w4) fun v9n5 w6 =>
bindV (pExtract P v8n3 1 w6) fun v10n7 w8 =>
R (.returned (.tuple #[v9n5, v10n7])) w8) (fun c1 w2 => R (.panicked c1) w2)
theorem F94ok {w : World} {R : Ending → World → Prop} {a0 : Value} {a1 : Value} (h : F94 a0 a1 w R) : Calls P 94 #[a0, a1] w R :=
  calls_of_ev bodies mixed (c := bodyOf Tryd.f94) (nt := 11) (rs := [(ResultVar.tmp 4), (ResultVar.tmp 5)]) (args := [a0, a1]) (fn := Tryd.f94) (by kernel_rfl) (by kernel_rfl) (by kernel_rfl) (by kernel_rfl) (by kernel_rfl) (by simp)
    (eq_mp (show F94 a0 a1 w R = ev P C (bodyOf Tryd.f94) (argE [a0, a1]) w (topK P [(ResultVar.tmp 4), (ResultVar.tmp 5)] R) by kernel_rfl) h)

/-! ### slices.Delete[[]moiety/api.Item,moiety/api.Item] -/
def F95 (a0 : Value) (a1 : Value) (a2 : Value) (w : World) (R : Ending → World → Prop) : Prop :=
bindV (pBuiltin P Builtin.len #[23] 3 [a0] w) fun v12n1 w2 =>
bindV (pSlice P 23 a0 (some a1) (some a2) (some v12n1) w2) fun v13n3 w4 =>
bindV (pBin P BinOp.eql 3 false a1 a2 w4) fun v16n5 w6 =>
condE v16n5 (fun (K7 : KT) =>
K7 .ret (Env.put (Env.put (Env.put (Env.put (Env.put (Env.put (Env.put (Env.put (Env.put (Env.put (Env.put (Env.put (argE [a0, a1, a2]) 6 (Value.slice none 0 0)) 8 a0) 9 a1) 10 a2) 11 a0) 12 v12n1) 13 v13n3) 14 a1) 15 a2) 16 v16n5) 17 a0) 6 a0) w6) (fun (K7 : KT) =>
K7 .normal (Env.put (Env.put (Env.put (Env.put (Env.put (Env.put (Env.put (Env.put (Env.put (Env.put (argE [a0, a1, a2]) 6 (Value.slice none 0 0)) 8 a0) 9 a1) 10 a2) 11 a0) 12 v12n1) 13 v13n3) 14 a1) 15 a2) 16 v16n5) w6) (thenK (fun e8 w9 =>
bindV (pBuiltin P Builtin.len #[23] 3 [(e8 0)] w9) fun v19n10 w11 =>
takeE (fun w14 => some ((e8 0), w14)) (drew w11) fun v20n12 h13 =>
takeE (fun w17 => some ((e8 1), w17)) (drew w11) fun v21n15 h16 =>
takeE (fun w20 => pSlice P 23 v20n12 none (some v21n15) none w20) (drew w11) fun v22n18 h19 =>
takeE (fun w23 => some ((e8 0), w23)) (drew w11) fun v23n21 h22 =>
takeE (fun w26 => some ((e8 2), w26)) (drew w11) fun v24n24 h25 =>
takeE (fun w29 => pSlice P 23 v23n21 (some v24n24) none none w29) (drew w11) fun v25n27 h28 =>
bindV (pBuiltin P Builtin.append #[23, 23] 23 [v22n18, v25n27] (drew w11)) fun v26n31 w32 =>
bindV (pBuiltin P Builtin.len #[23] 3 [v26n31] w32) fun v29n34 w35 =>
bindV (pSlice P 23 v26n31 (some v29n34) (some v19n10) none w35) fun v31n36 w37 =>
bindV (pBuiltin P Builtin.clear #[23] 0 [v31n36] w37) fun vn38 w39 =>
R (.returned v26n31) w39) (topK P [(ResultVar.tmp 6)] R))
theorem F95ok {w : World} {R : Ending → World → Prop} {a0 : Value} {a1 : Value} {a2 : Value} (h : F95 a0 a1 a2 w R) : Calls P 95 #[a0, a1, a2] w R :=
  calls_of_ev bodies mixed (c := bodyOf Tryd.f95) (nt := 33) (rs := [(ResultVar.tmp 6)]) (args := [a0, a1, a2]) (fn := Tryd.f95) (by kernel_rfl) (by kernel_rfl) (by kernel_rfl) (by kernel_rfl) (by kernel_rfl) (by simp)
    (eq_mp (show F95 a0 a1 a2 w R = ev P C (bodyOf Tryd.f95) (argE [a0, a1, a2]) w (topK P [(ResultVar.tmp 6)] R) by kernel_rfl) h)

/-! ### moiety/rule.changes$8 -/
def F96 (a0 : Value) (a1 : Value) (a2 : Value) (w : World) (R : Ending → World → Prop) : Prop :=
bindV (pBox P 27 a1 w) fun v4n1 w2 =>
takeE (fun w5 => some (a0, w5)) (drew w2) fun v10n3 h4 =>
takeE (fun w8 => qNil v10n3 w8) (drew w2) fun v11n6 h7 =>
takeE (fun w11 => pFieldAddr P 25 v11n6 7 w11) (drew w2) fun v12n9 h10 =>
takeE (fun w14 => pLoad P 23 v12n9 w14) (drew w2) fun v13n12 h13 =>
takeE (fun w17 => pFieldAddr P 27 v4n1 4 w17) (drew w2) fun v14n15 h16 =>
takeE (fun w20 => pLoad P 9 v14n15 w20) (drew w2) fun v15n18 h19 =>
callE P 94 #[v13n12, v15n18] (drew w2) (fun v16n24 w25 =>
takeE (fun w28 => some (v16n24, w28)) w25 fun v9n26 h27 =>
takeE (fun w31 => pExtract P v9n26 0 w31) w25 fun v17n29 h30 =>
takeE (fun w34 => pExtract P v9n26 1 w34) w25 fun v18n32 h33 =>
heldE [h33] w25 (bindV (pUn P UnOp.not v18n32 w25) fun v20n37 w38 =>
condE v20n37 (fun (K39 : KT) =>
K39 .ret (Env.put (Env.put (Env.put (Env.put (Env.put (Env.put (Env.put (Env.put (Env.put (Env.put (Env.put (Env.put (Env.put (Env.put (Env.put (Env.put (Env.put (argE [a0, a1, a2]) 4 v4n1) 6 (Value.int IntKind.i64 0)) 10 v10n3) 11 v11n6) 12 v12n9) 13 v13n12) 14 v14n15) 15 v15n18) 16 v16n24) 9 v9n26) 17 v17n29) 18 v18n32) 7 v17n29) 8 v18n32) 19 v18n32) 20 v20n37) 6 (Value.int IntKind.i64 11)) w38) (fun (K39 : KT) =>
K39 .normal (Env.put (Env.put (Env.put (Env.put (Env.put (Env.put (Env.put (Env.put (Env.put (Env.put (Env.put (Env.put (Env.put (Env.put (Env.put (Env.put (argE [a0, a1, a2]) 4 v4n1) 6 (Value.int IntKind.i64 0)) 10 v10n3) 11 v11n6) 12 v12n9) 13 v13n12) 14 v14n15) 15 v15n18) 16 v16n24) 9 v9n26) 17 v17n29) 18 v18n32) 7 v17n29) 8 v18n32) 19 v18n32) 20 v20n37) w38) (thenK (fun e40 w41 =>
R (.returned (Value.int IntKind.i64 0)) w41) (topK P [(ResultVar.tmp 6)] R)))) (fun c22 w23 => ∀ (e21 : Env), agreeOff [10, 11, 12, 13, 14, 15] (Env.put (Env.put (Env.put (Env.put (Env.put (Env.put (Env.put (Env.put (argE [a0, a1, a2]) 4 v4n1) 6 (Value.int IntKind.i64 0)) 10 v10n3) 11 v11n6) 12 v12n9) 13 v13n12) 14 v14n15) 15 v15n18) e21 → R (.panicked c22) w23)
theorem F96ok {w : World} {R : Ending → World → Prop} {a0 : Value} {a1 : Value} {a2 : Value} (h : F96 a0 a1 a2 w R) : Calls P 96 #[a0, a1, a2] w R :=
  calls_of_ev bodies mixed (c := bodyOf Tryd.f96) (nt := 21) (rs := [(ResultVar.tmp 6)]) (args := [a0, a1, a2]) (fn := Tryd.f96) (by kernel_rfl) (by kernel_rfl) (by kernel_rfl) (by kernel_rfl) (by kernel_rfl) (by simp)
    (eq_mp (show F96 a0 a1 a2 w R = ev P C (bodyOf Tryd.f96) (argE [a0, a1, a2]) w (topK P [(ResultVar.tmp 6)] R) by kernel_rfl) h)

/-! ### moiety/rule.offer -/
def F97B0 (e : Env) (w : World) (K : KT) : Prop :=
takeE (fun w18 => some ((e 8), w18)) (drew w) fun v15n16 h17 =>
takeE (fun w21 => some ((e 0), w21)) (drew w) fun v16n19 h20 =>
takeE (fun w24 => qNil v16n19 w24) (drew w) fun v17n22 h23 =>
takeE (fun w27 => pFieldAddr P 25 v17n22 7 w27) (drew w) fun v18n25 h26 =>
takeE (fun w30 => pLoad P 23 v18n25 w30) (drew w) fun v19n28 h29 =>
takeE (fun w33 => pBuiltin P Builtin.len #[23] 3 [v19n28] w33) (drew w) fun v20n31 h32 =>
takeE (fun w36 => pBin P BinOp.lss 3 false v15n16 v20n31 w36) (drew w) fun v21n34 h35 =>
takeE (fun w39 => some (v21n34, w39)) (drew w) fun v22n37 h38 =>
takeE (fun w42 => qGrd v22n37 true (fun w42 => some ((e 0), w42)) w42) (drew w) fun v23n40 h41 =>
takeE (fun w45 => qGrd v22n37 true (fun w45 => qNil v23n40 w45) w45) (drew w) fun v24n43 h44 =>
takeE (fun w48 => qGrd v22n37 true (fun w48 => pFieldAddr P 25 v24n43 7 w48) w48) (drew w) fun v25n46 h47 =>
takeE (fun w51 => qGrd v22n37 true (fun w51 => pLoad P 23 v25n46 w51) w51) (drew w) fun v26n49 h50 =>
takeE (fun w54 => qGrd v22n37 true (fun w54 => some ((e 8), w54)) w54) (drew w) fun v27n52 h53 =>
takeE (fun w57 => qGrd v22n37 true (fun w57 => pIndexAddr P 23 v26n49 v27n52 w57) w57) (drew w) fun v28n55 h56 =>
takeE (fun w60 => qGrd v22n37 true (fun w60 => pLoad P 80 v28n55 w60) w60) (drew w) fun v29n58 h59 =>
takeE (fun w63 => qGrd v22n37 true (fun w63 => pLoad P 80 (e 7) w63) w63) (drew w) fun v30n61 h62 =>
grdE v22n37 true (fun (k65 : Value → World → Prop) => callE P 77 #[v29n58, v30n61] (drew w) k65 (fun c66 w67 => ∀ (e64 : Env), agreeOff [15, 16, 17, 18, 19, 20, 21, 22, 23, 24, 25, 26, 27, 28, 29, 30] (Env.put (Env.put (Env.put (Env.put (Env.put (Env.put (Env.put (Env.put (Env.put (Env.put (Env.put (Env.put (Env.put (Env.put (Env.put (Env.put e 15 v15n16) 16 v16n19) 17 v17n22) 18 v18n25) 19 v19n28) 20 v20n31) 21 v21n34) 22 v22n37) 23 v23n40) 24 v24n43) 25 v25n46) 26 v26n49) 27 v27n52) 28 v28n55) 29 v29n58) 30 v30n61) e64 → K (.panic c66) e64 w67)) (fun v31n68 w69 =>
takeE (fun w72 => qPick v22n37 v31n68 (Value.bool false) w72) w69 fun v32n70 h71 =>
condE v32n70 (fun (K73 : KT) =>
K73 .normal (Env.put (Env.put (Env.put (Env.put (Env.put (Env.put (Env.put (Env.put (Env.put (Env.put (Env.put (Env.put (Env.put (Env.put (Env.put (Env.put (Env.put (Env.put e 15 v15n16) 16 v16n19) 17 v17n22) 18 v18n25) 19 v19n28) 20 v20n31) 21 v21n34) 22 v22n37) 23 v23n40) 24 v24n43) 25 v25n46) 26 v26n49) 27 v27n52) 28 v28n55) 29 v29n58) 30 v30n61) 31 v31n68) 32 v32n70) w69) (fun (K73 : KT) =>
K73 (.exit 0) (Env.put (Env.put (Env.put (Env.put (Env.put (Env.put (Env.put (Env.put (Env.put (Env.put (Env.put (Env.put (Env.put (Env.put (Env.put (Env.put (Env.put (Env.put e 15 v15n16) 16 v16n19) 17 v17n22) 18 v18n25) 19 v19n28) 20 v20n31) 21 v21n34) 22 v22n37) 23 v23n40) 24 v24n43) 25 v25n46) 26 v26n49) 27 v27n52) 28 v28n55) 29 v29n58) 30 v30n61) 31 v31n68) 32 v32n70) w69) (thenK (fun e74 w75 =>
bindV (pBin P BinOp.add 3 true (e74 8) (Value.int IntKind.i64 1) w75) fun v34n76 w77 =>
K .normal (Env.put (Env.put (Env.put e74 33 (e74 8)) 34 v34n76) 8 v34n76) w77) K)) (drew w)
def F97 (a0 : Value) (a1 : Value) (a2 : Value) (w : World) (R : Ending → World → Prop) : Prop :=
bindV (pBox P 27 a1 w) fun v4n1 w2 =>
bindV (pFieldAddr P 27 v4n1 3 w2) fun v10n3 w4 =>
bindV (pLoad P 22 v10n3 w4) fun v11n5 w6 =>
bindV (pFieldAddr P 27 v4n1 4 w6) fun v12n7 w8 =>
bindV (pLoad P 9 v12n7 w8) fun v13n9 w10 =>
bindV (pBuild P 80 [(0, v11n5), (1, v13n9)] w10) fun v14n11 w12 =>
bindV (pAlloc P 80 w12) fun v7n13 w14 =>
bindU (pStore P 80 v7n13 v14n11 w14) fun w15 =>
loopE F97B0 (Env.put (Env.put (Env.put (Env.put (Env.put (Env.put (Env.put (Env.put (Env.put (argE [a0, a1, a2]) 4 v4n1) 6 (Value.int IntKind.i64 0)) 10 v10n3) 11 v11n5) 12 v12n7) 13 v13n9) 14 v14n11) 7 v7n13) 8 (Value.int IntKind.i64 0)) w15 (blockK 0 (thenK (fun e78 w79 =>
takeE (fun w82 => some ((e78 8), w82)) (drew w79) fun v35n80 h81 =>
takeE (fun w85 => some ((e78 0), w85)) (drew w79) fun v36n83 h84 =>
takeE (fun w88 => qNil v36n83 w88) (drew w79) fun v37n86 h87 =>
takeE (fun w91 => pFieldAddr P 25 v37n86 7 w91) (drew w79) fun v38n89 h90 =>
takeE (fun w94 => pLoad P 23 v38n89 w94) (drew w79) fun v39n92 h93 =>
takeE (fun w97 => pBuiltin P Builtin.len #[23] 3 [v39n92] w97) (drew w79) fun v40n95 h96 =>
takeE (fun w100 => pBin P BinOp.lss 3 false v35n80 v40n95 w100) (drew w79) fun v41n98 h99 =>
takeE (fun w103 => some (v41n98, w103)) (drew w79) fun v42n101 h102 =>
takeE (fun w106 => qGrd v42n101 true (fun w106 => pLoad P 80 (e78 7) w106) w106) (drew w79) fun v43n104 h105 =>
takeE (fun w109 => qGrd v42n101 true (fun w109 => some ((e78 0), w109)) w109) (drew w79) fun v44n107 h108 =>
takeE (fun w112 => qGrd v42n101 true (fun w112 => qNil v44n107 w112) w112) (drew w79) fun v45n110 h111 =>
takeE (fun w115 => qGrd v42n101 true (fun w115 => pFieldAddr P 25 v45n110 7 w115) w115) (drew w79) fun v46n113 h114 =>
takeE (fun w118 => qGrd v42n101 true (fun w118 => pLoad P 23 v46n113 w118) w118) (drew w79) fun v47n116 h117 =>
takeE (fun w121 => qGrd v42n101 true (fun w121 => some ((e78 8), w121)) w121) (drew w79) fun v48n119 h120 =>
takeE (fun w124 => qGrd v42n101 true (fun w124 => pIndexAddr P 23 v47n116 v48n119 w124) w124) (drew w79) fun v49n122 h123 =>
takeE (fun w127 => qGrd v42n101 true (fun w127 => pLoad P 80 v49n122 w127) w127) (drew w79) fun v50n125 h126 =>
grdE v42n101 true (fun (k129 : Value → World → Prop) => callE P 77 #[v43n104, v50n125] (drew w79) k129 (fun c130 w131 => ∀ (e128 : Env), agreeOff [35, 36, 37, 38, 39, 40, 41, 42, 43, 44, 45, 46, 47, 48, 49, 50] (Env.put (Env.put (Env.put (Env.put (Env.put (Env.put (Env.put (Env.put (Env.put (Env.put (Env.put (Env.put (Env.put (Env.put (Env.put (Env.put e78 35 v35n80) 36 v36n83) 37 v37n86) 38 v38n89) 39 v39n92) 40 v40n95) 41 v41n98) 42 v42n101) 43 v43n104) 44 v44n107) 45 v45n110) 46 v46n113) 47 v47n116) 48 v48n119) 49 v49n122) 50 v50n125) e128 → R (.panicked c130) w131)) (fun v51n132 w133 =>
takeE (fun w136 => qGrd v42n101 true (fun w136 => pUn P UnOp.not v51n132 w136) w136) w133 fun v52n134 h135 =>
takeE (fun w139 => qPick v42n101 v52n134 (Value.bool false) w139) w133 fun v53n137 h138 =>
condE v53n137 (fun (K140 : KT) =>
K140 .ret (Env.put (Env.put (Env.put (Env.put (Env.put (Env.put (Env.put (Env.put (Env.put (Env.put (Env.put (Env.put (Env.put (Env.put (Env.put (Env.put (Env.put (Env.put (Env.put (Env.put e78 35 v35n80) 36 v36n83) 37 v37n86) 38 v38n89) 39 v39n92) 40 v40n95) 41 v41n98) 42 v42n101) 43 v43n104) 44 v44n107) 45 v45n110) 46 v46n113) 47 v47n116) 48 v48n119) 49 v49n122) 50 v50n125) 51 v51n132) 52 v52n134) 53 v53n137) 6 (Value.int IntKind.i64 0)) w133) (fun (K140 : KT) =>
K140 .normal (Env.put (Env.put (Env.put (Env.put (Env.put (Env.put (Env.put (Env.put (Env.put (Env.put (Env.put (Env.put (Env.put (Env.put (Env.put (Env.put (Env.put (Env.put (Env.put e78 35 v35n80) 36 v36n83) 37 v37n86) 38 v38n89) 39 v39n92) 40 v40n95) 41 v41n98) 42 v42n101) 43 v43n104) 44 v44n107) 45 v45n110) 46 v46n113) 47 v47n116) 48 v48n119) 49 v49n122) 50 v50n125) 51 v51n132) 52 v52n134) 53 v53n137) w133) (thenK (fun e141 w142 =>
drawE (fun (k143 : Env → World → Prop) (kp144 : List PanicEntry → Env → World → Prop) =>
takeE (fun w147 => some ((e141 0), w147)) (drew w142) fun v54n145 h146 =>
takeE (fun w150 => qNil v54n145 w150) (drew w142) fun v55n148 h149 =>
takeE (fun w153 => pFieldAddr P 25 v55n148 7 w153) (drew w142) fun v56n151 h152 =>
takeE (fun w156 => pLoad P 23 v56n151 w156) (drew w142) fun v57n154 h155 =>
takeE (fun w159 => some ((e141 8), w159)) (drew w142) fun v59n157 h158 =>
takeE (fun w162 => pLoad P 80 (e141 7) w162) (drew w142) fun v60n160 h161 =>
(callE P 71 #[v57n154] (drew w142) (fun v58n166 w167 =>
heldE [h161, h158] w167 (bindV (pBuildSlice P 23 1 [(0, v60n160)] w167) fun v61n169 w170 =>
heldE [h158] w170 (callE P 99 #[v58n166, v59n157, v61n169] w170 (fun v62n174 w175 =>
k143 (Env.put (Env.put (Env.put (Env.put (Env.put (Env.put (Env.put (Env.put (Env.put (Env.put e141 54 v54n145) 55 v55n148) 56 v56n151) 57 v57n154) 59 v59n157) 60 v60n160) 58 v58n166) 61 v61n169) 62 v62n174) 9 v62n174) w175) (fun c172 w173 => ∀ (e171 : Env), agreeOff [54, 55, 56, 57, 58, 59, 60, 61] (Env.put (Env.put (Env.put (Env.put (Env.put (Env.put (Env.put (Env.put e141 54 v54n145) 55 v55n148) 56 v56n151) 57 v57n154) 59 v59n157) 60 v60n160) 58 v58n166) 61 v61n169) e171 → kp144 c172 e171 w173)))) (fun c164 w165 => ∀ (e163 : Env), agreeOff [54, 55, 56, 57, 59, 60] (Env.put (Env.put (Env.put (Env.put (Env.put (Env.put e141 54 v54n145) 55 v55n148) 56 v56n151) 57 v57n154) 59 v59n157) 60 v60n160) e163 → kp144 c164 e163 w165)) ∧
(bindV (pBuildSlice P 23 1 [(0, v60n160)] (drew w142)) fun v61n178 w179 =>
heldE [h158, h155, h152, h149, h146] w179 (callE P 71 #[v57n154] w179 (fun v58n183 w184 =>
heldE [h158] w184 (callE P 99 #[v58n183, v59n157, v61n178] w184 (fun v62n188 w189 =>
k143 (Env.put (Env.put (Env.put (Env.put (Env.put (Env.put (Env.put (Env.put (Env.put (Env.put e141 54 v54n145) 55 v55n148) 56 v56n151) 57 v57n154) 59 v59n157) 60 v60n160) 61 v61n178) 58 v58n183) 62 v62n188) 9 v62n188) w189) (fun c186 w187 => ∀ (e185 : Env), agreeOff [54, 55, 56, 57, 58, 59, 60, 61] (Env.put (Env.put (Env.put (Env.put (Env.put (Env.put (Env.put (Env.put e141 54 v54n145) 55 v55n148) 56 v56n151) 57 v57n154) 59 v59n157) 60 v60n160) 61 v61n178) 58 v58n183) e185 → kp144 c186 e185 w187))) (fun c181 w182 => ∀ (e180 : Env), agreeOff [54, 55, 56, 57, 59, 60, 61] (Env.put (Env.put (Env.put (Env.put (Env.put (Env.put (Env.put e141 54 v54n145) 55 v55n148) 56 v56n151) 57 v57n154) 59 v59n157) 60 v60n160) 61 v61n178) e180 → kp144 c181 e180 w182)))) (fun e191 w192 =>
bindV (pBuiltin P Builtin.len #[23] 3 [(e191 9)] w192) fun v66n196 w197 =>
nilE (e191 0) fun v68n198 =>
bindV (pFieldAddr P 25 v68n198 5 w197) fun v69n199 w200 =>
bindV (pLoad P 3 v69n199 w200) fun v70n201 w202 =>
bindV (pBuiltin P Builtin.min #[3, 3] 3 [v66n196, v70n201] w202) fun v71n203 w204 =>
bindV (pSlice P 23 (e191 9) none (some v71n203) none w204) fun v72n205 w206 =>
nilE (e191 0) fun v73n207 =>
bindV (pFieldAddr P 25 v73n207 7 w206) fun v74n208 w209 =>
bindU (pStore P 23 v74n208 v72n205 w209) fun w210 =>
R (.returned (Value.int IntKind.i64 0)) w210) (fun c193 e194 w195 => R (.panicked c193) w195)) (topK P [(ResultVar.tmp 6)] R))) (drew w79)) (topK P [(ResultVar.tmp 6)] R)))
theorem F97ok {w : World} {R : Ending → World → Prop} {a0 : Value} {a1 : Value} {a2 : Value} (h : F97 a0 a1 a2 w R) : Calls P 97 #[a0, a1, a2] w R :=
  calls_of_ev bodies mixed (c := bodyOf Tryd.f97) (nt := 75) (rs := [(ResultVar.tmp 6)]) (args := [a0, a1, a2]) (fn := Tryd.f97) (by kernel_rfl) (by kernel_rfl) (by kernel_rfl) (by kernel_rfl) (by kernel_rfl) (by simp)
    (eq_mp (show F97 a0 a1 a2 w R = ev P C (bodyOf Tryd.f97) (argE [a0, a1, a2]) w (topK P [(ResultVar.tmp 6)] R) by kernel_rfl) h)

/-! ### moiety/rule.real$1 -/
def F98 (a0 : Value) (a1 : Value) (a2 : Value) (a3 : Value) (w : World) (R : Ending → World → Prop) : Prop :=
bindV (pBox P 27 a1 w) fun v5n1 w2 =>
takeE (fun w5 => some (a0, w5)) (drew w2) fun v8n3 h4 =>
takeE (fun w8 => pLoad P 95 a3 w8) (drew w2) fun v9n6 h7 =>
takeE (fun w11 => some (a0, w11)) (drew w2) fun v10n9 h10 =>
takeE (fun w14 => qNil v10n9 w14) (drew w2) fun v11n12 h13 =>
takeE (fun w17 => pFieldAddr P 25 v11n12 4 w17) (drew w2) fun v12n15 h16 =>
takeE (fun w20 => pLoad P 22 v12n15 w20) (drew w2) fun v13n18 h19 =>
takeE (fun w23 => pFieldAddr P 27 v5n1 3 w23) (drew w2) fun v14n21 h22 =>
takeE (fun w26 => pLoad P 22 v14n21 w26) (drew w2) fun v15n24 h25 =>
callVE P C v9n6 [v13n18, v15n24] (drew w2) (fun v16n30 w31 =>
heldE [h4] w31 (takeE (fun w34 => qNil v8n3 w34) w31 fun v17n32 h33 =>
takeE (fun w37 => pFieldAddr P 25 v17n32 4 w37) w31 fun v18n35 h36 =>
bindU (pStore P 22 v18n35 v16n30 w31) fun w39 =>
R (.returned (Value.int IntKind.i64 0)) w39)) (fun c28 w29 => ∀ (e27 : Env), agreeOff [8, 9, 10, 11, 12, 13, 14, 15] (Env.put (Env.put (Env.put (Env.put (Env.put (Env.put (Env.put (Env.put (Env.put (Env.put (argE [a0, a1, a2, a3]) 5 v5n1) 7 (Value.int IntKind.i64 0)) 8 v8n3) 9 v9n6) 10 v10n9) 11 v11n12) 12 v12n15) 13 v13n18) 14 v14n21) 15 v15n24) e27 → R (.panicked c28) w29)
theorem F98ok {w : World} {R : Ending → World → Prop} {a0 : Value} {a1 : Value} {a2 : Value} {a3 : Value} (h : F98 a0 a1 a2 a3 w R) : Calls P 98 #[a0, a1, a2, a3] w R :=
  calls_of_ev bodies mixed (c := bodyOf Tryd.f98) (nt := 19) (rs := [(ResultVar.tmp 7)]) (args := [a0, a1, a2, a3]) (fn := Tryd.f98) (by kernel_rfl) (by kernel_rfl) (by kernel_rfl) (by kernel_rfl) (by kernel_rfl) (by simp)
    (eq_mp (show F98 a0 a1 a2 a3 w R = ev P C (bodyOf Tryd.f98) (argE [a0, a1, a2, a3]) w (topK P [(ResultVar.tmp 7)] R) by kernel_rfl) h)

/-! ### slices.Insert[[]moiety/api.Item,moiety/api.Item] -/
def F99 (a0 : Value) (a1 : Value) (a2 : Value) (w : World) (R : Ending → World → Prop) : Prop :=
bindV (pSlice P 23 a0 (some a1) none none w) fun v12n1 w2 =>
bindV (pBuiltin P Builtin.len #[23] 3 [a2] w2) fun v14n3 w4 =>
bindV (pBin P BinOp.eql 3 true v14n3 (Value.int IntKind.i64 0) w4) fun v16n5 w6 =>
condE v16n5 (fun (K7 : KT) =>
K7 .ret (Env.put (Env.put (Env.put (Env.put (Env.put (Env.put (Env.put (Env.put (Env.put (Env.put (Env.put (argE [a0, a1, a2]) 6 (Value.slice none 0 0)) 10 a0) 11 a1) 12 v12n1) 13 a2) 14 v14n3) 7 v14n3) 15 v14n3) 16 v16n5) 17 a0) 6 a0) w6) (fun (K7 : KT) =>
K7 .normal (Env.put (Env.put (Env.put (Env.put (Env.put (Env.put (Env.put (Env.put (Env.put (argE [a0, a1, a2]) 6 (Value.slice none 0 0)) 10 a0) 11 a1) 12 v12n1) 13 a2) 14 v14n3) 7 v14n3) 15 v14n3) 16 v16n5) w6) (thenK (fun e8 w9 =>
bindV (pBuiltin P Builtin.len #[23] 3 [(e8 0)] w9) fun v19n10 w11 =>
bindV (pBin P BinOp.eql 3 false (e8 1) v19n10 w11) fun v22n12 w13 =>
condE v22n12 (fun (K14 : KT) =>
bindV (pBuiltin P Builtin.append #[23, 23] 23 [(e8 0), (e8 2)] w13) fun v25n15 w16 =>
K14 .ret (Env.put (Env.put (Env.put (Env.put (Env.put (Env.put (Env.put (Env.put (Env.put (Env.put e8 18 (e8 0)) 19 v19n10) 8 v19n10) 20 (e8 1)) 21 v19n10) 22 v22n12) 23 (e8 0)) 24 (e8 2)) 25 v25n15) 6 v25n15) w16) (fun (K14 : KT) =>
K14 .normal (Env.put (Env.put (Env.put (Env.put (Env.put (Env.put e8 18 (e8 0)) 19 v19n10) 8 v19n10) 20 (e8 1)) 21 v19n10) 22 v22n12) w13) (thenK (fun e17 w18 =>
bindV (pBin P BinOp.add 3 false (e17 8) (e17 7) w18) fun v28n19 w20 =>
bindV (pBuiltin P Builtin.cap #[23] 3 [(e17 0)] w20) fun v30n21 w22 =>
bindV (pBin P BinOp.gtr 3 false v28n19 v30n21 w22) fun v31n23 w24 =>
condE v31n23 (fun (K25 : KT) =>
bindV (pSlice P 23 (e17 0) none (some (e17 1)) none w24) fun v34n26 w27 =>
bindV (pBin P BinOp.add 3 false (e17 8) (e17 7) w27) fun v37n28 w29 =>
bindV (pBin P BinOp.sub 3 false v37n28 (e17 1) w29) fun v39n30 w31 =>
bindV (pBuiltin P Builtin.append #[23, 3] 23 [v34n26, v39n30] w31) fun v40n32 w33 =>
bindV (pSlice P 23 v40n32 (some (e17 1)) none none w33) fun v43n34 w35 =>
bindV (pBuiltin P Builtin.copy #[23, 23] 3 [v43n34, (e17 2)] w35) fun v45n36 w37 =>
takeE (fun w40 => some (v40n32, w40)) (drew w37) fun v46n38 h39 =>
takeE (fun w43 => some ((e17 1), w43)) (drew w37) fun v47n41 h42 =>
takeE (fun w46 => some ((e17 7), w46)) (drew w37) fun v48n44 h45 =>
takeE (fun w49 => pBin P BinOp.add 3 false v47n41 v48n44 w49) (drew w37) fun v49n47 h48 =>
takeE (fun w52 => pSlice P 23 v46n38 (some v49n47) none none w52) (drew w37) fun v50n50 h51 =>
takeE (fun w55 => some ((e17 0), w55)) (drew w37) fun v51n53 h54 =>
takeE (fun w58 => some ((e17 1), w58)) (drew w37) fun v52n56 h57 =>
takeE (fun w61 => pSlice P 23 v51n53 (some v52n56) none none w61) (drew w37) fun v53n59 h60 =>
bindV (pBuiltin P Builtin.copy #[23, 23] 3 [v50n50, v53n59] (drew w37)) fun v54n63 w64 =>
K25 .ret (Env.put (Env.put (Env.put (Env.put (Env.put (Env.put (Env.put (Env.put (Env.put (Env.put (Env.put (Env.put (Env.put (Env.put (Env.put (Env.put (Env.put (Env.put (Env.put (Env.put (Env.put (Env.put (Env.put (Env.put (Env.put (Env.put (Env.put (Env.put (Env.put (Env.put (Env.put (Env.put e17 26 (e17 8)) 27 (e17 7)) 28 v28n19) 29 (e17 0)) 30 v30n21) 31 v31n23) 32 (e17 0)) 33 (e17 1)) 34 v34n26) 35 (e17 8)) 36 (e17 7)) 37 v37n28) 38 (e17 1)) 39 v39n30) 40 v40n32) 9 v40n32) 41 v40n32) 42 (e17 1)) 43 v43n34) 44 (e17 2)) 45 v45n36) 46 v46n38) 47 v47n41) 48 v48n44) 49 v49n47) 50 v50n50) 51 v51n53) 52 v52n56) 53 v53n59) 54 v54n63) 55 v40n32) 6 v40n32) w64) (fun (K25 : KT) =>
K25 .normal (Env.put (Env.put (Env.put (Env.put (Env.put (Env.put e17 26 (e17 8)) 27 (e17 7)) 28 v28n19) 29 (e17 0)) 30 v30n21) 31 v31n23) w24) (thenK (fun e65 w66 =>
bindV (pBin P BinOp.add 3 false (e65 8) (e65 7) w66) fun v59n67 w68 =>
bindV (pSlice P 23 (e65 0) none (some v59n67) none w68) fun v60n69 w70 =>
bindV (pBin P BinOp.add 3 false (e65 1) (e65 7) w70) fun v65n71 w72 =>
bindV (pSlice P 23 v60n69 (some v65n71) none none w72) fun v66n73 w74 =>
bindV (pExtern P 102 [(e65 2), v66n73] w74) fun v67n75 w76 =>
bindV (pUn P UnOp.not v67n75 w76) fun v68n77 w78 =>
condE v68n77 (fun (K79 : KT) =>
takeE (fun w82 => some (v60n69, w82)) (drew w78) fun v69n80 h81 =>
takeE (fun w85 => some ((e65 1), w85)) (drew w78) fun v70n83 h84 =>
takeE (fun w88 => some ((e65 7), w88)) (drew w78) fun v71n86 h87 =>
takeE (fun w91 => pBin P BinOp.add 3 false v70n83 v71n86 w91) (drew w78) fun v72n89 h90 =>
takeE (fun w94 => pSlice P 23 v69n80 (some v72n89) none none w94) (drew w78) fun v73n92 h93 =>
takeE (fun w97 => some (v60n69, w97)) (drew w78) fun v74n95 h96 =>
takeE (fun w100 => some ((e65 1), w100)) (drew w78) fun v75n98 h99 =>
takeE (fun w103 => pSlice P 23 v74n95 (some v75n98) none none w103) (drew w78) fun v76n101 h102 =>
bindV (pBuiltin P Builtin.copy #[23, 23] 3 [v73n92, v76n101] (drew w78)) fun v77n105 w106 =>
bindV (pSlice P 23 v60n69 (some (e65 1)) none none w106) fun v80n107 w108 =>
bindV (pBuiltin P Builtin.copy #[23, 23] 3 [v80n107, (e65 2)] w108) fun v82n109 w110 =>
K79 .ret (Env.put (Env.put (Env.put (Env.put (Env.put (Env.put (Env.put (Env.put (Env.put (Env.put (Env.put (Env.put (Env.put (Env.put (Env.put (Env.put (Env.put (Env.put (Env.put (Env.put (Env.put (Env.put (Env.put (Env.put (Env.put (Env.put (Env.put (Env.put (Env.put (Env.put e65 56 (e65 0)) 57 (e65 8)) 58 (e65 7)) 59 v59n67) 60 v60n69) 0 v60n69) 61 (e65 2)) 62 v60n69) 63 (e65 1)) 64 (e65 7)) 65 v65n71) 66 v66n73) 67 v67n75) 68 v68n77) 69 v69n80) 70 v70n83) 71 v71n86) 72 v72n89) 73 v73n92) 74 v74n95) 75 v75n98) 76 v76n101) 77 v77n105) 78 v60n69) 79 (e65 1)) 80 v80n107) 81 (e65 2)) 82 v82n109) 83 v60n69) 6 v60n69) w110) (fun (K79 : KT) =>
K79 .normal (Env.put (Env.put (Env.put (Env.put (Env.put (Env.put (Env.put (Env.put (Env.put (Env.put (Env.put (Env.put (Env.put (Env.put e65 56 (e65 0)) 57 (e65 8)) 58 (e65 7)) 59 v59n67) 60 v60n69) 0 v60n69) 61 (e65 2)) 62 v60n69) 63 (e65 1)) 64 (e65 7)) 65 v65n71) 66 v66n73) 67 v67n75) 68 v68n77) w78) (thenK (fun e111 w112 =>
bindV (pSlice P 23 (e111 0) (some (e111 8)) none none w112) fun v86n113 w114 =>
bindV (pBuiltin P Builtin.copy #[23, 23] 3 [v86n113, (e111 2)] w114) fun v88n115 w116 =>
bindV (pSlice P 23 (e111 0) (some (e111 1)) none none w116) fun v91n117 w118 =>
callE P 103 #[v91n117, (e111 7)] w118 (fun v93n121 w122 =>
R (.returned (e111 0)) w122) (fun c119 w120 => R (.panicked c119) w120)) (topK P [(ResultVar.tmp 6)] R))) (topK P [(ResultVar.tmp 6)] R))) (topK P [(ResultVar.tmp 6)] R))) (topK P [(ResultVar.tmp 6)] R))
theorem F99ok {w : World} {R : Ending → World → Prop} {a0 : Value} {a1 : Value} {a2 : Value} (h : F99 a0 a1 a2 w R) : Calls P 99 #[a0, a1, a2] w R :=
  calls_of_ev bodies mixed (c := bodyOf Tryd.f99) (nt := 95) (rs := [(ResultVar.tmp 6)]) (args := [a0, a1, a2]) (fn := Tryd.f99) (by kernel_rfl) (by kernel_rfl) (by kernel_rfl) (by kernel_rfl) (by kernel_rfl) (by simp)
    (eq_mp (show F99 a0 a1 a2 w R = ev P C (bodyOf Tryd.f99) (argE [a0, a1, a2]) w (topK P [(ResultVar.tmp 6)] R) by kernel_rfl) h)

/-! ### slices.BinarySearchFunc[[]moiety/api.Item,moiety/api.Item,string] -/
def F100B0 (e : Env) (w : World) (K : KT) : Prop :=
bindV (pBin P BinOp.lss 3 false (e 9) (e 10) w) fun v17n3 w4 =>
condE v17n3 (fun (K5 : KT) =>
K5 .normal (Env.put (Env.put (Env.put e 15 (e 9)) 16 (e 10)) 17 v17n3) w4) (fun (K5 : KT) =>
K5 (.exit 0) (Env.put (Env.put (Env.put e 15 (e 9)) 16 (e 10)) 17 v17n3) w4) (thenK (fun e6 w7 =>
bindV (pBin P BinOp.add 3 false (e6 9) (e6 10) w7) fun v20n8 w9 =>
bindV (pConv P 3 130 v20n8 w9) fun v21n10 w11 =>
bindV (pBin P BinOp.shr 130 true v21n10 (Value.int IntKind.u64 1) w11) fun v22n12 w13 =>
bindV (pConv P 130 3 v22n12 w13) fun v23n14 w15 =>
bindV (pIndexAddr P 23 (e6 0) v23n14 w15) fun v27n16 w17 =>
bindV (pLoad P 80 v27n16 w17) fun v28n18 w19 =>
callVE P C (e6 2) [v28n18, (e6 1)] w19 (fun v30n22 w23 =>
bindV (pBin P BinOp.lss 3 true v30n22 (Value.int IntKind.i64 0) w23) fun v31n24 w25 =>
condE v31n24 (fun (K26 : KT) =>
bindV (pBin P BinOp.add 3 true v23n14 (Value.int IntKind.i64 1) w25) fun v33n27 w28 =>
K26 .normal (Env.put (Env.put (Env.put (Env.put (Env.put (Env.put (Env.put (Env.put (Env.put (Env.put (Env.put (Env.put (Env.put (Env.put (Env.put (Env.put (Env.put (Env.put e6 18 (e6 9)) 19 (e6 10)) 20 v20n8) 21 v21n10) 22 v22n12) 23 v23n14) 11 v23n14) 24 (e6 2)) 25 (e6 0)) 26 v23n14) 27 v27n16) 28 v28n18) 29 (e6 1)) 30 v30n22) 31 v31n24) 32 v23n14) 33 v33n27) 9 v33n27) w28) (fun (K26 : KT) =>
K26 .normal (Env.put (Env.put (Env.put (Env.put (Env.put (Env.put (Env.put (Env.put (Env.put (Env.put (Env.put (Env.put (Env.put (Env.put (Env.put (Env.put (Env.put e6 18 (e6 9)) 19 (e6 10)) 20 v20n8) 21 v21n10) 22 v22n12) 23 v23n14) 11 v23n14) 24 (e6 2)) 25 (e6 0)) 26 v23n14) 27 v27n16) 28 v28n18) 29 (e6 1)) 30 v30n22) 31 v31n24) 34 v23n14) 10 v23n14) w25) (blockK 1 K)) (fun c20 w21 => K (.panic c20) (Env.put (Env.put (Env.put (Env.put (Env.put (Env.put (Env.put (Env.put (Env.put (Env.put (Env.put (Env.put (Env.put e6 18 (e6 9)) 19 (e6 10)) 20 v20n8) 21 v21n10) 22 v22n12) 23 v23n14) 11 v23n14) 24 (e6 2)) 25 (e6 0)) 26 v23n14) 27 v27n16) 28 v28n18) 29 (e6 1)) w21)) K)
def F100 (a0 : Value) (a1 : Value) (a2 : Value) (w : World) (R : Ending → World → Prop) : Prop :=
bindV (pBuiltin P Builtin.len #[23] 3 [a0] w) fun v13n1 w2 =>
loopE F100B0 (Env.put (Env.put (Env.put (Env.put (Env.put (Env.put (Env.put (Env.put (argE [a0, a1, a2]) 6 (Value.int IntKind.i64 0)) 7 (Value.bool false)) 12 a0) 13 v13n1) 8 v13n1) 14 v13n1) 9 (Value.int IntKind.i64 0)) 10 v13n1) w2 (blockK 0 (thenK (fun e29 w30 =>
bindV (pBin P BinOp.lss 3 false (e29 9) (e29 8) w30) fun v38n31 w32 =>
grdE v38n31 true (fun (k33 : Value → World → Prop) => k33 (e29 2) w32) (fun v40n34 w35 =>
grdE v38n31 true (fun (k36 : Value → World → Prop) => k36 (e29 0) w35) (fun v41n37 w38 =>
grdE v38n31 true (fun (k39 : Value → World → Prop) => k39 (e29 9) w38) (fun v42n40 w41 =>
grdE v38n31 true (fun (k42 : Value → World → Prop) => bindV (pIndexAddr P 23 v41n37 v42n40 w41) k42) (fun v43n43 w44 =>
grdE v38n31 true (fun (k45 : Value → World → Prop) => bindV (pLoad P 80 v43n43 w44) k45) (fun v44n46 w47 =>
grdE v38n31 true (fun (k48 : Value → World → Prop) => k48 (e29 1) w47) (fun v45n49 w50 =>
grdE v38n31 true (fun (k51 : Value → World → Prop) => callVE P C v40n34 [v44n46, v45n49] w50 k51 (fun c52 w53 => R (.panicked c52) w53)) (fun v46n54 w55 =>
grdE v38n31 true (fun (k56 : Value → World → Prop) => bindV (pBin P BinOp.eql 3 true v46n54 (Value.int IntKind.i64 0) w55) k56) (fun v47n57 w58 =>
pickE v38n31 v47n57 (Value.bool false) fun v48n59 =>
R (.returned (.tuple #[(e29 9), v48n59])) w58) w55) w50) w47) w44) w41) w38) w35) w32) (topK P [(ResultVar.tmp 6), (ResultVar.tmp 7)] R)))
theorem F100ok {w : World} {R : Ending → World → Prop} {a0 : Value} {a1 : Value} {a2 : Value} (h : F100 a0 a1 a2 w R) : Calls P 100 #[a0, a1, a2] w R :=
  calls_of_ev bodies mixed (c := bodyOf Tryd.f100) (nt := 49) (rs := [(ResultVar.tmp 6), (ResultVar.tmp 7)]) (args := [a0, a1, a2]) (fn := Tryd.f100) (by kernel_rfl) (by kernel_rfl) (by kernel_rfl) (by kernel_rfl) (by kernel_rfl) (by simp)
    (eq_mp (show F100 a0 a1 a2 w R = ev P C (bodyOf Tryd.f100) (argE [a0, a1, a2]) w (topK P [(ResultVar.tmp 6), (ResultVar.tmp 7)] R) by kernel_rfl) h)

/-! ### moiety/rule.find$1 -/
def F101 (a0 : Value) (a1 : Value) (w : World) (R : Ending → World → Prop) : Prop :=
bindV (pBox P 80 a0 w) fun v2n1 w2 =>
bindV (pFieldAddr P 80 v2n1 1 w2) fun v6n3 w4 =>
bindV (pLoad P 9 v6n3 w4) fun v7n5 w6 =>
bindV (pBin P BinOp.lss 9 false v7n5 a1 w6) fun v9n7 w8 =>
condE v9n7 (fun (K9 : KT) =>
K9 .ret (Env.put (Env.put (Env.put (Env.put (Env.put (Env.put (Env.put (Env.put (argE [a0, a1]) 2 v2n1) 4 (Value.int IntKind.i64 0)) 6 v6n3) 7 v7n5) 8 a1) 9 v9n7) 5 v9n7) 4 (Value.int IntKind.i64 (-1))) w8) (fun (K9 : KT) =>
bindV (pFieldAddr P 80 v2n1 1 w8) fun v11n10 w11 =>
bindV (pLoad P 9 v11n10 w11) fun v12n12 w13 =>
bindV (pBin P BinOp.gtr 9 false v12n12 a1 w13) fun v14n14 w15 =>
condE v14n14 (fun (K16 : KT) =>
K16 .ret (Env.put (Env.put (Env.put (Env.put (Env.put (Env.put (Env.put (Env.put (Env.put (Env.put (Env.put (Env.put (Env.put (argE [a0, a1]) 2 v2n1) 4 (Value.int IntKind.i64 0)) 6 v6n3) 7 v7n5) 8 a1) 9 v9n7) 5 v9n7) 11 v11n10) 12 v12n12) 13 a1) 14 v14n14) 10 v14n14) 4 (Value.int IntKind.i64 1)) w15) (fun (K16 : KT) =>
K16 .normal (Env.put (Env.put (Env.put (Env.put (Env.put (Env.put (Env.put (Env.put (Env.put (Env.put (Env.put (Env.put (argE [a0, a1]) 2 v2n1) 4 (Value.int IntKind.i64 0)) 6 v6n3) 7 v7n5) 8 a1) 9 v9n7) 5 v9n7) 11 v11n10) 12 v12n12) 13 a1) 14 v14n14) 10 v14n14) w15) K9) (blockK 0 (thenK (fun e17 w18 =>
R (.returned (Value.int IntKind.i64 0)) w18) (topK P [(ResultVar.tmp 4)] R)))
theorem F101ok {w : World} {R : Ending → World → Prop} {a0 : Value} {a1 : Value} (h : F101 a0 a1 w R) : Calls P 101 #[a0, a1] w R :=
  calls_of_ev bodies mixed (c := bodyOf Tryd.f101) (nt := 15) (rs := [(ResultVar.tmp 4)]) (args := [a0, a1]) (fn := Tryd.f101) (by kernel_rfl) (by kernel_rfl) (by kernel_rfl) (by kernel_rfl) (by kernel_rfl) (by simp)
    (eq_mp (show F101 a0 a1 w R = ev P C (bodyOf Tryd.f101) (argE [a0, a1]) w (topK P [(ResultVar.tmp 4)] R) by kernel_rfl) h)

end Go.Proofs.YtieejbkbdfccdaaDoor
