/- The functions' residual programs, printed by gen.py. -/
import Derived.Test.YticncfkpfpkfoaaBase
namespace Go.Proofs.Yticncfkpfpkfoaa
open Go
/-! ### moiety/moietylaw17.DiskTorn -/
def F5 (a0 : Value) (a1 : Value) (a2 : Value) (w : World) (R : Ending → World → Prop) : Prop :=
bindV (pBox P 25 a0 w) fun v3n1 w2 =>
bindV (pBox P 25 a1 w2) fun v4n3 w4 =>
callE P 26 #[] w4 (fun v12n7 w8 =>
bindV (pUn P UnOp.not v12n7 w8) fun v13n9 w10 =>
condE v13n9 (fun (K11 : KT) =>
K11 .ret (Env.put (Env.put (Env.put (Env.put (Env.put (Env.put (argE [a0, a1, a2]) 3 v3n1) 4 v4n3) 6 (Value.bool false)) 12 v12n7) 13 v13n9) 6 (Value.bool false)) w10) (fun (K11 : KT) =>
K11 .normal (Env.put (Env.put (Env.put (Env.put (Env.put (argE [a0, a1, a2]) 3 v3n1) 4 v4n3) 6 (Value.bool false)) 12 v12n7) 13 v13n9) w10) (thenK (fun e12 w13 =>
callE P 27 #[(Value.int IntKind.i64 1)] w13 (fun v15n16 w17 =>
bindV (pExtract P v15n16 0 w17) fun v16n18 w19 =>
bindV (pExtract P v15n16 1 w19) fun v17n20 w21 =>
bindV (pLoad P 25 (e12 3) w21) fun v19n22 w23 =>
callE P 28 #[v16n18, (Value.int IntKind.i64 0), v19n22] w23 (fun v20n26 w27 =>
callE P 29 #[v16n18] w27 (fun v22n30 w31 =>
bindV (pLoad P 25 (e12 4) w31) fun v24n32 w33 =>
callE P 28 #[v16n18, (Value.int IntKind.i64 0), v24n32] w33 (fun v25n36 w37 =>
bindV (pBuildSlice P 43 1 [(0, (e12 2))] w37) fun v28n38 w39 =>
callE P 30 #[v16n18, v28n38] w39 (fun v29n42 w43 =>
callE P 31 #[v16n18, (Value.int IntKind.i64 0)] w43 (fun v32n46 w47 =>
bindV (pExtract P v32n46 0 w47) fun v33n48 w49 =>
bindV (pExtract P v32n46 1 w49) fun v34n50 w51 =>
bindV (pAlloc P 25 w51) fun v9n52 w53 =>
bindU (pStore P 25 v9n52 v33n48 w53) fun w54 =>
bindV (pBuiltin P Builtin.max #[3, 3] 3 [(e12 2), (Value.int IntKind.i64 0)] w54) fun v36n55 w56 =>
bindV (pBuiltin P Builtin.min #[3, 3] 3 [v36n55, (Value.int IntKind.i64 64)] w56) fun v37n57 w58 =>
takeE (fun w61 => some (v34n50, w61)) (drew w58) fun v38n59 h60 =>
takeE (fun w64 => pBin P BinOp.eql 26 true v38n59 (Value.int IntKind.i64 0) w64) (drew w58) fun v39n62 h63 =>
takeE (fun w67 => some (v39n62, w67)) (drew w58) fun v40n65 h66 =>
takeE (fun w70 => qGrd v40n65 true (fun w70 => some (v37n57, w70)) w70) (drew w58) fun v41n68 h69 =>
takeE (fun w73 => qGrd v40n65 true (fun w73 => pSlice P 25 v9n52 none (some v41n68) none w73) w73) (drew w58) fun v42n71 h72 =>
takeE (fun w76 => qGrd v40n65 true (fun w76 => pConv P 22 9 v42n71 w76) w76) (drew w58) fun v43n74 h75 =>
takeE (fun w79 => qGrd v40n65 true (fun w79 => some (v37n57, w79)) w79) (drew w58) fun v44n77 h78 =>
takeE (fun w82 => qGrd v40n65 true (fun w82 => pSlice P 25 (e12 4) none (some v44n77) none w82) w82) (drew w58) fun v45n80 h81 =>
takeE (fun w85 => qGrd v40n65 true (fun w85 => pConv P 22 9 v45n80 w85) w85) (drew w58) fun v46n83 h84 =>
takeE (fun w88 => qGrd v40n65 true (fun w88 => pBin P BinOp.eql 9 false v43n74 v46n83 w88) w88) (drew w58) fun v47n86 h87 =>
takeE (fun w91 => qPick v40n65 v47n86 (Value.bool false) w91) (drew w58) fun v48n89 h90 =>
takeE (fun w94 => some (v48n89, w94)) (drew w58) fun v49n92 h93 =>
takeE (fun w97 => qGrd v49n92 true (fun w97 => some (v37n57, w97)) w97) (drew w58) fun v50n95 h96 =>
takeE (fun w100 => qGrd v49n92 true (fun w100 => pSlice P 25 v9n52 (some v50n95) none none w100) w100) (drew w58) fun v51n98 h99 =>
takeE (fun w103 => qGrd v49n92 true (fun w103 => pConv P 22 9 v51n98 w103) w103) (drew w58) fun v52n101 h102 =>
takeE (fun w106 => qGrd v49n92 true (fun w106 => some (v37n57, w106)) w106) (drew w58) fun v53n104 h105 =>
takeE (fun w109 => qGrd v49n92 true (fun w109 => pSlice P 25 (e12 3) (some v53n104) none none w109) w109) (drew w58) fun v54n107 h108 =>
takeE (fun w112 => qGrd v49n92 true (fun w112 => pConv P 22 9 v54n107 w112) w112) (drew w58) fun v55n110 h111 =>
takeE (fun w115 => qGrd v49n92 true (fun w115 => pBin P BinOp.eql 9 false v52n101 v55n110 w115) w115) (drew w58) fun v56n113 h114 =>
takeE (fun w118 => qPick v49n92 v56n113 (Value.bool false) w118) (drew w58) fun v57n116 h117 =>
takeE (fun w121 => some (v57n116, w121)) (drew w58) fun v58n119 h120 =>
takeE (fun w124 => qGrd v58n119 true (fun w124 => some (v16n18, w124)) w124) (drew w58) fun v59n122 h123 =>
grdE v58n119 true (fun (k126 : Value → World → Prop) => callE P 29 #[v59n122] (drew w58) k126 (fun c127 w128 => ∀ (e125 : Env), agreeOff [38, 39, 40, 41, 42, 43, 44, 45, 46, 47, 48, 49, 50, 51, 52, 53, 54, 55, 56, 57, 58, 59] (Env.put (Env.put (Env.put (Env.put (Env.put (Env.put (Env.put (Env.put (Env.put (Env.put (Env.put (Env.put (Env.put (Env.put (Env.put (Env.put (Env.put (Env.put (Env.put (Env.put (Env.put (Env.put (Env.put (Env.put (Env.put (Env.put (Env.put (Env.put (Env.put (Env.put (Env.put (Env.put (Env.put (Env.put (Env.put (Env.put (Env.put (Env.put (Env.put (Env.put (Env.put (Env.put (Env.put (Env.put (Env.put (Env.put (Env.put (Env.put (Env.put (Env.put (Env.put e12 15 v15n16) 14 v15n16) 16 v16n18) 17 v17n20) 7 v16n18) 8 v17n20) 18 v16n18) 19 v19n22) 20 v20n26) 21 v16n18) 22 v22n30) 23 v16n18) 24 v24n32) 25 v25n36) 26 v16n18) 27 (e12 2)) 28 v28n38) 29 v29n42) 31 v16n18) 32 v32n46) 30 v32n46) 33 v33n48) 34 v34n50) 9 v9n52) 10 v34n50) 35 (e12 2)) 36 v36n55) 37 v37n57) 11 v37n57) 38 v38n59) 39 v39n62) 40 v40n65) 41 v41n68) 42 v42n71) 43 v43n74) 44 v44n77) 45 v45n80) 46 v46n83) 47 v47n86) 48 v48n89) 49 v49n92) 50 v50n95) 51 v51n98) 52 v52n101) 53 v53n104) 54 v54n107) 55 v55n110) 56 v56n113) 57 v57n116) 58 v58n119) 59 v59n122) e125 → R (.panicked c127) w128)) (fun v60n129 w130 =>
takeE (fun w133 => qGrd v58n119 true (fun w133 => pBin P BinOp.eql 26 true v60n129 (Value.int IntKind.i64 0) w133) w133) w130 fun v61n131 h132 =>
takeE (fun w136 => qPick v58n119 v61n131 (Value.bool false) w136) w130 fun v62n134 h135 =>
R (.returned v62n134) w130) (drew w58)) (fun c44 w45 => R (.panicked c44) w45)) (fun c40 w41 => R (.panicked c40) w41)) (fun c34 w35 => R (.panicked c34) w35)) (fun c28 w29 => R (.panicked c28) w29)) (fun c24 w25 => R (.panicked c24) w25)) (fun c14 w15 => R (.panicked c14) w15)) (topK P [(ResultVar.tmp 6)] R))) (fun c5 w6 => R (.panicked c5) w6)
theorem F5ok {w : World} {R : Ending → World → Prop} {a0 : Value} {a1 : Value} {a2 : Value} (h : F5 a0 a1 a2 w R) : Calls P 5 #[a0, a1, a2] w R :=
  calls_of_ev bodies mixed (c := bodyOf Try.f5) (nt := 63) (rs := [(ResultVar.tmp 6)]) (args := [a0, a1, a2]) (fn := Try.f5) (by kernel_rfl) (by kernel_rfl) (by kernel_rfl) (by kernel_rfl) (by kernel_rfl) (by simp)
    (eq_mp (show F5 a0 a1 a2 w R = ev P C (bodyOf Try.f5) (argE [a0, a1, a2]) w (topK P [(ResultVar.tmp 6)] R) by kernel_rfl) h)

/-! ### moiety/moietylaw17.speaks -/
def F26 (w : World) (R : Ending → World → Prop) : Prop :=
callE P 27 #[(Value.int IntKind.i64 2)] w (fun v7n3 w4 =>
bindV (pExtract P v7n3 0 w4) fun v8n5 w6 =>
bindV (pExtract P v7n3 1 w6) fun v9n7 w8 =>
bindV (pBin P BinOp.neq 26 true v9n7 (Value.int IntKind.i64 0) w8) fun v11n9 w10 =>
grdE v11n9 false (fun (k11 : Value → World → Prop) => k11 v8n5 w10) (fun v13n12 w13 =>
grdE v11n9 false (fun (k14 : Value → World → Prop) => bindV (pBin P BinOp.eql 34 true v13n12 (Value.pointer none) w13) k14) (fun v14n15 w16 =>
pickE v11n9 (Value.bool true) v14n15 fun v15n17 =>
condE v15n17 (fun (K18 : KT) =>
K18 .ret (Env.put (Env.put (Env.put (Env.put (Env.put (Env.put (Env.put (Env.put (Env.put (Env.put (Env.put (Env.put (Env.put (Env.put (argE []) 0 (Value.bool false)) 7 v7n3) 6 v7n3) 8 v8n5) 9 v9n7) 1 v8n5) 2 v9n7) 10 v9n7) 11 v11n9) 12 v11n9) 13 v13n12) 14 v14n15) 15 v15n17) 0 (Value.bool false)) w16) (fun (K18 : KT) =>
K18 .normal (Env.put (Env.put (Env.put (Env.put (Env.put (Env.put (Env.put (Env.put (Env.put (Env.put (Env.put (Env.put (Env.put (argE []) 0 (Value.bool false)) 7 v7n3) 6 v7n3) 8 v8n5) 9 v9n7) 1 v8n5) 2 v9n7) 10 v9n7) 11 v11n9) 12 v11n9) 13 v13n12) 14 v14n15) 15 v15n17) w16) (thenK (fun e19 w20 =>
bindV (pBuild P 25 [(0, (Value.int IntKind.u8 1)), (1, (Value.int IntKind.u8 1)), (2, (Value.int IntKind.u8 1)), (3, (Value.int IntKind.u8 1))] w20) fun v17n21 w22 =>
callE P 28 #[(e19 1), (Value.int IntKind.i64 1), v17n21] w22 (fun v18n25 w26 =>
callE P 40 #[(e19 1)] w26 (fun v20n29 w30 =>
bindV (pBuildSlice P 43 1 [(0, (Value.int IntKind.i64 3))] w30) fun v22n31 w32 =>
callE P 30 #[(e19 1), v22n31] w32 (fun v23n35 w36 =>
callE P 31 #[(e19 1), (Value.int IntKind.i64 1)] w36 (fun v26n39 w40 =>
bindV (pExtract P v26n39 0 w40) fun v27n41 w42 =>
bindV (pExtract P v26n39 1 w42) fun v28n43 w44 =>
bindV (pAlloc P 25 w44) fun v4n45 w46 =>
bindU (pStore P 25 v4n45 v27n41 w46) fun w47 =>
bindV (pBin P BinOp.eql 26 true v28n43 (Value.int IntKind.i64 0) w47) fun v30n48 w49 =>
grdE v30n48 true (fun (k50 : Value → World → Prop) => bindV (pLoad P 25 v4n45 w49) k50) (fun v32n51 w52 =>
grdE v30n48 true (fun (k53 : Value → World → Prop) => bindV (pBuild P 25 [(0, (Value.int IntKind.u8 1)), (1, (Value.int IntKind.u8 1)), (2, (Value.int IntKind.u8 1))] w52) k53) (fun v33n54 w55 =>
grdE v30n48 true (fun (k56 : Value → World → Prop) => bindV (pBin P BinOp.eql 25 false v32n51 v33n54 w55) k56) (fun v34n57 w58 =>
pickE v30n48 v34n57 (Value.bool false) fun v35n59 =>
grdE v35n59 true (fun (k60 : Value → World → Prop) => k60 v20n29 w58) (fun v37n61 w62 =>
grdE v35n59 true (fun (k63 : Value → World → Prop) => bindV (pBin P BinOp.neq 34 true v37n61 (Value.pointer none) w62) k63) (fun v38n64 w65 =>
pickE v35n59 v38n64 (Value.bool false) fun v39n66 =>
grdE v39n66 true (fun (k67 : Value → World → Prop) => k67 v20n29 w65) (fun v41n68 w69 =>
grdE v39n66 true (fun (k70 : Value → World → Prop) => callE P 35 #[v41n68] w69 k70 (fun c71 w72 => R (.panicked c71) w72)) (fun v42n73 w74 =>
grdE v39n66 true (fun (k75 : Value → World → Prop) => bindV (pBin P BinOp.eql 3 true v42n73 (Value.int IntKind.i64 1) w74) k75) (fun v43n76 w77 =>
pickE v39n66 v43n76 (Value.bool false) fun v44n78 =>
grdE v44n78 true (fun (k79 : Value → World → Prop) => k79 (e19 1) w77) (fun v46n80 w81 =>
grdE v44n78 true (fun (k82 : Value → World → Prop) => callE P 35 #[v46n80] w81 k82 (fun c83 w84 => R (.panicked c83) w84)) (fun v47n85 w86 =>
grdE v44n78 true (fun (k87 : Value → World → Prop) => bindV (pBin P BinOp.eql 3 true v47n85 (Value.int IntKind.i64 0) w86) k87) (fun v48n88 w89 =>
pickE v44n78 v48n88 (Value.bool false) fun v49n90 =>
grdE v49n90 true (fun (k91 : Value → World → Prop) => k91 (e19 1) w89) (fun v51n92 w93 =>
grdE v49n90 true (fun (k94 : Value → World → Prop) => callE P 43 #[v51n92] w93 k94 (fun c95 w96 => R (.panicked c95) w96)) (fun v52n97 w98 =>
grdE v49n90 true (fun (k99 : Value → World → Prop) => bindV (pBin P BinOp.eql 3 true v52n97 (Value.int IntKind.i64 1) w98) k99) (fun v53n100 w101 =>
pickE v49n90 v53n100 (Value.bool false) fun v54n102 =>
grdE v54n102 true (fun (k103 : Value → World → Prop) => k103 (e19 1) w101) (fun v56n104 w105 =>
grdE v54n102 true (fun (k106 : Value → World → Prop) => callE P 36 #[v56n104] w105 k106 (fun c107 w108 => R (.panicked c107) w108)) (fun v57n109 w110 =>
grdE v54n102 true (fun (k111 : Value → World → Prop) => bindV (pBin P BinOp.eql 3 true v57n109 (Value.int IntKind.i64 2) w110) k111) (fun v58n112 w113 =>
pickE v54n102 v58n112 (Value.bool false) fun v59n114 =>
R (.returned v59n114) w113) w110) w105) w101) w98) w93) w89) w86) w81) w77) w74) w69) w65) w62) w58) w55) w52) w49) (fun c37 w38 => R (.panicked c37) w38)) (fun c33 w34 => R (.panicked c33) w34)) (fun c27 w28 => R (.panicked c27) w28)) (fun c23 w24 => R (.panicked c23) w24)) (topK P [(ResultVar.tmp 0)] R))) w13) w10) (fun c1 w2 => R (.panicked c1) w2)
theorem F26ok {w : World} {R : Ending → World → Prop} (h : F26  w R) : Calls P 26 #[] w R :=
  calls_of_ev bodies mixed (c := bodyOf Try.f26) (nt := 60) (rs := [(ResultVar.tmp 0)]) (args := []) (fn := Try.f26) (by kernel_rfl) (by kernel_rfl) (by kernel_rfl) (by kernel_rfl) (by kernel_rfl) (by simp)
    (eq_mp (show F26  w R = ev P C (bodyOf Try.f26) (argE []) w (topK P [(ResultVar.tmp 0)] R) by kernel_rfl) h)

end Go.Proofs.Yticncfkpfpkfoaa
