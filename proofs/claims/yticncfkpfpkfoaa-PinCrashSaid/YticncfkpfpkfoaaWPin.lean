/- The functions' residual programs, printed by gen.py. -/
import Derived.Test.YticncfkpfpkfoaaBaseD
namespace Go.Proofs.Yticncfkpfpkfoaa
open Go
/-! ### moiety/moietylaw22.speaks -/
def F57 (w : World) (R : Ending → World → Prop) : Prop :=
callE P 27 #[(Value.int IntKind.i64 2)] w (fun v11n3 w4 =>
bindV (pExtract P v11n3 0 w4) fun v12n5 w6 =>
bindV (pExtract P v11n3 1 w6) fun v13n7 w8 =>
callE P 60 #[v12n5] w8 (fun v16n11 w12 =>
bindV (pExtract P v16n11 0 w12) fun v17n13 w14 =>
bindV (pExtract P v16n11 1 w14) fun v18n15 w16 =>
bindV (pAlloc P 87 w16) fun v3n17 w18 =>
bindU (pStore P 87 v3n17 v17n13 w18) fun w19 =>
bindV (pBuild P 87 [(0, (Value.int IntKind.i64 4)), (1, (Value.int IntKind.i64 2)), (2, (Value.int IntKind.i64 1)), (3, (Value.int IntKind.i64 3)), (5, (Value.int IntKind.i64 9))] w19) fun v19n20 w21 =>
bindV (pAlloc P 87 w21) fun v5n22 w23 =>
bindU (pStore P 87 v5n22 v19n20 w23) fun w24 =>
bindV (pLoad P 87 v5n22 w24) fun v21n25 w26 =>
callE P 59 #[v12n5, v21n25] w26 (fun v22n29 w30 =>
bindV (pFieldAddr P 87 v5n22 0 w30) fun v23n31 w32 =>
bindV (pLoad P 3 v23n31 w32) fun v24n33 w34 =>
bindV (pBin P BinOp.add 3 true v24n33 (Value.int IntKind.i64 1) w34) fun v25n35 w36 =>
bindV (pFieldAddr P 87 v5n22 0 w36) fun v26n37 w38 =>
bindU (pStore P 3 v26n37 v25n35 w38) fun w39 =>
bindV (pLoad P 87 v5n22 w39) fun v28n40 w41 =>
callE P 59 #[v12n5, v28n40] w41 (fun v29n44 w45 =>
callE P 60 #[v12n5] w45 (fun v32n48 w49 =>
bindV (pExtract P v32n48 0 w49) fun v33n50 w51 =>
bindV (pExtract P v32n48 1 w51) fun v34n52 w53 =>
bindV (pAlloc P 87 w53) fun v8n54 w55 =>
bindU (pStore P 87 v8n54 v33n50 w55) fun w56 =>
bindV (pBin P BinOp.eql 26 true v18n15 (Value.int IntKind.i64 6) w56) fun v36n57 w58 =>
grdE v36n57 true (fun (k59 : Value → World → Prop) => k59 v22n29 w58) (fun v38n60 w61 =>
grdE v36n57 true (fun (k62 : Value → World → Prop) => bindV (pBin P BinOp.eql 26 true v38n60 (Value.int IntKind.i64 0) w61) k62) (fun v39n63 w64 =>
pickE v36n57 v39n63 (Value.bool false) fun v40n65 =>
grdE v40n65 true (fun (k66 : Value → World → Prop) => k66 v29n44 w64) (fun v42n67 w68 =>
grdE v40n65 true (fun (k69 : Value → World → Prop) => bindV (pBin P BinOp.eql 26 true v42n67 (Value.int IntKind.i64 0) w68) k69) (fun v43n70 w71 =>
pickE v40n65 v43n70 (Value.bool false) fun v44n72 =>
grdE v44n72 true (fun (k73 : Value → World → Prop) => k73 v34n52 w71) (fun v46n74 w75 =>
grdE v44n72 true (fun (k76 : Value → World → Prop) => bindV (pBin P BinOp.eql 26 true v46n74 (Value.int IntKind.i64 0) w75) k76) (fun v47n77 w78 =>
pickE v44n72 v47n77 (Value.bool false) fun v48n79 =>
grdE v48n79 true (fun (k80 : Value → World → Prop) => bindV (pLoad P 87 v8n54 w78) k80) (fun v50n81 w82 =>
grdE v48n79 true (fun (k83 : Value → World → Prop) => bindV (pLoad P 87 v5n22 w82) k83) (fun v51n84 w85 =>
grdE v48n79 true (fun (k86 : Value → World → Prop) => bindV (pBin P BinOp.eql 87 false v50n81 v51n84 w85) k86) (fun v52n87 w88 =>
pickE v48n79 v52n87 (Value.bool false) fun v53n89 =>
grdE v53n89 true (fun (k90 : Value → World → Prop) => bindV (pLoad P 87 v5n22 w88) k90) (fun v55n91 w92 =>
grdE v53n89 true (fun (k93 : Value → World → Prop) => callE P 58 #[v55n91] w92 k93 (fun c94 w95 => R (.panicked c94) w95)) (fun v56n96 w97 =>
grdE v53n89 true (fun (k98 : Value → World → Prop) => bindV (pBin P BinOp.eql 26 true v56n96 (Value.int IntKind.i64 0) w97) k98) (fun v57n99 w100 =>
pickE v53n89 v57n99 (Value.bool false) fun v58n101 =>
grdE v58n101 true (fun (k102 : Value → World → Prop) => bindV (pBuild P 87 [] w100) k102) (fun v60n103 w104 =>
grdE v58n101 true (fun (k105 : Value → World → Prop) => callE P 58 #[v60n103] w104 k105 (fun c106 w107 => R (.panicked c106) w107)) (fun v61n108 w109 =>
grdE v58n101 true (fun (k110 : Value → World → Prop) => bindV (pBin P BinOp.eql 26 true v61n108 (Value.int IntKind.i64 1) w109) k110) (fun v62n111 w112 =>
pickE v58n101 v62n111 (Value.bool false) fun v63n113 =>
R (.returned v63n113) w112) w109) w104) w100) w97) w92) w88) w85) w82) w78) w75) w71) w68) w64) w61) w58) (fun c46 w47 => R (.panicked c46) w47)) (fun c42 w43 => R (.panicked c42) w43)) (fun c27 w28 => R (.panicked c27) w28)) (fun c9 w10 => R (.panicked c9) w10)) (fun c1 w2 => R (.panicked c1) w2)
theorem F57ok {w : World} {R : Ending → World → Prop} (h : F57  w R) : Calls P 57 #[] w R :=
  calls_of_ev bodies mixed (c := bodyOf Try.f57) (nt := 64) (rs := [(ResultVar.tmp 0)]) (args := []) (fn := Try.f57) (by kernel_rfl) (by kernel_rfl) (by kernel_rfl) (by kernel_rfl) (by kernel_rfl) (by simp)
    (eq_mp (show F57  w R = ev P C (bodyOf Try.f57) (argE []) w (topK P [(ResultVar.tmp 0)] R) by kernel_rfl) h)

/-! ### moiety/pin.Check -/
def F58 (a0 : Value) (w : World) (R : Ending → World → Prop) : Prop :=
bindV (pBox P 87 a0 w) fun v1n1 w2 =>
bindV (pFieldAddr P 87 v1n1 0 w2) fun v3n3 w4 =>
bindV (pLoad P 3 v3n3 w4) fun v4n5 w6 =>
bindV (pBin P BinOp.lss 3 true v4n5 (Value.int IntKind.i64 1) w6) fun v5n7 w8 =>
grdE v5n7 false (fun (k9 : Value → World → Prop) => bindV (pFieldAddr P 87 v1n1 0 w8) k9) (fun v7n10 w11 =>
grdE v5n7 false (fun (k12 : Value → World → Prop) => bindV (pLoad P 3 v7n10 w11) k12) (fun v8n13 w14 =>
grdE v5n7 false (fun (k15 : Value → World → Prop) => bindV (pBin P BinOp.gtr 3 true v8n13 (Value.int IntKind.i64 1099511627776) w14) k15) (fun v9n16 w17 =>
pickE v5n7 (Value.bool true) v9n16 fun v10n18 =>
grdE v10n18 false (fun (k19 : Value → World → Prop) => bindV (pFieldAddr P 87 v1n1 1 w17) k19) (fun v12n20 w21 =>
grdE v10n18 false (fun (k22 : Value → World → Prop) => bindV (pLoad P 3 v12n20 w21) k22) (fun v13n23 w24 =>
grdE v10n18 false (fun (k25 : Value → World → Prop) => bindV (pBin P BinOp.lss 3 true v13n23 (Value.int IntKind.i64 0) w24) k25) (fun v14n26 w27 =>
pickE v10n18 (Value.bool true) v14n26 fun v15n28 =>
grdE v15n28 false (fun (k29 : Value → World → Prop) => bindV (pFieldAddr P 87 v1n1 1 w27) k29) (fun v17n30 w31 =>
grdE v15n28 false (fun (k32 : Value → World → Prop) => bindV (pLoad P 3 v17n30 w31) k32) (fun v18n33 w34 =>
grdE v15n28 false (fun (k35 : Value → World → Prop) => bindV (pBin P BinOp.gtr 3 true v18n33 (Value.int IntKind.i64 1099511627776) w34) k35) (fun v19n36 w37 =>
pickE v15n28 (Value.bool true) v19n36 fun v20n38 =>
grdE v20n38 false (fun (k39 : Value → World → Prop) => bindV (pFieldAddr P 87 v1n1 2 w37) k39) (fun v22n40 w41 =>
grdE v20n38 false (fun (k42 : Value → World → Prop) => bindV (pLoad P 3 v22n40 w41) k42) (fun v23n43 w44 =>
grdE v20n38 false (fun (k45 : Value → World → Prop) => bindV (pBin P BinOp.lss 3 true v23n43 (Value.int IntKind.i64 0) w44) k45) (fun v24n46 w47 =>
pickE v20n38 (Value.bool true) v24n46 fun v25n48 =>
grdE v25n48 false (fun (k49 : Value → World → Prop) => bindV (pFieldAddr P 87 v1n1 2 w47) k49) (fun v27n50 w51 =>
grdE v25n48 false (fun (k52 : Value → World → Prop) => bindV (pLoad P 3 v27n50 w51) k52) (fun v28n53 w54 =>
grdE v25n48 false (fun (k55 : Value → World → Prop) => bindV (pBin P BinOp.gtr 3 true v28n53 (Value.int IntKind.i64 1) w54) k55) (fun v29n56 w57 =>
pickE v25n48 (Value.bool true) v29n56 fun v30n58 =>
grdE v30n58 false (fun (k59 : Value → World → Prop) => bindV (pFieldAddr P 87 v1n1 4 w57) k59) (fun v32n60 w61 =>
grdE v30n58 false (fun (k62 : Value → World → Prop) => bindV (pLoad P 3 v32n60 w61) k62) (fun v33n63 w64 =>
grdE v30n58 false (fun (k65 : Value → World → Prop) => bindV (pBin P BinOp.lss 3 true v33n63 (Value.int IntKind.i64 0) w64) k65) (fun v34n66 w67 =>
pickE v30n58 (Value.bool true) v34n66 fun v35n68 =>
grdE v35n68 false (fun (k69 : Value → World → Prop) => bindV (pFieldAddr P 87 v1n1 4 w67) k69) (fun v37n70 w71 =>
grdE v35n68 false (fun (k72 : Value → World → Prop) => bindV (pLoad P 3 v37n70 w71) k72) (fun v38n73 w74 =>
grdE v35n68 false (fun (k75 : Value → World → Prop) => bindV (pBin P BinOp.gtr 3 true v38n73 (Value.int IntKind.i64 1) w74) k75) (fun v39n76 w77 =>
pickE v35n68 (Value.bool true) v39n76 fun v40n78 =>
grdE v40n78 false (fun (k79 : Value → World → Prop) => bindV (pFieldAddr P 87 v1n1 5 w77) k79) (fun v42n80 w81 =>
grdE v40n78 false (fun (k82 : Value → World → Prop) => bindV (pLoad P 3 v42n80 w81) k82) (fun v43n83 w84 =>
grdE v40n78 false (fun (k85 : Value → World → Prop) => bindV (pBin P BinOp.lss 3 true v43n83 (Value.int IntKind.i64 1) w84) k85) (fun v44n86 w87 =>
pickE v40n78 (Value.bool true) v44n86 fun v45n88 =>
grdE v45n88 false (fun (k89 : Value → World → Prop) => bindV (pFieldAddr P 87 v1n1 5 w87) k89) (fun v47n90 w91 =>
grdE v45n88 false (fun (k92 : Value → World → Prop) => bindV (pLoad P 3 v47n90 w91) k92) (fun v48n93 w94 =>
grdE v45n88 false (fun (k95 : Value → World → Prop) => bindV (pBin P BinOp.gtr 3 true v48n93 (Value.int IntKind.i64 4096) w94) k95) (fun v49n96 w97 =>
pickE v45n88 (Value.bool true) v49n96 fun v50n98 =>
grdE v50n98 false (fun (k99 : Value → World → Prop) => bindV (pFieldAddr P 87 v1n1 3 w97) k99) (fun v52n100 w101 =>
grdE v50n98 false (fun (k102 : Value → World → Prop) => bindV (pLoad P 3 v52n100 w101) k102) (fun v53n103 w104 =>
grdE v50n98 false (fun (k105 : Value → World → Prop) => bindV (pBin P BinOp.lss 3 true v53n103 (Value.int IntKind.i64 0) w104) k105) (fun v54n106 w107 =>
pickE v50n98 (Value.bool true) v54n106 fun v55n108 =>
grdE v55n108 false (fun (k109 : Value → World → Prop) => bindV (pFieldAddr P 87 v1n1 3 w107) k109) (fun v57n110 w111 =>
grdE v55n108 false (fun (k112 : Value → World → Prop) => bindV (pLoad P 3 v57n110 w111) k112) (fun v58n113 w114 =>
grdE v55n108 false (fun (k115 : Value → World → Prop) => bindV (pFieldAddr P 87 v1n1 5 w114) k115) (fun v59n116 w117 =>
grdE v55n108 false (fun (k118 : Value → World → Prop) => bindV (pLoad P 3 v59n116 w117) k118) (fun v60n119 w120 =>
grdE v55n108 false (fun (k121 : Value → World → Prop) => bindV (pBin P BinOp.gtr 3 false v58n113 v60n119 w120) k121) (fun v61n122 w123 =>
pickE v55n108 (Value.bool true) v61n122 fun v62n124 =>
condE v62n124 (fun (K125 : KT) =>
K125 .ret (Env.put (Env.put (Env.put (Env.put (Env.put (Env.put (Env.put (Env.put (Env.put (Env.put (Env.put (Env.put (Env.put (Env.put (Env.put (Env.put (Env.put (Env.put (Env.put (Env.put (Env.put (Env.put (Env.put (Env.put (Env.put (Env.put (Env.put (Env.put (Env.put (Env.put (Env.put (Env.put (Env.put (Env.put (Env.put (Env.put (Env.put (Env.put (Env.put (Env.put (Env.put (Env.put (Env.put (Env.put (Env.put (Env.put (Env.put (Env.put (Env.put (Env.put (Env.put (Env.put (Env.put (Env.put (Env.put (Env.put (Env.put (Env.put (Env.put (Env.put (Env.put (Env.put (Env.put (argE [a0]) 1 v1n1) 2 (Value.int IntKind.i64 0)) 3 v3n3) 4 v4n5) 5 v5n7) 6 v5n7) 7 v7n10) 8 v8n13) 9 v9n16) 10 v10n18) 11 v10n18) 12 v12n20) 13 v13n23) 14 v14n26) 15 v15n28) 16 v15n28) 17 v17n30) 18 v18n33) 19 v19n36) 20 v20n38) 21 v20n38) 22 v22n40) 23 v23n43) 24 v24n46) 25 v25n48) 26 v25n48) 27 v27n50) 28 v28n53) 29 v29n56) 30 v30n58) 31 v30n58) 32 v32n60) 33 v33n63) 34 v34n66) 35 v35n68) 36 v35n68) 37 v37n70) 38 v38n73) 39 v39n76) 40 v40n78) 41 v40n78) 42 v42n80) 43 v43n83) 44 v44n86) 45 v45n88) 46 v45n88) 47 v47n90) 48 v48n93) 49 v49n96) 50 v50n98) 51 v50n98) 52 v52n100) 53 v53n103) 54 v54n106) 55 v55n108) 56 v55n108) 57 v57n110) 58 v58n113) 59 v59n116) 60 v60n119) 61 v61n122) 62 v62n124) 2 (Value.int IntKind.i64 1)) w123) (fun (K125 : KT) =>
K125 .normal (Env.put (Env.put (Env.put (Env.put (Env.put (Env.put (Env.put (Env.put (Env.put (Env.put (Env.put (Env.put (Env.put (Env.put (Env.put (Env.put (Env.put (Env.put (Env.put (Env.put (Env.put (Env.put (Env.put (Env.put (Env.put (Env.put (Env.put (Env.put (Env.put (Env.put (Env.put (Env.put (Env.put (Env.put (Env.put (Env.put (Env.put (Env.put (Env.put (Env.put (Env.put (Env.put (Env.put (Env.put (Env.put (Env.put (Env.put (Env.put (Env.put (Env.put (Env.put (Env.put (Env.put (Env.put (Env.put (Env.put (Env.put (Env.put (Env.put (Env.put (Env.put (Env.put (argE [a0]) 1 v1n1) 2 (Value.int IntKind.i64 0)) 3 v3n3) 4 v4n5) 5 v5n7) 6 v5n7) 7 v7n10) 8 v8n13) 9 v9n16) 10 v10n18) 11 v10n18) 12 v12n20) 13 v13n23) 14 v14n26) 15 v15n28) 16 v15n28) 17 v17n30) 18 v18n33) 19 v19n36) 20 v20n38) 21 v20n38) 22 v22n40) 23 v23n43) 24 v24n46) 25 v25n48) 26 v25n48) 27 v27n50) 28 v28n53) 29 v29n56) 30 v30n58) 31 v30n58) 32 v32n60) 33 v33n63) 34 v34n66) 35 v35n68) 36 v35n68) 37 v37n70) 38 v38n73) 39 v39n76) 40 v40n78) 41 v40n78) 42 v42n80) 43 v43n83) 44 v44n86) 45 v45n88) 46 v45n88) 47 v47n90) 48 v48n93) 49 v49n96) 50 v50n98) 51 v50n98) 52 v52n100) 53 v53n103) 54 v54n106) 55 v55n108) 56 v55n108) 57 v57n110) 58 v58n113) 59 v59n116) 60 v60n119) 61 v61n122) 62 v62n124) w123) (thenK (fun e126 w127 =>
R (.returned (Value.int IntKind.i64 0)) w127) (topK P [(ResultVar.tmp 2)] R))) w120) w117) w114) w111) w107) w104) w101) w97) w94) w91) w87) w84) w81) w77) w74) w71) w67) w64) w61) w57) w54) w51) w47) w44) w41) w37) w34) w31) w27) w24) w21) w17) w14) w11) w8
theorem F58ok {w : World} {R : Ending → World → Prop} {a0 : Value} (h : F58 a0 w R) : Calls P 58 #[a0] w R :=
  calls_of_ev bodies mixed (c := bodyOf Try.f58) (nt := 63) (rs := [(ResultVar.tmp 2)]) (args := [a0]) (fn := Try.f58) (by kernel_rfl) (by kernel_rfl) (by kernel_rfl) (by kernel_rfl) (by kernel_rfl) (by simp)
    (eq_mp (show F58 a0 w R = ev P C (bodyOf Try.f58) (argE [a0]) w (topK P [(ResultVar.tmp 2)] R) by kernel_rfl) h)

/-! ### moiety/pin.Put -/
def F59 (a0 : Value) (a1 : Value) (w : World) (R : Ending → World → Prop) : Prop :=
bindV (pBox P 87 a1 w) fun v3n1 w2 =>
callE P 75 #[a0] w2 (fun v13n5 w6 =>
bindV (pBin P BinOp.neq 26 true v13n5 (Value.int IntKind.i64 0) w6) fun v15n7 w8 =>
condE v15n7 (fun (K9 : KT) =>
K9 .ret (Env.put (Env.put (Env.put (Env.put (Env.put (Env.put (Env.put (Env.put (Env.put (argE [a0, a1]) 3 v3n1) 4 (Value.int IntKind.i64 0)) 12 a0) 13 v13n5) 5 v13n5) 14 v13n5) 15 v15n7) 16 v13n5) 4 v13n5) w8) (fun (K9 : KT) =>
K9 .normal (Env.put (Env.put (Env.put (Env.put (Env.put (Env.put (Env.put (argE [a0, a1]) 3 v3n1) 4 (Value.int IntKind.i64 0)) 12 a0) 13 v13n5) 5 v13n5) 14 v13n5) 15 v15n7) w8) (thenK (fun e10 w11 =>
bindV (pLoad P 87 (e10 3) w11) fun v17n12 w13 =>
callE P 58 #[v17n12] w13 (fun v18n16 w17 =>
bindV (pBin P BinOp.neq 26 true v18n16 (Value.int IntKind.i64 0) w17) fun v20n18 w19 =>
condE v20n18 (fun (K20 : KT) =>
K20 .ret (Env.put (Env.put (Env.put (Env.put (Env.put (Env.put (Env.put e10 17 v17n12) 18 v18n16) 6 v18n16) 19 v18n16) 20 v20n18) 21 v18n16) 4 v18n16) w19) (fun (K20 : KT) =>
K20 .normal (Env.put (Env.put (Env.put (Env.put (Env.put e10 17 v17n12) 18 v18n16) 6 v18n16) 19 v18n16) 20 v20n18) w19) (thenK (fun e21 w22 =>
bindV (pFieldAddr P 87 (e21 3) 0 w22) fun v22n23 w24 =>
bindV (pLoad P 3 v22n23 w24) fun v23n25 w26 =>
bindV (pBin P BinOp.rem 3 true v23n25 (Value.int IntKind.i64 2) w26) fun v24n27 w28 =>
callE P 42 #[(e21 0), v24n27, (Value.int IntKind.i64 1)] w28 (fun v27n31 w32 =>
bindV (pBin P BinOp.neq 26 true v27n31 (Value.int IntKind.i64 0) w32) fun v29n33 w34 =>
condE v29n33 (fun (K35 : KT) =>
K35 .ret (Env.put (Env.put (Env.put (Env.put (Env.put (Env.put (Env.put (Env.put (Env.put (Env.put (Env.put (Env.put e21 22 v22n23) 23 v23n25) 24 v24n27) 7 v24n27) 25 (e21 0)) 26 v24n27) 27 v27n31) 8 v27n31) 28 v27n31) 29 v29n33) 30 v27n31) 4 v27n31) w34) (fun (K35 : KT) =>
K35 .normal (Env.put (Env.put (Env.put (Env.put (Env.put (Env.put (Env.put (Env.put (Env.put (Env.put e21 22 v22n23) 23 v23n25) 24 v24n27) 7 v24n27) 25 (e21 0)) 26 v24n27) 27 v27n31) 8 v27n31) 28 v27n31) 29 v29n33) w34) (thenK (fun e36 w37 =>
bindV (pLoad P 87 (e36 3) w37) fun v32n38 w39 =>
callE P 76 #[v32n38] w39 (fun v33n42 w43 =>
callE P 21 #[v33n42] w43 (fun v34n46 w47 =>
bindV (pExtract P v34n46 0 w47) fun v35n48 w49 =>
bindV (pExtract P v34n46 1 w49) fun v36n50 w51 =>
bindV (pAlloc P 25 w51) fun v9n52 w53 =>
bindU (pStore P 25 v9n52 v35n48 w53) fun w54 =>
bindV (pLoad P 25 v9n52 w54) fun v39n55 w56 =>
callE P 28 #[(e36 0), (e36 7), v39n55] w56 (fun v40n59 w60 =>
bindV (pBin P BinOp.neq 26 true v40n59 (Value.int IntKind.i64 0) w60) fun v42n61 w62 =>
condE v42n61 (fun (K63 : KT) =>
K63 .ret (Env.put (Env.put (Env.put (Env.put (Env.put (Env.put (Env.put (Env.put (Env.put (Env.put (Env.put (Env.put (Env.put (Env.put (Env.put (Env.put (Env.put e36 32 v32n38) 33 v33n42) 34 v34n46) 31 v34n46) 35 v35n48) 36 v36n50) 9 v9n52) 10 v36n50) 37 (e36 0)) 38 (e36 7)) 39 v39n55) 40 v40n59) 11 v40n59) 41 v40n59) 42 v42n61) 43 v40n59) 4 v40n59) w62) (fun (K63 : KT) =>
K63 .normal (Env.put (Env.put (Env.put (Env.put (Env.put (Env.put (Env.put (Env.put (Env.put (Env.put (Env.put (Env.put (Env.put (Env.put (Env.put e36 32 v32n38) 33 v33n42) 34 v34n46) 31 v34n46) 35 v35n48) 36 v36n50) 9 v9n52) 10 v36n50) 37 (e36 0)) 38 (e36 7)) 39 v39n55) 40 v40n59) 11 v40n59) 41 v40n59) 42 v42n61) w62) (thenK (fun e64 w65 =>
callE P 29 #[(e64 0)] w65 (fun v45n68 w69 =>
R (.returned v45n68) w69) (fun c66 w67 => R (.panicked c66) w67)) (topK P [(ResultVar.tmp 4)] R))) (fun c57 w58 => R (.panicked c57) w58)) (fun c44 w45 => R (.panicked c44) w45)) (fun c40 w41 => R (.panicked c40) w41)) (topK P [(ResultVar.tmp 4)] R))) (fun c29 w30 => R (.panicked c29) w30)) (topK P [(ResultVar.tmp 4)] R))) (fun c14 w15 => R (.panicked c14) w15)) (topK P [(ResultVar.tmp 4)] R))) (fun c3 w4 => R (.panicked c3) w4)
theorem F59ok {w : World} {R : Ending → World → Prop} {a0 : Value} {a1 : Value} (h : F59 a0 a1 w R) : Calls P 59 #[a0, a1] w R :=
  calls_of_ev bodies mixed (c := bodyOf Try.f59) (nt := 46) (rs := [(ResultVar.tmp 4)]) (args := [a0, a1]) (fn := Try.f59) (by kernel_rfl) (by kernel_rfl) (by kernel_rfl) (by kernel_rfl) (by kernel_rfl) (by simp)
    (eq_mp (show F59 a0 a1 w R = ev P C (bodyOf Try.f59) (argE [a0, a1]) w (topK P [(ResultVar.tmp 4)] R) by kernel_rfl) h)

/-! ### moiety/pin.Get -/
def F60B0 (e : Env) (w : World) (K : KT) : Prop :=
bindV (pBin P BinOp.lss 3 true (e 19) (Value.int IntKind.i64 2) w) fun v20n17 w18 =>
condE v20n17 (fun (K19 : KT) =>
K19 .normal (Env.put e 20 v20n17) w18) (fun (K19 : KT) =>
K19 (.exit 0) (Env.put e 20 v20n17) w18) (thenK (fun e20 w21 =>
callE P 31 #[(e20 0), (e20 19)] w21 (fun v25n24 w25 =>
bindV (pExtract P v25n24 0 w25) fun v26n26 w27 =>
bindV (pExtract P v25n24 1 w27) fun v27n28 w29 =>
bindV (pAlloc P 25 w29) fun v7n30 w31 =>
bindU (pStore P 25 v7n30 v26n26 w31) fun w32 =>
bindV (pLoad P 25 v7n30 w32) fun v29n33 w34 =>
callE P 23 #[v29n33] w34 (fun v30n37 w38 =>
bindV (pExtract P v30n37 0 w38) fun v31n39 w40 =>
bindV (pExtract P v30n37 1 w40) fun v32n41 w42 =>
letK (blockK 1 (thenK (fun e44 w45 =>
bindV (pBin P BinOp.add 3 true (e44 19) (Value.int IntKind.i64 1) w45) fun v56n46 w47 =>
K .normal (Env.put (Env.put e44 56 v56n46) 19 v56n46) w47) K)) fun (K43 : KT) =>
bindV (pUn P UnOp.not v32n41 w42) fun v34n48 w49 =>
condE v34n48 (fun (K50 : KT) =>
K50 (.exit 1) (Env.put (Env.put (Env.put (Env.put (Env.put (Env.put (Env.put (Env.put (Env.put (Env.put (Env.put (Env.put (Env.put (Env.put (Env.put (Env.put (Env.put (Env.put (Env.put e20 21 (e20 19)) 6 (e20 19)) 23 (e20 0)) 24 (e20 19)) 25 v25n24) 22 v25n24) 26 v26n26) 27 v27n28) 7 v7n30) 8 v27n28) 29 v29n33) 30 v30n37) 28 v30n37) 31 v31n39) 32 v32n41) 9 v31n39) 10 v32n41) 33 v32n41) 34 v34n48) w49) (fun (K50 : KT) =>
K50 .normal (Env.put (Env.put (Env.put (Env.put (Env.put (Env.put (Env.put (Env.put (Env.put (Env.put (Env.put (Env.put (Env.put (Env.put (Env.put (Env.put (Env.put (Env.put (Env.put e20 21 (e20 19)) 6 (e20 19)) 23 (e20 0)) 24 (e20 19)) 25 v25n24) 22 v25n24) 26 v26n26) 27 v27n28) 7 v7n30) 8 v27n28) 29 v29n33) 30 v30n37) 28 v30n37) 31 v31n39) 32 v32n41) 9 v31n39) 10 v32n41) 33 v32n41) 34 v34n48) w49) (thenK (fun e51 w52 =>
callE P 77 #[(e51 9)] w52 (fun v37n55 w56 =>
bindV (pExtract P v37n55 0 w56) fun v38n57 w58 =>
bindV (pExtract P v37n55 1 w58) fun v39n59 w60 =>
bindV (pAlloc P 87 w60) fun v11n61 w62 =>
bindU (pStore P 87 v11n61 v38n57 w62) fun w63 =>
grdE v39n59 true (fun (k64 : Value → World → Prop) => bindV (pFieldAddr P 87 v11n61 0 w63) k64) (fun v42n65 w66 =>
grdE v39n59 true (fun (k67 : Value → World → Prop) => bindV (pLoad P 3 v42n65 w66) k67) (fun v43n68 w69 =>
grdE v39n59 true (fun (k70 : Value → World → Prop) => bindV (pBin P BinOp.rem 3 true v43n68 (Value.int IntKind.i64 2) w69) k70) (fun v44n71 w72 =>
grdE v39n59 true (fun (k73 : Value → World → Prop) => k73 (e51 6) w72) (fun v45n74 w75 =>
grdE v39n59 true (fun (k76 : Value → World → Prop) => bindV (pBin P BinOp.eql 3 false v44n71 v45n74 w75) k76) (fun v46n77 w78 =>
pickE v39n59 v46n77 (Value.bool false) fun v47n79 =>
grdE v47n79 true (fun (k80 : Value → World → Prop) => bindV (pFieldAddr P 87 v11n61 0 w78) k80) (fun v49n81 w82 =>
grdE v47n79 true (fun (k83 : Value → World → Prop) => bindV (pLoad P 3 v49n81 w82) k83) (fun v50n84 w85 =>
grdE v47n79 true (fun (k86 : Value → World → Prop) => bindV (pFieldAddr P 87 (e51 5) 0 w85) k86) (fun v51n87 w88 =>
grdE v47n79 true (fun (k89 : Value → World → Prop) => bindV (pLoad P 3 v51n87 w88) k89) (fun v52n90 w91 =>
grdE v47n79 true (fun (k92 : Value → World → Prop) => bindV (pBin P BinOp.gtr 3 false v50n84 v52n90 w91) k92) (fun v53n93 w94 =>
pickE v47n79 v53n93 (Value.bool false) fun v54n95 =>
condE v54n95 (fun (K96 : KT) =>
bindV (pLoad P 87 v11n61 w94) fun v55n97 w98 =>
bindU (pStore P 87 (e51 5) v55n97 w98) fun w99 =>
K96 .normal (Env.put (Env.put (Env.put (Env.put (Env.put (Env.put (Env.put (Env.put (Env.put (Env.put (Env.put (Env.put (Env.put (Env.put (Env.put (Env.put (Env.put (Env.put (Env.put (Env.put (Env.put (Env.put (Env.put e51 36 (e51 9)) 37 v37n55) 35 v37n55) 38 v38n57) 39 v39n59) 11 v11n61) 12 v39n59) 40 v39n59) 41 v39n59) 42 v42n65) 43 v43n68) 44 v44n71) 45 v45n74) 46 v46n77) 47 v47n79) 48 v47n79) 49 v49n81) 50 v50n84) 51 v51n87) 52 v52n90) 53 v53n93) 54 v54n95) 55 v55n97) w99) (fun (K96 : KT) =>
K96 .normal (Env.put (Env.put (Env.put (Env.put (Env.put (Env.put (Env.put (Env.put (Env.put (Env.put (Env.put (Env.put (Env.put (Env.put (Env.put (Env.put (Env.put (Env.put (Env.put (Env.put (Env.put (Env.put e51 36 (e51 9)) 37 v37n55) 35 v37n55) 38 v38n57) 39 v39n59) 11 v11n61) 12 v39n59) 40 v39n59) 41 v39n59) 42 v42n65) 43 v43n68) 44 v44n71) 45 v45n74) 46 v46n77) 47 v47n79) 48 v47n79) 49 v49n81) 50 v50n84) 51 v51n87) 52 v52n90) 53 v53n93) 54 v54n95) w94) K43) w91) w88) w85) w82) w78) w75) w72) w69) w66) w63) (fun c53 w54 => K43 (.panic c53) (Env.put e51 36 (e51 9)) w54)) K43)) (fun c35 w36 => K (.panic c35) (Env.put (Env.put (Env.put (Env.put (Env.put (Env.put (Env.put (Env.put (Env.put (Env.put (Env.put e20 21 (e20 19)) 6 (e20 19)) 23 (e20 0)) 24 (e20 19)) 25 v25n24) 22 v25n24) 26 v26n26) 27 v27n28) 7 v7n30) 8 v27n28) 29 v29n33) w36)) (fun c22 w23 => K (.panic c22) (Env.put (Env.put (Env.put (Env.put e20 21 (e20 19)) 6 (e20 19)) 23 (e20 0)) 24 (e20 19)) w23)) K)
def F60 (a0 : Value) (w : World) (R : Ending → World → Prop) : Prop :=
bindV (pAlloc P 87 w) fun v2n1 w2 =>
callE P 75 #[a0] w2 (fun v14n5 w6 =>
bindV (pBin P BinOp.neq 26 true v14n5 (Value.int IntKind.i64 0) w6) fun v16n7 w8 =>
condE v16n7 (fun (K9 : KT) =>
bindV (pBuild P 87 [] w8) fun v17n10 w11 =>
bindU (pStore P 87 v2n1 v17n10 w11) fun w12 =>
K9 .ret (Env.put (Env.put (Env.put (Env.put (Env.put (Env.put (Env.put (Env.put (Env.put (Env.put (argE [a0]) 2 v2n1) 3 (Value.int IntKind.i64 0)) 13 a0) 14 v14n5) 4 v14n5) 15 v14n5) 16 v16n7) 17 v17n10) 18 v14n5) 3 v14n5) w12) (fun (K9 : KT) =>
K9 .normal (Env.put (Env.put (Env.put (Env.put (Env.put (Env.put (Env.put (argE [a0]) 2 v2n1) 3 (Value.int IntKind.i64 0)) 13 a0) 14 v14n5) 4 v14n5) 15 v14n5) 16 v16n7) w8) (thenK (fun e13 w14 =>
bindV (pAlloc P 87 w14) fun v5n15 w16 =>
loopE F60B0 (Env.put (Env.put e13 5 v5n15) 19 (Value.int IntKind.i64 0)) w16 (blockK 0 (thenK (fun e100 w101 =>
bindV (pFieldAddr P 87 (e100 5) 0 w101) fun v57n102 w103 =>
bindV (pLoad P 3 v57n102 w103) fun v58n104 w105 =>
bindV (pBin P BinOp.eql 3 true v58n104 (Value.int IntKind.i64 0) w105) fun v59n106 w107 =>
condE v59n106 (fun (K108 : KT) =>
bindV (pBuild P 87 [] w107) fun v60n109 w110 =>
bindU (pStore P 87 (e100 2) v60n109 w110) fun w111 =>
K108 .ret (Env.put (Env.put (Env.put (Env.put (Env.put e100 57 v57n102) 58 v58n104) 59 v59n106) 60 v60n109) 3 (Value.int IntKind.i64 6)) w111) (fun (K108 : KT) =>
K108 .normal (Env.put (Env.put (Env.put e100 57 v57n102) 58 v58n104) 59 v59n106) w107) (thenK (fun e112 w113 =>
bindV (pLoad P 87 (e112 5) w113) fun v61n114 w115 =>
bindU (pStore P 87 (e112 2) v61n114 w115) fun w116 =>
topK P [(ResultVar.cell 2 87), (ResultVar.tmp 3)] R .ret (Env.put (Env.put e112 61 v61n114) 3 (Value.int IntKind.i64 0)) w116) (topK P [(ResultVar.cell 2 87), (ResultVar.tmp 3)] R))) (topK P [(ResultVar.cell 2 87), (ResultVar.tmp 3)] R)))) (topK P [(ResultVar.cell 2 87), (ResultVar.tmp 3)] R))) (fun c3 w4 => R (.panicked c3) w4)
theorem F60ok {w : World} {R : Ending → World → Prop} {a0 : Value} (h : F60 a0 w R) : Calls P 60 #[a0] w R :=
  calls_of_ev bodies mixed (c := bodyOf Try.f60) (nt := 62) (rs := [(ResultVar.cell 2 87), (ResultVar.tmp 3)]) (args := [a0]) (fn := Try.f60) (by kernel_rfl) (by kernel_rfl) (by kernel_rfl) (by kernel_rfl) (by kernel_rfl) (by simp)
    (eq_mp (show F60 a0 w R = ev P C (bodyOf Try.f60) (argE [a0]) w (topK P [(ResultVar.cell 2 87), (ResultVar.tmp 3)] R) by kernel_rfl) h)

/-! ### moiety/moietyref22.Of -/
def F61B0 (e : Env) (w : World) (K : KT) : Prop :=
bindV (pBin P BinOp.lss 3 true (e 10) (Value.int IntKind.i64 6) w) fun v30n46 w47 =>
condE v30n46 (fun (K48 : KT) =>
K48 .normal (Env.put (Env.put e 29 (e 10)) 30 v30n46) w47) (fun (K48 : KT) =>
K48 (.exit 0) (Env.put (Env.put e 29 (e 10)) 30 v30n46) w47) (thenK (fun e49 w50 =>
letK (blockK 1 (thenK (fun e52 w53 =>
bindV (pBin P BinOp.add 3 true (e52 10) (Value.int IntKind.i64 1) w53) fun v32n54 w55 =>
K .normal (Env.put (Env.put (Env.put e52 31 (e52 10)) 32 v32n54) 10 v32n54) w55) K)) fun (K51 : KT) =>
bindV (pIndexAddr P 129 (e49 6) (e49 10) w50) fun v35n56 w57 =>
bindV (pFieldAddr P 134 v35n56 1 w57) fun v36n58 w59 =>
bindV (pLoad P 132 v36n58 w59) fun v37n60 w61 =>
bindV (pBin P BinOp.gtr 132 true v37n60 (Value.int IntKind.u64 1099511627776) w61) fun v38n62 w63 =>
condE v38n62 (fun (K64 : KT) =>
bindV (pBuild P 93 [] w63) fun v39n65 w66 =>
bindU (pStore P 93 (e49 2) v39n65 w66) fun w67 =>
K64 .ret (Env.put (Env.put (Env.put (Env.put (Env.put (Env.put (Env.put (Env.put e49 33 (e49 6)) 34 (e49 10)) 35 v35n56) 36 v36n58) 37 v37n60) 38 v38n62) 39 v39n65) 3 (Value.bool false)) w67) (fun (K64 : KT) =>
K64 .normal (Env.put (Env.put (Env.put (Env.put (Env.put (Env.put e49 33 (e49 6)) 34 (e49 10)) 35 v35n56) 36 v36n58) 37 v37n60) 38 v38n62) w63) (thenK (fun e68 w69 =>
bindV (pIndexAddr P 129 (e68 6) (e68 10) w69) fun v43n70 w71 =>
bindV (pFieldAddr P 134 v43n70 1 w71) fun v44n72 w73 =>
bindV (pLoad P 132 v44n72 w73) fun v45n74 w75 =>
bindV (pConv P 132 3 v45n74 w75) fun v46n76 w77 =>
bindV (pIndexAddr P 93 (e68 9) (e68 10) w77) fun v47n78 w79 =>
bindU (pStore P 3 v47n78 v46n76 w79) fun w80 =>
K51 .normal (Env.put (Env.put (Env.put (Env.put (Env.put (Env.put (Env.put (Env.put e68 40 (e68 10)) 41 (e68 6)) 42 (e68 10)) 43 v43n70) 44 v44n72) 45 v45n74) 46 v46n76) 47 v47n78) w80) K51)) K)
def F61 (a0 : Value) (w : World) (R : Ending → World → Prop) : Prop :=
bindV (pBox P 25 a0 w) fun v1n1 w2 =>
bindV (pAlloc P 93 w2) fun v2n3 w4 =>
bindV (pLoad P 25 v1n1 w4) fun v12n5 w6 =>
callE P 25 #[v12n5] w6 (fun v13n9 w10 =>
bindV (pExtract P v13n9 0 w10) fun v14n11 w12 =>
bindV (pExtract P v13n9 1 w12) fun v15n13 w14 =>
bindV (pUn P UnOp.not v15n13 w14) fun v17n15 w16 =>
condE v17n15 (fun (K17 : KT) =>
bindV (pBuild P 93 [] w16) fun v18n18 w19 =>
bindU (pStore P 93 v2n3 v18n18 w19) fun w20 =>
K17 .ret (Env.put (Env.put (Env.put (Env.put (Env.put (Env.put (Env.put (Env.put (Env.put (Env.put (Env.put (Env.put (Env.put (Env.put (argE [a0]) 1 v1n1) 2 v2n3) 3 (Value.bool false)) 12 v12n5) 13 v13n9) 11 v13n9) 14 v14n11) 15 v15n13) 4 v14n11) 5 v15n13) 16 v15n13) 17 v17n15) 18 v18n18) 3 (Value.bool false)) w20) (fun (K17 : KT) =>
K17 .normal (Env.put (Env.put (Env.put (Env.put (Env.put (Env.put (Env.put (Env.put (Env.put (Env.put (Env.put (Env.put (argE [a0]) 1 v1n1) 2 v2n3) 3 (Value.bool false)) 12 v12n5) 13 v13n9) 11 v13n9) 14 v14n11) 15 v15n13) 4 v14n11) 5 v15n13) 16 v15n13) 17 v17n15) w16) (thenK (fun e21 w22 =>
callE P 78 #[(e21 4), (Value.string { data := #[117, 117, 117, 117, 117, 117] }), (Value.int IntKind.i64 0)] w22 (fun v21n25 w26 =>
bindV (pExtract P v21n25 0 w26) fun v22n27 w28 =>
bindV (pExtract P v21n25 1 w28) fun v23n29 w30 =>
bindV (pExtract P v21n25 2 w30) fun v24n31 w32 =>
bindV (pBin P BinOp.neq 3 true v23n29 (Value.int IntKind.i64 0) w32) fun v26n33 w34 =>
condE v26n33 (fun (K35 : KT) =>
bindV (pBuild P 93 [] w34) fun v27n36 w37 =>
bindU (pStore P 93 (e21 2) v27n36 w37) fun w38 =>
K35 .ret (Env.put (Env.put (Env.put (Env.put (Env.put (Env.put (Env.put (Env.put (Env.put (Env.put (Env.put (Env.put (Env.put e21 20 (e21 4)) 21 v21n25) 19 v21n25) 22 v22n27) 23 v23n29) 24 v24n31) 6 v22n27) 7 v23n29) 8 v24n31) 25 v23n29) 26 v26n33) 27 v27n36) 3 (Value.bool false)) w38) (fun (K35 : KT) =>
K35 .normal (Env.put (Env.put (Env.put (Env.put (Env.put (Env.put (Env.put (Env.put (Env.put (Env.put (Env.put e21 20 (e21 4)) 21 v21n25) 19 v21n25) 22 v22n27) 23 v23n29) 24 v24n31) 6 v22n27) 7 v23n29) 8 v24n31) 25 v23n29) 26 v26n33) w34) (thenK (fun e39 w40 =>
bindV (pBuild P 93 [] w40) fun v28n41 w42 =>
bindV (pAlloc P 93 w42) fun v9n43 w44 =>
bindU (pStore P 93 v9n43 v28n41 w44) fun w45 =>
loopE F61B0 (Env.put (Env.put (Env.put e39 28 v28n41) 9 v9n43) 10 (Value.int IntKind.i64 0)) w45 (blockK 0 (thenK (fun e81 w82 =>
takeE (fun w85 => pLoad P 93 (e81 9) w85) (drew w82) fun v48n83 h84 =>
takeE (fun w88 => pLoad P 93 (e81 9) w88) (drew w82) fun v49n86 h87 =>
callE P 62 #[v49n86] (drew w82) (fun v50n92 w93 =>
heldE [h84] w93 (bindU (pStore P 93 (e81 2) v48n83 w93) fun w95 =>
topK P [(ResultVar.cell 2 93), (ResultVar.tmp 3)] R .ret (Env.put (Env.put (Env.put (Env.put e81 48 v48n83) 49 v49n86) 50 v50n92) 3 v50n92) w95)) (fun c90 w91 => ∀ (e89 : Env), agreeOff [48, 49] (Env.put (Env.put e81 48 v48n83) 49 v49n86) e89 → R (.panicked c90) w91)) (topK P [(ResultVar.cell 2 93), (ResultVar.tmp 3)] R)))) (topK P [(ResultVar.cell 2 93), (ResultVar.tmp 3)] R))) (fun c23 w24 => R (.panicked c23) w24)) (topK P [(ResultVar.cell 2 93), (ResultVar.tmp 3)] R))) (fun c7 w8 => R (.panicked c7) w8)
theorem F61ok {w : World} {R : Ending → World → Prop} {a0 : Value} (h : F61 a0 w R) : Calls P 61 #[a0] w R :=
  calls_of_ev bodies mixed (c := bodyOf Try.f61) (nt := 51) (rs := [(ResultVar.cell 2 93), (ResultVar.tmp 3)]) (args := [a0]) (fn := Try.f61) (by kernel_rfl) (by kernel_rfl) (by kernel_rfl) (by kernel_rfl) (by kernel_rfl) (by simp)
    (eq_mp (show F61 a0 w R = ev P C (bodyOf Try.f61) (argE [a0]) w (topK P [(ResultVar.cell 2 93), (ResultVar.tmp 3)] R) by kernel_rfl) h)

/-! ### moiety/moietyref22.Check -/
def F62 (a0 : Value) (w : World) (R : Ending → World → Prop) : Prop :=
bindV (pBox P 93 a0 w) fun v1n1 w2 =>
bindV (pIndexAddr P 93 v1n1 (Value.int IntKind.i64 0) w2) fun v4n3 w4 =>
bindV (pLoad P 3 v4n3 w4) fun v5n5 w6 =>
bindV (pBin P BinOp.lss 3 true v5n5 (Value.int IntKind.i64 1) w6) fun v6n7 w8 =>
grdE v6n7 false (fun (k9 : Value → World → Prop) => bindV (pIndexAddr P 93 v1n1 (Value.int IntKind.i64 0) w8) k9) (fun v8n10 w11 =>
grdE v6n7 false (fun (k12 : Value → World → Prop) => bindV (pLoad P 3 v8n10 w11) k12) (fun v9n13 w14 =>
grdE v6n7 false (fun (k15 : Value → World → Prop) => k15 (Value.int IntKind.i64 1099511627776) w14) (fun v10n16 w17 =>
grdE v6n7 false (fun (k18 : Value → World → Prop) => bindV (pBin P BinOp.gtr 3 false v9n13 v10n16 w17) k18) (fun v11n19 w20 =>
pickE v6n7 (Value.bool true) v11n19 fun v12n21 =>
grdE v12n21 false (fun (k22 : Value → World → Prop) => bindV (pIndexAddr P 93 v1n1 (Value.int IntKind.i64 1) w20) k22) (fun v14n23 w24 =>
grdE v12n21 false (fun (k25 : Value → World → Prop) => bindV (pLoad P 3 v14n23 w24) k25) (fun v15n26 w27 =>
grdE v12n21 false (fun (k28 : Value → World → Prop) => bindV (pBin P BinOp.lss 3 true v15n26 (Value.int IntKind.i64 0) w27) k28) (fun v16n29 w30 =>
pickE v12n21 (Value.bool true) v16n29 fun v17n31 =>
grdE v17n31 false (fun (k32 : Value → World → Prop) => bindV (pIndexAddr P 93 v1n1 (Value.int IntKind.i64 1) w30) k32) (fun v19n33 w34 =>
grdE v17n31 false (fun (k35 : Value → World → Prop) => bindV (pLoad P 3 v19n33 w34) k35) (fun v20n36 w37 =>
grdE v17n31 false (fun (k38 : Value → World → Prop) => k38 (Value.int IntKind.i64 1099511627776) w37) (fun v21n39 w40 =>
grdE v17n31 false (fun (k41 : Value → World → Prop) => bindV (pBin P BinOp.gtr 3 false v20n36 v21n39 w40) k41) (fun v22n42 w43 =>
pickE v17n31 (Value.bool true) v22n42 fun v23n44 =>
condE v23n44 (fun (K45 : KT) =>
K45 .ret (Env.put (Env.put (Env.put (Env.put (Env.put (Env.put (Env.put (Env.put (Env.put (Env.put (Env.put (Env.put (Env.put (Env.put (Env.put (Env.put (Env.put (Env.put (Env.put (Env.put (Env.put (Env.put (Env.put (Env.put (argE [a0]) 1 v1n1) 2 (Value.bool false)) 3 (Value.int IntKind.i64 1099511627776)) 4 v4n3) 5 v5n5) 6 v6n7) 7 v6n7) 8 v8n10) 9 v9n13) 10 v10n16) 11 v11n19) 12 v12n21) 13 v12n21) 14 v14n23) 15 v15n26) 16 v16n29) 17 v17n31) 18 v17n31) 19 v19n33) 20 v20n36) 21 v21n39) 22 v22n42) 23 v23n44) 2 (Value.bool false)) w43) (fun (K45 : KT) =>
K45 .normal (Env.put (Env.put (Env.put (Env.put (Env.put (Env.put (Env.put (Env.put (Env.put (Env.put (Env.put (Env.put (Env.put (Env.put (Env.put (Env.put (Env.put (Env.put (Env.put (Env.put (Env.put (Env.put (Env.put (argE [a0]) 1 v1n1) 2 (Value.bool false)) 3 (Value.int IntKind.i64 1099511627776)) 4 v4n3) 5 v5n5) 6 v6n7) 7 v6n7) 8 v8n10) 9 v9n13) 10 v10n16) 11 v11n19) 12 v12n21) 13 v12n21) 14 v14n23) 15 v15n26) 16 v16n29) 17 v17n31) 18 v17n31) 19 v19n33) 20 v20n36) 21 v21n39) 22 v22n42) 23 v23n44) w43) (thenK (fun e46 w47 =>
bindV (pIndexAddr P 93 (e46 1) (Value.int IntKind.i64 2) w47) fun v24n48 w49 =>
bindV (pLoad P 3 v24n48 w49) fun v25n50 w51 =>
bindV (pBin P BinOp.neq 3 true v25n50 (Value.int IntKind.i64 0) w51) fun v26n52 w53 =>
grdE v26n52 true (fun (k54 : Value → World → Prop) => bindV (pIndexAddr P 93 (e46 1) (Value.int IntKind.i64 2) w53) k54) (fun v28n55 w56 =>
grdE v26n52 true (fun (k57 : Value → World → Prop) => bindV (pLoad P 3 v28n55 w56) k57) (fun v29n58 w59 =>
grdE v26n52 true (fun (k60 : Value → World → Prop) => bindV (pBin P BinOp.neq 3 true v29n58 (Value.int IntKind.i64 1) w59) k60) (fun v30n61 w62 =>
pickE v26n52 v30n61 (Value.bool false) fun v31n63 =>
grdE v31n63 false (fun (k64 : Value → World → Prop) => bindV (pIndexAddr P 93 (e46 1) (Value.int IntKind.i64 4) w62) k64) (fun v33n65 w66 =>
grdE v31n63 false (fun (k67 : Value → World → Prop) => bindV (pLoad P 3 v33n65 w66) k67) (fun v34n68 w69 =>
grdE v31n63 false (fun (k70 : Value → World → Prop) => bindV (pBin P BinOp.neq 3 true v34n68 (Value.int IntKind.i64 0) w69) k70) (fun v35n71 w72 =>
grdE v31n63 false (fun (k73 : Value → World → Prop) => k73 v35n71 w72) (fun v36n74 w75 =>
grdE v36n74 true (fun (k76 : Value → World → Prop) => bindV (pIndexAddr P 93 (e46 1) (Value.int IntKind.i64 4) w75) k76) (fun v37n77 w78 =>
grdE v36n74 true (fun (k79 : Value → World → Prop) => bindV (pLoad P 3 v37n77 w78) k79) (fun v38n80 w81 =>
grdE v36n74 true (fun (k82 : Value → World → Prop) => bindV (pBin P BinOp.neq 3 true v38n80 (Value.int IntKind.i64 1) w81) k82) (fun v39n83 w84 =>
grdE v31n63 false (fun (k85 : Value → World → Prop) => pickE v36n74 v39n83 (Value.bool false) fun v40n86 =>
k85 v40n86 w84) (fun v40n87 w88 =>
pickE v31n63 (Value.bool true) v40n87 fun v41n89 =>
condE v41n89 (fun (K90 : KT) =>
K90 .ret (Env.put (Env.put (Env.put (Env.put (Env.put (Env.put (Env.put (Env.put (Env.put (Env.put (Env.put (Env.put (Env.put (Env.put (Env.put (Env.put (Env.put (Env.put (Env.put e46 24 v24n48) 25 v25n50) 26 v26n52) 27 v26n52) 28 v28n55) 29 v29n58) 30 v30n61) 31 v31n63) 32 v31n63) 33 v33n65) 34 v34n68) 35 v35n71) 36 v36n74) 37 v37n77) 38 v38n80) 39 v39n83) 40 v40n87) 41 v41n89) 2 (Value.bool false)) w88) (fun (K90 : KT) =>
K90 .normal (Env.put (Env.put (Env.put (Env.put (Env.put (Env.put (Env.put (Env.put (Env.put (Env.put (Env.put (Env.put (Env.put (Env.put (Env.put (Env.put (Env.put (Env.put e46 24 v24n48) 25 v25n50) 26 v26n52) 27 v26n52) 28 v28n55) 29 v29n58) 30 v30n61) 31 v31n63) 32 v31n63) 33 v33n65) 34 v34n68) 35 v35n71) 36 v36n74) 37 v37n77) 38 v38n80) 39 v39n83) 40 v40n87) 41 v41n89) w88) (thenK (fun e91 w92 =>
bindV (pIndexAddr P 93 (e91 1) (Value.int IntKind.i64 5) w92) fun v42n93 w94 =>
bindV (pLoad P 3 v42n93 w94) fun v43n95 w96 =>
bindV (pBin P BinOp.geq 3 true v43n95 (Value.int IntKind.i64 1) w96) fun v44n97 w98 =>
grdE v44n97 true (fun (k99 : Value → World → Prop) => bindV (pIndexAddr P 93 (e91 1) (Value.int IntKind.i64 5) w98) k99) (fun v46n100 w101 =>
grdE v44n97 true (fun (k102 : Value → World → Prop) => bindV (pLoad P 3 v46n100 w101) k102) (fun v47n103 w104 =>
grdE v44n97 true (fun (k105 : Value → World → Prop) => bindV (pBin P BinOp.leq 3 true v47n103 (Value.int IntKind.i64 4096) w104) k105) (fun v48n106 w107 =>
pickE v44n97 v48n106 (Value.bool false) fun v49n108 =>
grdE v49n108 true (fun (k109 : Value → World → Prop) => bindV (pIndexAddr P 93 (e91 1) (Value.int IntKind.i64 3) w107) k109) (fun v51n110 w111 =>
grdE v49n108 true (fun (k112 : Value → World → Prop) => bindV (pLoad P 3 v51n110 w111) k112) (fun v52n113 w114 =>
grdE v49n108 true (fun (k115 : Value → World → Prop) => bindV (pBin P BinOp.geq 3 true v52n113 (Value.int IntKind.i64 0) w114) k115) (fun v53n116 w117 =>
pickE v49n108 v53n116 (Value.bool false) fun v54n118 =>
grdE v54n118 true (fun (k119 : Value → World → Prop) => bindV (pIndexAddr P 93 (e91 1) (Value.int IntKind.i64 3) w117) k119) (fun v56n120 w121 =>
grdE v54n118 true (fun (k122 : Value → World → Prop) => bindV (pLoad P 3 v56n120 w121) k122) (fun v57n123 w124 =>
grdE v54n118 true (fun (k125 : Value → World → Prop) => bindV (pIndexAddr P 93 (e91 1) (Value.int IntKind.i64 5) w124) k125) (fun v58n126 w127 =>
grdE v54n118 true (fun (k128 : Value → World → Prop) => bindV (pLoad P 3 v58n126 w127) k128) (fun v59n129 w130 =>
grdE v54n118 true (fun (k131 : Value → World → Prop) => bindV (pBin P BinOp.leq 3 false v57n123 v59n129 w130) k131) (fun v60n132 w133 =>
pickE v54n118 v60n132 (Value.bool false) fun v61n134 =>
R (.returned v61n134) w133) w130) w127) w124) w121) w117) w114) w111) w107) w104) w101) w98) (topK P [(ResultVar.tmp 2)] R))) w84) w81) w78) w75) w72) w69) w66) w62) w59) w56) w53) (topK P [(ResultVar.tmp 2)] R))) w40) w37) w34) w30) w27) w24) w20) w17) w14) w11) w8
theorem F62ok {w : World} {R : Ending → World → Prop} {a0 : Value} (h : F62 a0 w R) : Calls P 62 #[a0] w R :=
  calls_of_ev bodies mixed (c := bodyOf Try.f62) (nt := 62) (rs := [(ResultVar.tmp 2)]) (args := [a0]) (fn := Try.f62) (by kernel_rfl) (by kernel_rfl) (by kernel_rfl) (by kernel_rfl) (by kernel_rfl) (by simp)
    (eq_mp (show F62 a0 w R = ev P C (bodyOf Try.f62) (argE [a0]) w (topK P [(ResultVar.tmp 2)] R) by kernel_rfl) h)

/-! ### moiety/moietylaw22.of -/
def F63 (a0 : Value) (w : World) (R : Ending → World → Prop) : Prop :=
bindV (pBox P 87 a0 w) fun v1n1 w2 =>
bindV (pAlloc P 93 w2) fun v2n3 w4 =>
bindV (pFieldAddr P 87 v1n1 0 w4) fun v3n5 w6 =>
bindV (pLoad P 3 v3n5 w6) fun v4n7 w8 =>
bindV (pFieldAddr P 87 v1n1 1 w8) fun v5n9 w10 =>
bindV (pLoad P 3 v5n9 w10) fun v6n11 w12 =>
bindV (pFieldAddr P 87 v1n1 2 w12) fun v7n13 w14 =>
bindV (pLoad P 3 v7n13 w14) fun v8n15 w16 =>
bindV (pFieldAddr P 87 v1n1 3 w16) fun v9n17 w18 =>
bindV (pLoad P 3 v9n17 w18) fun v10n19 w20 =>
bindV (pFieldAddr P 87 v1n1 4 w20) fun v11n21 w22 =>
bindV (pLoad P 3 v11n21 w22) fun v12n23 w24 =>
bindV (pFieldAddr P 87 v1n1 5 w24) fun v13n25 w26 =>
bindV (pLoad P 3 v13n25 w26) fun v14n27 w28 =>
bindV (pBuild P 93 [(0, v4n7), (1, v6n11), (2, v8n15), (3, v10n19), (4, v12n23), (5, v14n27)] w28) fun v15n29 w30 =>
bindU (pStore P 93 v2n3 v15n29 w30) fun w31 =>
topK P [(ResultVar.cell 2 93)] R .ret (Env.put (Env.put (Env.put (Env.put (Env.put (Env.put (Env.put (Env.put (Env.put (Env.put (Env.put (Env.put (Env.put (Env.put (Env.put (argE [a0]) 1 v1n1) 2 v2n3) 3 v3n5) 4 v4n7) 5 v5n9) 6 v6n11) 7 v7n13) 8 v8n15) 9 v9n17) 10 v10n19) 11 v11n21) 12 v12n23) 13 v13n25) 14 v14n27) 15 v15n29) w31
theorem F63ok {w : World} {R : Ending → World → Prop} {a0 : Value} (h : F63 a0 w R) : Calls P 63 #[a0] w R :=
  calls_of_ev bodies mixed (c := bodyOf Try.f63) (nt := 16) (rs := [(ResultVar.cell 2 93)]) (args := [a0]) (fn := Try.f63) (by kernel_rfl) (by kernel_rfl) (by kernel_rfl) (by kernel_rfl) (by kernel_rfl) (by simp)
    (eq_mp (show F63 a0 w R = ev P C (bodyOf Try.f63) (argE [a0]) w (topK P [(ResultVar.cell 2 93)] R) by kernel_rfl) h)

/-! ### moiety/moietyref22.Sector -/
def F64B0 (e : Env) (w : World) (K : KT) : Prop :=
bindV (pBin P BinOp.lss 3 true (e 4) (Value.int IntKind.i64 6) w) fun v7n7 w8 =>
condE v7n7 (fun (K9 : KT) =>
K9 .normal (Env.put (Env.put e 6 (e 4)) 7 v7n7) w8) (fun (K9 : KT) =>
K9 (.exit 0) (Env.put (Env.put e 6 (e 4)) 7 v7n7) w8) (thenK (fun e10 w11 =>
bindV (pIndexAddr P 93 (e10 1) (e10 4) w11) fun v12n12 w13 =>
bindV (pLoad P 3 v12n12 w13) fun v13n14 w15 =>
bindV (pConv P 3 132 v13n14 w15) fun v14n16 w17 =>
bindV (pBuild P 134 [(0, (Value.int IntKind.u8 117)), (1, v14n16)] w17) fun v15n18 w19 =>
bindV (pBuildSlice P 129 1 [(0, v15n18)] w19) fun v16n20 w21 =>
bindV (pBuiltin P Builtin.append #[129, 129] 129 [(e10 3), v16n20] w21) fun v17n22 w23 =>
bindV (pBin P BinOp.add 3 true (e10 4) (Value.int IntKind.i64 1) w23) fun v9n24 w25 =>
K .normal (Env.put (Env.put (Env.put (Env.put (Env.put (Env.put (Env.put (Env.put (Env.put (Env.put (Env.put (Env.put e10 10 (e10 3)) 11 (e10 4)) 12 v12n12) 13 v13n14) 14 v14n16) 15 v15n18) 16 v16n20) 17 v17n22) 3 v17n22) 8 (e10 4)) 9 v9n24) 4 v9n24) w25) K)
def F64 (a0 : Value) (w : World) (R : Ending → World → Prop) : Prop :=
bindV (pBox P 93 a0 w) fun v1n1 w2 =>
bindV (pAlloc P 25 w2) fun v2n3 w4 =>
bindV (pBuildSlice P 129 0 [] w4) fun v5n5 w6 =>
loopE F64B0 (Env.put (Env.put (Env.put (Env.put (Env.put (argE [a0]) 1 v1n1) 2 v2n3) 5 v5n5) 3 v5n5) 4 (Value.int IntKind.i64 0)) w6 (blockK 0 (thenK (fun e26 w27 =>
callE P 79 #[(e26 3)] w27 (fun v19n30 w31 =>
callE P 24 #[v19n30] w31 (fun v20n34 w35 =>
bindU (pStore P 25 (e26 2) v20n34 w35) fun w36 =>
topK P [(ResultVar.cell 2 25)] R .ret (Env.put (Env.put (Env.put e26 18 (e26 3)) 19 v19n30) 20 v20n34) w36) (fun c32 w33 => R (.panicked c32) w33)) (fun c28 w29 => R (.panicked c28) w29)) (topK P [(ResultVar.cell 2 25)] R)))
theorem F64ok {w : World} {R : Ending → World → Prop} {a0 : Value} (h : F64 a0 w R) : Calls P 64 #[a0] w R :=
  calls_of_ev bodies mixed (c := bodyOf Try.f64) (nt := 21) (rs := [(ResultVar.cell 2 25)]) (args := [a0]) (fn := Try.f64) (by kernel_rfl) (by kernel_rfl) (by kernel_rfl) (by kernel_rfl) (by kernel_rfl) (by simp)
    (eq_mp (show F64 a0 w R = ev P C (bodyOf Try.f64) (argE [a0]) w (topK P [(ResultVar.cell 2 25)] R) by kernel_rfl) h)

/-! ### moiety/moietyref22.Newest -/
def F65 (a0 : Value) (a1 : Value) (w : World) (R : Ending → World → Prop) : Prop :=
bindV (pBox P 25 a0 w) fun v2n1 w2 =>
bindV (pBox P 25 a1 w2) fun v3n3 w4 =>
bindV (pAlloc P 93 w4) fun v4n5 w6 =>
bindV (pLoad P 25 v2n1 w6) fun v11n7 w8 =>
callE P 61 #[v11n7] w8 (fun v12n11 w12 =>
bindV (pExtract P v12n11 0 w12) fun v13n13 w14 =>
bindV (pExtract P v12n11 1 w14) fun v14n15 w16 =>
bindV (pAlloc P 93 w16) fun v6n17 w18 =>
bindU (pStore P 93 v6n17 v13n13 w18) fun w19 =>
bindV (pLoad P 25 v3n3 w19) fun v16n20 w21 =>
callE P 61 #[v16n20] w21 (fun v17n24 w25 =>
bindV (pExtract P v17n24 0 w25) fun v18n26 w27 =>
bindV (pExtract P v17n24 1 w27) fun v19n28 w29 =>
bindV (pAlloc P 93 w29) fun v8n30 w31 =>
bindU (pStore P 93 v8n30 v18n26 w31) fun w32 =>
grdE v14n15 true (fun (k33 : Value → World → Prop) => bindV (pIndexAddr P 93 v6n17 (Value.int IntKind.i64 0) w32) k33) (fun v22n34 w35 =>
grdE v14n15 true (fun (k36 : Value → World → Prop) => bindV (pLoad P 3 v22n34 w35) k36) (fun v23n37 w38 =>
grdE v14n15 true (fun (k39 : Value → World → Prop) => bindV (pBin P BinOp.rem 3 true v23n37 (Value.int IntKind.i64 2) w38) k39) (fun v24n40 w41 =>
grdE v14n15 true (fun (k42 : Value → World → Prop) => bindV (pBin P BinOp.eql 3 true v24n40 (Value.int IntKind.i64 0) w41) k42) (fun v25n43 w44 =>
pickE v14n15 v25n43 (Value.bool false) fun v26n45 =>
grdE v19n28 true (fun (k46 : Value → World → Prop) => bindV (pIndexAddr P 93 v8n30 (Value.int IntKind.i64 0) w44) k46) (fun v29n47 w48 =>
grdE v19n28 true (fun (k49 : Value → World → Prop) => bindV (pLoad P 3 v29n47 w48) k49) (fun v30n50 w51 =>
grdE v19n28 true (fun (k52 : Value → World → Prop) => bindV (pBin P BinOp.rem 3 true v30n50 (Value.int IntKind.i64 2) w51) k52) (fun v31n53 w54 =>
grdE v19n28 true (fun (k55 : Value → World → Prop) => bindV (pBin P BinOp.eql 3 true v31n53 (Value.int IntKind.i64 1) w54) k55) (fun v32n56 w57 =>
pickE v19n28 v32n56 (Value.bool false) fun v33n58 =>
grdE v26n45 true (fun (k59 : Value → World → Prop) => k59 v33n58 w57) (fun v36n60 w61 =>
grdE v26n45 true (fun (k62 : Value → World → Prop) => bindV (pUn P UnOp.not v36n60 w61) k62) (fun v37n63 w64 =>
grdE v26n45 true (fun (k65 : Value → World → Prop) => k65 v37n63 w64) (fun v38n66 w67 =>
grdE v38n66 false (fun (k68 : Value → World → Prop) => bindV (pIndexAddr P 93 v6n17 (Value.int IntKind.i64 0) w67) k68) (fun v39n69 w70 =>
grdE v38n66 false (fun (k71 : Value → World → Prop) => bindV (pLoad P 3 v39n69 w70) k71) (fun v40n72 w73 =>
grdE v38n66 false (fun (k74 : Value → World → Prop) => bindV (pIndexAddr P 93 v8n30 (Value.int IntKind.i64 0) w73) k74) (fun v41n75 w76 =>
grdE v38n66 false (fun (k77 : Value → World → Prop) => bindV (pLoad P 3 v41n75 w76) k77) (fun v42n78 w79 =>
grdE v38n66 false (fun (k80 : Value → World → Prop) => bindV (pBin P BinOp.gtr 3 false v40n72 v42n78 w79) k80) (fun v43n81 w82 =>
grdE v26n45 true (fun (k83 : Value → World → Prop) => pickE v38n66 (Value.bool true) v43n81 fun v44n84 =>
k83 v44n84 w82) (fun v44n85 w86 =>
pickE v26n45 v44n85 (Value.bool false) fun v45n87 =>
condE v45n87 (fun (K88 : KT) =>
bindV (pLoad P 93 v6n17 w86) fun v46n89 w90 =>
bindU (pStore P 93 v4n5 v46n89 w90) fun w91 =>
K88 .ret (Env.put (Env.put (Env.put (Env.put (Env.put (Env.put (Env.put (Env.put (Env.put (Env.put (Env.put (Env.put (Env.put (Env.put (Env.put (Env.put (Env.put (Env.put (Env.put (Env.put (Env.put (Env.put (Env.put (Env.put (Env.put (Env.put (Env.put (Env.put (Env.put (Env.put (Env.put (Env.put (Env.put (Env.put (Env.put (Env.put (Env.put (Env.put (Env.put (Env.put (Env.put (Env.put (Env.put (Env.put (Env.put (Env.put (Env.put (Env.put (argE [a0, a1]) 2 v2n1) 3 v3n3) 4 v4n5) 5 (Value.bool false)) 11 v11n7) 12 v12n11) 10 v12n11) 13 v13n13) 14 v14n15) 6 v6n17) 7 v14n15) 16 v16n20) 17 v17n24) 15 v17n24) 18 v18n26) 19 v19n28) 8 v8n30) 9 v19n28) 20 v14n15) 21 v14n15) 22 v22n34) 23 v23n37) 24 v24n40) 25 v25n43) 26 v26n45) 7 v26n45) 27 v19n28) 28 v19n28) 29 v29n47) 30 v30n50) 31 v31n53) 32 v32n56) 33 v33n58) 9 v33n58) 34 v26n45) 35 v26n45) 36 v36n60) 37 v37n63) 38 v38n66) 39 v39n69) 40 v40n72) 41 v41n75) 42 v42n78) 43 v43n81) 44 v44n85) 45 v45n87) 46 v46n89) 5 (Value.bool true)) w91) (fun (K88 : KT) =>
K88 .normal (Env.put (Env.put (Env.put (Env.put (Env.put (Env.put (Env.put (Env.put (Env.put (Env.put (Env.put (Env.put (Env.put (Env.put (Env.put (Env.put (Env.put (Env.put (Env.put (Env.put (Env.put (Env.put (Env.put (Env.put (Env.put (Env.put (Env.put (Env.put (Env.put (Env.put (Env.put (Env.put (Env.put (Env.put (Env.put (Env.put (Env.put (Env.put (Env.put (Env.put (Env.put (Env.put (Env.put (Env.put (Env.put (Env.put (argE [a0, a1]) 2 v2n1) 3 v3n3) 4 v4n5) 5 (Value.bool false)) 11 v11n7) 12 v12n11) 10 v12n11) 13 v13n13) 14 v14n15) 6 v6n17) 7 v14n15) 16 v16n20) 17 v17n24) 15 v17n24) 18 v18n26) 19 v19n28) 8 v8n30) 9 v19n28) 20 v14n15) 21 v14n15) 22 v22n34) 23 v23n37) 24 v24n40) 25 v25n43) 26 v26n45) 7 v26n45) 27 v19n28) 28 v19n28) 29 v29n47) 30 v30n50) 31 v31n53) 32 v32n56) 33 v33n58) 9 v33n58) 34 v26n45) 35 v26n45) 36 v36n60) 37 v37n63) 38 v38n66) 39 v39n69) 40 v40n72) 41 v41n75) 42 v42n78) 43 v43n81) 44 v44n85) 45 v45n87) w86) (thenK (fun e92 w93 =>
condE (e92 9) (fun (K94 : KT) =>
bindV (pLoad P 93 (e92 8) w93) fun v48n95 w96 =>
bindU (pStore P 93 (e92 4) v48n95 w96) fun w97 =>
K94 .ret (Env.put (Env.put (Env.put e92 47 (e92 9)) 48 v48n95) 5 (Value.bool true)) w97) (fun (K94 : KT) =>
K94 .normal (Env.put e92 47 (e92 9)) w93) (thenK (fun e98 w99 =>
bindV (pBuild P 93 [] w99) fun v49n100 w101 =>
bindU (pStore P 93 (e98 4) v49n100 w101) fun w102 =>
topK P [(ResultVar.cell 4 93), (ResultVar.tmp 5)] R .ret (Env.put (Env.put e98 49 v49n100) 5 (Value.bool false)) w102) (topK P [(ResultVar.cell 4 93), (ResultVar.tmp 5)] R))) (topK P [(ResultVar.cell 4 93), (ResultVar.tmp 5)] R))) w82) w79) w76) w73) w70) w67) w64) w61) w57) w54) w51) w48) w44) w41) w38) w35) w32) (fun c22 w23 => R (.panicked c22) w23)) (fun c9 w10 => R (.panicked c9) w10)
theorem F65ok {w : World} {R : Ending → World → Prop} {a0 : Value} {a1 : Value} (h : F65 a0 a1 w R) : Calls P 65 #[a0, a1] w R :=
  calls_of_ev bodies mixed (c := bodyOf Try.f65) (nt := 50) (rs := [(ResultVar.cell 4 93), (ResultVar.tmp 5)]) (args := [a0, a1]) (fn := Try.f65) (by kernel_rfl) (by kernel_rfl) (by kernel_rfl) (by kernel_rfl) (by kernel_rfl) (by simp)
    (eq_mp (show F65 a0 a1 w R = ev P C (bodyOf Try.f65) (argE [a0, a1]) w (topK P [(ResultVar.cell 4 93), (ResultVar.tmp 5)] R) by kernel_rfl) h)

/-! ### moiety/pin.reached -/
def F75 (a0 : Value) (w : World) (R : Ending → World → Prop) : Prop :=
callE P 34 #[a0] w (fun v5n3 w4 =>
condE v5n3 (fun (K5 : KT) =>
K5 .ret (Env.put (Env.put (Env.put (Env.put (Env.put (argE [a0]) 2 (Value.int IntKind.i64 0)) 4 a0) 5 v5n3) 3 v5n3) 2 (Value.int IntKind.i64 14)) w4) (fun (K5 : KT) =>
callE P 36 #[a0] w4 (fun v8n8 w9 =>
bindV (pBin P BinOp.lss 3 true v8n8 (Value.int IntKind.i64 2) w9) fun v9n10 w11 =>
condE v9n10 (fun (K12 : KT) =>
K12 .ret (Env.put (Env.put (Env.put (Env.put (Env.put (Env.put (Env.put (Env.put (Env.put (argE [a0]) 2 (Value.int IntKind.i64 0)) 4 a0) 5 v5n3) 3 v5n3) 7 a0) 8 v8n8) 9 v9n10) 6 v9n10) 2 (Value.int IntKind.i64 1)) w11) (fun (K12 : KT) =>
K12 .normal (Env.put (Env.put (Env.put (Env.put (Env.put (Env.put (Env.put (Env.put (argE [a0]) 2 (Value.int IntKind.i64 0)) 4 a0) 5 v5n3) 3 v5n3) 7 a0) 8 v8n8) 9 v9n10) 6 v9n10) w11) K5) (fun c6 w7 => K5 (.panic c6) (Env.put (Env.put (Env.put (Env.put (Env.put (argE [a0]) 2 (Value.int IntKind.i64 0)) 4 a0) 5 v5n3) 3 v5n3) 7 a0) w7)) (blockK 0 (thenK (fun e13 w14 =>
R (.returned (Value.int IntKind.i64 0)) w14) (topK P [(ResultVar.tmp 2)] R)))) (fun c1 w2 => R (.panicked c1) w2)
theorem F75ok {w : World} {R : Ending → World → Prop} {a0 : Value} (h : F75 a0 w R) : Calls P 75 #[a0] w R :=
  calls_of_ev bodies mixed (c := bodyOf Try.f75) (nt := 10) (rs := [(ResultVar.tmp 2)]) (args := [a0]) (fn := Try.f75) (by kernel_rfl) (by kernel_rfl) (by kernel_rfl) (by kernel_rfl) (by kernel_rfl) (by simp)
    (eq_mp (show F75 a0 w R = ev P C (bodyOf Try.f75) (argE [a0]) w (topK P [(ResultVar.tmp 2)] R) by kernel_rfl) h)

/-! ### moiety/pin.written -/
def F76B0 (e : Env) (w : World) (K : KT) : Prop :=
bindV (pBin P BinOp.lss 3 false (e 20) (e 19) w) fun v21n33 w34 =>
condE v21n33 (fun (K35 : KT) =>
K35 .normal (Env.put e 21 v21n33) w34) (fun (K35 : KT) =>
K35 (.exit 0) (Env.put e 21 v21n33) w34) (thenK (fun e36 w37 =>
bindV (pIndexAddr P 43 (e36 18) (e36 20) w37) fun v22n38 w39 =>
bindV (pLoad P 3 v22n38 w39) fun v23n40 w41 =>
bindV (pConv P 3 132 v23n40 w41) fun v25n42 w43 =>
callE P 80 #[(e36 3), v25n42] w43 (fun v26n46 w47 =>
bindV (pBin P BinOp.add 3 true (e36 20) (Value.int IntKind.i64 1) w47) fun v27n48 w49 =>
K .normal (Env.put (Env.put (Env.put (Env.put (Env.put (Env.put (Env.put (Env.put e36 22 v22n38) 23 v23n40) 5 v23n40) 24 v23n40) 25 v25n42) 26 v26n46) 27 v27n48) 20 v27n48) w49) (fun c44 w45 => K (.panic c44) (Env.put (Env.put (Env.put (Env.put (Env.put e36 22 v22n38) 23 v23n40) 5 v23n40) 24 v23n40) 25 v25n42) w45)) K)
def F76 (a0 : Value) (w : World) (R : Ending → World → Prop) : Prop :=
bindV (pBox P 87 a0 w) fun v1n1 w2 =>
bindV (pAlloc P 137 w2) fun v3n3 w4 =>
bindV (pFieldAddr P 87 v1n1 0 w4) fun v6n5 w6 =>
bindV (pLoad P 3 v6n5 w6) fun v7n7 w8 =>
bindV (pFieldAddr P 87 v1n1 1 w8) fun v8n9 w10 =>
bindV (pLoad P 3 v8n9 w10) fun v9n11 w12 =>
bindV (pFieldAddr P 87 v1n1 2 w12) fun v10n13 w14 =>
bindV (pLoad P 3 v10n13 w14) fun v11n15 w16 =>
bindV (pFieldAddr P 87 v1n1 3 w16) fun v12n17 w18 =>
bindV (pLoad P 3 v12n17 w18) fun v13n19 w20 =>
bindV (pFieldAddr P 87 v1n1 4 w20) fun v14n21 w22 =>
bindV (pLoad P 3 v14n21 w22) fun v15n23 w24 =>
bindV (pFieldAddr P 87 v1n1 5 w24) fun v16n25 w26 =>
bindV (pLoad P 3 v16n25 w26) fun v17n27 w28 =>
bindV (pBuildSlice P 43 6 [(0, v7n7), (1, v9n11), (2, v11n15), (3, v13n19), (4, v15n23), (5, v17n27)] w28) fun v18n29 w30 =>
bindV (pBuiltin P Builtin.len #[43] 3 [v18n29] w30) fun v19n31 w32 =>
loopE F76B0 (Env.put (Env.put (Env.put (Env.put (Env.put (Env.put (Env.put (Env.put (Env.put (Env.put (Env.put (Env.put (Env.put (Env.put (Env.put (Env.put (Env.put (Env.put (argE [a0]) 1 v1n1) 2 (Value.slice none 0 0)) 3 v3n3) 6 v6n5) 7 v7n7) 8 v8n9) 9 v9n11) 10 v10n13) 11 v11n15) 12 v12n17) 13 v13n19) 14 v14n21) 15 v15n23) 16 v16n25) 17 v17n27) 18 v18n29) 19 v19n31) 20 (Value.int IntKind.i64 0)) w32 (blockK 0 (thenK (fun e50 w51 =>
callE P 81 #[(e50 3)] w51 (fun v28n54 w55 =>
R (.returned v28n54) w55) (fun c52 w53 => R (.panicked c52) w53)) (topK P [(ResultVar.tmp 2)] R)))
theorem F76ok {w : World} {R : Ending → World → Prop} {a0 : Value} (h : F76 a0 w R) : Calls P 76 #[a0] w R :=
  calls_of_ev bodies mixed (c := bodyOf Try.f76) (nt := 29) (rs := [(ResultVar.tmp 2)]) (args := [a0]) (fn := Try.f76) (by kernel_rfl) (by kernel_rfl) (by kernel_rfl) (by kernel_rfl) (by kernel_rfl) (by simp)
    (eq_mp (show F76 a0 w R = ev P C (bodyOf Try.f76) (argE [a0]) w (topK P [(ResultVar.tmp 2)] R) by kernel_rfl) h)

/-! ### moiety/pin.read -/
def F77B0 (e : Env) (w : World) (K : KT) : Prop :=
bindV (pBin P BinOp.lss 3 false (e 21) (e 20) w) fun v22n30 w31 =>
condE v22n30 (fun (K32 : KT) =>
K32 .normal (Env.put e 22 v22n30) w31) (fun (K32 : KT) =>
K32 (.exit 0) (Env.put e 22 v22n30) w31) (thenK (fun e33 w34 =>
bindV (pIndexAddr P 140 (e33 19) (e33 21) w34) fun v24n35 w36 =>
bindV (pLoad P 147 v24n35 w36) fun v25n37 w38 =>
bindV (pAlloc P 147 w38) fun v8n39 w40 =>
bindU (pStore P 147 v8n39 v25n37 w40) fun w41 =>
letK (blockK 1 (thenK (fun e43 w44 =>
bindV (pBin P BinOp.add 3 true (e43 21) (Value.int IntKind.i64 1) w44) fun v35n45 w46 =>
K .normal (Env.put (Env.put e43 35 v35n45) 21 v35n45) w46) K)) fun (K42 : KT) =>
bindV (pFieldAddr P 147 v8n39 1 w41) fun v26n47 w48 =>
bindV (pLoad P 132 v26n47 w48) fun v27n49 w50 =>
bindV (pBin P BinOp.gtr 132 true v27n49 (Value.int IntKind.u64 1099511627776) w50) fun v28n51 w52 =>
condE v28n51 (fun (K53 : KT) =>
bindV (pBuild P 87 [] w52) fun v29n54 w55 =>
bindU (pStore P 87 (e33 2) v29n54 w55) fun w56 =>
K53 .ret (Env.put (Env.put (Env.put (Env.put (Env.put (Env.put (Env.put (Env.put (Env.put (Env.put e33 23 (e33 21)) 24 v24n35) 25 v25n37) 8 v8n39) 7 (e33 21)) 26 v26n47) 27 v27n49) 28 v28n51) 29 v29n54) 3 (Value.bool false)) w56) (fun (K53 : KT) =>
K53 .normal (Env.put (Env.put (Env.put (Env.put (Env.put (Env.put (Env.put (Env.put e33 23 (e33 21)) 24 v24n35) 25 v25n37) 8 v8n39) 7 (e33 21)) 26 v26n47) 27 v27n49) 28 v28n51) w52) (thenK (fun e57 w58 =>
bindV (pFieldAddr P 147 (e57 8) 1 w58) fun v31n59 w60 =>
bindV (pLoad P 132 v31n59 w60) fun v32n61 w62 =>
bindV (pConv P 132 3 v32n61 w62) fun v33n63 w64 =>
bindV (pIndexAddr P 92 (e57 6) (e57 7) w64) fun v34n65 w66 =>
bindU (pStore P 3 v34n65 v33n63 w66) fun w67 =>
K42 .normal (Env.put (Env.put (Env.put (Env.put (Env.put e57 30 (e57 7)) 31 v31n59) 32 v32n61) 33 v33n63) 34 v34n65) w67) K42)) K)
def F77 (a0 : Value) (w : World) (R : Ending → World → Prop) : Prop :=
bindV (pAlloc P 87 w) fun v2n1 w2 =>
callE P 82 #[a0, (Value.string { data := #[117, 117, 117, 117, 117, 117] }), (Value.int IntKind.i64 0)] w2 (fun v12n5 w6 =>
bindV (pExtract P v12n5 0 w6) fun v13n7 w8 =>
bindV (pExtract P v12n5 1 w8) fun v14n9 w10 =>
bindV (pAlloc P 142 w10) fun v5n11 w12 =>
bindU (pStore P 142 v5n11 v14n9 w12) fun w13 =>
bindV (pFieldAddr P 142 v5n11 0 w13) fun v15n14 w15 =>
bindV (pLoad P 26 v15n14 w15) fun v16n16 w17 =>
bindV (pBin P BinOp.neq 26 true v16n16 (Value.int IntKind.i64 0) w17) fun v17n18 w19 =>
condE v17n18 (fun (K20 : KT) =>
bindV (pBuild P 87 [] w19) fun v18n21 w22 =>
bindU (pStore P 87 v2n1 v18n21 w22) fun w23 =>
K20 .ret (Env.put (Env.put (Env.put (Env.put (Env.put (Env.put (Env.put (Env.put (Env.put (Env.put (Env.put (Env.put (Env.put (Env.put (argE [a0]) 2 v2n1) 3 (Value.bool false)) 11 a0) 12 v12n5) 10 v12n5) 13 v13n7) 14 v14n9) 5 v5n11) 4 v13n7) 15 v15n14) 16 v16n16) 17 v17n18) 18 v18n21) 3 (Value.bool false)) w23) (fun (K20 : KT) =>
K20 .normal (Env.put (Env.put (Env.put (Env.put (Env.put (Env.put (Env.put (Env.put (Env.put (Env.put (Env.put (Env.put (argE [a0]) 2 v2n1) 3 (Value.bool false)) 11 a0) 12 v12n5) 10 v12n5) 13 v13n7) 14 v14n9) 5 v5n11) 4 v13n7) 15 v15n14) 16 v16n16) 17 v17n18) w19) (thenK (fun e24 w25 =>
bindV (pAlloc P 92 w25) fun v6n26 w27 =>
bindV (pBuiltin P Builtin.len #[140] 3 [(e24 4)] w27) fun v20n28 w29 =>
loopE F77B0 (Env.put (Env.put (Env.put (Env.put e24 6 v6n26) 19 (e24 4)) 20 v20n28) 21 (Value.int IntKind.i64 0)) w29 (blockK 0 (thenK (fun e68 w69 =>
bindV (pIndexAddr P 92 (e68 6) (Value.int IntKind.i64 0) w69) fun v36n70 w71 =>
bindV (pLoad P 3 v36n70 w71) fun v37n72 w73 =>
bindV (pIndexAddr P 92 (e68 6) (Value.int IntKind.i64 1) w73) fun v38n74 w75 =>
bindV (pLoad P 3 v38n74 w75) fun v39n76 w77 =>
bindV (pIndexAddr P 92 (e68 6) (Value.int IntKind.i64 2) w77) fun v40n78 w79 =>
bindV (pLoad P 3 v40n78 w79) fun v41n80 w81 =>
bindV (pIndexAddr P 92 (e68 6) (Value.int IntKind.i64 3) w81) fun v42n82 w83 =>
bindV (pLoad P 3 v42n82 w83) fun v43n84 w85 =>
bindV (pIndexAddr P 92 (e68 6) (Value.int IntKind.i64 4) w85) fun v44n86 w87 =>
bindV (pLoad P 3 v44n86 w87) fun v45n88 w89 =>
bindV (pIndexAddr P 92 (e68 6) (Value.int IntKind.i64 5) w89) fun v46n90 w91 =>
bindV (pLoad P 3 v46n90 w91) fun v47n92 w93 =>
bindV (pBuild P 87 [(0, v37n72), (1, v39n76), (2, v41n80), (3, v43n84), (4, v45n88), (5, v47n92)] w93) fun v48n94 w95 =>
bindV (pAlloc P 87 w95) fun v9n96 w97 =>
bindU (pStore P 87 v9n96 v48n94 w97) fun w98 =>
takeE (fun w101 => pLoad P 87 v9n96 w101) (drew w98) fun v49n99 h100 =>
takeE (fun w104 => pLoad P 87 v9n96 w104) (drew w98) fun v50n102 h103 =>
callE P 58 #[v50n102] (drew w98) (fun v51n108 w109 =>
heldE [h100] w109 (takeE (fun w112 => pBin P BinOp.eql 26 true v51n108 (Value.int IntKind.i64 0) w112) w109 fun v52n110 h111 =>
bindU (pStore P 87 (e68 2) v49n99 w109) fun w114 =>
heldE [h111] w114 (topK P [(ResultVar.cell 2 87), (ResultVar.tmp 3)] R .ret (Env.put (Env.put (Env.put (Env.put (Env.put (Env.put (Env.put (Env.put (Env.put (Env.put (Env.put (Env.put (Env.put (Env.put (Env.put (Env.put (Env.put (Env.put (Env.put e68 36 v36n70) 37 v37n72) 38 v38n74) 39 v39n76) 40 v40n78) 41 v41n80) 42 v42n82) 43 v43n84) 44 v44n86) 45 v45n88) 46 v46n90) 47 v47n92) 48 v48n94) 9 v9n96) 49 v49n99) 50 v50n102) 51 v51n108) 52 v52n110) 3 v52n110) w114))) (fun c106 w107 => ∀ (e105 : Env), agreeOff [49, 50] (Env.put (Env.put (Env.put (Env.put (Env.put (Env.put (Env.put (Env.put (Env.put (Env.put (Env.put (Env.put (Env.put (Env.put (Env.put (Env.put e68 36 v36n70) 37 v37n72) 38 v38n74) 39 v39n76) 40 v40n78) 41 v41n80) 42 v42n82) 43 v43n84) 44 v44n86) 45 v45n88) 46 v46n90) 47 v47n92) 48 v48n94) 9 v9n96) 49 v49n99) 50 v50n102) e105 → R (.panicked c106) w107)) (topK P [(ResultVar.cell 2 87), (ResultVar.tmp 3)] R)))) (topK P [(ResultVar.cell 2 87), (ResultVar.tmp 3)] R))) (fun c3 w4 => R (.panicked c3) w4)
theorem F77ok {w : World} {R : Ending → World → Prop} {a0 : Value} (h : F77 a0 w R) : Calls P 77 #[a0] w R :=
  calls_of_ev bodies mixed (c := bodyOf Try.f77) (nt := 53) (rs := [(ResultVar.cell 2 87), (ResultVar.tmp 3)]) (args := [a0]) (fn := Try.f77) (by kernel_rfl) (by kernel_rfl) (by kernel_rfl) (by kernel_rfl) (by kernel_rfl) (by simp)
    (eq_mp (show F77 a0 w R = ev P C (bodyOf Try.f77) (argE [a0]) w (topK P [(ResultVar.cell 2 87), (ResultVar.tmp 3)] R) by kernel_rfl) h)

end Go.Proofs.Yticncfkpfpkfoaa
