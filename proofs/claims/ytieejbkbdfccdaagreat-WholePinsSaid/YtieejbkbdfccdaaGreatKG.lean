/- The functions' residual programs, printed by gen.py. -/
import Derived.Test.YtieejbkbdfccdaaGreatBaseD
set_option linter.unusedVariables false
set_option linter.unusedSimpArgs false
namespace Go.Proofs.YtieejbkbdfccdaaGreat
open Go Env
/-! ### moiety/moietylaw03.Big -/
def F17B0 (e : Env) (w : World) (K : KT) : Prop :=
bindV (pBin P BinOp.lss 3 false (e 18) (e 17) w) fun v33 w34 =>
condE v33 (fun (K35 : KT) =>
K35 .normal (put e 19 v33) w34) (fun (K35 : KT) =>
K35 (.exit 0) (put e 19 v33) w34) (thenK (fun e36 w37 =>
bindV (pIndexAddr P 59 (e36 16) (e36 18) w37) fun v38 w39 =>
bindV (pLoad P 105 v38 w39) fun v40 w41 =>
bindV (pAlloc P 105 w41) fun v42 w43 =>
bindU (pStore P 105 v42 v40 w43) fun w44 =>
bindV (pFieldAddr P 105 v42 1 w44) fun v45 w46 =>
bindV (pLoad P 9 v45 w46) fun v47 w48 =>
bindV (pBuiltin P Builtin.len #[9] 3 [v47] w48) fun v49 w50 =>
bindV (pBin P BinOp.gtr 3 true v49 (Value.int IntKind.i64 100) w50) fun v51 w52 =>
condE v51 (fun (K53 : KT) =>
K53 .ret (put (put (put (put (put (put (put (put e36 20 v38) 21 v40) 4 v42) 22 v45) 23 v47) 24 v49) 25 v51) 2 (Value.int IntKind.i64 1)) w52) (fun (K53 : KT) =>
K53 .normal (put (put (put (put (put (put (put e36 20 v38) 21 v40) 4 v42) 22 v45) 23 v47) 24 v49) 25 v51) w52) (blockK 1 (thenK (fun e54 w55 =>
bindV (pBin P BinOp.add 3 true (e54 18) (Value.int IntKind.i64 1) w55) fun v56 w57 =>
K .normal (put (put e54 26 v56) 18 v56) w57) K))) K)
def F17 (a0 : Value) (w : World) (R : Ending → World → Prop) : Prop :=
bindV (pBox P 61 a0 w) fun v1 w2 =>
bindV (pFieldAddr P 61 v1 7 w2) fun v3 w4 =>
bindV (pLoad P 59 v3 w4) fun v5 w6 =>
bindV (pBuiltin P Builtin.len #[59] 3 [v5] w6) fun v7 w8 =>
bindV (pBin P BinOp.gtr 3 true v7 (Value.int IntKind.i64 100) w8) fun v9 w10 =>
grdE v9 false (fun (k11 : Value → World → Prop) => bindV (pFieldAddr P 61 v1 6 w10) k11) (fun v12 w13 =>
grdE v9 false (fun (k14 : Value → World → Prop) => bindV (pLoad P 9 v12 w13) k14) (fun v15 w16 =>
grdE v9 false (fun (k17 : Value → World → Prop) => bindV (pBuiltin P Builtin.len #[9] 3 [v15] w16) k17) (fun v18 w19 =>
grdE v9 false (fun (k20 : Value → World → Prop) => bindV (pBin P BinOp.gtr 3 true v18 (Value.int IntKind.i64 1000) w19) k20) (fun v21 w22 =>
pickE v9 (Value.bool true) v21 fun v23 =>
condE v23 (fun (K24 : KT) =>
K24 .ret (put (put (put (put (put (put (put (put (put (put (put (put (put (argE [a0]) 1 v1) 2 (Value.int IntKind.i64 0)) 5 v3) 6 v5) 7 v7) 8 v9) 9 v9) 10 v12) 11 v15) 12 v18) 13 v21) 14 v23) 2 (Value.int IntKind.i64 1)) w22) (fun (K24 : KT) =>
K24 .normal (put (put (put (put (put (put (put (put (put (put (put (put (argE [a0]) 1 v1) 2 (Value.int IntKind.i64 0)) 5 v3) 6 v5) 7 v7) 8 v9) 9 v9) 10 v12) 11 v15) 12 v18) 13 v21) 14 v23) w22) (thenK (fun e25 w26 =>
bindV (pFieldAddr P 61 (e25 1) 7 w26) fun v27 w28 =>
bindV (pLoad P 59 v27 w28) fun v29 w30 =>
bindV (pBuiltin P Builtin.len #[59] 3 [v29] w30) fun v31 w32 =>
loopE F17B0 (put (put (put (put e25 15 v27) 16 v29) 17 v31) 18 (Value.int IntKind.i64 0)) w32 (blockK 0 (thenK (fun e58 w59 =>
R (.returned (Value.int IntKind.i64 0)) w59) (topK P [(ResultVar.tmp 2)] R)))) (topK P [(ResultVar.tmp 2)] R))) w19) w16) w13) w10
theorem F17ok {w : World} {R : Ending → World → Prop} {a0 : Value} (h : F17 a0 w R) : Calls P 17 #[a0] w R :=
  calls_of_ev bodies mixed (c := bodyOf Tryz.f17) (nt := 27) (rs := [(ResultVar.tmp 2)]) (args := [a0]) (fn := Tryz.f17) (by kernel_rfl) (by kernel_rfl) (by kernel_rfl) (by kernel_rfl) (by kernel_rfl) (by simp)
    (eq_mp (show F17 a0 w R = ev P C (bodyOf Tryz.f17) (argE [a0]) w (topK P [(ResultVar.tmp 2)] R) by kernel_rfl) h)
/-! ### moiety/moietyref03.Same -/
def F40B0 (e : Env) (w : World) (K : KT) : Prop :=
bindV (pFieldAddr P 61 (e 2) 7 w) fun v137 w138 =>
bindV (pLoad P 59 v137 w138) fun v139 w140 =>
bindV (pBuiltin P Builtin.len #[59] 3 [v139] w140) fun v141 w142 =>
bindV (pBin P BinOp.lss 3 false (e 5) v141 w142) fun v143 w144 =>
condE v143 (fun (K145 : KT) =>
K145 .normal (put (put (put (put (put e 61 (e 5)) 62 v137) 63 v139) 64 v141) 65 v143) w144) (fun (K145 : KT) =>
K145 (.exit 0) (put (put (put (put (put e 61 (e 5)) 62 v137) 63 v139) 64 v141) 65 v143) w144) (thenK (fun e146 w147 =>
takeE (fun w150 => pFieldAddr P 61 (e146 2) 7 w150) (drew w147) fun v148 h149 =>
takeE (fun w153 => pLoad P 59 v148 w153) (drew w147) fun v151 h152 =>
takeE (fun w156 => some ((e146 5), w156)) (drew w147) fun v154 h155 =>
takeE (fun w159 => pIndexAddr P 59 v151 v154 w159) (drew w147) fun v157 h158 =>
takeE (fun w162 => pFieldAddr P 105 v157 1 w162) (drew w147) fun v160 h161 =>
takeE (fun w165 => pLoad P 9 v160 w165) (drew w147) fun v163 h164 =>
takeE (fun w168 => pFieldAddr P 61 (e146 3) 7 w168) (drew w147) fun v166 h167 =>
takeE (fun w171 => pLoad P 59 v166 w171) (drew w147) fun v169 h170 =>
takeE (fun w174 => some ((e146 5), w174)) (drew w147) fun v172 h173 =>
takeE (fun w177 => pIndexAddr P 59 v169 v172 w177) (drew w147) fun v175 h176 =>
takeE (fun w180 => pFieldAddr P 105 v175 1 w180) (drew w147) fun v178 h179 =>
takeE (fun w183 => pLoad P 9 v178 w183) (drew w147) fun v181 h182 =>
takeE (fun w186 => pBin P BinOp.neq 9 false v163 v181 w186) (drew w147) fun v184 h185 =>
takeE (fun w189 => some (v184, w189)) (drew w147) fun v187 h188 =>
takeE (fun w192 => qGrd v187 false (fun w192 => pFieldAddr P 61 (e146 2) 7 w192) w192) (drew w147) fun v190 h191 =>
takeE (fun w195 => qGrd v187 false (fun w195 => pLoad P 59 v190 w195) w195) (drew w147) fun v193 h194 =>
takeE (fun w198 => qGrd v187 false (fun w198 => some ((e146 5), w198)) w198) (drew w147) fun v196 h197 =>
takeE (fun w201 => qGrd v187 false (fun w201 => pIndexAddr P 59 v193 v196 w201) w201) (drew w147) fun v199 h200 =>
takeE (fun w204 => qGrd v187 false (fun w204 => pFieldAddr P 105 v199 0 w204) w204) (drew w147) fun v202 h203 =>
takeE (fun w207 => qGrd v187 false (fun w207 => pLoad P 58 v202 w207) w207) (drew w147) fun v205 h206 =>
takeE (fun w210 => qGrd v187 false (fun w210 => pFieldAddr P 61 (e146 3) 7 w210) w210) (drew w147) fun v208 h209 =>
takeE (fun w213 => qGrd v187 false (fun w213 => pLoad P 59 v208 w213) w213) (drew w147) fun v211 h212 =>
takeE (fun w216 => qGrd v187 false (fun w216 => some ((e146 5), w216)) w216) (drew w147) fun v214 h215 =>
takeE (fun w219 => qGrd v187 false (fun w219 => pIndexAddr P 59 v211 v214 w219) w219) (drew w147) fun v217 h218 =>
takeE (fun w222 => qGrd v187 false (fun w222 => pFieldAddr P 105 v217 0 w222) w222) (drew w147) fun v220 h221 =>
takeE (fun w225 => qGrd v187 false (fun w225 => pLoad P 58 v220 w225) w225) (drew w147) fun v223 h224 =>
grdE v187 false (fun (k227 : Value → World → Prop) => callE P 66 #[v205, v223] (drew w147) k227 (fun c228 w229 => ∀ (e226 : Env), agreeOff [68, 69, 70, 71, 72, 73, 74, 75, 76, 77, 78, 79, 80, 81, 82, 83, 84, 85, 86, 87, 88, 89, 90, 91, 92, 93] (put (put (put (put (put (put (put (put (put (put (put (put (put (put (put (put (put (put (put (put (put (put (put (put (put (put e146 68 v148) 69 v151) 70 v154) 71 v157) 72 v160) 73 v163) 74 v166) 75 v169) 76 v172) 77 v175) 78 v178) 79 v181) 80 v184) 81 v187) 82 v190) 83 v193) 84 v196) 85 v199) 86 v202) 87 v205) 88 v208) 89 v211) 90 v214) 91 v217) 92 v220) 93 v223) e226 → K (.panic c228) e226 w229)) (fun v230 w231 =>
takeE (fun w234 => qGrd v187 false (fun w234 => pUn P UnOp.not v230 w234) w234) w231 fun v232 h233 =>
takeE (fun w237 => qPick v187 (Value.bool true) v232 w237) w231 fun v235 h236 =>
condE v235 (fun (K238 : KT) =>
K238 .ret (put (put (put (put (put (put (put (put (put (put (put (put (put (put (put (put (put (put (put (put (put (put (put (put (put (put (put (put (put (put e146 68 v148) 69 v151) 70 v154) 71 v157) 72 v160) 73 v163) 74 v166) 75 v169) 76 v172) 77 v175) 78 v178) 79 v181) 80 v184) 81 v187) 82 v190) 83 v193) 84 v196) 85 v199) 86 v202) 87 v205) 88 v208) 89 v211) 90 v214) 91 v217) 92 v220) 93 v223) 94 v230) 95 v232) 96 v235) 4 (Value.bool false)) w231) (fun (K238 : KT) =>
K238 .normal (put (put (put (put (put (put (put (put (put (put (put (put (put (put (put (put (put (put (put (put (put (put (put (put (put (put (put (put (put e146 68 v148) 69 v151) 70 v154) 71 v157) 72 v160) 73 v163) 74 v166) 75 v169) 76 v172) 77 v175) 78 v178) 79 v181) 80 v184) 81 v187) 82 v190) 83 v193) 84 v196) 85 v199) 86 v202) 87 v205) 88 v208) 89 v211) 90 v214) 91 v217) 92 v220) 93 v223) 94 v230) 95 v232) 96 v235) w231) (blockK 1 (thenK (fun e239 w240 =>
bindV (pBin P BinOp.add 3 true (e239 5) (Value.int IntKind.i64 1) w240) fun v241 w242 =>
K .normal (put (put (put e239 66 (e239 5)) 67 v241) 5 v241) w242) K))) (drew w147)) K)
def F40 (a0 : Value) (a1 : Value) (w : World) (R : Ending → World → Prop) : Prop :=
bindV (pBox P 61 a0 w) fun v1 w2 =>
bindV (pBox P 61 a1 w2) fun v3 w4 =>
bindV (pFieldAddr P 61 v1 0 w4) fun v5 w6 =>
bindV (pLoad P 3 v5 w6) fun v7 w8 =>
bindV (pFieldAddr P 61 v3 0 w8) fun v9 w10 =>
bindV (pLoad P 3 v9 w10) fun v11 w12 =>
bindV (pBin P BinOp.neq 3 false v7 v11 w12) fun v13 w14 =>
grdE v13 false (fun (k15 : Value → World → Prop) => bindV (pFieldAddr P 61 v1 1 w14) k15) (fun v16 w17 =>
grdE v13 false (fun (k18 : Value → World → Prop) => bindV (pLoad P 2 v16 w17) k18) (fun v19 w20 =>
grdE v13 false (fun (k21 : Value → World → Prop) => bindV (pFieldAddr P 61 v3 1 w20) k21) (fun v22 w23 =>
grdE v13 false (fun (k24 : Value → World → Prop) => bindV (pLoad P 2 v22 w23) k24) (fun v25 w26 =>
grdE v13 false (fun (k27 : Value → World → Prop) => bindV (pBin P BinOp.neq 2 false v19 v25 w26) k27) (fun v28 w29 =>
pickE v13 (Value.bool true) v28 fun v30 =>
grdE v30 false (fun (k31 : Value → World → Prop) => bindV (pFieldAddr P 61 v1 2 w29) k31) (fun v32 w33 =>
grdE v30 false (fun (k34 : Value → World → Prop) => bindV (pLoad P 2 v32 w33) k34) (fun v35 w36 =>
grdE v30 false (fun (k37 : Value → World → Prop) => bindV (pFieldAddr P 61 v3 2 w36) k37) (fun v38 w39 =>
grdE v30 false (fun (k40 : Value → World → Prop) => bindV (pLoad P 2 v38 w39) k40) (fun v41 w42 =>
grdE v30 false (fun (k43 : Value → World → Prop) => bindV (pBin P BinOp.neq 2 false v35 v41 w42) k43) (fun v44 w45 =>
pickE v30 (Value.bool true) v44 fun v46 =>
grdE v46 false (fun (k47 : Value → World → Prop) => bindV (pFieldAddr P 61 v1 3 w45) k47) (fun v48 w49 =>
grdE v46 false (fun (k50 : Value → World → Prop) => bindV (pLoad P 2 v48 w49) k50) (fun v51 w52 =>
grdE v46 false (fun (k53 : Value → World → Prop) => bindV (pFieldAddr P 61 v3 3 w52) k53) (fun v54 w55 =>
grdE v46 false (fun (k56 : Value → World → Prop) => bindV (pLoad P 2 v54 w55) k56) (fun v57 w58 =>
grdE v46 false (fun (k59 : Value → World → Prop) => bindV (pBin P BinOp.neq 2 false v51 v57 w58) k59) (fun v60 w61 =>
pickE v46 (Value.bool true) v60 fun v62 =>
grdE v62 false (fun (k63 : Value → World → Prop) => bindV (pFieldAddr P 61 v1 5 w61) k63) (fun v64 w65 =>
grdE v62 false (fun (k66 : Value → World → Prop) => bindV (pLoad P 3 v64 w65) k66) (fun v67 w68 =>
grdE v62 false (fun (k69 : Value → World → Prop) => bindV (pFieldAddr P 61 v3 5 w68) k69) (fun v70 w71 =>
grdE v62 false (fun (k72 : Value → World → Prop) => bindV (pLoad P 3 v70 w71) k72) (fun v73 w74 =>
grdE v62 false (fun (k75 : Value → World → Prop) => bindV (pBin P BinOp.neq 3 false v67 v73 w74) k75) (fun v76 w77 =>
pickE v62 (Value.bool true) v76 fun v78 =>
grdE v78 false (fun (k79 : Value → World → Prop) => bindV (pFieldAddr P 61 v1 6 w77) k79) (fun v80 w81 =>
grdE v78 false (fun (k82 : Value → World → Prop) => bindV (pLoad P 9 v80 w81) k82) (fun v83 w84 =>
grdE v78 false (fun (k85 : Value → World → Prop) => bindV (pFieldAddr P 61 v3 6 w84) k85) (fun v86 w87 =>
grdE v78 false (fun (k88 : Value → World → Prop) => bindV (pLoad P 9 v86 w87) k88) (fun v89 w90 =>
grdE v78 false (fun (k91 : Value → World → Prop) => bindV (pBin P BinOp.neq 9 false v83 v89 w90) k91) (fun v92 w93 =>
pickE v78 (Value.bool true) v92 fun v94 =>
condE v94 (fun (K95 : KT) =>
K95 .ret (put (put (put (put (put (put (put (put (put (put (put (put (put (put (put (put (put (put (put (put (put (put (put (put (put (put (put (put (put (put (put (put (put (put (put (put (put (put (put (put (put (put (put (put (argE [a0, a1]) 2 v1) 3 v3) 4 (Value.bool false)) 6 v5) 7 v7) 8 v9) 9 v11) 10 v13) 11 v13) 12 v16) 13 v19) 14 v22) 15 v25) 16 v28) 17 v30) 18 v30) 19 v32) 20 v35) 21 v38) 22 v41) 23 v44) 24 v46) 25 v46) 26 v48) 27 v51) 28 v54) 29 v57) 30 v60) 31 v62) 32 v62) 33 v64) 34 v67) 35 v70) 36 v73) 37 v76) 38 v78) 39 v78) 40 v80) 41 v83) 42 v86) 43 v89) 44 v92) 45 v94) 4 (Value.bool false)) w93) (fun (K95 : KT) =>
K95 .normal (put (put (put (put (put (put (put (put (put (put (put (put (put (put (put (put (put (put (put (put (put (put (put (put (put (put (put (put (put (put (put (put (put (put (put (put (put (put (put (put (put (put (put (argE [a0, a1]) 2 v1) 3 v3) 4 (Value.bool false)) 6 v5) 7 v7) 8 v9) 9 v11) 10 v13) 11 v13) 12 v16) 13 v19) 14 v22) 15 v25) 16 v28) 17 v30) 18 v30) 19 v32) 20 v35) 21 v38) 22 v41) 23 v44) 24 v46) 25 v46) 26 v48) 27 v51) 28 v54) 29 v57) 30 v60) 31 v62) 32 v62) 33 v64) 34 v67) 35 v70) 36 v73) 37 v76) 38 v78) 39 v78) 40 v80) 41 v83) 42 v86) 43 v89) 44 v92) 45 v94) w93) (thenK (fun e96 w97 =>
bindV (pFieldAddr P 61 (e96 2) 4 w97) fun v98 w99 =>
bindV (pLoad P 58 v98 w99) fun v100 w101 =>
bindV (pFieldAddr P 61 (e96 3) 4 w101) fun v102 w103 =>
bindV (pLoad P 58 v102 w103) fun v104 w105 =>
callE P 66 #[v100, v104] w105 (fun v108 w109 =>
bindV (pUn P UnOp.not v108 w109) fun v110 w111 =>
grdE v110 false (fun (k112 : Value → World → Prop) => bindV (pFieldAddr P 61 (e96 2) 7 w111) k112) (fun v113 w114 =>
grdE v110 false (fun (k115 : Value → World → Prop) => bindV (pLoad P 59 v113 w114) k115) (fun v116 w117 =>
grdE v110 false (fun (k118 : Value → World → Prop) => bindV (pBuiltin P Builtin.len #[59] 3 [v116] w117) k118) (fun v119 w120 =>
grdE v110 false (fun (k121 : Value → World → Prop) => bindV (pFieldAddr P 61 (e96 3) 7 w120) k121) (fun v122 w123 =>
grdE v110 false (fun (k124 : Value → World → Prop) => bindV (pLoad P 59 v122 w123) k124) (fun v125 w126 =>
grdE v110 false (fun (k127 : Value → World → Prop) => bindV (pBuiltin P Builtin.len #[59] 3 [v125] w126) k127) (fun v128 w129 =>
grdE v110 false (fun (k130 : Value → World → Prop) => bindV (pBin P BinOp.neq 3 false v119 v128 w129) k130) (fun v131 w132 =>
pickE v110 (Value.bool true) v131 fun v133 =>
condE v133 (fun (K134 : KT) =>
K134 .ret (put (put (put (put (put (put (put (put (put (put (put (put (put (put (put (put e96 46 v98) 47 v100) 48 v102) 49 v104) 50 v108) 51 v110) 52 v110) 53 v113) 54 v116) 55 v119) 56 v122) 57 v125) 58 v128) 59 v131) 60 v133) 4 (Value.bool false)) w132) (fun (K134 : KT) =>
K134 .normal (put (put (put (put (put (put (put (put (put (put (put (put (put (put (put e96 46 v98) 47 v100) 48 v102) 49 v104) 50 v108) 51 v110) 52 v110) 53 v113) 54 v116) 55 v119) 56 v122) 57 v125) 58 v128) 59 v131) 60 v133) w132) (thenK (fun e135 w136 =>
loopE F40B0 (put e135 5 (Value.int IntKind.i64 0)) w136 (blockK 0 (thenK (fun e243 w244 =>
R (.returned (Value.bool true)) w244) (topK P [(ResultVar.tmp 4)] R)))) (topK P [(ResultVar.tmp 4)] R))) w129) w126) w123) w120) w117) w114) w111) (fun c106 w107 => R (.panicked c106) w107)) (topK P [(ResultVar.tmp 4)] R))) w90) w87) w84) w81) w77) w74) w71) w68) w65) w61) w58) w55) w52) w49) w45) w42) w39) w36) w33) w29) w26) w23) w20) w17) w14
theorem F40ok {w : World} {R : Ending → World → Prop} {a0 : Value} {a1 : Value} (h : F40 a0 a1 w R) : Calls P 40 #[a0, a1] w R :=
  calls_of_ev bodies mixed (c := bodyOf Tryz.f40) (nt := 97) (rs := [(ResultVar.tmp 4)]) (args := [a0, a1]) (fn := Tryz.f40) (by kernel_rfl) (by kernel_rfl) (by kernel_rfl) (by kernel_rfl) (by kernel_rfl) (by simp)
    (eq_mp (show F40 a0 a1 w R = ev P C (bodyOf Tryz.f40) (argE [a0, a1]) w (topK P [(ResultVar.tmp 4)] R) by kernel_rfl) h)
/-! ### moiety/rec.Check -/
def F41 (a0 : Value) (w : World) (R : Ending → World → Prop) : Prop :=
bindV (pBox P 61 a0 w) fun v1 w2 =>
bindV (pFieldAddr P 61 v1 0 w2) fun v3 w4 =>
bindV (pLoad P 3 v3 w4) fun v5 w6 =>
callE P 67 #[v5] w6 (fun v9 w10 =>
bindV (pAlloc P 144 w10) fun v11 w12 =>
bindU (pStore P 144 v11 v9 w12) fun w13 =>
bindV (pFieldAddr P 61 v1 0 w13) fun v14 w15 =>
bindV (pLoad P 3 v14 w15) fun v16 w17 =>
bindV (pBin P BinOp.leq 3 true v16 (Value.int IntKind.i64 0) w17) fun v18 w19 =>
grdE v18 false (fun (k20 : Value → World → Prop) => bindV (pFieldAddr P 61 v1 0 w19) k20) (fun v21 w22 =>
grdE v18 false (fun (k23 : Value → World → Prop) => bindV (pLoad P 3 v21 w22) k23) (fun v24 w25 =>
grdE v18 false (fun (k26 : Value → World → Prop) => bindV (pBin P BinOp.geq 3 true v24 (Value.int IntKind.i64 10) w25) k26) (fun v27 w28 =>
pickE v18 (Value.bool true) v27 fun v29 =>
condE v29 (fun (K30 : KT) =>
K30 .ret (put (put (put (put (put (put (put (put (put (put (put (put (put (put (put (put (argE [a0]) 1 v1) 2 (Value.int IntKind.i64 0)) 4 v3) 5 v5) 6 v9) 3 v11) 8 v14) 9 v16) 10 v18) 11 v18) 12 v21) 13 v24) 14 v27) 15 v29) 7 v29) 2 (Value.int IntKind.i64 5)) w28) (fun (K30 : KT) =>
bindV (pLoad P 61 v1 w28) fun v31 w32 =>
bindV (pLoad P 144 v11 w32) fun v33 w34 =>
callE P 68 #[v31, v33] w34 (fun v37 w38 =>
bindV (pUn P UnOp.not v37 w38) fun v39 w40 =>
condE v39 (fun (K41 : KT) =>
K41 .ret (put (put (put (put (put (put (put (put (put (put (put (put (put (put (put (put (put (put (put (put (put (argE [a0]) 1 v1) 2 (Value.int IntKind.i64 0)) 4 v3) 5 v5) 6 v9) 3 v11) 8 v14) 9 v16) 10 v18) 11 v18) 12 v21) 13 v24) 14 v27) 15 v29) 7 v29) 17 v31) 18 v33) 19 v37) 20 v39) 16 v39) 2 (Value.int IntKind.i64 4)) w40) (fun (K41 : KT) =>
bindV (pFieldAddr P 61 v1 6 w40) fun v42 w43 =>
bindV (pLoad P 9 v42 w43) fun v44 w45 =>
bindV (pBuiltin P Builtin.len #[9] 3 [v44] w45) fun v46 w47 =>
bindV (pBin P BinOp.gtr 3 true v46 (Value.int IntKind.i64 64) w47) fun v48 w49 =>
condE v48 (fun (K50 : KT) =>
K50 .ret (put (put (put (put (put (put (put (put (put (put (put (put (put (put (put (put (put (put (put (put (put (put (put (put (put (put (argE [a0]) 1 v1) 2 (Value.int IntKind.i64 0)) 4 v3) 5 v5) 6 v9) 3 v11) 8 v14) 9 v16) 10 v18) 11 v18) 12 v21) 13 v24) 14 v27) 15 v29) 7 v29) 17 v31) 18 v33) 19 v37) 20 v39) 16 v39) 22 v42) 23 v44) 24 v46) 25 v48) 21 v48) 2 (Value.int IntKind.i64 3)) w49) (fun (K50 : KT) =>
bindV (pFieldAddr P 144 v11 2 w49) fun v51 w52 =>
bindV (pLoad P 4 v51 w52) fun v53 w54 =>
grdE v53 true (fun (k55 : Value → World → Prop) => bindV (pFieldAddr P 61 v1 2 w54) k55) (fun v56 w57 =>
grdE v53 true (fun (k58 : Value → World → Prop) => bindV (pLoad P 2 v56 w57) k58) (fun v59 w60 =>
grdE v53 true (fun (k61 : Value → World → Prop) => bindV (pBin P BinOp.lss 2 true v59 (Value.int IntKind.i64 (-2305843009213693952)) w60) k61) (fun v62 w63 =>
grdE v53 true (fun (k64 : Value → World → Prop) => k64 v62 w63) (fun v65 w66 =>
grdE v65 false (fun (k67 : Value → World → Prop) => bindV (pFieldAddr P 61 v1 3 w66) k67) (fun v68 w69 =>
grdE v65 false (fun (k70 : Value → World → Prop) => bindV (pLoad P 2 v68 w69) k70) (fun v71 w72 =>
grdE v65 false (fun (k73 : Value → World → Prop) => bindV (pBin P BinOp.gtr 2 true v71 (Value.int IntKind.i64 2305843009213693952) w72) k73) (fun v74 w75 =>
grdE v53 true (fun (k76 : Value → World → Prop) => pickE v65 (Value.bool true) v74 fun v77 =>
k76 v77 w75) (fun v78 w79 =>
grdE v53 true (fun (k80 : Value → World → Prop) => k80 v78 w79) (fun v81 w82 =>
grdE v81 false (fun (k83 : Value → World → Prop) => bindV (pFieldAddr P 61 v1 1 w82) k83) (fun v84 w85 =>
grdE v81 false (fun (k86 : Value → World → Prop) => bindV (pLoad P 2 v84 w85) k86) (fun v87 w88 =>
grdE v81 false (fun (k89 : Value → World → Prop) => bindV (pFieldAddr P 61 v1 2 w88) k89) (fun v90 w91 =>
grdE v81 false (fun (k92 : Value → World → Prop) => bindV (pLoad P 2 v90 w91) k92) (fun v93 w94 =>
grdE v81 false (fun (k95 : Value → World → Prop) => bindV (pBin P BinOp.lss 2 false v87 v93 w94) k95) (fun v96 w97 =>
grdE v53 true (fun (k98 : Value → World → Prop) => pickE v81 (Value.bool true) v96 fun v99 =>
k98 v99 w97) (fun v100 w101 =>
grdE v53 true (fun (k102 : Value → World → Prop) => k102 v100 w101) (fun v103 w104 =>
grdE v103 false (fun (k105 : Value → World → Prop) => bindV (pFieldAddr P 61 v1 1 w104) k105) (fun v106 w107 =>
grdE v103 false (fun (k108 : Value → World → Prop) => bindV (pLoad P 2 v106 w107) k108) (fun v109 w110 =>
grdE v103 false (fun (k111 : Value → World → Prop) => bindV (pFieldAddr P 61 v1 3 w110) k111) (fun v112 w113 =>
grdE v103 false (fun (k114 : Value → World → Prop) => bindV (pLoad P 2 v112 w113) k114) (fun v115 w116 =>
grdE v103 false (fun (k117 : Value → World → Prop) => bindV (pBin P BinOp.gtr 2 false v109 v115 w116) k117) (fun v118 w119 =>
grdE v53 true (fun (k120 : Value → World → Prop) => pickE v103 (Value.bool true) v118 fun v121 =>
k120 v121 w119) (fun v122 w123 =>
pickE v53 v122 (Value.bool false) fun v124 =>
condE v124 (fun (K125 : KT) =>
K125 .ret (put (put (put (put (put (put (put (put (put (put (put (put (put (put (put (put (put (put (put (put (put (put (put (put (put (put (put (put (put (put (put (put (put (put (put (put (put (put (put (put (put (put (put (put (put (put (put (put (put (put (put (put (put (argE [a0]) 1 v1) 2 (Value.int IntKind.i64 0)) 4 v3) 5 v5) 6 v9) 3 v11) 8 v14) 9 v16) 10 v18) 11 v18) 12 v21) 13 v24) 14 v27) 15 v29) 7 v29) 17 v31) 18 v33) 19 v37) 20 v39) 16 v39) 22 v42) 23 v44) 24 v46) 25 v48) 21 v48) 27 v51) 28 v53) 29 v53) 30 v56) 31 v59) 32 v62) 33 v65) 34 v68) 35 v71) 36 v74) 37 v78) 38 v81) 39 v84) 40 v87) 41 v90) 42 v93) 43 v96) 44 v100) 45 v103) 46 v106) 47 v109) 48 v112) 49 v115) 50 v118) 51 v122) 52 v124) 26 v124) 2 (Value.int IntKind.i64 1)) w123) (fun (K125 : KT) =>
bindV (pFieldAddr P 61 v1 4 w123) fun v126 w127 =>
bindV (pLoad P 58 v126 w127) fun v128 w129 =>
callE P 69 #[v128] w129 (fun v132 w133 =>
bindV (pUn P UnOp.not v132 w133) fun v134 w135 =>
condE v134 (fun (K136 : KT) =>
K136 .ret (put (put (put (put (put (put (put (put (put (put (put (put (put (put (put (put (put (put (put (put (put (put (put (put (put (put (put (put (put (put (put (put (put (put (put (put (put (put (put (put (put (put (put (put (put (put (put (put (put (put (put (put (put (put (put (put (put (put (argE [a0]) 1 v1) 2 (Value.int IntKind.i64 0)) 4 v3) 5 v5) 6 v9) 3 v11) 8 v14) 9 v16) 10 v18) 11 v18) 12 v21) 13 v24) 14 v27) 15 v29) 7 v29) 17 v31) 18 v33) 19 v37) 20 v39) 16 v39) 22 v42) 23 v44) 24 v46) 25 v48) 21 v48) 27 v51) 28 v53) 29 v53) 30 v56) 31 v59) 32 v62) 33 v65) 34 v68) 35 v71) 36 v74) 37 v78) 38 v81) 39 v84) 40 v87) 41 v90) 42 v93) 43 v96) 44 v100) 45 v103) 46 v106) 47 v109) 48 v112) 49 v115) 50 v118) 51 v122) 52 v124) 26 v124) 54 v126) 55 v128) 56 v132) 57 v134) 53 v134) 2 (Value.int IntKind.i64 4)) w135) (fun (K136 : KT) =>
bindV (pFieldAddr P 144 v11 4 w135) fun v137 w138 =>
bindV (pLoad P 4 v137 w138) fun v139 w140 =>
bindV (pUn P UnOp.not v139 w140) fun v141 w142 =>
condE v141 (fun (K143 : KT) =>
K143 .ret (put (put (put (put (put (put (put (put (put (put (put (put (put (put (put (put (put (put (put (put (put (put (put (put (put (put (put (put (put (put (put (put (put (put (put (put (put (put (put (put (put (put (put (put (put (put (put (put (put (put (put (put (put (put (put (put (put (put (put (put (put (put (argE [a0]) 1 v1) 2 (Value.int IntKind.i64 0)) 4 v3) 5 v5) 6 v9) 3 v11) 8 v14) 9 v16) 10 v18) 11 v18) 12 v21) 13 v24) 14 v27) 15 v29) 7 v29) 17 v31) 18 v33) 19 v37) 20 v39) 16 v39) 22 v42) 23 v44) 24 v46) 25 v48) 21 v48) 27 v51) 28 v53) 29 v53) 30 v56) 31 v59) 32 v62) 33 v65) 34 v68) 35 v71) 36 v74) 37 v78) 38 v81) 39 v84) 40 v87) 41 v90) 42 v93) 43 v96) 44 v100) 45 v103) 46 v106) 47 v109) 48 v112) 49 v115) 50 v118) 51 v122) 52 v124) 26 v124) 54 v126) 55 v128) 56 v132) 57 v134) 53 v134) 59 v137) 60 v139) 61 v141) 58 v141) 2 (Value.int IntKind.i64 0)) w142) (fun (K143 : KT) =>
bindV (pFieldAddr P 61 v1 5 w142) fun v144 w145 =>
bindV (pLoad P 3 v144 w145) fun v146 w147 =>
bindV (pBin P BinOp.lss 3 true v146 (Value.int IntKind.i64 1) w147) fun v148 w149 =>
grdE v148 false (fun (k150 : Value → World → Prop) => bindV (pFieldAddr P 61 v1 5 w149) k150) (fun v151 w152 =>
grdE v148 false (fun (k153 : Value → World → Prop) => bindV (pLoad P 3 v151 w152) k153) (fun v154 w155 =>
grdE v148 false (fun (k156 : Value → World → Prop) => bindV (pBin P BinOp.gtr 3 true v154 (Value.int IntKind.i64 32) w155) k156) (fun v157 w158 =>
pickE v148 (Value.bool true) v157 fun v159 =>
condE v159 (fun (K160 : KT) =>
K160 .ret (put (put (put (put (put (put (put (put (put (put (put (put (put (put (put (put (put (put (put (put (put (put (put (put (put (put (put (put (put (put (put (put (put (put (put (put (put (put (put (put (put (put (put (put (put (put (put (put (put (put (put (put (put (put (put (put (put (put (put (put (put (put (put (put (put (put (put (put (put (put (put (argE [a0]) 1 v1) 2 (Value.int IntKind.i64 0)) 4 v3) 5 v5) 6 v9) 3 v11) 8 v14) 9 v16) 10 v18) 11 v18) 12 v21) 13 v24) 14 v27) 15 v29) 7 v29) 17 v31) 18 v33) 19 v37) 20 v39) 16 v39) 22 v42) 23 v44) 24 v46) 25 v48) 21 v48) 27 v51) 28 v53) 29 v53) 30 v56) 31 v59) 32 v62) 33 v65) 34 v68) 35 v71) 36 v74) 37 v78) 38 v81) 39 v84) 40 v87) 41 v90) 42 v93) 43 v96) 44 v100) 45 v103) 46 v106) 47 v109) 48 v112) 49 v115) 50 v118) 51 v122) 52 v124) 26 v124) 54 v126) 55 v128) 56 v132) 57 v134) 53 v134) 59 v137) 60 v139) 61 v141) 58 v141) 63 v144) 64 v146) 65 v148) 66 v148) 67 v151) 68 v154) 69 v157) 70 v159) 62 v159) 2 (Value.int IntKind.i64 1)) w158) (fun (K160 : KT) =>
bindV (pFieldAddr P 61 v1 7 w158) fun v161 w162 =>
bindV (pLoad P 59 v161 w162) fun v163 w164 =>
bindV (pBuiltin P Builtin.len #[59] 3 [v163] w164) fun v165 w166 =>
bindV (pFieldAddr P 61 v1 5 w166) fun v167 w168 =>
bindV (pLoad P 3 v167 w168) fun v169 w170 =>
bindV (pBin P BinOp.gtr 3 false v165 v169 w170) fun v171 w172 =>
condE v171 (fun (K173 : KT) =>
K173 .ret (put (put (put (put (put (put (put (put (put (put (put (put (put (put (put (put (put (put (put (put (put (put (put (put (put (put (put (put (put (put (put (put (put (put (put (put (put (put (put (put (put (put (put (put (put (put (put (put (put (put (put (put (put (put (put (put (put (put (put (put (put (put (put (put (put (put (put (put (put (put (put (put (put (put (put (put (put (put (argE [a0]) 1 v1) 2 (Value.int IntKind.i64 0)) 4 v3) 5 v5) 6 v9) 3 v11) 8 v14) 9 v16) 10 v18) 11 v18) 12 v21) 13 v24) 14 v27) 15 v29) 7 v29) 17 v31) 18 v33) 19 v37) 20 v39) 16 v39) 22 v42) 23 v44) 24 v46) 25 v48) 21 v48) 27 v51) 28 v53) 29 v53) 30 v56) 31 v59) 32 v62) 33 v65) 34 v68) 35 v71) 36 v74) 37 v78) 38 v81) 39 v84) 40 v87) 41 v90) 42 v93) 43 v96) 44 v100) 45 v103) 46 v106) 47 v109) 48 v112) 49 v115) 50 v118) 51 v122) 52 v124) 26 v124) 54 v126) 55 v128) 56 v132) 57 v134) 53 v134) 59 v137) 60 v139) 61 v141) 58 v141) 63 v144) 64 v146) 65 v148) 66 v148) 67 v151) 68 v154) 69 v157) 70 v159) 62 v159) 72 v161) 73 v163) 74 v165) 75 v167) 76 v169) 77 v171) 71 v171) 2 (Value.int IntKind.i64 8)) w172) (fun (K173 : KT) =>
K173 .normal (put (put (put (put (put (put (put (put (put (put (put (put (put (put (put (put (put (put (put (put (put (put (put (put (put (put (put (put (put (put (put (put (put (put (put (put (put (put (put (put (put (put (put (put (put (put (put (put (put (put (put (put (put (put (put (put (put (put (put (put (put (put (put (put (put (put (put (put (put (put (put (put (put (put (put (put (put (argE [a0]) 1 v1) 2 (Value.int IntKind.i64 0)) 4 v3) 5 v5) 6 v9) 3 v11) 8 v14) 9 v16) 10 v18) 11 v18) 12 v21) 13 v24) 14 v27) 15 v29) 7 v29) 17 v31) 18 v33) 19 v37) 20 v39) 16 v39) 22 v42) 23 v44) 24 v46) 25 v48) 21 v48) 27 v51) 28 v53) 29 v53) 30 v56) 31 v59) 32 v62) 33 v65) 34 v68) 35 v71) 36 v74) 37 v78) 38 v81) 39 v84) 40 v87) 41 v90) 42 v93) 43 v96) 44 v100) 45 v103) 46 v106) 47 v109) 48 v112) 49 v115) 50 v118) 51 v122) 52 v124) 26 v124) 54 v126) 55 v128) 56 v132) 57 v134) 53 v134) 59 v137) 60 v139) 61 v141) 58 v141) 63 v144) 64 v146) 65 v148) 66 v148) 67 v151) 68 v154) 69 v157) 70 v159) 62 v159) 72 v161) 73 v163) 74 v165) 75 v167) 76 v169) 77 v171) 71 v171) w172) K160) K143) w155) w152) w149) K136) K125) (fun c130 w131 => K125 (.panic c130) (put (put (put (put (put (put (put (put (put (put (put (put (put (put (put (put (put (put (put (put (put (put (put (put (put (put (put (put (put (put (put (put (put (put (put (put (put (put (put (put (put (put (put (put (put (put (put (put (put (put (put (put (put (put (argE [a0]) 1 v1) 2 (Value.int IntKind.i64 0)) 4 v3) 5 v5) 6 v9) 3 v11) 8 v14) 9 v16) 10 v18) 11 v18) 12 v21) 13 v24) 14 v27) 15 v29) 7 v29) 17 v31) 18 v33) 19 v37) 20 v39) 16 v39) 22 v42) 23 v44) 24 v46) 25 v48) 21 v48) 27 v51) 28 v53) 29 v53) 30 v56) 31 v59) 32 v62) 33 v65) 34 v68) 35 v71) 36 v74) 37 v78) 38 v81) 39 v84) 40 v87) 41 v90) 42 v93) 43 v96) 44 v100) 45 v103) 46 v106) 47 v109) 48 v112) 49 v115) 50 v118) 51 v122) 52 v124) 26 v124) 54 v126) 55 v128) w131)) K50) w119) w116) w113) w110) w107) w104) w101) w97) w94) w91) w88) w85) w82) w79) w75) w72) w69) w66) w63) w60) w57) w54) K41) K30) (fun c35 w36 => K30 (.panic c35) (put (put (put (put (put (put (put (put (put (put (put (put (put (put (put (put (put (argE [a0]) 1 v1) 2 (Value.int IntKind.i64 0)) 4 v3) 5 v5) 6 v9) 3 v11) 8 v14) 9 v16) 10 v18) 11 v18) 12 v21) 13 v24) 14 v27) 15 v29) 7 v29) 17 v31) 18 v33) w36)) (blockK 0 (thenK (fun e174 w175 =>
bindV (pFieldAddr P 61 (e174 1) 0 w175) fun v176 w177 =>
bindV (pLoad P 3 v176 w177) fun v178 w179 =>
bindV (pFieldAddr P 61 (e174 1) 7 w179) fun v180 w181 =>
bindV (pLoad P 59 v180 w181) fun v182 w183 =>
callE P 70 #[v178, v182] w183 (fun v186 w187 =>
R (.returned v186) w187) (fun c184 w185 => R (.panicked c184) w185)) (topK P [(ResultVar.tmp 2)] R)))) w25) w22) w19) (fun c7 w8 => R (.panicked c7) w8)
theorem F41ok {w : World} {R : Ending → World → Prop} {a0 : Value} (h : F41 a0 w R) : Calls P 41 #[a0] w R :=
  calls_of_ev bodies mixed (c := bodyOf Tryz.f41) (nt := 83) (rs := [(ResultVar.tmp 2)]) (args := [a0]) (fn := Tryz.f41) (by kernel_rfl) (by kernel_rfl) (by kernel_rfl) (by kernel_rfl) (by kernel_rfl) (by simp)
    (eq_mp (show F41 a0 w R = ev P C (bodyOf Tryz.f41) (argE [a0]) w (topK P [(ResultVar.tmp 2)] R) by kernel_rfl) h)
/-! ### moiety/rec.Put -/
def F49B0 (e : Env) (w : World) (K : KT) : Prop :=
bindV (pBin P BinOp.lss 3 false (e 60) (e 59) w) fun v129 w130 =>
condE v129 (fun (K131 : KT) =>
K131 .normal (put e 61 v129) w130) (fun (K131 : KT) =>
K131 (.exit 0) (put e 61 v129) w130) (thenK (fun e132 w133 =>
bindV (pIndexAddr P 59 (e132 58) (e132 60) w133) fun v134 w135 =>
bindV (pLoad P 105 v134 w135) fun v136 w137 =>
bindV (pAlloc P 105 w137) fun v138 w139 =>
bindU (pStore P 105 v138 v136 w139) fun w140 =>
letK (blockK 1 (thenK (fun e142 w143 =>
bindV (pBin P BinOp.add 3 true (e142 60) (Value.int IntKind.i64 1) w143) fun v144 w145 =>
K .normal (put (put e142 75 v144) 60 v144) w145) K)) fun (K141 : KT) =>
bindV (pFieldAddr P 61 (e132 3) 0 w140) fun v146 w147 =>
bindV (pLoad P 3 v146 w147) fun v148 w149 =>
bindV (pBin P BinOp.eql 3 true v148 (Value.int IntKind.i64 9) w149) fun v150 w151 =>
condE v150 (fun (K152 : KT) =>
bindV (pFieldAddr P 105 v138 0 w151) fun v153 w154 =>
bindV (pLoad P 58 v153 w154) fun v155 w156 =>
callE P 79 #[(e132 0), v155] w156 (fun v159 w160 =>
K152 .normal (put (put (put (put (put (put (put (put (put (put e132 62 v134) 63 v136) 6 v138) 64 v146) 65 v148) 66 v150) 67 (e132 0)) 68 v153) 69 v155) 70 v159) w160) (fun c157 w158 => K152 (.panic c157) (put (put (put (put (put (put (put (put (put e132 62 v134) 63 v136) 6 v138) 64 v146) 65 v148) 66 v150) 67 (e132 0)) 68 v153) 69 v155) w158)) (fun (K152 : KT) =>
K152 .normal (put (put (put (put (put (put e132 62 v134) 63 v136) 6 v138) 64 v146) 65 v148) 66 v150) w151) (thenK (fun e161 w162 =>
bindV (pFieldAddr P 105 (e161 6) 1 w162) fun v163 w164 =>
bindV (pLoad P 9 v163 w164) fun v165 w166 =>
callE P 48 #[(e161 0), v165] w166 (fun v169 w170 =>
K141 .normal (put (put (put (put e161 71 (e161 0)) 72 v163) 73 v165) 74 v169) w170) (fun c167 w168 => K141 (.panic c167) (put (put (put e161 71 (e161 0)) 72 v163) 73 v165) w168)) K141)) K)
def F49 (a0 : Value) (a1 : Value) (w : World) (R : Ending → World → Prop) : Prop :=
bindV (pBox P 61 a1 w) fun v1 w2 =>
bindV (pFieldAddr P 61 v1 0 w2) fun v3 w4 =>
bindV (pLoad P 3 v3 w4) fun v5 w6 =>
callE P 67 #[v5] w6 (fun v9 w10 =>
bindV (pAlloc P 144 w10) fun v11 w12 =>
bindU (pStore P 144 v11 v9 w12) fun w13 =>
bindV (pFieldAddr P 61 v1 0 w13) fun v14 w15 =>
bindV (pLoad P 3 v14 w15) fun v16 w17 =>
bindV (pConv P 3 127 v16 w17) fun v18 w19 =>
callE P 57 #[a0, v18] w19 (fun v22 w23 =>
bindV (pFieldAddr P 144 v11 0 w23) fun v24 w25 =>
bindV (pLoad P 4 v24 w25) fun v26 w27 =>
condE v26 (fun (K28 : KT) =>
bindV (pFieldAddr P 61 v1 6 w27) fun v29 w30 =>
bindV (pLoad P 9 v29 w30) fun v31 w32 =>
callE P 48 #[a0, v31] w32 (fun v35 w36 =>
K28 .normal (put (put (put (put (put (put (put (put (put (put (put (put (put (put (put (put (argE [a0, a1]) 3 v1) 7 v3) 8 v5) 9 v9) 4 v11) 10 a0) 11 v14) 12 v16) 13 v18) 14 v22) 15 v24) 16 v26) 17 a0) 18 v29) 19 v31) 20 v35) w36) (fun c33 w34 => K28 (.panic c33) (put (put (put (put (put (put (put (put (put (put (put (put (put (put (put (argE [a0, a1]) 3 v1) 7 v3) 8 v5) 9 v9) 4 v11) 10 a0) 11 v14) 12 v16) 13 v18) 14 v22) 15 v24) 16 v26) 17 a0) 18 v29) 19 v31) w34)) (fun (K28 : KT) =>
K28 .normal (put (put (put (put (put (put (put (put (put (put (put (put (argE [a0, a1]) 3 v1) 7 v3) 8 v5) 9 v9) 4 v11) 10 a0) 11 v14) 12 v16) 13 v18) 14 v22) 15 v24) 16 v26) w27) (thenK (fun e37 w38 =>
bindV (pFieldAddr P 144 (e37 4) 2 w38) fun v39 w40 =>
bindV (pLoad P 4 v39 w40) fun v41 w42 =>
condE v41 (fun (K43 : KT) =>
bindV (pFieldAddr P 61 (e37 3) 2 w42) fun v44 w45 =>
bindV (pLoad P 2 v44 w45) fun v46 w47 =>
callE P 78 #[(e37 0), v46] w47 (fun v50 w51 =>
bindV (pFieldAddr P 61 (e37 3) 3 w51) fun v52 w53 =>
bindV (pLoad P 2 v52 w53) fun v54 w55 =>
callE P 78 #[(e37 0), v54] w55 (fun v58 w59 =>
K43 .normal (put (put (put (put (put (put (put (put (put (put e37 21 v39) 22 v41) 23 (e37 0)) 24 v44) 25 v46) 26 v50) 27 (e37 0)) 28 v52) 29 v54) 30 v58) w59) (fun c56 w57 => K43 (.panic c56) (put (put (put (put (put (put (put (put (put e37 21 v39) 22 v41) 23 (e37 0)) 24 v44) 25 v46) 26 v50) 27 (e37 0)) 28 v52) 29 v54) w57)) (fun c48 w49 => K43 (.panic c48) (put (put (put (put (put e37 21 v39) 22 v41) 23 (e37 0)) 24 v44) 25 v46) w49)) (fun (K43 : KT) =>
K43 .normal (put (put e37 21 v39) 22 v41) w42) (thenK (fun e60 w61 =>
bindV (pFieldAddr P 144 (e60 4) 1 w61) fun v62 w63 =>
bindV (pLoad P 4 v62 w63) fun v64 w65 =>
condE v64 (fun (K66 : KT) =>
bindV (pFieldAddr P 61 (e60 3) 1 w65) fun v67 w68 =>
bindV (pLoad P 2 v67 w68) fun v69 w70 =>
callE P 78 #[(e60 0), v69] w70 (fun v73 w74 =>
K66 .normal (put (put (put (put (put (put e60 31 v62) 32 v64) 33 (e60 0)) 34 v67) 35 v69) 36 v73) w74) (fun c71 w72 => K66 (.panic c71) (put (put (put (put (put e60 31 v62) 32 v64) 33 (e60 0)) 34 v67) 35 v69) w72)) (fun (K66 : KT) =>
K66 .normal (put (put e60 31 v62) 32 v64) w65) (thenK (fun e75 w76 =>
bindV (pFieldAddr P 144 (e75 4) 3 w76) fun v77 w78 =>
bindV (pLoad P 4 v77 w78) fun v79 w80 =>
condE v79 (fun (K81 : KT) =>
bindV (pFieldAddr P 61 (e75 3) 4 w80) fun v82 w83 =>
bindV (pLoad P 58 v82 w83) fun v84 w85 =>
callE P 79 #[(e75 0), v84] w85 (fun v88 w89 =>
K81 .normal (put (put (put (put (put (put e75 37 v77) 38 v79) 39 (e75 0)) 40 v82) 41 v84) 42 v88) w89) (fun c86 w87 => K81 (.panic c86) (put (put (put (put (put e75 37 v77) 38 v79) 39 (e75 0)) 40 v82) 41 v84) w87)) (fun (K81 : KT) =>
K81 .normal (put (put e75 37 v77) 38 v79) w80) (thenK (fun e90 w91 =>
bindV (pFieldAddr P 144 (e90 4) 4 w91) fun v92 w93 =>
bindV (pLoad P 4 v92 w93) fun v94 w95 =>
bindV (pUn P UnOp.not v94 w95) fun v96 w97 =>
condE v96 (fun (K98 : KT) =>
K98 .ret (put (put (put e90 43 v92) 44 v94) 45 v96) w97) (fun (K98 : KT) =>
K98 .normal (put (put (put e90 43 v92) 44 v94) 45 v96) w97) (thenK (fun e99 w100 =>
bindV (pFieldAddr P 61 (e99 3) 5 w100) fun v101 w102 =>
bindV (pLoad P 3 v101 w102) fun v103 w104 =>
bindV (pConv P 3 127 v103 w104) fun v105 w106 =>
callE P 57 #[(e99 0), v105] w106 (fun v109 w110 =>
bindV (pFieldAddr P 61 (e99 3) 7 w110) fun v111 w112 =>
bindV (pLoad P 59 v111 w112) fun v113 w114 =>
bindV (pBuiltin P Builtin.len #[59] 3 [v113] w114) fun v115 w116 =>
bindV (pConv P 3 127 v115 w116) fun v117 w118 =>
callE P 57 #[(e99 0), v117] w118 (fun v121 w122 =>
bindV (pFieldAddr P 61 (e99 3) 7 w122) fun v123 w124 =>
bindV (pLoad P 59 v123 w124) fun v125 w126 =>
bindV (pBuiltin P Builtin.len #[59] 3 [v125] w126) fun v127 w128 =>
loopE F49B0 (put (put (put (put (put (put (put (put (put (put (put (put (put (put (put e99 46 (e99 0)) 47 v101) 48 v103) 49 v105) 50 v109) 51 (e99 0)) 52 v111) 53 v113) 54 v115) 55 v117) 56 v121) 57 v123) 58 v125) 59 v127) 60 (Value.int IntKind.i64 0)) w128 (blockK 0 (topK P [] R))) (fun c119 w120 => R (.panicked c119) w120)) (fun c107 w108 => R (.panicked c107) w108)) (topK P [] R))) (topK P [] R))) (topK P [] R))) (topK P [] R))) (topK P [] R))) (fun c20 w21 => R (.panicked c20) w21)) (fun c7 w8 => R (.panicked c7) w8)
theorem F49ok {w : World} {R : Ending → World → Prop} {a0 : Value} {a1 : Value} (h : F49 a0 a1 w R) : Calls P 49 #[a0, a1] w R :=
  calls_of_ev bodies mixed (c := bodyOf Tryz.f49) (nt := 76) (rs := []) (args := [a0, a1]) (fn := Tryz.f49) (by kernel_rfl) (by kernel_rfl) (by kernel_rfl) (by kernel_rfl) (by kernel_rfl) (by simp)
    (eq_mp (show F49 a0 a1 w R = ev P C (bodyOf Tryz.f49) (argE [a0, a1]) w (topK P [] R) by kernel_rfl) h)
/-! ### moiety/moietyref03.Check -/
def F45B0 (e : Env) (w : World) (K : KT) : Prop :=
bindV (pFieldAddr P 61 (e 1) 7 w) fun v213 w214 =>
bindV (pLoad P 59 v213 w214) fun v215 w216 =>
bindV (pBuiltin P Builtin.len #[59] 3 [v215] w216) fun v217 w218 =>
bindV (pBin P BinOp.lss 3 false (e 4) v217 w218) fun v219 w220 =>
condE v219 (fun (K221 : KT) =>
K221 .normal (put (put (put (put (put e 80 (e 4)) 81 v213) 82 v215) 83 v217) 84 v219) w220) (fun (K221 : KT) =>
K221 (.exit 0) (put (put (put (put (put e 80 (e 4)) 81 v213) 82 v215) 83 v217) 84 v219) w220) (thenK (fun e222 w223 =>
bindV (pFieldAddr P 61 (e222 1) 0 w223) fun v224 w225 =>
bindV (pLoad P 3 v224 w225) fun v226 w227 =>
bindV (pFieldAddr P 61 (e222 1) 7 w227) fun v228 w229 =>
bindV (pLoad P 59 v228 w229) fun v230 w231 =>
callE P 77 #[v226, v230, (e222 4)] w231 (fun v234 w235 =>
bindV (pBin P BinOp.neq 3 true v234 (Value.int IntKind.i64 0) w235) fun v236 w237 =>
condE v236 (fun (K238 : KT) =>
K238 .ret (put (put (put (put (put (put (put (put (put (put (put e222 87 v224) 88 v226) 89 v228) 90 v230) 91 (e222 4)) 92 v234) 5 v234) 93 v234) 94 v236) 95 v234) 2 v234) w237) (fun (K238 : KT) =>
K238 .normal (put (put (put (put (put (put (put (put (put e222 87 v224) 88 v226) 89 v228) 90 v230) 91 (e222 4)) 92 v234) 5 v234) 93 v234) 94 v236) w237) (blockK 1 (thenK (fun e239 w240 =>
bindV (pBin P BinOp.add 3 true (e239 4) (Value.int IntKind.i64 1) w240) fun v241 w242 =>
K .normal (put (put (put e239 85 (e239 4)) 86 v241) 4 v241) w242) K))) (fun c232 w233 => K (.panic c232) (put (put (put (put (put e222 87 v224) 88 v226) 89 v228) 90 v230) 91 (e222 4)) w233)) K)
def F45 (a0 : Value) (w : World) (R : Ending → World → Prop) : Prop :=
bindV (pBox P 61 a0 w) fun v1 w2 =>
bindV (pFieldAddr P 61 v1 0 w2) fun v3 w4 =>
bindV (pLoad P 3 v3 w4) fun v5 w6 =>
bindV (pBin P BinOp.lss 3 true v5 (Value.int IntKind.i64 1) w6) fun v7 w8 =>
grdE v7 false (fun (k9 : Value → World → Prop) => bindV (pFieldAddr P 61 v1 0 w8) k9) (fun v10 w11 =>
grdE v7 false (fun (k12 : Value → World → Prop) => bindV (pLoad P 3 v10 w11) k12) (fun v13 w14 =>
grdE v7 false (fun (k15 : Value → World → Prop) => bindV (pBin P BinOp.gtr 3 true v13 (Value.int IntKind.i64 9) w14) k15) (fun v16 w17 =>
pickE v7 (Value.bool true) v16 fun v18 =>
condE v18 (fun (K19 : KT) =>
K19 .ret (put (put (put (put (put (put (put (put (put (put (put (argE [a0]) 1 v1) 2 (Value.int IntKind.i64 0)) 6 v3) 7 v5) 8 v7) 9 v7) 10 v10) 11 v13) 12 v16) 13 v18) 2 (Value.int IntKind.i64 5)) w17) (fun (K19 : KT) =>
K19 .normal (put (put (put (put (put (put (put (put (put (put (argE [a0]) 1 v1) 2 (Value.int IntKind.i64 0)) 6 v3) 7 v5) 8 v7) 9 v7) 10 v10) 11 v13) 12 v16) 13 v18) w17) (thenK (fun e20 w21 =>
takeE (fun w24 => pLoad P 61 (e20 1) w24) (drew w21) fun v22 h23 =>
takeE (fun w27 => pFieldAddr P 61 (e20 1) 0 w27) (drew w21) fun v25 h26 =>
takeE (fun w30 => pLoad P 3 v25 w30) (drew w21) fun v28 h29 =>
callE P 75 #[v28] (drew w21) (fun v34 w35 =>
heldE [h23] w35 (callE P 74 #[v22, v34] w35 (fun v39 w40 =>
takeE (fun w43 => pUn P UnOp.not v39 w43) w40 fun v41 h42 =>
condE v41 (fun (K44 : KT) =>
K44 .ret (put (put (put (put (put (put (put e20 14 v22) 15 v25) 16 v28) 17 v34) 18 v39) 19 v41) 2 (Value.int IntKind.i64 4)) w40) (fun (K44 : KT) =>
K44 .normal (put (put (put (put (put (put e20 14 v22) 15 v25) 16 v28) 17 v34) 18 v39) 19 v41) w40) (thenK (fun e45 w46 =>
bindV (pFieldAddr P 61 (e45 1) 0 w46) fun v47 w48 =>
bindV (pLoad P 3 v47 w48) fun v49 w50 =>
bindV (pBin P BinOp.eql 3 true v49 (Value.int IntKind.i64 1) w50) fun v51 w52 =>
grdE v51 true (fun (k53 : Value → World → Prop) => bindV (pFieldAddr P 61 (e45 1) 6 w52) k53) (fun v54 w55 =>
grdE v51 true (fun (k56 : Value → World → Prop) => bindV (pLoad P 9 v54 w55) k56) (fun v57 w58 =>
grdE v51 true (fun (k59 : Value → World → Prop) => bindV (pBuiltin P Builtin.len #[9] 3 [v57] w58) k59) (fun v60 w61 =>
grdE v51 true (fun (k62 : Value → World → Prop) => bindV (pBin P BinOp.gtr 3 true v60 (Value.int IntKind.i64 64) w61) k62) (fun v63 w64 =>
pickE v51 v63 (Value.bool false) fun v65 =>
condE v65 (fun (K66 : KT) =>
K66 .ret (put (put (put (put (put (put (put (put (put (put e45 20 v47) 21 v49) 22 v51) 23 v51) 24 v54) 25 v57) 26 v60) 27 v63) 28 v65) 2 (Value.int IntKind.i64 3)) w64) (fun (K66 : KT) =>
K66 .normal (put (put (put (put (put (put (put (put (put e45 20 v47) 21 v49) 22 v51) 23 v51) 24 v54) 25 v57) 26 v60) 27 v63) 28 v65) w64) (thenK (fun e67 w68 =>
bindV (pFieldAddr P 61 (e67 1) 0 w68) fun v69 w70 =>
bindV (pLoad P 3 v69 w70) fun v71 w72 =>
bindV (pBin P BinOp.eql 3 true v71 (Value.int IntKind.i64 4) w72) fun v73 w74 =>
grdE v73 true (fun (k75 : Value → World → Prop) => bindV (pFieldAddr P 61 (e67 1) 2 w74) k75) (fun v76 w77 =>
grdE v73 true (fun (k78 : Value → World → Prop) => bindV (pLoad P 2 v76 w77) k78) (fun v79 w80 =>
grdE v73 true (fun (k81 : Value → World → Prop) => k81 (Value.int IntKind.i64 2305843009213693952) w80) (fun v82 w83 =>
grdE v73 true (fun (k84 : Value → World → Prop) => bindV (pUn P UnOp.neg v82 w83) k84) (fun v85 w86 =>
grdE v73 true (fun (k87 : Value → World → Prop) => bindV (pBin P BinOp.lss 2 false v79 v85 w86) k87) (fun v88 w89 =>
grdE v73 true (fun (k90 : Value → World → Prop) => k90 v88 w89) (fun v91 w92 =>
grdE v91 false (fun (k93 : Value → World → Prop) => bindV (pFieldAddr P 61 (e67 1) 3 w92) k93) (fun v94 w95 =>
grdE v91 false (fun (k96 : Value → World → Prop) => bindV (pLoad P 2 v94 w95) k96) (fun v97 w98 =>
grdE v91 false (fun (k99 : Value → World → Prop) => k99 (Value.int IntKind.i64 2305843009213693952) w98) (fun v100 w101 =>
grdE v91 false (fun (k102 : Value → World → Prop) => bindV (pBin P BinOp.gtr 2 false v97 v100 w101) k102) (fun v103 w104 =>
grdE v73 true (fun (k105 : Value → World → Prop) => pickE v91 (Value.bool true) v103 fun v106 =>
k105 v106 w104) (fun v107 w108 =>
grdE v73 true (fun (k109 : Value → World → Prop) => k109 v107 w108) (fun v110 w111 =>
grdE v110 false (fun (k112 : Value → World → Prop) => bindV (pFieldAddr P 61 (e67 1) 1 w111) k112) (fun v113 w114 =>
grdE v110 false (fun (k115 : Value → World → Prop) => bindV (pLoad P 2 v113 w114) k115) (fun v116 w117 =>
grdE v110 false (fun (k118 : Value → World → Prop) => bindV (pFieldAddr P 61 (e67 1) 2 w117) k118) (fun v119 w120 =>
grdE v110 false (fun (k121 : Value → World → Prop) => bindV (pLoad P 2 v119 w120) k121) (fun v122 w123 =>
grdE v110 false (fun (k124 : Value → World → Prop) => bindV (pBin P BinOp.lss 2 false v116 v122 w123) k124) (fun v125 w126 =>
grdE v73 true (fun (k127 : Value → World → Prop) => pickE v110 (Value.bool true) v125 fun v128 =>
k127 v128 w126) (fun v129 w130 =>
grdE v73 true (fun (k131 : Value → World → Prop) => k131 v129 w130) (fun v132 w133 =>
grdE v132 false (fun (k134 : Value → World → Prop) => bindV (pFieldAddr P 61 (e67 1) 1 w133) k134) (fun v135 w136 =>
grdE v132 false (fun (k137 : Value → World → Prop) => bindV (pLoad P 2 v135 w136) k137) (fun v138 w139 =>
grdE v132 false (fun (k140 : Value → World → Prop) => bindV (pFieldAddr P 61 (e67 1) 3 w139) k140) (fun v141 w142 =>
grdE v132 false (fun (k143 : Value → World → Prop) => bindV (pLoad P 2 v141 w142) k143) (fun v144 w145 =>
grdE v132 false (fun (k146 : Value → World → Prop) => bindV (pBin P BinOp.gtr 2 false v138 v144 w145) k146) (fun v147 w148 =>
grdE v73 true (fun (k149 : Value → World → Prop) => pickE v132 (Value.bool true) v147 fun v150 =>
k149 v150 w148) (fun v151 w152 =>
pickE v73 v151 (Value.bool false) fun v153 =>
condE v153 (fun (K154 : KT) =>
K154 .ret (put (put (put (put (put (put (put (put (put (put (put (put (put (put (put (put (put (put (put (put (put (put (put (put (put (put (put (put (put (put (put (put e67 3 (Value.int IntKind.i64 2305843009213693952)) 29 v69) 30 v71) 31 v73) 32 v73) 33 v76) 34 v79) 35 v82) 36 v85) 37 v88) 38 v91) 39 v94) 40 v97) 41 v100) 42 v103) 43 v107) 44 v110) 45 v113) 46 v116) 47 v119) 48 v122) 49 v125) 50 v129) 51 v132) 52 v135) 53 v138) 54 v141) 55 v144) 56 v147) 57 v151) 58 v153) 2 (Value.int IntKind.i64 1)) w152) (fun (K154 : KT) =>
K154 .normal (put (put (put (put (put (put (put (put (put (put (put (put (put (put (put (put (put (put (put (put (put (put (put (put (put (put (put (put (put (put (put e67 3 (Value.int IntKind.i64 2305843009213693952)) 29 v69) 30 v71) 31 v73) 32 v73) 33 v76) 34 v79) 35 v82) 36 v85) 37 v88) 38 v91) 39 v94) 40 v97) 41 v100) 42 v103) 43 v107) 44 v110) 45 v113) 46 v116) 47 v119) 48 v122) 49 v125) 50 v129) 51 v132) 52 v135) 53 v138) 54 v141) 55 v144) 56 v147) 57 v151) 58 v153) w152) (thenK (fun e155 w156 =>
bindV (pFieldAddr P 61 (e155 1) 4 w156) fun v157 w158 =>
bindV (pLoad P 58 v157 w158) fun v159 w160 =>
callE P 76 #[v159] w160 (fun v163 w164 =>
bindV (pUn P UnOp.not v163 w164) fun v165 w166 =>
condE v165 (fun (K167 : KT) =>
K167 .ret (put (put (put (put (put e155 59 v157) 60 v159) 61 v163) 62 v165) 2 (Value.int IntKind.i64 4)) w166) (fun (K167 : KT) =>
K167 .normal (put (put (put (put e155 59 v157) 60 v159) 61 v163) 62 v165) w166) (thenK (fun e168 w169 =>
bindV (pFieldAddr P 61 (e168 1) 0 w169) fun v170 w171 =>
bindV (pLoad P 3 v170 w171) fun v172 w173 =>
bindV (pBin P BinOp.lss 3 true v172 (Value.int IntKind.i64 8) w173) fun v174 w175 =>
condE v174 (fun (K176 : KT) =>
K176 .ret (put (put (put (put e168 63 v170) 64 v172) 65 v174) 2 (Value.int IntKind.i64 0)) w175) (fun (K176 : KT) =>
K176 .normal (put (put (put e168 63 v170) 64 v172) 65 v174) w175) (thenK (fun e177 w178 =>
bindV (pFieldAddr P 61 (e177 1) 5 w178) fun v179 w180 =>
bindV (pLoad P 3 v179 w180) fun v181 w182 =>
bindV (pBin P BinOp.lss 3 true v181 (Value.int IntKind.i64 1) w182) fun v183 w184 =>
grdE v183 false (fun (k185 : Value → World → Prop) => bindV (pFieldAddr P 61 (e177 1) 5 w184) k185) (fun v186 w187 =>
grdE v183 false (fun (k188 : Value → World → Prop) => bindV (pLoad P 3 v186 w187) k188) (fun v189 w190 =>
grdE v183 false (fun (k191 : Value → World → Prop) => bindV (pBin P BinOp.gtr 3 true v189 (Value.int IntKind.i64 32) w190) k191) (fun v192 w193 =>
pickE v183 (Value.bool true) v192 fun v194 =>
condE v194 (fun (K195 : KT) =>
K195 .ret (put (put (put (put (put (put (put (put (put e177 66 v179) 67 v181) 68 v183) 69 v183) 70 v186) 71 v189) 72 v192) 73 v194) 2 (Value.int IntKind.i64 1)) w193) (fun (K195 : KT) =>
K195 .normal (put (put (put (put (put (put (put (put e177 66 v179) 67 v181) 68 v183) 69 v183) 70 v186) 71 v189) 72 v192) 73 v194) w193) (thenK (fun e196 w197 =>
bindV (pFieldAddr P 61 (e196 1) 7 w197) fun v198 w199 =>
bindV (pLoad P 59 v198 w199) fun v200 w201 =>
bindV (pBuiltin P Builtin.len #[59] 3 [v200] w201) fun v202 w203 =>
bindV (pFieldAddr P 61 (e196 1) 5 w203) fun v204 w205 =>
bindV (pLoad P 3 v204 w205) fun v206 w207 =>
bindV (pBin P BinOp.gtr 3 false v202 v206 w207) fun v208 w209 =>
condE v208 (fun (K210 : KT) =>
K210 .ret (put (put (put (put (put (put (put e196 74 v198) 75 v200) 76 v202) 77 v204) 78 v206) 79 v208) 2 (Value.int IntKind.i64 8)) w209) (fun (K210 : KT) =>
K210 .normal (put (put (put (put (put (put e196 74 v198) 75 v200) 76 v202) 77 v204) 78 v206) 79 v208) w209) (thenK (fun e211 w212 =>
loopE F45B0 (put e211 4 (Value.int IntKind.i64 0)) w212 (blockK 0 (thenK (fun e243 w244 =>
R (.returned (Value.int IntKind.i64 0)) w244) (topK P [(ResultVar.tmp 2)] R)))) (topK P [(ResultVar.tmp 2)] R))) (topK P [(ResultVar.tmp 2)] R))) w190) w187) w184) (topK P [(ResultVar.tmp 2)] R))) (topK P [(ResultVar.tmp 2)] R))) (fun c161 w162 => R (.panicked c161) w162)) (topK P [(ResultVar.tmp 2)] R))) w148) w145) w142) w139) w136) w133) w130) w126) w123) w120) w117) w114) w111) w108) w104) w101) w98) w95) w92) w89) w86) w83) w80) w77) w74) (topK P [(ResultVar.tmp 2)] R))) w61) w58) w55) w52) (topK P [(ResultVar.tmp 2)] R))) (fun c37 w38 => ∀ (e36 : Env), agreeOff [14, 15, 16, 17] (put (put (put (put e20 14 v22) 15 v25) 16 v28) 17 v34) e36 → R (.panicked c37) w38))) (fun c32 w33 => ∀ (e31 : Env), agreeOff [14, 15, 16] (put (put (put e20 14 v22) 15 v25) 16 v28) e31 → R (.panicked c32) w33)) (topK P [(ResultVar.tmp 2)] R))) w14) w11) w8
theorem F45ok {w : World} {R : Ending → World → Prop} {a0 : Value} (h : F45 a0 w R) : Calls P 45 #[a0] w R :=
  calls_of_ev bodies mixed (c := bodyOf Tryz.f45) (nt := 96) (rs := [(ResultVar.tmp 2)]) (args := [a0]) (fn := Tryz.f45) (by kernel_rfl) (by kernel_rfl) (by kernel_rfl) (by kernel_rfl) (by kernel_rfl) (by simp)
    (eq_mp (show F45 a0 w R = ev P C (bodyOf Tryz.f45) (argE [a0]) w (topK P [(ResultVar.tmp 2)] R) by kernel_rfl) h)
/-! ### moiety/rec.shaped -/
def F67 (a0 : Value) (w : World) (R : Ending → World → Prop) : Prop :=
bindV (pAlloc P 144 w) fun v1 w2 =>
bindV (pBin P BinOp.eql 3 true a0 (Value.int IntKind.i64 1) w2) fun v3 w4 =>
condE v3 (fun (K5 : KT) =>
bindV (pBuild P 144 [(0, (Value.bool true))] w4) fun v6 w7 =>
bindU (pStore P 144 v1 v6 w7) fun w8 =>
K5 .ret (put (put (put (put (put (argE [a0]) 2 v1) 3 a0) 5 v3) 4 v3) 6 v6) w8) (fun (K5 : KT) =>
bindV (pBin P BinOp.eql 3 true a0 (Value.int IntKind.i64 2) w4) fun v9 w10 =>
condE v9 (fun (K11 : KT) =>
K11 .normal (put (put (put (put (put (put (argE [a0]) 2 v1) 3 a0) 5 v3) 4 v3) 8 v9) 7 v9) w10) (fun (K11 : KT) =>
bindV (pBin P BinOp.eql 3 true a0 (Value.int IntKind.i64 3) w10) fun v12 w13 =>
K11 .normal (put (put (put (put (put (put (put (put (argE [a0]) 2 v1) 3 a0) 5 v3) 4 v3) 8 v9) 7 v9) 9 v12) 7 v12) w13) (thenK (fun e14 w15 =>
condE (e14 7) (fun (K16 : KT) =>
bindV (pBuild P 144 [(1, (Value.bool true))] w15) fun v17 w18 =>
bindU (pStore P 144 (e14 2) v17 w18) fun w19 =>
K16 .ret (put e14 10 v17) w19) (fun (K16 : KT) =>
bindV (pBin P BinOp.eql 3 true (e14 3) (Value.int IntKind.i64 4) w15) fun v20 w21 =>
condE v20 (fun (K22 : KT) =>
bindV (pBuild P 144 [(1, (Value.bool true)), (2, (Value.bool true))] w21) fun v23 w24 =>
bindU (pStore P 144 (e14 2) v23 w24) fun w25 =>
K22 .ret (put (put (put e14 12 v20) 11 v20) 13 v23) w25) (fun (K22 : KT) =>
bindV (pBin P BinOp.eql 3 true (e14 3) (Value.int IntKind.i64 5) w21) fun v26 w27 =>
condE v26 (fun (K28 : KT) =>
K28 .normal (put (put (put (put e14 12 v20) 11 v20) 15 v26) 14 v26) w27) (fun (K28 : KT) =>
bindV (pBin P BinOp.eql 3 true (e14 3) (Value.int IntKind.i64 6) w27) fun v29 w30 =>
condE v29 (fun (K31 : KT) =>
K31 .normal (put (put (put (put (put (put e14 12 v20) 11 v20) 15 v26) 14 v26) 16 v29) 14 v29) w30) (fun (K31 : KT) =>
bindV (pBin P BinOp.eql 3 true (e14 3) (Value.int IntKind.i64 7) w30) fun v32 w33 =>
K31 .normal (put (put (put (put (put (put (put (put e14 12 v20) 11 v20) 15 v26) 14 v26) 16 v29) 14 v29) 17 v32) 14 v32) w33) K28) (thenK (fun e34 w35 =>
condE (e34 14) (fun (K36 : KT) =>
bindV (pBuild P 144 [(3, (Value.bool true))] w35) fun v37 w38 =>
bindU (pStore P 144 (e34 2) v37 w38) fun w39 =>
K36 .ret (put e34 18 v37) w39) (fun (K36 : KT) =>
bindV (pBin P BinOp.eql 3 true (e34 3) (Value.int IntKind.i64 8) w35) fun v40 w41 =>
condE v40 (fun (K42 : KT) =>
K42 .normal (put (put e34 20 v40) 19 v40) w41) (fun (K42 : KT) =>
bindV (pBin P BinOp.eql 3 true (e34 3) (Value.int IntKind.i64 9) w41) fun v43 w44 =>
K42 .normal (put (put (put (put e34 20 v40) 19 v40) 21 v43) 19 v43) w44) (thenK (fun e45 w46 =>
condE (e45 19) (fun (K47 : KT) =>
bindV (pBuild P 144 [(4, (Value.bool true))] w46) fun v48 w49 =>
bindU (pStore P 144 (e45 2) v48 w49) fun w50 =>
K47 .ret (put e45 22 v48) w50) (fun (K47 : KT) =>
K47 .normal e45 w46) K36) K36)) K22) K22)) K16) K5) K5)) (blockK 0 (thenK (fun e51 w52 =>
bindV (pBuild P 144 [] w52) fun v53 w54 =>
bindU (pStore P 144 (e51 2) v53 w54) fun w55 =>
topK P [(ResultVar.cell 2 144)] R .ret (put e51 23 v53) w55) (topK P [(ResultVar.cell 2 144)] R)))
theorem F67ok {w : World} {R : Ending → World → Prop} {a0 : Value} (h : F67 a0 w R) : Calls P 67 #[a0] w R :=
  calls_of_ev bodies mixed (c := bodyOf Tryz.f67) (nt := 24) (rs := [(ResultVar.cell 2 144)]) (args := [a0]) (fn := Tryz.f67) (by kernel_rfl) (by kernel_rfl) (by kernel_rfl) (by kernel_rfl) (by kernel_rfl) (by simp)
    (eq_mp (show F67 a0 w R = ev P C (bodyOf Tryz.f67) (argE [a0]) w (topK P [(ResultVar.cell 2 144)] R) by kernel_rfl) h)
/-! ### moiety/rec.bare -/
def F68 (a0 : Value) (a1 : Value) (w : World) (R : Ending → World → Prop) : Prop :=
bindV (pBox P 61 a0 w) fun v1 w2 =>
bindV (pBox P 144 a1 w2) fun v3 w4 =>
bindV (pFieldAddr P 144 v3 0 w4) fun v5 w6 =>
bindV (pLoad P 4 v5 w6) fun v7 w8 =>
grdE v7 false (fun (k9 : Value → World → Prop) => bindV (pFieldAddr P 61 v1 6 w8) k9) (fun v10 w11 =>
grdE v7 false (fun (k12 : Value → World → Prop) => bindV (pLoad P 9 v10 w11) k12) (fun v13 w14 =>
grdE v7 false (fun (k15 : Value → World → Prop) => bindV (pBin P BinOp.eql 9 true v13 (Value.string { data := #[] }) w14) k15) (fun v16 w17 =>
pickE v7 (Value.bool true) v16 fun v18 =>
grdE v18 true (fun (k19 : Value → World → Prop) => bindV (pFieldAddr P 144 v3 1 w17) k19) (fun v20 w21 =>
grdE v18 true (fun (k22 : Value → World → Prop) => bindV (pLoad P 4 v20 w21) k22) (fun v23 w24 =>
grdE v18 true (fun (k25 : Value → World → Prop) => k25 v23 w24) (fun v26 w27 =>
grdE v26 false (fun (k28 : Value → World → Prop) => bindV (pFieldAddr P 61 v1 1 w27) k28) (fun v29 w30 =>
grdE v26 false (fun (k31 : Value → World → Prop) => bindV (pLoad P 2 v29 w30) k31) (fun v32 w33 =>
grdE v26 false (fun (k34 : Value → World → Prop) => bindV (pBin P BinOp.eql 2 true v32 (Value.int IntKind.i64 0) w33) k34) (fun v35 w36 =>
grdE v18 true (fun (k37 : Value → World → Prop) => pickE v26 (Value.bool true) v35 fun v38 =>
k37 v38 w36) (fun v39 w40 =>
pickE v18 v39 (Value.bool false) fun v41 =>
grdE v41 true (fun (k42 : Value → World → Prop) => bindV (pFieldAddr P 144 v3 2 w40) k42) (fun v43 w44 =>
grdE v41 true (fun (k45 : Value → World → Prop) => bindV (pLoad P 4 v43 w44) k45) (fun v46 w47 =>
grdE v41 true (fun (k48 : Value → World → Prop) => k48 v46 w47) (fun v49 w50 =>
grdE v49 false (fun (k51 : Value → World → Prop) => bindV (pFieldAddr P 61 v1 2 w50) k51) (fun v52 w53 =>
grdE v49 false (fun (k54 : Value → World → Prop) => bindV (pLoad P 2 v52 w53) k54) (fun v55 w56 =>
grdE v49 false (fun (k57 : Value → World → Prop) => bindV (pBin P BinOp.eql 2 true v55 (Value.int IntKind.i64 0) w56) k57) (fun v58 w59 =>
grdE v49 false (fun (k60 : Value → World → Prop) => k60 v58 w59) (fun v61 w62 =>
grdE v61 true (fun (k63 : Value → World → Prop) => bindV (pFieldAddr P 61 v1 3 w62) k63) (fun v64 w65 =>
grdE v61 true (fun (k66 : Value → World → Prop) => bindV (pLoad P 2 v64 w65) k66) (fun v67 w68 =>
grdE v61 true (fun (k69 : Value → World → Prop) => bindV (pBin P BinOp.eql 2 true v67 (Value.int IntKind.i64 0) w68) k69) (fun v70 w71 =>
grdE v49 false (fun (k72 : Value → World → Prop) => pickE v61 v70 (Value.bool false) fun v73 =>
k72 v73 w71) (fun v74 w75 =>
grdE v41 true (fun (k76 : Value → World → Prop) => pickE v49 (Value.bool true) v74 fun v77 =>
k76 v77 w75) (fun v78 w79 =>
pickE v41 v78 (Value.bool false) fun v80 =>
grdE v80 true (fun (k81 : Value → World → Prop) => bindV (pFieldAddr P 144 v3 3 w79) k81) (fun v82 w83 =>
grdE v80 true (fun (k84 : Value → World → Prop) => bindV (pLoad P 4 v82 w83) k84) (fun v85 w86 =>
grdE v80 true (fun (k87 : Value → World → Prop) => k87 v85 w86) (fun v88 w89 =>
grdE v88 false (fun (k90 : Value → World → Prop) => bindV (pFieldAddr P 61 v1 4 w89) k90) (fun v91 w92 =>
grdE v88 false (fun (k93 : Value → World → Prop) => bindV (pLoad P 58 v91 w92) k93) (fun v94 w95 =>
grdE v88 false (fun (k96 : Value → World → Prop) => callE P 90 #[v94, (Value.float FloatKind.f64 0)] w95 k96 (fun c97 w98 => R (.panicked c97) w98)) (fun v99 w100 =>
grdE v80 true (fun (k101 : Value → World → Prop) => pickE v88 (Value.bool true) v99 fun v102 =>
k101 v102 w100) (fun v103 w104 =>
pickE v80 v103 (Value.bool false) fun v105 =>
grdE v105 true (fun (k106 : Value → World → Prop) => bindV (pFieldAddr P 144 v3 4 w104) k106) (fun v107 w108 =>
grdE v105 true (fun (k109 : Value → World → Prop) => bindV (pLoad P 4 v107 w108) k109) (fun v110 w111 =>
grdE v105 true (fun (k112 : Value → World → Prop) => k112 v110 w111) (fun v113 w114 =>
grdE v113 false (fun (k115 : Value → World → Prop) => bindV (pFieldAddr P 61 v1 5 w114) k115) (fun v116 w117 =>
grdE v113 false (fun (k118 : Value → World → Prop) => bindV (pLoad P 3 v116 w117) k118) (fun v119 w120 =>
grdE v113 false (fun (k121 : Value → World → Prop) => bindV (pBin P BinOp.eql 3 true v119 (Value.int IntKind.i64 0) w120) k121) (fun v122 w123 =>
grdE v113 false (fun (k124 : Value → World → Prop) => k124 v122 w123) (fun v125 w126 =>
grdE v125 true (fun (k127 : Value → World → Prop) => bindV (pFieldAddr P 61 v1 7 w126) k127) (fun v128 w129 =>
grdE v125 true (fun (k130 : Value → World → Prop) => bindV (pLoad P 59 v128 w129) k130) (fun v131 w132 =>
grdE v125 true (fun (k133 : Value → World → Prop) => bindV (pBuiltin P Builtin.len #[59] 3 [v131] w132) k133) (fun v134 w135 =>
grdE v125 true (fun (k136 : Value → World → Prop) => bindV (pBin P BinOp.eql 3 true v134 (Value.int IntKind.i64 0) w135) k136) (fun v137 w138 =>
grdE v113 false (fun (k139 : Value → World → Prop) => pickE v125 v137 (Value.bool false) fun v140 =>
k139 v140 w138) (fun v141 w142 =>
grdE v105 true (fun (k143 : Value → World → Prop) => pickE v113 (Value.bool true) v141 fun v144 =>
k143 v144 w142) (fun v145 w146 =>
pickE v105 v145 (Value.bool false) fun v147 =>
R (.returned v147) w146) w142) w138) w135) w132) w129) w126) w123) w120) w117) w114) w111) w108) w104) w100) w95) w92) w89) w86) w83) w79) w75) w71) w68) w65) w62) w59) w56) w53) w50) w47) w44) w40) w36) w33) w30) w27) w24) w21) w17) w14) w11) w8
theorem F68ok {w : World} {R : Ending → World → Prop} {a0 : Value} {a1 : Value} (h : F68 a0 a1 w R) : Calls P 68 #[a0, a1] w R :=
  calls_of_ev bodies mixed (c := bodyOf Tryz.f68) (nt := 59) (rs := [(ResultVar.tmp 4)]) (args := [a0, a1]) (fn := Tryz.f68) (by kernel_rfl) (by kernel_rfl) (by kernel_rfl) (by kernel_rfl) (by kernel_rfl) (by simp)
    (eq_mp (show F68 a0 a1 w R = ev P C (bodyOf Tryz.f68) (argE [a0, a1]) w (topK P [(ResultVar.tmp 4)] R) by kernel_rfl) h)
/-! ### moiety/rec.items -/
def F70B0 (e : Env) (w : World) (K : KT) : Prop :=
bindV (pBin P BinOp.lss 3 false (e 9) (e 8) w) fun v3 w4 =>
condE v3 (fun (K5 : KT) =>
K5 .normal (put e 10 v3) w4) (fun (K5 : KT) =>
K5 (.exit 0) (put e 10 v3) w4) (thenK (fun e6 w7 =>
bindV (pIndexAddr P 59 (e6 7) (e6 9) w7) fun v8 w9 =>
bindV (pLoad P 105 v8 w9) fun v10 w11 =>
bindV (pAlloc P 105 w11) fun v12 w13 =>
bindU (pStore P 105 v12 v10 w13) fun w14 =>
bindV (pFieldAddr P 105 v12 1 w14) fun v15 w16 =>
bindV (pLoad P 9 v15 w16) fun v17 w18 =>
bindV (pBuiltin P Builtin.len #[9] 3 [v17] w18) fun v19 w20 =>
bindV (pBin P BinOp.gtr 3 true v19 (Value.int IntKind.i64 16) w20) fun v21 w22 =>
condE v21 (fun (K23 : KT) =>
K23 .ret (put (put (put (put (put (put (put (put (put (put (put e6 11 (e6 9)) 12 v8) 13 v10) 6 v12) 5 (e6 9)) 15 v15) 16 v17) 17 v19) 18 v21) 14 v21) 4 (Value.int IntKind.i64 3)) w22) (fun (K23 : KT) =>
bindV (pBin P BinOp.eql 3 true (e6 0) (Value.int IntKind.i64 8) w22) fun v24 w25 =>
grdE v24 true (fun (k26 : Value → World → Prop) => bindV (pFieldAddr P 105 v12 0 w25) k26) (fun v27 w28 =>
grdE v24 true (fun (k29 : Value → World → Prop) => bindV (pLoad P 58 v27 w28) k29) (fun v30 w31 =>
grdE v24 true (fun (k32 : Value → World → Prop) => callE P 90 #[v30, (Value.float FloatKind.f64 0)] w31 k32 (fun c33 w34 => K23 (.panic c33) (put (put (put (put (put (put (put (put (put (put (put (put (put (put (put e6 11 (e6 9)) 12 v8) 13 v10) 6 v12) 5 (e6 9)) 15 v15) 16 v17) 17 v19) 18 v21) 14 v21) 20 (e6 0)) 21 v24) 22 v24) 23 v27) 24 v30) w34)) (fun v35 w36 =>
grdE v24 true (fun (k37 : Value → World → Prop) => bindV (pUn P UnOp.not v35 w36) k37) (fun v38 w39 =>
pickE v24 v38 (Value.bool false) fun v40 =>
grdE v40 false (fun (k41 : Value → World → Prop) => bindV (pFieldAddr P 105 v12 0 w39) k41) (fun v42 w43 =>
grdE v40 false (fun (k44 : Value → World → Prop) => bindV (pLoad P 58 v42 w43) k44) (fun v45 w46 =>
grdE v40 false (fun (k47 : Value → World → Prop) => callE P 69 #[v45] w46 k47 (fun c48 w49 => K23 (.panic c48) (put (put (put (put (put (put (put (put (put (put (put (put (put (put (put (put (put (put (put (put (put e6 11 (e6 9)) 12 v8) 13 v10) 6 v12) 5 (e6 9)) 15 v15) 16 v17) 17 v19) 18 v21) 14 v21) 20 (e6 0)) 21 v24) 22 v24) 23 v27) 24 v30) 25 v35) 26 v38) 27 v40) 28 v40) 29 v42) 30 v45) w49)) (fun v50 w51 =>
grdE v40 false (fun (k52 : Value → World → Prop) => bindV (pUn P UnOp.not v50 w51) k52) (fun v53 w54 =>
pickE v40 (Value.bool true) v53 fun v55 =>
condE v55 (fun (K56 : KT) =>
K56 .ret (put (put (put (put (put (put (put (put (put (put (put (put (put (put (put (put (put (put (put (put (put (put (put (put (put (put e6 11 (e6 9)) 12 v8) 13 v10) 6 v12) 5 (e6 9)) 15 v15) 16 v17) 17 v19) 18 v21) 14 v21) 20 (e6 0)) 21 v24) 22 v24) 23 v27) 24 v30) 25 v35) 26 v38) 27 v40) 28 v40) 29 v42) 30 v45) 31 v50) 32 v53) 33 v55) 19 v55) 4 (Value.int IntKind.i64 4)) w54) (fun (K56 : KT) =>
takeE (fun w59 => some ((e6 9), w59)) (drew w54) fun v57 h58 =>
takeE (fun w62 => pBin P BinOp.gtr 3 true v57 (Value.int IntKind.i64 0) w62) (drew w54) fun v60 h61 =>
takeE (fun w65 => some (v60, w65)) (drew w54) fun v63 h64 =>
takeE (fun w68 => qGrd v63 true (fun w68 => some ((e6 0), w68)) w68) (drew w54) fun v66 h67 =>
takeE (fun w71 => qGrd v63 true (fun w71 => pBin P BinOp.eql 3 true v66 (Value.int IntKind.i64 8) w71) w71) (drew w54) fun v69 h70 =>
takeE (fun w74 => qPick v63 v69 (Value.bool false) w74) (drew w54) fun v72 h73 =>
takeE (fun w77 => some (v72, w77)) (drew w54) fun v75 h76 =>
takeE (fun w80 => qGrd v75 true (fun w80 => some ((e6 1), w80)) w80) (drew w54) fun v78 h79 =>
takeE (fun w83 => qGrd v75 true (fun w83 => some ((e6 9), w83)) w83) (drew w54) fun v81 h82 =>
takeE (fun w86 => qGrd v75 true (fun w86 => pBin P BinOp.sub 3 true v81 (Value.int IntKind.i64 1) w86) w86) (drew w54) fun v84 h85 =>
takeE (fun w89 => qGrd v75 true (fun w89 => pIndexAddr P 59 v78 v84 w89) w89) (drew w54) fun v87 h88 =>
takeE (fun w92 => qGrd v75 true (fun w92 => pFieldAddr P 105 v87 1 w92) w92) (drew w54) fun v90 h91 =>
takeE (fun w95 => qGrd v75 true (fun w95 => pLoad P 9 v90 w95) w95) (drew w54) fun v93 h94 =>
takeE (fun w98 => qGrd v75 true (fun w98 => pFieldAddr P 105 v12 1 w98) w98) (drew w54) fun v96 h97 =>
takeE (fun w101 => qGrd v75 true (fun w101 => pLoad P 9 v96 w101) w101) (drew w54) fun v99 h100 =>
takeE (fun w104 => qGrd v75 true (fun w104 => pBin P BinOp.geq 9 false v93 v99 w104) w104) (drew w54) fun v102 h103 =>
takeE (fun w107 => qPick v75 v102 (Value.bool false) w107) (drew w54) fun v105 h106 =>
condE v105 (fun (K109 : KT) =>
K109 .ret (put (put (put (put (put (put (put (put (put (put (put (put (put (put (put (put (put (put (put (put (put (put (put (put (put (put (put (put (put (put (put (put (put (put (put (put (put (put (put (put (put (put (put (put e6 11 (e6 9)) 12 v8) 13 v10) 6 v12) 5 (e6 9)) 15 v15) 16 v17) 17 v19) 18 v21) 14 v21) 20 (e6 0)) 21 v24) 22 v24) 23 v27) 24 v30) 25 v35) 26 v38) 27 v40) 28 v40) 29 v42) 30 v45) 31 v50) 32 v53) 33 v55) 19 v55) 35 v57) 36 v60) 37 v63) 38 v66) 39 v69) 40 v72) 41 v75) 42 v78) 43 v81) 44 v84) 45 v87) 46 v90) 47 v93) 48 v96) 49 v99) 50 v102) 51 v105) 34 v105) 4 (Value.int IntKind.i64 4)) (drew w54)) (fun (K109 : KT) =>
takeE (fun w112 => some ((e6 9), w112)) (drew (drew w54)) fun v110 h111 =>
takeE (fun w115 => pBin P BinOp.gtr 3 true v110 (Value.int IntKind.i64 0) w115) (drew (drew w54)) fun v113 h114 =>
takeE (fun w118 => some (v113, w118)) (drew (drew w54)) fun v116 h117 =>
takeE (fun w121 => qGrd v116 true (fun w121 => some ((e6 0), w121)) w121) (drew (drew w54)) fun v119 h120 =>
takeE (fun w124 => qGrd v116 true (fun w124 => pBin P BinOp.eql 3 true v119 (Value.int IntKind.i64 9) w124) w124) (drew (drew w54)) fun v122 h123 =>
takeE (fun w127 => qPick v116 v122 (Value.bool false) w127) (drew (drew w54)) fun v125 h126 =>
takeE (fun w130 => some (v125, w130)) (drew (drew w54)) fun v128 h129 =>
takeE (fun w133 => qGrd v128 true (fun w133 => some ((e6 1), w133)) w133) (drew (drew w54)) fun v131 h132 =>
takeE (fun w136 => qGrd v128 true (fun w136 => some ((e6 9), w136)) w136) (drew (drew w54)) fun v134 h135 =>
takeE (fun w139 => qGrd v128 true (fun w139 => pBin P BinOp.sub 3 true v134 (Value.int IntKind.i64 1) w139) w139) (drew (drew w54)) fun v137 h138 =>
takeE (fun w142 => qGrd v128 true (fun w142 => pIndexAddr P 59 v131 v137 w142) w142) (drew (drew w54)) fun v140 h141 =>
takeE (fun w145 => qGrd v128 true (fun w145 => pLoad P 105 v140 w145) w145) (drew (drew w54)) fun v143 h144 =>
takeE (fun w148 => qGrd v128 true (fun w148 => pLoad P 105 v12 w148) w148) (drew (drew w54)) fun v146 h147 =>
grdE v128 true (fun (k150 : Value → World → Prop) => callE P 93 #[v143, v146] (drew (drew w54)) k150 (fun c151 w152 => ∀ (e149 : Env), agreeOff [53, 54, 55, 56, 57, 58, 59, 60, 61, 62, 63, 64, 65] (put (put (put (put (put (put (put (put (put (put (put (put (put (put (put (put (put (put (put (put (put (put (put (put (put (put (put (put (put (put (put (put (put (put (put (put (put (put (put (put (put (put (put (put (put (put (put (put (put (put (put (put (put (put (put (put e6 11 (e6 9)) 12 v8) 13 v10) 6 v12) 5 (e6 9)) 15 v15) 16 v17) 17 v19) 18 v21) 14 v21) 20 (e6 0)) 21 v24) 22 v24) 23 v27) 24 v30) 25 v35) 26 v38) 27 v40) 28 v40) 29 v42) 30 v45) 31 v50) 32 v53) 33 v55) 19 v55) 35 v57) 36 v60) 37 v63) 38 v66) 39 v69) 40 v72) 41 v75) 42 v78) 43 v81) 44 v84) 45 v87) 46 v90) 47 v93) 48 v96) 49 v99) 50 v102) 51 v105) 34 v105) 53 v110) 54 v113) 55 v116) 56 v119) 57 v122) 58 v125) 59 v128) 60 v131) 61 v134) 62 v137) 63 v140) 64 v143) 65 v146) e149 → K109 (.panic c151) e149 w152)) (fun v153 w154 =>
takeE (fun w157 => qGrd v128 true (fun w157 => pUn P UnOp.not v153 w157) w157) w154 fun v155 h156 =>
takeE (fun w160 => qPick v128 v155 (Value.bool false) w160) w154 fun v158 h159 =>
condE v158 (fun (K162 : KT) =>
K162 .ret (put (put (put (put (put (put (put (put (put (put (put (put (put (put (put (put (put (put (put (put (put (put (put (put (put (put (put (put (put (put (put (put (put (put (put (put (put (put (put (put (put (put (put (put (put (put (put (put (put (put (put (put (put (put (put (put (put (put (put (put (put e6 11 (e6 9)) 12 v8) 13 v10) 6 v12) 5 (e6 9)) 15 v15) 16 v17) 17 v19) 18 v21) 14 v21) 20 (e6 0)) 21 v24) 22 v24) 23 v27) 24 v30) 25 v35) 26 v38) 27 v40) 28 v40) 29 v42) 30 v45) 31 v50) 32 v53) 33 v55) 19 v55) 35 v57) 36 v60) 37 v63) 38 v66) 39 v69) 40 v72) 41 v75) 42 v78) 43 v81) 44 v84) 45 v87) 46 v90) 47 v93) 48 v96) 49 v99) 50 v102) 51 v105) 34 v105) 53 v110) 54 v113) 55 v116) 56 v119) 57 v122) 58 v125) 59 v128) 60 v131) 61 v134) 62 v137) 63 v140) 64 v143) 65 v146) 66 v153) 67 v155) 68 v158) 52 v158) 4 (Value.int IntKind.i64 4)) w154) (fun (K162 : KT) =>
K162 .normal (put (put (put (put (put (put (put (put (put (put (put (put (put (put (put (put (put (put (put (put (put (put (put (put (put (put (put (put (put (put (put (put (put (put (put (put (put (put (put (put (put (put (put (put (put (put (put (put (put (put (put (put (put (put (put (put (put (put (put (put e6 11 (e6 9)) 12 v8) 13 v10) 6 v12) 5 (e6 9)) 15 v15) 16 v17) 17 v19) 18 v21) 14 v21) 20 (e6 0)) 21 v24) 22 v24) 23 v27) 24 v30) 25 v35) 26 v38) 27 v40) 28 v40) 29 v42) 30 v45) 31 v50) 32 v53) 33 v55) 19 v55) 35 v57) 36 v60) 37 v63) 38 v66) 39 v69) 40 v72) 41 v75) 42 v78) 43 v81) 44 v84) 45 v87) 46 v90) 47 v93) 48 v96) 49 v99) 50 v102) 51 v105) 34 v105) 53 v110) 54 v113) 55 v116) 56 v119) 57 v122) 58 v125) 59 v128) 60 v131) 61 v134) 62 v137) 63 v140) 64 v143) 65 v146) 66 v153) 67 v155) 68 v158) 52 v158) w154) K109) (drew (drew w54))) K56) K23) w51) w46) w43) w39) w36) w31) w28) w25) (blockK 2 (blockK 1 (thenK (fun e163 w164 =>
bindV (pBin P BinOp.add 3 true (e163 9) (Value.int IntKind.i64 1) w164) fun v165 w166 =>
K .normal (put (put e163 69 v165) 9 v165) w166) K)))) K)
def F70 (a0 : Value) (a1 : Value) (w : World) (R : Ending → World → Prop) : Prop :=
bindV (pBuiltin P Builtin.len #[59] 3 [a1] w) fun v1 w2 =>
loopE F70B0 (put (put (put (put (argE [a0, a1]) 4 (Value.int IntKind.i64 0)) 7 a1) 8 v1) 9 (Value.int IntKind.i64 0)) w2 (blockK 0 (thenK (fun e167 w168 =>
R (.returned (Value.int IntKind.i64 0)) w168) (topK P [(ResultVar.tmp 4)] R)))
theorem F70ok {w : World} {R : Ending → World → Prop} {a0 : Value} {a1 : Value} (h : F70 a0 a1 w R) : Calls P 70 #[a0, a1] w R :=
  calls_of_ev bodies mixed (c := bodyOf Tryz.f70) (nt := 70) (rs := [(ResultVar.tmp 4)]) (args := [a0, a1]) (fn := Tryz.f70) (by kernel_rfl) (by kernel_rfl) (by kernel_rfl) (by kernel_rfl) (by kernel_rfl) (by simp)
    (eq_mp (show F70 a0 a1 w R = ev P C (bodyOf Tryz.f70) (argE [a0, a1]) w (topK P [(ResultVar.tmp 4)] R) by kernel_rfl) h)
/-! ### moiety/moietyref03.only -/
def F74B0 (e : Env) (w : World) (K : KT) : Prop :=
bindV (pBuiltin P Builtin.len #[9] 3 [(e 1)] w) fun v3 w4 =>
bindV (pBin P BinOp.lss 3 false (e 10) v3 w4) fun v5 w6 =>
condE v5 (fun (K7 : KT) =>
K7 .normal (put (put (put (put e 11 (e 10)) 12 (e 1)) 13 v3) 14 v5) w6) (fun (K7 : KT) =>
K7 (.exit 0) (put (put (put (put e 11 (e 10)) 12 (e 1)) 13 v3) 14 v5) w6) (thenK (fun e8 w9 =>
grdE (e8 5) false (fun (k10 : Value → World → Prop) => k10 (e8 1) w9) (fun v11 w12 =>
grdE (e8 5) false (fun (k13 : Value → World → Prop) => k13 (e8 10) w12) (fun v14 w15 =>
grdE (e8 5) false (fun (k16 : Value → World → Prop) => bindV (pIndex P 9 v11 v14 w15) k16) (fun v17 w18 =>
grdE (e8 5) false (fun (k19 : Value → World → Prop) => bindV (pBin P BinOp.eql 5 true v17 (Value.int IntKind.u8 116) w18) k19) (fun v20 w21 =>
pickE (e8 5) (Value.bool true) v20 fun v22 =>
grdE (e8 6) false (fun (k23 : Value → World → Prop) => k23 (e8 1) w21) (fun v24 w25 =>
grdE (e8 6) false (fun (k26 : Value → World → Prop) => k26 (e8 10) w25) (fun v27 w28 =>
grdE (e8 6) false (fun (k29 : Value → World → Prop) => bindV (pIndex P 9 v24 v27 w28) k29) (fun v30 w31 =>
grdE (e8 6) false (fun (k32 : Value → World → Prop) => bindV (pBin P BinOp.eql 5 true v30 (Value.int IntKind.u8 110) w31) k32) (fun v33 w34 =>
pickE (e8 6) (Value.bool true) v33 fun v35 =>
grdE (e8 7) false (fun (k36 : Value → World → Prop) => k36 (e8 1) w34) (fun v37 w38 =>
grdE (e8 7) false (fun (k39 : Value → World → Prop) => k39 (e8 10) w38) (fun v40 w41 =>
grdE (e8 7) false (fun (k42 : Value → World → Prop) => bindV (pIndex P 9 v37 v40 w41) k42) (fun v43 w44 =>
grdE (e8 7) false (fun (k45 : Value → World → Prop) => bindV (pBin P BinOp.eql 5 true v43 (Value.int IntKind.u8 98) w44) k45) (fun v46 w47 =>
pickE (e8 7) (Value.bool true) v46 fun v48 =>
grdE (e8 8) false (fun (k49 : Value → World → Prop) => k49 (e8 1) w47) (fun v50 w51 =>
grdE (e8 8) false (fun (k52 : Value → World → Prop) => k52 (e8 10) w51) (fun v53 w54 =>
grdE (e8 8) false (fun (k55 : Value → World → Prop) => bindV (pIndex P 9 v50 v53 w54) k55) (fun v56 w57 =>
grdE (e8 8) false (fun (k58 : Value → World → Prop) => bindV (pBin P BinOp.eql 5 true v56 (Value.int IntKind.u8 114) w57) k58) (fun v59 w60 =>
pickE (e8 8) (Value.bool true) v59 fun v61 =>
grdE (e8 9) false (fun (k62 : Value → World → Prop) => k62 (e8 1) w60) (fun v63 w64 =>
grdE (e8 9) false (fun (k65 : Value → World → Prop) => k65 (e8 10) w64) (fun v66 w67 =>
grdE (e8 9) false (fun (k68 : Value → World → Prop) => bindV (pIndex P 9 v63 v66 w67) k68) (fun v69 w70 =>
grdE (e8 9) false (fun (k71 : Value → World → Prop) => bindV (pBin P BinOp.eql 5 true v69 (Value.int IntKind.u8 108) w70) k71) (fun v72 w73 =>
pickE (e8 9) (Value.bool true) v72 fun v74 =>
bindV (pBin P BinOp.add 3 true (e8 10) (Value.int IntKind.i64 1) w73) fun v75 w76 =>
K .normal (put (put (put (put (put (put (put (put (put (put (put (put (put (put (put (put (put (put (put (put (put (put (put (put (put (put (put (put (put (put (put (put (put (put (put (put (put (put (put (put (put (put (put e8 17 (e8 5)) 18 (e8 5)) 19 v11) 20 v14) 21 v17) 22 v20) 23 v22) 5 v22) 24 (e8 6)) 25 (e8 6)) 26 v24) 27 v27) 28 v30) 29 v33) 30 v35) 6 v35) 31 (e8 7)) 32 (e8 7)) 33 v37) 34 v40) 35 v43) 36 v46) 37 v48) 7 v48) 38 (e8 8)) 39 (e8 8)) 40 v50) 41 v53) 42 v56) 43 v59) 44 v61) 8 v61) 45 (e8 9)) 46 (e8 9)) 47 v63) 48 v66) 49 v69) 50 v72) 51 v74) 9 v74) 15 (e8 10)) 16 v75) 10 v75) w76) w70) w67) w64) w60) w57) w54) w51) w47) w44) w41) w38) w34) w31) w28) w25) w21) w18) w15) w12) w9) K)
def F74 (a0 : Value) (a1 : Value) (w : World) (R : Ending → World → Prop) : Prop :=
bindV (pBox P 61 a0 w) fun v1 w2 =>
loopE F74B0 (put (put (put (put (put (put (put (put (argE [a0, a1]) 2 v1) 4 (Value.bool false)) 5 (Value.bool false)) 6 (Value.bool false)) 7 (Value.bool false)) 8 (Value.bool false)) 9 (Value.bool false)) 10 (Value.int IntKind.i64 0)) w2 (blockK 0 (thenK (fun e77 w78 =>
bindV (pUn P UnOp.not (e77 5) w78) fun v79 w80 =>
grdE v79 true (fun (k81 : Value → World → Prop) => bindV (pFieldAddr P 61 (e77 2) 6 w80) k81) (fun v82 w83 =>
grdE v79 true (fun (k84 : Value → World → Prop) => bindV (pLoad P 9 v82 w83) k84) (fun v85 w86 =>
grdE v79 true (fun (k87 : Value → World → Prop) => bindV (pBin P BinOp.neq 9 true v85 (Value.string { data := #[] }) w86) k87) (fun v88 w89 =>
pickE v79 v88 (Value.bool false) fun v90 =>
grdE v90 false (fun (k91 : Value → World → Prop) => k91 (e77 6) w89) (fun v92 w93 =>
grdE v90 false (fun (k94 : Value → World → Prop) => bindV (pUn P UnOp.not v92 w93) k94) (fun v95 w96 =>
grdE v90 false (fun (k97 : Value → World → Prop) => k97 v95 w96) (fun v98 w99 =>
grdE v98 true (fun (k100 : Value → World → Prop) => bindV (pFieldAddr P 61 (e77 2) 1 w99) k100) (fun v101 w102 =>
grdE v98 true (fun (k103 : Value → World → Prop) => bindV (pLoad P 2 v101 w102) k103) (fun v104 w105 =>
grdE v98 true (fun (k106 : Value → World → Prop) => bindV (pBin P BinOp.neq 2 true v104 (Value.int IntKind.i64 0) w105) k106) (fun v107 w108 =>
grdE v90 false (fun (k109 : Value → World → Prop) => pickE v98 v107 (Value.bool false) fun v110 =>
k109 v110 w108) (fun v111 w112 =>
pickE v90 (Value.bool true) v111 fun v113 =>
grdE v113 false (fun (k114 : Value → World → Prop) => k114 (e77 7) w112) (fun v115 w116 =>
grdE v113 false (fun (k117 : Value → World → Prop) => bindV (pUn P UnOp.not v115 w116) k117) (fun v118 w119 =>
grdE v113 false (fun (k120 : Value → World → Prop) => k120 v118 w119) (fun v121 w122 =>
grdE v121 true (fun (k123 : Value → World → Prop) => bindV (pFieldAddr P 61 (e77 2) 2 w122) k123) (fun v124 w125 =>
grdE v121 true (fun (k126 : Value → World → Prop) => bindV (pLoad P 2 v124 w125) k126) (fun v127 w128 =>
grdE v121 true (fun (k129 : Value → World → Prop) => bindV (pBin P BinOp.neq 2 true v127 (Value.int IntKind.i64 0) w128) k129) (fun v130 w131 =>
grdE v113 false (fun (k132 : Value → World → Prop) => pickE v121 v130 (Value.bool false) fun v133 =>
k132 v133 w131) (fun v134 w135 =>
pickE v113 (Value.bool true) v134 fun v136 =>
grdE v136 false (fun (k137 : Value → World → Prop) => k137 (e77 7) w135) (fun v138 w139 =>
grdE v136 false (fun (k140 : Value → World → Prop) => bindV (pUn P UnOp.not v138 w139) k140) (fun v141 w142 =>
grdE v136 false (fun (k143 : Value → World → Prop) => k143 v141 w142) (fun v144 w145 =>
grdE v144 true (fun (k146 : Value → World → Prop) => bindV (pFieldAddr P 61 (e77 2) 3 w145) k146) (fun v147 w148 =>
grdE v144 true (fun (k149 : Value → World → Prop) => bindV (pLoad P 2 v147 w148) k149) (fun v150 w151 =>
grdE v144 true (fun (k152 : Value → World → Prop) => bindV (pBin P BinOp.neq 2 true v150 (Value.int IntKind.i64 0) w151) k152) (fun v153 w154 =>
grdE v136 false (fun (k155 : Value → World → Prop) => pickE v144 v153 (Value.bool false) fun v156 =>
k155 v156 w154) (fun v157 w158 =>
pickE v136 (Value.bool true) v157 fun v159 =>
condE v159 (fun (K160 : KT) =>
K160 .ret (put (put (put (put (put (put (put (put (put (put (put (put (put (put (put (put (put (put (put (put (put (put (put (put (put (put (put (put (put (put (put (put (put (put (put e77 52 (e77 5)) 53 v79) 54 v79) 55 v82) 56 v85) 57 v88) 58 v90) 59 v90) 60 v92) 61 v95) 62 v98) 63 v101) 64 v104) 65 v107) 66 v111) 67 v113) 68 v113) 69 v115) 70 v118) 71 v121) 72 v124) 73 v127) 74 v130) 75 v134) 76 v136) 77 v136) 78 v138) 79 v141) 80 v144) 81 v147) 82 v150) 83 v153) 84 v157) 85 v159) 4 (Value.bool false)) w158) (fun (K160 : KT) =>
K160 .normal (put (put (put (put (put (put (put (put (put (put (put (put (put (put (put (put (put (put (put (put (put (put (put (put (put (put (put (put (put (put (put (put (put (put e77 52 (e77 5)) 53 v79) 54 v79) 55 v82) 56 v85) 57 v88) 58 v90) 59 v90) 60 v92) 61 v95) 62 v98) 63 v101) 64 v104) 65 v107) 66 v111) 67 v113) 68 v113) 69 v115) 70 v118) 71 v121) 72 v124) 73 v127) 74 v130) 75 v134) 76 v136) 77 v136) 78 v138) 79 v141) 80 v144) 81 v147) 82 v150) 83 v153) 84 v157) 85 v159) w158) (thenK (fun e161 w162 =>
grdE (e161 8) false (fun (k163 : Value → World → Prop) => bindV (pFieldAddr P 61 (e161 2) 4 w162) k163) (fun v164 w165 =>
grdE (e161 8) false (fun (k166 : Value → World → Prop) => bindV (pLoad P 58 v164 w165) k166) (fun v167 w168 =>
grdE (e161 8) false (fun (k169 : Value → World → Prop) => callE P 95 #[v167] w168 k169 (fun c170 w171 => R (.panicked c170) w171)) (fun v172 w173 =>
pickE (e161 8) (Value.bool true) v172 fun v174 =>
grdE v174 true (fun (k175 : Value → World → Prop) => k175 (e161 9) w173) (fun v176 w177 =>
grdE v174 true (fun (k178 : Value → World → Prop) => k178 v176 w177) (fun v179 w180 =>
grdE v179 false (fun (k181 : Value → World → Prop) => bindV (pFieldAddr P 61 (e161 2) 5 w180) k181) (fun v182 w183 =>
grdE v179 false (fun (k184 : Value → World → Prop) => bindV (pLoad P 3 v182 w183) k184) (fun v185 w186 =>
grdE v179 false (fun (k187 : Value → World → Prop) => bindV (pBin P BinOp.eql 3 true v185 (Value.int IntKind.i64 0) w186) k187) (fun v188 w189 =>
grdE v179 false (fun (k190 : Value → World → Prop) => k190 v188 w189) (fun v191 w192 =>
grdE v191 true (fun (k193 : Value → World → Prop) => bindV (pFieldAddr P 61 (e161 2) 7 w192) k193) (fun v194 w195 =>
grdE v191 true (fun (k196 : Value → World → Prop) => bindV (pLoad P 59 v194 w195) k196) (fun v197 w198 =>
grdE v191 true (fun (k199 : Value → World → Prop) => bindV (pBuiltin P Builtin.len #[59] 3 [v197] w198) k199) (fun v200 w201 =>
grdE v191 true (fun (k202 : Value → World → Prop) => bindV (pBin P BinOp.eql 3 true v200 (Value.int IntKind.i64 0) w201) k202) (fun v203 w204 =>
grdE v179 false (fun (k205 : Value → World → Prop) => pickE v191 v203 (Value.bool false) fun v206 =>
k205 v206 w204) (fun v207 w208 =>
grdE v174 true (fun (k209 : Value → World → Prop) => pickE v179 (Value.bool true) v207 fun v210 =>
k209 v210 w208) (fun v211 w212 =>
pickE v174 v211 (Value.bool false) fun v213 =>
R (.returned v213) w212) w208) w204) w201) w198) w195) w192) w189) w186) w183) w180) w177) w173) w168) w165) w162) (topK P [(ResultVar.tmp 4)] R))) w154) w151) w148) w145) w142) w139) w135) w131) w128) w125) w122) w119) w116) w112) w108) w105) w102) w99) w96) w93) w89) w86) w83) w80) (topK P [(ResultVar.tmp 4)] R)))
theorem F74ok {w : World} {R : Ending → World → Prop} {a0 : Value} {a1 : Value} (h : F74 a0 a1 w R) : Calls P 74 #[a0, a1] w R :=
  calls_of_ev bodies mixed (c := bodyOf Tryz.f74) (nt := 106) (rs := [(ResultVar.tmp 4)]) (args := [a0, a1]) (fn := Tryz.f74) (by kernel_rfl) (by kernel_rfl) (by kernel_rfl) (by kernel_rfl) (by kernel_rfl) (by simp)
    (eq_mp (show F74 a0 a1 w R = ev P C (bodyOf Tryz.f74) (argE [a0, a1]) w (topK P [(ResultVar.tmp 4)] R) by kernel_rfl) h)
/-! ### moiety/moietyref03.Fields -/
def F75 (a0 : Value) (w : World) (R : Ending → World → Prop) : Prop :=
bindV (pBuildSlice P 168 10 [(0, (Value.string { data := #[] })), (1, (Value.string { data := #[116] })), (2, (Value.string { data := #[110] })), (3, (Value.string { data := #[110] })), (4, (Value.string { data := #[110, 98] })), (5, (Value.string { data := #[114] })), (6, (Value.string { data := #[114] })), (7, (Value.string { data := #[114] })), (8, (Value.string { data := #[108] })), (9, (Value.string { data := #[108] }))] w) fun v1 w2 =>
bindV (pBin P BinOp.lss 3 true a0 (Value.int IntKind.i64 1) w2) fun v3 w4 =>
grdE v3 false (fun (k5 : Value → World → Prop) => k5 a0 w4) (fun v6 w7 =>
grdE v3 false (fun (k8 : Value → World → Prop) => bindV (pBin P BinOp.gtr 3 true v6 (Value.int IntKind.i64 9) w7) k8) (fun v9 w10 =>
pickE v3 (Value.bool true) v9 fun v11 =>
condE v11 (fun (K12 : KT) =>
K12 .ret (put (put (put (put (put (put (put (put (put (put (argE [a0]) 2 (Value.string { data := #[] })) 4 v1) 3 v1) 5 a0) 6 v3) 7 v3) 8 v6) 9 v9) 10 v11) 2 (Value.string { data := #[] })) w10) (fun (K12 : KT) =>
K12 .normal (put (put (put (put (put (put (put (put (put (argE [a0]) 2 (Value.string { data := #[] })) 4 v1) 3 v1) 5 a0) 6 v3) 7 v3) 8 v6) 9 v9) 10 v11) w10) (thenK (fun e13 w14 =>
bindV (pIndexAddr P 168 (e13 3) (e13 0) w14) fun v15 w16 =>
bindV (pLoad P 9 v15 w16) fun v17 w18 =>
R (.returned v17) w18) (topK P [(ResultVar.tmp 2)] R))) w7) w4
theorem F75ok {w : World} {R : Ending → World → Prop} {a0 : Value} (h : F75 a0 w R) : Calls P 75 #[a0] w R :=
  calls_of_ev bodies mixed (c := bodyOf Tryz.f75) (nt := 15) (rs := [(ResultVar.tmp 2)]) (args := [a0]) (fn := Tryz.f75) (by kernel_rfl) (by kernel_rfl) (by kernel_rfl) (by kernel_rfl) (by kernel_rfl) (by simp)
    (eq_mp (show F75 a0 w R = ev P C (bodyOf Tryz.f75) (argE [a0]) w (topK P [(ResultVar.tmp 2)] R) by kernel_rfl) h)
/-! ### moiety/moietyref03.item -/
def F77 (a0 : Value) (a1 : Value) (a2 : Value) (w : World) (R : Ending → World → Prop) : Prop :=
bindV (pIndexAddr P 59 a1 a2 w) fun v1 w2 =>
bindV (pLoad P 105 v1 w2) fun v3 w4 =>
bindV (pAlloc P 105 w4) fun v5 w6 =>
bindU (pStore P 105 v5 v3 w6) fun w7 =>
bindV (pFieldAddr P 105 v5 1 w7) fun v8 w9 =>
bindV (pLoad P 9 v8 w9) fun v10 w11 =>
bindV (pBuiltin P Builtin.len #[9] 3 [v10] w11) fun v12 w13 =>
bindV (pBin P BinOp.gtr 3 true v12 (Value.int IntKind.i64 16) w13) fun v14 w15 =>
condE v14 (fun (K16 : KT) =>
K16 .ret (put (put (put (put (put (put (put (put (put (put (put (argE [a0, a1, a2]) 6 (Value.int IntKind.i64 0)) 8 a1) 9 a2) 10 v1) 11 v3) 7 v5) 12 v8) 13 v10) 14 v12) 15 v14) 6 (Value.int IntKind.i64 3)) w15) (fun (K16 : KT) =>
K16 .normal (put (put (put (put (put (put (put (put (put (put (argE [a0, a1, a2]) 6 (Value.int IntKind.i64 0)) 8 a1) 9 a2) 10 v1) 11 v3) 7 v5) 12 v8) 13 v10) 14 v12) 15 v14) w15) (thenK (fun e17 w18 =>
bindV (pBin P BinOp.eql 3 true (e17 0) (Value.int IntKind.i64 8) w18) fun v19 w20 =>
grdE v19 true (fun (k21 : Value → World → Prop) => bindV (pFieldAddr P 105 (e17 7) 0 w20) k21) (fun v22 w23 =>
grdE v19 true (fun (k24 : Value → World → Prop) => bindV (pLoad P 58 v22 w23) k24) (fun v25 w26 =>
grdE v19 true (fun (k27 : Value → World → Prop) => callE P 95 #[v25] w26 k27 (fun c28 w29 => R (.panicked c28) w29)) (fun v30 w31 =>
grdE v19 true (fun (k32 : Value → World → Prop) => bindV (pUn P UnOp.not v30 w31) k32) (fun v33 w34 =>
pickE v19 v33 (Value.bool false) fun v35 =>
grdE v35 false (fun (k36 : Value → World → Prop) => bindV (pFieldAddr P 105 (e17 7) 0 w34) k36) (fun v37 w38 =>
grdE v35 false (fun (k39 : Value → World → Prop) => bindV (pLoad P 58 v37 w38) k39) (fun v40 w41 =>
grdE v35 false (fun (k42 : Value → World → Prop) => callE P 76 #[v40] w41 k42 (fun c43 w44 => R (.panicked c43) w44)) (fun v45 w46 =>
grdE v35 false (fun (k47 : Value → World → Prop) => bindV (pUn P UnOp.not v45 w46) k47) (fun v48 w49 =>
pickE v35 (Value.bool true) v48 fun v50 =>
condE v50 (fun (K51 : KT) =>
K51 .ret (put (put (put (put (put (put (put (put (put (put (put (put (put (put (put e17 16 (e17 0)) 17 v19) 18 v19) 19 v22) 20 v25) 21 v30) 22 v33) 23 v35) 24 v35) 25 v37) 26 v40) 27 v45) 28 v48) 29 v50) 6 (Value.int IntKind.i64 4)) w49) (fun (K51 : KT) =>
K51 .normal (put (put (put (put (put (put (put (put (put (put (put (put (put (put e17 16 (e17 0)) 17 v19) 18 v19) 19 v22) 20 v25) 21 v30) 22 v33) 23 v35) 24 v35) 25 v37) 26 v40) 27 v45) 28 v48) 29 v50) w49) (thenK (fun e52 w53 =>
takeE (fun w56 => some ((e52 2), w56)) (drew w53) fun v54 h55 =>
takeE (fun w59 => pBin P BinOp.gtr 3 true v54 (Value.int IntKind.i64 0) w59) (drew w53) fun v57 h58 =>
takeE (fun w62 => some (v57, w62)) (drew w53) fun v60 h61 =>
takeE (fun w65 => qGrd v60 true (fun w65 => some ((e52 0), w65)) w65) (drew w53) fun v63 h64 =>
takeE (fun w68 => qGrd v60 true (fun w68 => pBin P BinOp.eql 3 true v63 (Value.int IntKind.i64 8) w68) w68) (drew w53) fun v66 h67 =>
takeE (fun w71 => qPick v60 v66 (Value.bool false) w71) (drew w53) fun v69 h70 =>
takeE (fun w74 => some (v69, w74)) (drew w53) fun v72 h73 =>
takeE (fun w77 => qGrd v72 true (fun w77 => some ((e52 1), w77)) w77) (drew w53) fun v75 h76 =>
takeE (fun w80 => qGrd v72 true (fun w80 => some ((e52 2), w80)) w80) (drew w53) fun v78 h79 =>
takeE (fun w83 => qGrd v72 true (fun w83 => pBin P BinOp.sub 3 true v78 (Value.int IntKind.i64 1) w83) w83) (drew w53) fun v81 h82 =>
takeE (fun w86 => qGrd v72 true (fun w86 => pIndexAddr P 59 v75 v81 w86) w86) (drew w53) fun v84 h85 =>
takeE (fun w89 => qGrd v72 true (fun w89 => pFieldAddr P 105 v84 1 w89) w89) (drew w53) fun v87 h88 =>
takeE (fun w92 => qGrd v72 true (fun w92 => pLoad P 9 v87 w92) w92) (drew w53) fun v90 h91 =>
takeE (fun w95 => qGrd v72 true (fun w95 => pFieldAddr P 105 (e52 7) 1 w95) w95) (drew w53) fun v93 h94 =>
takeE (fun w98 => qGrd v72 true (fun w98 => pLoad P 9 v93 w98) w98) (drew w53) fun v96 h97 =>
takeE (fun w101 => qGrd v72 true (fun w101 => pBin P BinOp.lss 9 false v90 v96 w101) w101) (drew w53) fun v99 h100 =>
takeE (fun w104 => qGrd v72 true (fun w104 => pUn P UnOp.not v99 w104) w104) (drew w53) fun v102 h103 =>
takeE (fun w107 => qPick v72 v102 (Value.bool false) w107) (drew w53) fun v105 h106 =>
condE v105 (fun (K108 : KT) =>
K108 .ret (put (put (put (put (put (put (put (put (put (put (put (put (put (put (put (put (put (put (put e52 30 v54) 31 v57) 32 v60) 33 v63) 34 v66) 35 v69) 36 v72) 37 v75) 38 v78) 39 v81) 40 v84) 41 v87) 42 v90) 43 v93) 44 v96) 45 v99) 46 v102) 47 v105) 6 (Value.int IntKind.i64 4)) (drew w53)) (fun (K108 : KT) =>
K108 .normal (put (put (put (put (put (put (put (put (put (put (put (put (put (put (put (put (put (put e52 30 v54) 31 v57) 32 v60) 33 v63) 34 v66) 35 v69) 36 v72) 37 v75) 38 v78) 39 v81) 40 v84) 41 v87) 42 v90) 43 v93) 44 v96) 45 v99) 46 v102) 47 v105) (drew w53)) (thenK (fun e109 w110 =>
takeE (fun w113 => some ((e109 2), w113)) (drew w110) fun v111 h112 =>
takeE (fun w116 => pBin P BinOp.gtr 3 true v111 (Value.int IntKind.i64 0) w116) (drew w110) fun v114 h115 =>
takeE (fun w119 => some (v114, w119)) (drew w110) fun v117 h118 =>
takeE (fun w122 => qGrd v117 true (fun w122 => some ((e109 0), w122)) w122) (drew w110) fun v120 h121 =>
takeE (fun w125 => qGrd v117 true (fun w125 => pBin P BinOp.eql 3 true v120 (Value.int IntKind.i64 9) w125) w125) (drew w110) fun v123 h124 =>
takeE (fun w128 => qPick v117 v123 (Value.bool false) w128) (drew w110) fun v126 h127 =>
takeE (fun w131 => some (v126, w131)) (drew w110) fun v129 h130 =>
takeE (fun w134 => qGrd v129 true (fun w134 => some ((e109 1), w134)) w134) (drew w110) fun v132 h133 =>
takeE (fun w137 => qGrd v129 true (fun w137 => some ((e109 2), w137)) w137) (drew w110) fun v135 h136 =>
takeE (fun w140 => qGrd v129 true (fun w140 => pBin P BinOp.sub 3 true v135 (Value.int IntKind.i64 1) w140) w140) (drew w110) fun v138 h139 =>
takeE (fun w143 => qGrd v129 true (fun w143 => pIndexAddr P 59 v132 v138 w143) w143) (drew w110) fun v141 h142 =>
takeE (fun w146 => qGrd v129 true (fun w146 => pLoad P 105 v141 w146) w146) (drew w110) fun v144 h145 =>
takeE (fun w149 => qGrd v129 true (fun w149 => pLoad P 105 (e109 7) w149) w149) (drew w110) fun v147 h148 =>
grdE v129 true (fun (k151 : Value → World → Prop) => callE P 97 #[v144, v147] (drew w110) k151 (fun c152 w153 => ∀ (e150 : Env), agreeOff [48, 49, 50, 51, 52, 53, 54, 55, 56, 57, 58, 59, 60] (put (put (put (put (put (put (put (put (put (put (put (put (put e109 48 v111) 49 v114) 50 v117) 51 v120) 52 v123) 53 v126) 54 v129) 55 v132) 56 v135) 57 v138) 58 v141) 59 v144) 60 v147) e150 → R (.panicked c152) w153)) (fun v154 w155 =>
takeE (fun w158 => qGrd v129 true (fun w158 => pUn P UnOp.not v154 w158) w158) w155 fun v156 h157 =>
takeE (fun w161 => qPick v129 v156 (Value.bool false) w161) w155 fun v159 h160 =>
condE v159 (fun (K162 : KT) =>
K162 .ret (put (put (put (put (put (put (put (put (put (put (put (put (put (put (put (put (put e109 48 v111) 49 v114) 50 v117) 51 v120) 52 v123) 53 v126) 54 v129) 55 v132) 56 v135) 57 v138) 58 v141) 59 v144) 60 v147) 61 v154) 62 v156) 63 v159) 6 (Value.int IntKind.i64 4)) w155) (fun (K162 : KT) =>
K162 .normal (put (put (put (put (put (put (put (put (put (put (put (put (put (put (put (put e109 48 v111) 49 v114) 50 v117) 51 v120) 52 v123) 53 v126) 54 v129) 55 v132) 56 v135) 57 v138) 58 v141) 59 v144) 60 v147) 61 v154) 62 v156) 63 v159) w155) (thenK (fun e163 w164 =>
R (.returned (Value.int IntKind.i64 0)) w164) (topK P [(ResultVar.tmp 6)] R))) (drew w110)) (topK P [(ResultVar.tmp 6)] R))) (topK P [(ResultVar.tmp 6)] R))) w46) w41) w38) w34) w31) w26) w23) w20) (topK P [(ResultVar.tmp 6)] R))
theorem F77ok {w : World} {R : Ending → World → Prop} {a0 : Value} {a1 : Value} {a2 : Value} (h : F77 a0 a1 a2 w R) : Calls P 77 #[a0, a1, a2] w R :=
  calls_of_ev bodies mixed (c := bodyOf Tryz.f77) (nt := 64) (rs := [(ResultVar.tmp 6)]) (args := [a0, a1, a2]) (fn := Tryz.f77) (by kernel_rfl) (by kernel_rfl) (by kernel_rfl) (by kernel_rfl) (by kernel_rfl) (by simp)
    (eq_mp (show F77 a0 a1 a2 w R = ev P C (bodyOf Tryz.f77) (argE [a0, a1, a2]) w (topK P [(ResultVar.tmp 6)] R) by kernel_rfl) h)
/-! ### moiety/rec.Better -/
def F93 (a0 : Value) (a1 : Value) (w : World) (R : Ending → World → Prop) : Prop :=
bindV (pBox P 105 a0 w) fun v1 w2 =>
bindV (pBox P 105 a1 w2) fun v3 w4 =>
bindV (pFieldAddr P 105 v1 0 w4) fun v5 w6 =>
bindV (pLoad P 58 v5 w6) fun v7 w8 =>
bindV (pFieldAddr P 105 v3 0 w8) fun v9 w10 =>
bindV (pLoad P 58 v9 w10) fun v11 w12 =>
callE P 90 #[v7, v11] w12 (fun v15 w16 =>
bindV (pUn P UnOp.not v15 w16) fun v17 w18 =>
condE v17 (fun (K19 : KT) =>
bindV (pFieldAddr P 105 v3 0 w18) fun v20 w21 =>
bindV (pLoad P 58 v20 w21) fun v22 w23 =>
bindV (pFieldAddr P 105 v1 0 w23) fun v24 w25 =>
bindV (pLoad P 58 v24 w25) fun v26 w27 =>
callE P 104 #[v22, v26] w27 (fun v30 w31 =>
K19 .ret (put (put (put (put (put (put (put (put (put (put (put (put (put (put (put (argE [a0, a1]) 2 v1) 3 v3) 4 (Value.bool false)) 5 v5) 6 v7) 7 v9) 8 v11) 9 v15) 10 v17) 11 v20) 12 v22) 13 v24) 14 v26) 15 v30) 4 v30) w31) (fun c28 w29 => K19 (.panic c28) (put (put (put (put (put (put (put (put (put (put (put (put (put (argE [a0, a1]) 2 v1) 3 v3) 4 (Value.bool false)) 5 v5) 6 v7) 7 v9) 8 v11) 9 v15) 10 v17) 11 v20) 12 v22) 13 v24) 14 v26) w29)) (fun (K19 : KT) =>
K19 .normal (put (put (put (put (put (put (put (put (put (argE [a0, a1]) 2 v1) 3 v3) 4 (Value.bool false)) 5 v5) 6 v7) 7 v9) 8 v11) 9 v15) 10 v17) w18) (thenK (fun e32 w33 =>
bindV (pFieldAddr P 105 (e32 2) 1 w33) fun v34 w35 =>
bindV (pLoad P 9 v34 w35) fun v36 w37 =>
bindV (pFieldAddr P 105 (e32 3) 1 w37) fun v38 w39 =>
bindV (pLoad P 9 v38 w39) fun v40 w41 =>
bindV (pBin P BinOp.lss 9 false v36 v40 w41) fun v42 w43 =>
R (.returned v42) w43) (topK P [(ResultVar.tmp 4)] R))) (fun c13 w14 => R (.panicked c13) w14)
theorem F93ok {w : World} {R : Ending → World → Prop} {a0 : Value} {a1 : Value} (h : F93 a0 a1 w R) : Calls P 93 #[a0, a1] w R :=
  calls_of_ev bodies mixed (c := bodyOf Tryz.f93) (nt := 21) (rs := [(ResultVar.tmp 4)]) (args := [a0, a1]) (fn := Tryz.f93) (by kernel_rfl) (by kernel_rfl) (by kernel_rfl) (by kernel_rfl) (by kernel_rfl) (by simp)
    (eq_mp (show F93 a0 a1 w R = ev P C (bodyOf Tryz.f93) (argE [a0, a1]) w (topK P [(ResultVar.tmp 4)] R) by kernel_rfl) h)
/-! ### moiety/moietyref03.zero -/
def F95 (a0 : Value) (w : World) (R : Ending → World → Prop) : Prop :=
callE P 66 #[a0, (Value.float FloatKind.f64 0)] w (fun v3 w4 =>
R (.returned v3) w4) (fun c1 w2 => R (.panicked c1) w2)
theorem F95ok {w : World} {R : Ending → World → Prop} {a0 : Value} (h : F95 a0 w R) : Calls P 95 #[a0] w R :=
  calls_of_ev bodies mixed (c := bodyOf Tryz.f95) (nt := 5) (rs := [(ResultVar.tmp 2)]) (args := [a0]) (fn := Tryz.f95) (by kernel_rfl) (by kernel_rfl) (by kernel_rfl) (by kernel_rfl) (by kernel_rfl) (by simp)
    (eq_mp (show F95 a0 w R = ev P C (bodyOf Tryz.f95) (argE [a0]) w (topK P [(ResultVar.tmp 2)] R) by kernel_rfl) h)
/-! ### moiety/moietyref03.Ahead -/
def F97 (a0 : Value) (a1 : Value) (w : World) (R : Ending → World → Prop) : Prop :=
bindV (pBox P 105 a0 w) fun v1 w2 =>
bindV (pBox P 105 a1 w2) fun v3 w4 =>
bindV (pFieldAddr P 105 v3 0 w4) fun v5 w6 =>
bindV (pLoad P 58 v5 w6) fun v7 w8 =>
bindV (pFieldAddr P 105 v1 0 w8) fun v9 w10 =>
bindV (pLoad P 58 v9 w10) fun v11 w12 =>
callE P 89 #[v7, v11] w12 (fun v15 w16 =>
condE v15 (fun (K17 : KT) =>
K17 .ret (put (put (put (put (put (put (put (put (put (argE [a0, a1]) 2 v1) 3 v3) 4 (Value.bool false)) 5 v5) 6 v7) 7 v9) 8 v11) 9 v15) 4 (Value.bool true)) w16) (fun (K17 : KT) =>
K17 .normal (put (put (put (put (put (put (put (put (argE [a0, a1]) 2 v1) 3 v3) 4 (Value.bool false)) 5 v5) 6 v7) 7 v9) 8 v11) 9 v15) w16) (thenK (fun e18 w19 =>
bindV (pFieldAddr P 105 (e18 2) 0 w19) fun v20 w21 =>
bindV (pLoad P 58 v20 w21) fun v22 w23 =>
bindV (pFieldAddr P 105 (e18 3) 0 w23) fun v24 w25 =>
bindV (pLoad P 58 v24 w25) fun v26 w27 =>
callE P 66 #[v22, v26] w27 (fun v30 w31 =>
grdE v30 true (fun (k32 : Value → World → Prop) => bindV (pFieldAddr P 105 (e18 2) 1 w31) k32) (fun v33 w34 =>
grdE v30 true (fun (k35 : Value → World → Prop) => bindV (pLoad P 9 v33 w34) k35) (fun v36 w37 =>
grdE v30 true (fun (k38 : Value → World → Prop) => bindV (pFieldAddr P 105 (e18 3) 1 w37) k38) (fun v39 w40 =>
grdE v30 true (fun (k41 : Value → World → Prop) => bindV (pLoad P 9 v39 w40) k41) (fun v42 w43 =>
grdE v30 true (fun (k44 : Value → World → Prop) => bindV (pBin P BinOp.lss 9 false v36 v42 w43) k44) (fun v45 w46 =>
pickE v30 v45 (Value.bool false) fun v47 =>
R (.returned v47) w46) w43) w40) w37) w34) w31) (fun c28 w29 => R (.panicked c28) w29)) (topK P [(ResultVar.tmp 4)] R))) (fun c13 w14 => R (.panicked c13) w14)
theorem F97ok {w : World} {R : Ending → World → Prop} {a0 : Value} {a1 : Value} (h : F97 a0 a1 w R) : Calls P 97 #[a0, a1] w R :=
  calls_of_ev bodies mixed (c := bodyOf Tryz.f97) (nt := 22) (rs := [(ResultVar.tmp 4)]) (args := [a0, a1]) (fn := Tryz.f97) (by kernel_rfl) (by kernel_rfl) (by kernel_rfl) (by kernel_rfl) (by kernel_rfl) (by simp)
    (eq_mp (show F97 a0 a1 w R = ev P C (bodyOf Tryz.f97) (argE [a0, a1]) w (topK P [(ResultVar.tmp 4)] R) by kernel_rfl) h)
end Go.Proofs.YtieejbkbdfccdaaGreat

set_option linter.unusedVariables false
set_option linter.unusedSimpArgs false
namespace Go.Proofs.YtieejbkbdfccdaaGreat
open Go Env
/-! ### moiety/rec.Clone -/
def F44 (a0 : Value) (w : World) (R : Ending → World → Prop) : Prop :=
bindV (pBox P 61 a0 w) fun v1 w2 =>
bindV (pAlloc P 61 w2) fun v3 w4 =>
bindV (pFieldAddr P 61 v1 7 w4) fun v5 w6 =>
bindV (pLoad P 59 v5 w6) fun v7 w8 =>
callE P 73 #[v7] w8 (fun v11 w12 =>
bindV (pFieldAddr P 61 v1 7 w12) fun v13 w14 =>
bindU (pStore P 59 v13 v11 w14) fun w15 =>
bindV (pLoad P 61 v1 w15) fun v16 w17 =>
bindU (pStore P 61 v3 v16 w17) fun w18 =>
topK P [(ResultVar.cell 2 61)] R .ret (put (put (put (put (put (put (put (argE [a0]) 1 v1) 2 v3) 3 v5) 4 v7) 5 v11) 6 v13) 7 v16) w18) (fun c9 w10 => R (.panicked c9) w10)
theorem F44ok {w : World} {R : Ending → World → Prop} {a0 : Value} (h : F44 a0 w R) : Calls P 44 #[a0] w R :=
  calls_of_ev bodies mixed (c := bodyOf Tryz.f44) (nt := 8) (rs := [(ResultVar.cell 2 61)]) (args := [a0]) (fn := Tryz.f44) (by kernel_rfl) (by kernel_rfl) (by kernel_rfl) (by kernel_rfl) (by kernel_rfl) (by simp)
    (eq_mp (show F44 a0 w R = ev P C (bodyOf Tryz.f44) (argE [a0]) w (topK P [(ResultVar.cell 2 61)] R) by kernel_rfl) h)
/-! ### slices.Clone[[]moiety/api.Item,moiety/api.Item] -/
def F73 (a0 : Value) (w : World) (R : Ending → World → Prop) : Prop :=
bindV (pBin P BinOp.eql 59 true a0 (Value.slice none 0 0) w) fun v1 w2 =>
condE v1 (fun (K3 : KT) =>
K3 .ret (put (put (put (put (argE [a0]) 2 (Value.slice none 0 0)) 3 a0) 4 v1) 2 (Value.slice none 0 0)) w2) (fun (K3 : KT) =>
K3 .normal (put (put (put (argE [a0]) 2 (Value.slice none 0 0)) 3 a0) 4 v1) w2) (thenK (fun e4 w5 =>
bindV (pBuildSlice P 59 0 [] w5) fun v6 w7 =>
bindV (pBuiltin P Builtin.append #[59, 59] 59 [v6, (e4 0)] w7) fun v8 w9 =>
R (.returned v8) w9) (topK P [(ResultVar.tmp 2)] R))
theorem F73ok {w : World} {R : Ending → World → Prop} {a0 : Value} (h : F73 a0 w R) : Calls P 73 #[a0] w R :=
  calls_of_ev bodies mixed (c := bodyOf Tryz.f73) (nt := 8) (rs := [(ResultVar.tmp 2)]) (args := [a0]) (fn := Tryz.f73) (by kernel_rfl) (by kernel_rfl) (by kernel_rfl) (by kernel_rfl) (by kernel_rfl) (by simp)
    (eq_mp (show F73 a0 w R = ev P C (bodyOf Tryz.f73) (argE [a0]) w (topK P [(ResultVar.tmp 2)] R) by kernel_rfl) h)
end Go.Proofs.YtieejbkbdfccdaaGreat
