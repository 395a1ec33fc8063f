/- The functions' residual programs, printed by gen.py. -/
import Derived.Test.YticncfkpfpkfoaaBaseD
namespace Go.Proofs.Yticncfkpfpkfoaa
open Go
/-! ### moiety/flo.Back -/
def F104 (a0 : Value) (w : World) (R : Ending → World → Prop) : Prop :=
bindV (pUn P UnOp.xor a0 w) fun v7n1 w2 =>
bindV (pBin P BinOp.and 132 true a0 (Value.int IntKind.u64 9223372036854775808) w2) fun v9n3 w4 =>
bindV (pBin P BinOp.neq 132 true v9n3 (Value.int IntKind.u64 0) w4) fun v10n5 w6 =>
condE v10n5 (fun (K7 : KT) =>
bindV (pBin P BinOp.andNot 132 true a0 (Value.int IntKind.u64 9223372036854775808) w6) fun v12n8 w9 =>
K7 .normal (Env.put (Env.put (Env.put (Env.put (Env.put (Env.put (Env.put (Env.put (Env.put (Env.put (Env.put (argE [a0]) 2 (Value.float FloatKind.f64 0)) 3 (Value.bool false)) 6 a0) 7 v7n1) 4 v7n1) 8 a0) 9 v9n3) 10 v10n5) 11 a0) 12 v12n8) 4 v12n8) w9) (fun (K7 : KT) =>
K7 .normal (Env.put (Env.put (Env.put (Env.put (Env.put (Env.put (Env.put (Env.put (argE [a0]) 2 (Value.float FloatKind.f64 0)) 3 (Value.bool false)) 6 a0) 7 v7n1) 4 v7n1) 8 a0) 9 v9n3) 10 v10n5) w6) (thenK (fun e10 w11 =>
bindV (pExtern P 105 [(e10 4)] w11) fun v14n12 w13 =>
callE P 106 #[v14n12] w13 (fun v16n16 w17 =>
bindV (pBin P BinOp.neq 132 false v16n16 (e10 0) w17) fun v18n18 w19 =>
condE v18n18 (fun (K20 : KT) =>
K20 .ret (Env.put (Env.put (Env.put (Env.put (Env.put (Env.put (Env.put (Env.put (Env.put e10 13 (e10 4)) 14 v14n12) 5 v14n12) 15 v14n12) 16 v16n16) 17 (e10 0)) 18 v18n18) 2 (Value.float FloatKind.f64 0)) 3 (Value.bool false)) w19) (fun (K20 : KT) =>
K20 .normal (Env.put (Env.put (Env.put (Env.put (Env.put (Env.put (Env.put e10 13 (e10 4)) 14 v14n12) 5 v14n12) 15 v14n12) 16 v16n16) 17 (e10 0)) 18 v18n18) w19) (thenK (fun e21 w22 =>
R (.returned (.tuple #[(e21 5), (Value.bool true)])) w22) (topK P [(ResultVar.tmp 2), (ResultVar.tmp 3)] R))) (fun c14 w15 => R (.panicked c14) w15)) (topK P [(ResultVar.tmp 2), (ResultVar.tmp 3)] R))
theorem F104ok {w : World} {R : Ending → World → Prop} {a0 : Value} (h : F104 a0 w R) : Calls P 104 #[a0] w R :=
  calls_of_ev bodies mixed (c := bodyOf Try.f104) (nt := 20) (rs := [(ResultVar.tmp 2), (ResultVar.tmp 3)]) (args := [a0]) (fn := Try.f104) (by kernel_rfl) (by kernel_rfl) (by kernel_rfl) (by kernel_rfl) (by kernel_rfl) (by simp)
    (eq_mp (show F104 a0 w R = ev P C (bodyOf Try.f104) (argE [a0]) w (topK P [(ResultVar.tmp 2), (ResultVar.tmp 3)] R) by kernel_rfl) h)

/-! ### moiety/flo.Key -/
def F106 (a0 : Value) (w : World) (R : Ending → World → Prop) : Prop :=
callE P 108 #[a0] w (fun v5n3 w4 =>
bindV (pExtern P 107 [v5n3] w4) fun v6n5 w6 =>
bindV (pBin P BinOp.and 132 true v6n5 (Value.int IntKind.u64 9223372036854775808) w6) fun v8n7 w8 =>
bindV (pBin P BinOp.neq 132 true v8n7 (Value.int IntKind.u64 0) w8) fun v9n9 w10 =>
condE v9n9 (fun (K11 : KT) =>
bindV (pUn P UnOp.xor v6n5 w10) fun v11n12 w13 =>
K11 .ret (Env.put (Env.put (Env.put (Env.put (Env.put (Env.put (Env.put (Env.put (Env.put (Env.put (Env.put (argE [a0]) 2 (Value.int IntKind.u64 0)) 4 a0) 5 v5n3) 6 v6n5) 3 v6n5) 7 v6n5) 8 v8n7) 9 v9n9) 10 v6n5) 11 v11n12) 2 v11n12) w13) (fun (K11 : KT) =>
K11 .normal (Env.put (Env.put (Env.put (Env.put (Env.put (Env.put (Env.put (Env.put (argE [a0]) 2 (Value.int IntKind.u64 0)) 4 a0) 5 v5n3) 6 v6n5) 3 v6n5) 7 v6n5) 8 v8n7) 9 v9n9) w10) (thenK (fun e14 w15 =>
bindV (pBin P BinOp.or 132 true (e14 3) (Value.int IntKind.u64 9223372036854775808) w15) fun v13n16 w17 =>
R (.returned v13n16) w17) (topK P [(ResultVar.tmp 2)] R))) (fun c1 w2 => R (.panicked c1) w2)
theorem F106ok {w : World} {R : Ending → World → Prop} {a0 : Value} (h : F106 a0 w R) : Calls P 106 #[a0] w R :=
  calls_of_ev bodies mixed (c := bodyOf Try.f106) (nt := 14) (rs := [(ResultVar.tmp 2)]) (args := [a0]) (fn := Try.f106) (by kernel_rfl) (by kernel_rfl) (by kernel_rfl) (by kernel_rfl) (by kernel_rfl) (by simp)
    (eq_mp (show F106 a0 w R = ev P C (bodyOf Try.f106) (argE [a0]) w (topK P [(ResultVar.tmp 2)] R) by kernel_rfl) h)

/-! ### moiety/flo.Canon -/
def F108 (a0 : Value) (w : World) (R : Ending → World → Prop) : Prop :=
bindV (pBin P BinOp.neq 145 false a0 a0 w) fun v5n1 w2 =>
condE v5n1 (fun (K3 : KT) =>
callE P 109 #[] w2 (fun v6n6 w7 =>
K3 .ret (Env.put (Env.put (Env.put (Env.put (Env.put (Env.put (argE [a0]) 2 (Value.float FloatKind.f64 0)) 3 a0) 4 a0) 5 v5n1) 6 v6n6) 2 v6n6) w7) (fun c4 w5 => K3 (.panic c4) (Env.put (Env.put (Env.put (Env.put (argE [a0]) 2 (Value.float FloatKind.f64 0)) 3 a0) 4 a0) 5 v5n1) w5)) (fun (K3 : KT) =>
K3 .normal (Env.put (Env.put (Env.put (Env.put (argE [a0]) 2 (Value.float FloatKind.f64 0)) 3 a0) 4 a0) 5 v5n1) w2) (thenK (fun e8 w9 =>
R (.returned (e8 0)) w9) (topK P [(ResultVar.tmp 2)] R))
theorem F108ok {w : World} {R : Ending → World → Prop} {a0 : Value} (h : F108 a0 w R) : Calls P 108 #[a0] w R :=
  calls_of_ev bodies mixed (c := bodyOf Try.f108) (nt := 8) (rs := [(ResultVar.tmp 2)]) (args := [a0]) (fn := Try.f108) (by kernel_rfl) (by kernel_rfl) (by kernel_rfl) (by kernel_rfl) (by kernel_rfl) (by simp)
    (eq_mp (show F108 a0 w R = ev P C (bodyOf Try.f108) (argE [a0]) w (topK P [(ResultVar.tmp 2)] R) by kernel_rfl) h)

/-! ### math.NaN -/
def F109 (w : World) (R : Ending → World → Prop) : Prop :=
bindV (pExtern P 105 [(Value.int IntKind.u64 9221120237041090561)] w) fun v1n1 w2 =>
R (.returned v1n1) w2
theorem F109ok {w : World} {R : Ending → World → Prop} (h : F109  w R) : Calls P 109 #[] w R :=
  calls_of_ev bodies mixed (c := bodyOf Try.f109) (nt := 2) (rs := [(ResultVar.tmp 0)]) (args := []) (fn := Try.f109) (by kernel_rfl) (by kernel_rfl) (by kernel_rfl) (by kernel_rfl) (by kernel_rfl) (by simp)
    (eq_mp (show F109  w R = ev P C (bodyOf Try.f109) (argE []) w (topK P [(ResultVar.tmp 0)] R) by kernel_rfl) h)

end Go.Proofs.Yticncfkpfpkfoaa
