/- Parts in memory. -/
import Derived.Test.YtieejbkbdfccdaaDoorPrims4
import Derived.Test.YtieejbkbdfccdaaDoorTypes
import Derived.Test.YtieejbkbdfccdaaDoorPackM
set_option linter.unusedVariables false
set_option linter.unusedSimpArgs false
namespace Go.Proofs.YtieejbkbdfccdaaDoor
open Go

def partC (p : PartP) : List Value := [bv p.kind, u64 p.u, i64 p.i, fl p.f, strB p.s, .bool p.b]
def okP (p : PartP) : Prop := p.u < 2 * H63 ∧ (-9223372036854775808 ≤ p.i ∧ p.i < 9223372036854775808) ∧ p.f < 2 * H63
def IsParts (w : World) (v : Value) (L : List PartP) : Prop := RdV w v L.length (flat partC L) ∧ ∀ p ∈ L, okP p
theorem IsParts.fr0 {w w' : World} {v : Value} {L : List PartP} (h : IsParts w v L) (hf : Fr [] w w') : IsParts w' v L := ⟨h.1.fr0 hf, h.2⟩
theorem partC_len : ∀ (L : List PartP), ∀ p ∈ L, (partC p).length = 6 := fun _ _ _ => rfl
@[simp] theorem oc_strB (l : List UInt8) : (strB l).oneCell' = true := noRfl rfl
theorem partC_one {p : PartP} : ∀ v ∈ partC p, v.oneCell' = true := by
  intro v hv
  simp only [partC, List.mem_cons, List.not_mem_nil, or_false] at hv
  rcases hv with rfl | rfl | rfl | rfl | rfl | rfl <;> rfl
theorem partC_oneT (p : PartP) : (∀ v, v ∈ partC p → v.oneCell' = true) = True := by simpa using fun v hv => partC_one v hv
theorem kk (x : UInt8) (n : Nat) (h : n < 256) : (x.toNat = n) = (x = UInt8.ofNat n) := by
  apply propext
  constructor
  · intro e; apply UInt8.toNat_inj.1; rw [e, UInt8.toNat_ofNat']; omega
  · rintro rfl; rw [UInt8.toNat_ofNat']; omega
theorem kk117 (x : UInt8) : (x.toNat = 117) = (x = 117) := kk x 117 (by omega)
theorem kk105 (x : UInt8) : (x.toNat = 105) = (x = 105) := kk x 105 (by omega)
theorem kk102 (x : UInt8) : (x.toNat = 102) = (x = 102) := kk x 102 (by omega)
theorem kk115 (x : UInt8) : (x.toNat = 115) = (x = 115) := kk x 115 (by omega)
theorem kk98 (x : UInt8) : (x.toNat = 98) = (x = 98) := kk x 98 (by omega)
theorem ki117 (x : UInt8) : ((x.toNat : Int) = 117) = (x = 117) := by rw [← kk117]; exact propext ⟨fun h => by omega, fun h => by omega⟩
theorem ki105 (x : UInt8) : ((x.toNat : Int) = 105) = (x = 105) := by rw [← kk105]; exact propext ⟨fun h => by omega, fun h => by omega⟩
theorem ki102 (x : UInt8) : ((x.toNat : Int) = 102) = (x = 102) := by rw [← kk102]; exact propext ⟨fun h => by omega, fun h => by omega⟩
theorem ki115 (x : UInt8) : ((x.toNat : Int) = 115) = (x = 115) := by rw [← kk115]; exact propext ⟨fun h => by omega, fun h => by omega⟩
theorem ki98 (x : UInt8) : ((x.toNat : Int) = 98) = (x = 98) := by rw [← kk98]; exact propext ⟨fun h => by omega, fun h => by omega⟩

theorem own_base {w : World} {base base' e size : Nat} {v : Value} {n : Nat} {xs : List Value} (h : w.ownsRow base e size v n xs) (hb : base' ≤ base) : w.ownsRow base' e size v n xs := by
  refine ⟨h.1, ?_⟩
  rcases h.2 with h2 | ⟨g, cap, cur, h1, h2, h3⟩
  · exact .inl h2
  · exact .inr ⟨g, cap, cur, h1, Nat.le_trans hb h2, h3⟩

end Go.Proofs.YtieejbkbdfccdaaDoor
