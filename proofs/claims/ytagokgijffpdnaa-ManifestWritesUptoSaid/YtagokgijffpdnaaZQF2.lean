import Derived.Test.YtagokgijffpdnaaZQF
namespace Go.Proofs.YtagokgijffpdnaaQ
open Go.Proofs.YtagokgijffpdnaaW.PrintWords
set_option linter.unusedVariables false
set_option linter.unusedSimpArgs false
theorem or_u32 (x c : Int) (h0 : 0 ≤ x) (h1 : x < 16777216) (hc : 0 ≤ c) (hc2 : c < 256) : Go.bits .or .u32 ((x * 256) % 4294967296) (c % 4294967296) = x * 256 + c := by
  have e1 : (x * 256) % 4294967296 = x * 256 := by omega
  have e2 : c % 4294967296 = c := by omega
  rw [e1, e2]
  obtain ⟨X, rfl⟩ := Int.eq_ofNat_of_zero_le h0
  obtain ⟨Y, rfl⟩ := Int.eq_ofNat_of_zero_le hc
  have := Go.u32_or_nat (X * 256) Y (by omega) (by omega)
  rw [Go.nat_join 8 _ _ (by omega) (by omega)] at this
  have e : ((X * 256 : Nat) : Int) = (X : Int) * 256 := by omega
  rw [← e, this, Int.natCast_add]
end Go.Proofs.YtagokgijffpdnaaQ
