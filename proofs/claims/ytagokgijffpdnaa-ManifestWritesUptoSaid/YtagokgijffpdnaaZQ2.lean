import Derived.Test.YtagokgijffpdnaaZQ1
import Derived.Test.YtagokgijffpdnaaZWMore
namespace Go.Proofs.YtagokgijffpdnaaQ
open Go.RowKit Go.Proofs.YtagokgijffpdnaaW.PrintWords Go.Proofs.YtagokgijffpdnaaW.PrintMore
set_option linter.unusedVariables false
set_option linter.unusedSimpArgs false
theorem w64 {x : Int} (h0 : -9223372036854775808 ≤ x) (h1 : x < 9223372036854775808) : wrap64 x = x := by unfold wrap64; omega
theorem wu64 {x : Int} (h0 : 0 ≤ x) (h1 : x < 18446744073709551616) : IntKind.u64.wrap x = x := by simp [IntKind.wrap, IntKind.bits, IntKind.signed]; omega
theorem wu64_def (x : Int) : IntKind.u64.wrap x = x % 18446744073709551616 := by simp [IntKind.wrap, IntKind.bits, IntKind.signed]
theorem shr_u64_lit (x : Int) (k : Nat) (hk : k ≤ 64) : shr .u64 x (k : Int) = x / 2 ^ k := by
  unfold shr; simp [IntKind.bits]; congr 2; omega
theorem or_join' (x y : Int) (i : Nat) (h0 : 0 ≤ x) (h1 : x < 18446744073709551616) (h2 : 0 ≤ y) (h3 : y < 18446744073709551616) (hx : x % 2 ^ i = 0) (hy : y < 2 ^ i) : Go.bits .or .u64 y x = y + x := by
  obtain ⟨X, rfl⟩ := Int.eq_ofNat_of_zero_le h0
  obtain ⟨Y, rfl⟩ := Int.eq_ofNat_of_zero_le h2
  rw [Go.u64_or_nat Y X (by omega) (by omega), Nat.or_comm, Go.nat_join i X Y (by exact_mod_cast hx) (by exact_mod_cast hy)]
  omega
theorem xor_u64_ones (x : Int) (h0 : 0 ≤ x) (h1 : x < 18446744073709551616) : Go.bits .xor .u64 x 18446744073709551615 = 18446744073709551615 - x := by
  obtain ⟨X, rfl⟩ := Int.eq_ofNat_of_zero_le h0
  have h := Go.u64_xor_nat X 18446744073709551615 (by omega) (by omega)
  have e : X ^^^ 18446744073709551615 = 18446744073709551615 - X := by
    have hx : X < 2 ^ 64 := by omega
    have : (BitVec.ofNat 64 X ^^^ BitVec.allOnes 64).toNat = (~~~ BitVec.ofNat 64 X).toNat := by rw [BitVec.xor_allOnes]
    rw [BitVec.toNat_xor, BitVec.toNat_not, BitVec.toNat_ofNat, BitVec.toNat_allOnes, Nat.mod_eq_of_lt hx] at this
    simpa using this
  rw [e] at h
  have : ((18446744073709551615 : Nat) : Int) = 18446744073709551615 := rfl
  rw [← this, h]
  omega
theorem xor_u64_zero (x : Int) (h0 : 0 ≤ x) (h1 : x < 18446744073709551616) : Go.bits .xor .u64 x 0 = x := by
  obtain ⟨X, rfl⟩ := Int.eq_ofNat_of_zero_le h0
  have h := Go.u64_xor_nat X 0 (by omega) (by omega)
  simpa using h
theorem zig (a : Int) (h : i64 a) : Go.bits .xor .u64 (IntKind.u64.wrap (wrap64 (a * 2))) (IntKind.u64.wrap (a / 9223372036854775808)) = fold a := by
  obtain ⟨h0, h1⟩ := h
  unfold fold
  by_cases c : a < 0
  · rw [if_pos c]
    have e1 : a / 9223372036854775808 = -1 := by omega
    have e2 : IntKind.u64.wrap (-1) = 18446744073709551615 := by decide
    have e3 : IntKind.u64.wrap (wrap64 (a * 2)) = 18446744073709551616 + a * 2 := by rw [wu64_def]; unfold wrap64; omega
    rw [e1, e2, e3, xor_u64_ones _ (by omega) (by omega)]
    omega
  · rw [if_neg c]
    have e1 : a / 9223372036854775808 = 0 := by omega
    have e2 : IntKind.u64.wrap 0 = 0 := by decide
    have e3 : IntKind.u64.wrap (wrap64 (a * 2)) = a * 2 := by rw [wu64_def]; unfold wrap64; omega
    rw [e1, e2, e3, xor_u64_zero _ (by omega) (by omega)]
    omega
end Go.Proofs.YtagokgijffpdnaaQ
