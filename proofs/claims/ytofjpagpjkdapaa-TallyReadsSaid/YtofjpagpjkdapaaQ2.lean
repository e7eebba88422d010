import Derived.Test.YtofjpagpjkdapaaQ1
import Derived.Test.YtofjpagpjkdapaaWMore
/-! Plain: words of the machine: wraps, bits, shifts. -/
namespace Go.Proofs.YtofjpagpjkdapaaQ
open Go.RowKit Go.Proofs.YtofjpagpjkdapaaW.PrintWords Go.Proofs.YtofjpagpjkdapaaW.PrintMore
set_option linter.unusedVariables false
set_option linter.unusedSimpArgs false
theorem w64 {x : Int} (h0 : -9223372036854775808 ≤ x) (h1 : x < 9223372036854775808) : wrap64 x = x := by unfold wrap64; omega
theorem wu64 {x : Int} (h0 : 0 ≤ x) (h1 : x < 18446744073709551616) : IntKind.u64.wrap x = x := by simp [IntKind.wrap, IntKind.bits, IntKind.signed]; omega
theorem wu64_def (x : Int) : IntKind.u64.wrap x = x % 18446744073709551616 := by simp [IntKind.wrap, IntKind.bits, IntKind.signed]
theorem wu32_def (x : Int) : IntKind.u32.wrap x = x % 4294967296 := by simp [IntKind.wrap, IntKind.bits, IntKind.signed]
theorem shr_u64_lit (x : Int) (k : Nat) (hk : k ≤ 64) : shr .u64 x (k : Int) = x / 2 ^ k := by
  unfold shr; simp [IntKind.bits]; congr 2; omega
/-- A number whose low bits are 0, and less: their 'or' is the sum. -/
theorem or_join (x y : Int) (i : Nat) (h0 : 0 ≤ x) (h1 : x < 18446744073709551616) (h2 : 0 ≤ y) (h3 : y < 18446744073709551616) (hx : x % 2 ^ i = 0) (hy : y < 2 ^ i) : Go.bits .or .u64 x y = x + y := by
  obtain ⟨X, rfl⟩ := Int.eq_ofNat_of_zero_le h0
  obtain ⟨Y, rfl⟩ := Int.eq_ofNat_of_zero_le h2
  rw [Go.u64_or_nat X Y (by omega) (by omega), Go.nat_join i X Y (by exact_mod_cast hx) (by exact_mod_cast hy)]
  omega
theorem or_join' (x y : Int) (i : Nat) (h0 : 0 ≤ x) (h1 : x < 18446744073709551616) (h2 : 0 ≤ y) (h3 : y < 18446744073709551616) (hx : x % 2 ^ i = 0) (hy : y < 2 ^ i) : Go.bits .or .u64 y x = y + x := by
  obtain ⟨X, rfl⟩ := Int.eq_ofNat_of_zero_le h0
  obtain ⟨Y, rfl⟩ := Int.eq_ofNat_of_zero_le h2
  rw [Go.u64_or_nat Y X (by omega) (by omega), Nat.or_comm, Go.nat_join i X Y (by exact_mod_cast hx) (by exact_mod_cast hy)]
  omega
theorem xor_u64_ones (x : Int) (h0 : 0 ≤ x) (h1 : x < 18446744073709551616) : Go.bits .xor .u64 x 18446744073709551615 = 18446744073709551615 - x := by
  obtain ⟨X, rfl⟩ := Int.eq_ofNat_of_zero_le h0
  have h := Go.u64_xor_nat X 18446744073709551615 (by omega) (by omega)
  have e : X ^^^ 18446744073709551615 = 18446744073709551615 - X := by
    have hx : X < 2 ^ 64 := by omega
    have : (BitVec.ofNat 64 X ^^^ BitVec.allOnes 64).toNat = (~~~ BitVec.ofNat 64 X).toNat := by rw [BitVec.xor_allOnes]
    rw [BitVec.toNat_xor, BitVec.toNat_not, BitVec.toNat_ofNat, BitVec.toNat_allOnes, Nat.mod_eq_of_lt hx] at this
    simpa using this
  rw [e] at h
  have : ((18446744073709551615 : Nat) : Int) = 18446744073709551615 := rfl
  rw [← this, h]
  omega
theorem xor_u64_zero (x : Int) (h0 : 0 ≤ x) (h1 : x < 18446744073709551616) : Go.bits .xor .u64 x 0 = x := by
  obtain ⟨X, rfl⟩ := Int.eq_ofNat_of_zero_le h0
  have h := Go.u64_xor_nat X 0 (by omega) (by omega)
  simpa using h
theorem and_u64_one (x : Int) (h0 : 0 ≤ x) (h1 : x < 18446744073709551616) : Go.bits .and .u64 x 1 = x % 2 := by
  obtain ⟨X, rfl⟩ := Int.eq_ofNat_of_zero_le h0
  have h := Go.u64_and_nat X 1 (by omega) (by omega)
  rw [Nat.and_one_is_mod] at h
  have e : ((1 : Nat) : Int) = 1 := rfl
  rw [← e, h]
  omega
theorem wi64_def (x : Int) : IntKind.i64.wrap x = wrap64 x := by unfold wrap64; exact IntKind.wrap_i64 x
theorem xor_i64_zero (x : Int) (h0 : -9223372036854775808 ≤ x) (h1 : x < 9223372036854775808) : Go.bits .xor .i64 x 0 = x := by
  show IntKind.i64.wrap ((BitVec.ofInt 64 x ^^^ BitVec.ofInt 64 0).toNat : Int) = x
  have e : BitVec.ofInt 64 0 = 0#64 := by decide
  rw [e, BitVec.xor_zero, wi64_def, BitVec.toNat_ofInt]
  unfold wrap64
  omega
theorem xor_i64_ones (x : Int) (h0 : 0 ≤ x) (h1 : x < 9223372036854775808) : Go.bits .xor .i64 x (-1) = -x - 1 := by
  show IntKind.i64.wrap ((BitVec.ofInt 64 x ^^^ BitVec.ofInt 64 (-1)).toNat : Int) = -x - 1
  have e : BitVec.ofInt 64 (-1) = BitVec.allOnes 64 := by decide
  rw [e, BitVec.xor_allOnes, wi64_def, BitVec.toNat_not, BitVec.toNat_ofInt]
  unfold wrap64
  omega
/-- The sign folded in, as the code does it. -/
theorem zig (a : Int) (h : i64 a) : Go.bits .xor .u64 (IntKind.u64.wrap (wrap64 (a * 2))) (IntKind.u64.wrap (a / 9223372036854775808)) = fold a := by
  obtain ⟨h0, h1⟩ := h
  unfold fold
  by_cases c : a < 0
  · rw [if_pos c]
    have e1 : a / 9223372036854775808 = -1 := by omega
    have e2 : IntKind.u64.wrap (-1) = 18446744073709551615 := by decide
    have e3 : IntKind.u64.wrap (wrap64 (a * 2)) = 18446744073709551616 + a * 2 := by rw [wu64_def]; unfold wrap64; omega
    rw [e1, e2, e3, xor_u64_ones _ (by omega) (by omega)]
    omega
  · rw [if_neg c]
    have e1 : a / 9223372036854775808 = 0 := by omega
    have e2 : IntKind.u64.wrap 0 = 0 := by decide
    have e3 : IntKind.u64.wrap (wrap64 (a * 2)) = a * 2 := by rw [wu64_def]; unfold wrap64; omega
    rw [e1, e2, e3, xor_u64_zero _ (by omega) (by omega)]
    omega
theorem zag (x : Int) (h : u64 x) : Go.bits .xor .i64 (wrap64 (x / 2)) (wrap64 (-(wrap64 (Go.bits .and .u64 x 1)))) = unfold_ x := by
  obtain ⟨h0, h1⟩ := h
  rw [and_u64_one x h0 h1, w64 (x := x / 2) (by omega) (by omega)]
  unfold unfold_
  by_cases c : x % 2 = 1
  · rw [if_pos c, c]
    have e : wrap64 (-(wrap64 1)) = -1 := by unfold wrap64; decide
    rw [e, xor_i64_ones _ (by omega) (by omega)]
  · rw [if_neg c]
    have c' : x % 2 = 0 := by omega
    rw [c']
    have e : wrap64 (-(wrap64 0)) = 0 := by unfold wrap64; decide
    rw [e, xor_i64_zero _ (by omega) (by omega)]
end Go.Proofs.YtofjpagpjkdapaaQ
