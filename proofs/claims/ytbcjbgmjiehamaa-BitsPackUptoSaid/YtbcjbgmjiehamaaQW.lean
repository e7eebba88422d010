import Derived.Test.YtbcjbgmjiehamaaQ1
import Derived.Test.YtbcjbgmjiehamaaQB
import Derived.Laws.BitsAllLaws
/-! Plain: what the writer of bits holds, as bytes. -/
namespace Go.Proofs.YtbcjbgmjiehamaaQ
open Go.Proofs.YtbcjbgmjiehamaaW.PrintWords
set_option linter.unusedVariables false
set_option linter.unusedSimpArgs false
def ints (l : List Nat) : List Int := l.map fun x => ((x : Nat) : Int)
theorem ints_len (l : List Nat) : (ints l).length = l.length := by simp [ints]
theorem ints_app (l m : List Nat) : ints (l ++ m) = ints l ++ ints m := by simp [ints]
theorem ints_Bs {l : List Nat} (h : ∀ x ∈ l, x < 256) : Bs (ints l) := by
  intro y hy
  obtain ⟨x, hx, rfl⟩ := List.mem_map.1 hy
  have := h x hx
  omega
/-- The bytes of so many bits, told by their number. -/
def wb (N h : Nat) : List Nat := dig 256 (need h) N
theorem wb_len (N h : Nat) : (wb N h).length = need h := dig_len _ _ _
theorem pow8_lt {N h : Nat} (hN : N < 2 ^ h) : N / 256 ^ (h / 8) < 2 ^ (h % 8) := by
  rw [Nat.div_lt_iff_lt_mul (Nat.pow_pos (by omega)), pow8, ← Nat.pow_add]
  have : h % 8 + 8 * (h / 8) = h := by omega
  rw [this]; exact hN
theorem wb_begin {N h : Nat} (hN : N < 2 ^ h) (ha : h % 8 = 0) : wb N h ++ [0] = dig 256 (h / 8) N ++ [N / 256 ^ (h / 8)] := by
  have h1 := pow8_lt hN
  rw [ha] at h1
  have e : need h = h / 8 := by unfold need; omega
  unfold wb
  rw [e]
  rw [show N / 256 ^ (h / 8) = 0 from Nat.lt_one_iff.1 h1]
theorem wb_mid {N h : Nat} (hN : N < 2 ^ h) (ha : h % 8 ≠ 0) : wb N h = dig 256 (h / 8) N ++ [N / 256 ^ (h / 8)] := by
  have h1 := pow8_lt hN
  have e : need h = h / 8 + 1 := by unfold need; omega
  have h2 : 2 ^ (h % 8) ≤ 2 ^ 8 := Nat.pow_le_pow_right (by omega) (by omega)
  unfold wb
  rw [e, dig_succ, Nat.mod_eq_of_lt (Nat.lt_of_lt_of_le h1 h2)]
theorem wb_put {N h v t : Nat} (hN : N < 2 ^ h) (hv : v < 2 ^ t) (ht : 0 < t) (h8 : h % 8 + t ≤ 8) : dig 256 (h / 8) N ++ [N / 256 ^ (h / 8) + v * 2 ^ (h % 8)] = wb (N + v * 2 ^ h) (h + t) := by
  have h1 := pow8_lt hN
  have e : need (h + t) = h / 8 + 1 := by unfold need; omega
  have eh : h = 8 * (h / 8) + h % 8 := by omega
  have e2 : v * 2 ^ h = (v * 2 ^ (h % 8)) * 256 ^ (h / 8) := by
    rw [pow8, Nat.mul_assoc, ← Nat.pow_add]; congr 2; omega
  have hp : 0 < 256 ^ (h / 8) := Nat.pow_pos (by omega)
  have e3 : (N + v * 2 ^ h) / 256 ^ (h / 8) = N / 256 ^ (h / 8) + v * 2 ^ (h % 8) := by rw [e2, Nat.add_mul_div_right _ _ hp]
  have h3 : (v + 1) * 2 ^ (h % 8) ≤ 2 ^ t * 2 ^ (h % 8) := Nat.mul_le_mul_right _ hv
  have h4 : 2 ^ t * 2 ^ (h % 8) ≤ 2 ^ 8 := by rw [← Nat.pow_add]; exact Nat.pow_le_pow_right (by omega) (by omega)
  rw [Nat.succ_mul] at h3
  have hlt : N / 256 ^ (h / 8) + v * 2 ^ (h % 8) < 256 := by
    generalize v * 2 ^ (h % 8) = x at *
    generalize N / 256 ^ (h / 8) = y at *
    generalize 2 ^ t * 2 ^ (h % 8) = z at *
    generalize 2 ^ (h % 8) = u at *
    omega
  unfold wb
  rw [e, dig_succ, e3, Nat.mod_eq_of_lt hlt]
  congr 1
  exact dig_ext (by omega) (by rw [e2, Nat.add_mul_mod_self_right])
theorem wb_small {N h v t : Nat} (hN : N < 2 ^ h) (hv : v < 2 ^ t) : N + v * 2 ^ h < 2 ^ (h + t) := by
  rw [Nat.pow_add, Nat.mul_comm (2 ^ h)]
  have : (v + 1) * 2 ^ h ≤ 2 ^ t * 2 ^ h := Nat.mul_le_mul_right _ hv
  rw [Nat.succ_mul] at this
  omega
theorem mod_step (n d t : Nat) : n % 2 ^ d + (n / 2 ^ d % 2 ^ t) * 2 ^ d = n % 2 ^ (d + t) := by
  rw [Nat.pow_add, Nat.mod_mul, Nat.mul_comm (2 ^ d)]
theorem div_step (n d t : Nat) : n / 2 ^ d / 2 ^ t = n / 2 ^ (d + t) := by rw [Nat.div_div_eq_div_mul, ← Nat.pow_add]
/-- In the walk's words. -/
theorem and_mask (p t : Nat) (hp : p < 18446744073709551616) (ht : t ≤ 63) : Go.bits .and .u64 (p : Int) ((2 ^ t - 1 : Nat) : Int) = ((p % 2 ^ t : Nat) : Int) := by
  have h1 : 2 ^ t ≤ 2 ^ 63 := Nat.pow_le_pow_right (by omega) ht
  have := Go.u64_and_nat p (2 ^ t - 1) hp (by omega)
  rw [Nat.and_two_pow_sub_one_eq_mod] at this
  exact this
theorem or_byte (x v a : Nat) (hx : x < 2 ^ a) (ha : a ≤ 8) (hs : x + v * 2 ^ a < 256) : Go.bits .or .u8 (x : Int) ((v * 2 ^ a : Nat) : Int) = ((x + v * 2 ^ a : Nat) : Int) := by
  have h1 : 2 ^ a ≤ 2 ^ 8 := Nat.pow_le_pow_right (by omega) ha
  have := Go.u8_or_nat x (v * 2 ^ a) (by omega) (by omega)
  rw [this, Nat.or_comm, Go.nat_join a _ _ (Nat.mul_mod_left _ _) hx, Nat.add_comm]
theorem u8_nat {x : Nat} (h : x < 256) : IntKind.u8.wrap (x : Int) = (x : Int) := by simp only [IntKind.wrap, IntKind.bits, IntKind.signed]; simp; omega
theorem u64_nat {x : Nat} (h : x < 18446744073709551616) : IntKind.u64.wrap (x : Int) = (x : Int) := by simp only [IntKind.wrap, IntKind.bits, IntKind.signed]; simp; omega
/-- A text's bytes, as plain numbers; the number that they are. -/
def natsOf (S : ByteArray) : List Nat := S.data.toList.map UInt8.toNat
theorem natsOf_lt (S : ByteArray) : ∀ x ∈ natsOf S, x < 256 := by
  intro x hx
  obtain ⟨b, _, rfl⟩ := List.mem_map.1 hx
  exact UInt8.toNat_lt b
theorem natsOf_len (S : ByteArray) : (natsOf S).length = S.size := by simp [natsOf]
theorem ints_natsOf (S : ByteArray) : ints (natsOf S) = bytesOf S := by simp [ints, natsOf, bytesOf, Function.comp_def]
def num (S : ByteArray) : Nat := val 256 (natsOf S)
def byt (S : ByteArray) (j : Nat) : Nat := (natsOf S).getD j 0
theorem byt_lt (S : ByteArray) (j : Nat) : byt S j < 256 := by
  unfold byt
  rw [List.getD_eq_getElem?_getD]
  cases h : (natsOf S)[j]? with
  | none => simp
  | some x => exact natsOf_lt S x (List.mem_of_getElem? h)
theorem byt_at (S : ByteArray) (j : Nat) : ∀ h : j < S.size, (((S[j]'h).toNat : Nat) : Int) = ((byt S j : Nat) : Int) := by
  intro h
  have hs : j < S.data.toList.length := by simpa using h
  unfold byt natsOf
  rw [List.getD_eq_getElem?_getD, List.getElem?_map, List.getElem?_eq_getElem hs]
  rfl
theorem num_byte (S : ByteArray) (j : Nat) (h : j < S.size) : byt S j = num S / 256 ^ j % 256 := by
  have h1 := dig_val (b := 256) (by omega) (natsOf S) (natsOf_lt S)
  have h2 := dig_get 256 (natsOf S).length (num S) j (by rw [natsOf_len]; exact h)
  unfold byt
  rw [← h2]; unfold num; rw [h1]
theorem num_lt (S : ByteArray) : num S < 2 ^ (8 * S.size) := by
  have := val_lt (b := 256) (by omega) (natsOf S) (natsOf_lt S)
  rwa [pow8, natsOf_len] at this
theorem mod_part (x a t : Nat) (h : a + t ≤ 8) : x % 256 / 2 ^ a % 2 ^ t = x / 2 ^ a % 2 ^ t := by
  have e : 256 = 2 ^ a * (2 ^ t * 2 ^ (8 - a - t)) := by rw [← Nat.pow_add, ← Nat.pow_add, show a + (t + (8 - a - t)) = 8 by omega]
  rw [e, Nat.mod_mul_right_div_self, Nat.mod_mul_right_mod]
theorem or_u64 (x v d : Nat) (hx : x < 2 ^ d) (hs : v * 2 ^ d + x < 18446744073709551616) : Go.bits .or .u64 (x : Int) ((v * 2 ^ d : Nat) : Int) = ((x + v * 2 ^ d : Nat) : Int) := by
  have := Go.u64_or_nat x (v * 2 ^ d) (by omega) (by omega)
  rw [this, Nat.or_comm, Go.nat_join d _ _ (Nat.mul_mod_left _ _) hx, Nat.add_comm]
end Go.Proofs.YtbcjbgmjiehamaaQ
