import Derived.Test.YtlcjkpoaehmghaaZQF2
import Derived.Test.YtlcjkpoaehmghaaZQB
namespace Go.Proofs.YtlcjkpoaehmghaaQ
open Go.Proofs.YtlcjkpoaehmghaaW.PrintWords
set_option linter.unusedVariables false
set_option linter.unusedSimpArgs false
theorem cbit_ne {r : Nat} (h : r < 4294967296) (h0 : r ≠ 0) : cbit r ≠ 0 := by
  unfold cbit
  split
  · rename_i h1
    intro he
    have e2 : r / 2 = 2197175160 := by
      have : (r / 2 ^^^ 2197175160) ^^^ 2197175160 = 0 ^^^ 2197175160 := by rw [he]
      rwa [Nat.xor_assoc, Nat.xor_self, Nat.xor_zero, Nat.zero_xor] at this
    omega
  · omega
theorem cbits_ne (n : Nat) : ∀ {r : Nat}, r < 4294967296 → r ≠ 0 → cbits n r ≠ 0 := by
  induction n with
  | zero => intro r _ h; exact h
  | succ n ih => intro r h h0; exact ih (cbit_lt h) (cbit_ne h h0)
theorem cbits_burst (n a d : Nat) (hd : d < 4294967296) (h0 : d ≠ 0) : cbits n (d * 2 ^ a) ≠ 0 := by
  by_cases h : n ≤ a
  · have e : d * 2 ^ a = (d * 2 ^ (a - n)) * 2 ^ n := by rw [Nat.mul_assoc, ← Nat.pow_add]; congr 2; omega
    rw [e, cbits_shift]
    exact Nat.mul_ne_zero h0 (Nat.ne_of_gt (p2 _))
  · have e : n = a + (n - a) := by omega
    rw [e, cbits_add, cbits_shift]
    exact cbits_ne _ hd h0
theorem xor_mul_pow (a b n : Nat) (h : a < 2 ^ n) : a ^^^ (b * 2 ^ n) = a + b * 2 ^ n := by
  have h1 := split_low n (a + b * 2 ^ n)
  rw [Nat.add_mul_div_right _ _ (p2 n), Nat.div_eq_of_lt h, Nat.zero_add, Nat.add_mul_mod_self_right, Nat.mod_eq_of_lt h, Nat.xor_comm] at h1
  exact h1.symm
theorem creg_val : ∀ (l : List Nat) (r : Nat), (∀ b ∈ l, b < 256) → creg r l = cbits (8 * l.length) (r ^^^ val 256 l)
  | [], r, _ => by simp [creg, val, cbits]
  | b :: l, r, h => by
    have h1 := h b (by simp)
    have e : creg r (b :: l) = creg (cbits 8 (r ^^^ b)) l := rfl
    rw [e, creg_val l _ (fun x hx => h x (by simp [hx])), val, List.length_cons, show 8 * (l.length + 1) = 8 + 8 * l.length by omega, cbits_add]
    have e2 : b + 256 * val 256 l = b ^^^ (val 256 l * 2 ^ 8) := by rw [xor_mul_pow _ _ _ (by omega)]; omega
    rw [e2, ← Nat.xor_assoc, cbits_xor 8 (r ^^^ b), cbits_shift]
theorem burst_sum {t s t' s' : List Nat} (hl : t.length = t'.length) (hB : ∀ b ∈ t, b < 256) (hB' : ∀ b ∈ t', b < 256)
    {a d : Nat} (hd : d < 4294967296) (h0 : d ≠ 0) {x x' : Nat} (hx : val 256 t + 256 ^ t.length * x' ^^^ (val 256 t' + 256 ^ t.length * x) = d * 2 ^ a) :
    creg 4294967295 t ^^^ x' ≠ creg 4294967295 t' ^^^ x := by
  intro he
  rw [creg_val t _ hB, creg_val t' _ hB', ← hl] at he
  have h1 : ∀ (y z : Nat), y < 256 ^ t.length → cbits (8 * t.length) (y + 256 ^ t.length * z) = cbits (8 * t.length) y ^^^ z := by
    intro y z hy
    have e : y + 256 ^ t.length * z = y ^^^ (z * 2 ^ (8 * t.length)) := by rw [xor_mul_pow _ _ _ (by rwa [pow8] at hy), pow8, Nat.mul_comm]
    rw [e, cbits_xor, cbits_shift]
  have v1 := val_lt (b := 256) (by omega) t hB
  have v2 := val_lt (b := 256) (by omega) t' hB'
  rw [← hl] at v2
  have h2 : cbits (8 * t.length) (d * 2 ^ a) = 0 := by
    rw [← hx, cbits_xor, h1 _ _ v1, h1 _ _ v2]
    rw [cbits_xor, cbits_xor] at he
    have h3 : ∀ p q r u v : Nat, p ^^^ q ^^^ r = p ^^^ u ^^^ v → (q ^^^ r) ^^^ (u ^^^ v) = 0 := by
      intro p q r u v h
      have : p ^^^ (p ^^^ q ^^^ r) = p ^^^ (p ^^^ u ^^^ v) := by rw [h]
      rw [Nat.xor_assoc p q r, Nat.xor_assoc p u v, ← Nat.xor_assoc p p, ← Nat.xor_assoc p p, Nat.xor_self, Nat.zero_xor, Nat.zero_xor] at this
      rw [this, Nat.xor_self]
    exact h3 _ _ _ _ _ he
  exact cbits_burst _ _ _ hd h0 h2
end Go.Proofs.YtlcjkpoaehmghaaQ
