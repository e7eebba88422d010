import Derived.Test.YtagokgijffpdnaaZQ1
namespace Go.Proofs.YtagokgijffpdnaaQ
open Go.Proofs.YtagokgijffpdnaaW.PrintWords
set_option linter.unusedVariables false
set_option linter.unusedSimpArgs false
def cbit (r : Nat) : Nat := if r % 2 = 1 then (r / 2) ^^^ 2197175160 else r / 2
def cbits : Nat → Nat → Nat
  | 0, r => r
  | n + 1, r => cbits n (cbit r)
theorem cbit_xor (a b : Nat) : cbit (a ^^^ b) = cbit a ^^^ cbit b := by
  have h1 : (a ^^^ b) / 2 = (a / 2) ^^^ (b / 2) := Nat.xor_div_two
  have h2 : (a ^^^ b) % 2 = (a % 2) ^^^ (b % 2) := Nat.xor_mod_two_pow (n := 1)
  unfold cbit
  rw [h1, h2]
  rcases Nat.mod_two_eq_zero_or_one a with ha | ha <;> rcases Nat.mod_two_eq_zero_or_one b with hb | hb <;> simp only [ha, hb]
  · rfl
  · rw [if_pos (by decide), if_neg (by decide), if_pos trivial, Nat.xor_assoc]
  · rw [if_pos (by decide), if_pos trivial, if_neg (by decide), Nat.xor_assoc, Nat.xor_assoc, Nat.xor_comm (b / 2)]
  · rw [if_neg (by decide), if_pos trivial, if_pos trivial]
    have : (a / 2 ^^^ 2197175160) ^^^ (b / 2 ^^^ 2197175160) = (a / 2 ^^^ b / 2) ^^^ (2197175160 ^^^ 2197175160) := by
      rw [Nat.xor_assoc, ← Nat.xor_assoc 2197175160, Nat.xor_comm 2197175160 (b / 2), Nat.xor_assoc (b / 2), ← Nat.xor_assoc]
    rw [this, Nat.xor_self, Nat.xor_zero]
theorem cbit_lt {r : Nat} (h : r < 4294967296) : cbit r < 4294967296 := by
  unfold cbit; split
  · exact Nat.xor_lt_two_pow (n := 32) (by omega) (by omega)
  · omega
theorem cbits_xor (n : Nat) : ∀ a b : Nat, cbits n (a ^^^ b) = cbits n a ^^^ cbits n b := by
  induction n with
  | zero => intro a b; rfl
  | succ n ih => intro a b; simp only [cbits]; rw [cbit_xor, ih]
theorem cbits_lt (n : Nat) : ∀ {r : Nat}, r < 4294967296 → cbits n r < 4294967296 := by
  induction n with
  | zero => intro r h; exact h
  | succ n ih => intro r h; exact ih (cbit_lt h)
theorem cbits_add (n m : Nat) : ∀ r, cbits (n + m) r = cbits m (cbits n r) := by
  induction n with
  | zero => intro r; simp [cbits]
  | succ n ih => intro r; rw [Nat.succ_add]; simp only [cbits]; rw [ih]
theorem cbits_shift (n : Nat) : ∀ q, cbits n (q * 2 ^ n) = q := by
  induction n with
  | zero => intro q; simp [cbits]
  | succ n ih =>
    intro q
    simp only [cbits]
    have e : cbit (q * 2 ^ (n + 1)) = q * 2 ^ n := by
      unfold cbit
      rw [Nat.pow_succ, ← Nat.mul_assoc, if_neg (by omega)]; omega
    rw [e, ih]
theorem split_low (n r : Nat) : r = (r / 2 ^ n * 2 ^ n) ^^^ (r % 2 ^ n) := by
  apply Nat.eq_of_testBit_eq
  intro i
  rw [Nat.testBit_xor, Nat.testBit_mul_two_pow, Nat.testBit_div_two_pow, Nat.testBit_mod_two_pow]
  by_cases h : n ≤ i
  · have : ¬ i < n := by omega
    simp [h, this]
  · have : i < n := by omega
    simp [h, this]
theorem cbits_split (n r : Nat) : cbits n r = (r / 2 ^ n) ^^^ cbits n (r % 2 ^ n) := by
  have h := split_low n r
  have e : cbits n r = cbits n ((r / 2 ^ n * 2 ^ n) ^^^ (r % 2 ^ n)) := by rw [← h]
  rw [e, cbits_xor, cbits_shift]
def creg (r : Nat) (l : List Nat) : Nat := l.foldl (fun r b => cbits 8 (r ^^^ b)) r
def nats (l : List Int) : List Nat := l.map Int.toNat
def crc (l : List Int) : Nat := 4294967295 - creg 4294967295 (nats l)
theorem creg_lt (l : List Nat) : ∀ {r : Nat}, r < 4294967296 → (∀ b ∈ l, b < 256) → creg r l < 4294967296 := by
  induction l with
  | nil => intro r h _; exact h
  | cons b l ih =>
    intro r h hb
    exact ih (cbits_lt 8 (Nat.xor_lt_two_pow (n := 32) (by omega) (by have := hb b List.mem_cons_self; omega))) (fun c hc => hb c (List.mem_cons_of_mem _ hc))
theorem nats_lt {l : List Int} (h : Bs l) : ∀ b ∈ nats l, b < 256 := by
  intro b hb
  obtain ⟨x, hx, rfl⟩ := List.mem_map.1 hb
  have := h x hx
  omega
theorem creg_snoc (r : Nat) (l : List Nat) (b : Nat) : creg r (l ++ [b]) = cbits 8 (creg r l ^^^ b) := by simp [creg]
def tab4 (i : Nat) : Nat := cbits 4 i
theorem cbits4 (r : Nat) : cbits 4 r = (r / 16) ^^^ tab4 (r % 16) := cbits_split 4 r
theorem x32 (a b : Nat) (ha : a < 4294967296) (hb : b < 4294967296) : Go.bits .xor .u32 (a : Int) (b : Int) = ((a ^^^ b : Nat) : Int) := Go.u32_xor_nat a b ha hb
theorem x32_lt {a b : Nat} (ha : a < 4294967296) (hb : b < 4294967296) : a ^^^ b < 4294967296 := Nat.xor_lt_two_pow (n := 32) (by omega) (by omega)
end Go.Proofs.YtagokgijffpdnaaQ
