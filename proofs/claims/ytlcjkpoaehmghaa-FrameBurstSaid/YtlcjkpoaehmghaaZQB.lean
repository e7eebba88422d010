namespace Go.Proofs.YtlcjkpoaehmghaaQ
set_option linter.unusedVariables false
set_option linter.unusedSimpArgs false
def val (b : Nat) : List Nat → Nat
  | [] => 0
  | x :: l => x + b * val b l
def dig (b : Nat) : Nat → Nat → List Nat
  | 0, _ => []
  | k + 1, n => n % b :: dig b k (n / b)
theorem dig_len (b : Nat) : ∀ k n, (dig b k n).length = k
  | 0, _ => rfl
  | k + 1, n => by simp [dig, dig_len b k]
theorem dig_lt {b : Nat} (hb : 0 < b) : ∀ k n, ∀ x ∈ dig b k n, x < b
  | 0, _, x, h => by simp [dig] at h
  | k + 1, n, x, h => by
    rcases List.mem_cons.1 h with rfl | h
    · exact Nat.mod_lt _ hb
    · exact dig_lt hb k _ x h
theorem val_lt {b : Nat} (hb : 0 < b) : ∀ l : List Nat, (∀ x ∈ l, x < b) → val b l < b ^ l.length
  | [], _ => by simp [val]
  | x :: l, h => by
    have h1 := h x (by simp)
    have h2 := val_lt hb l (fun y hy => h y (by simp [hy]))
    have : b * (val b l + 1) ≤ b * b ^ l.length := Nat.mul_le_mul_left _ h2
    rw [List.length_cons, Nat.pow_succ, val, Nat.mul_comm (b ^ _)]
    rw [Nat.mul_add] at this
    omega
theorem val_dig (b : Nat) : ∀ k n, val b (dig b k n) = n % b ^ k
  | 0, n => by simp [dig, val, Nat.mod_one]
  | k + 1, n => by
    rw [dig, val, val_dig b k, Nat.pow_succ, Nat.mul_comm (b ^ k), Nat.mod_mul]
theorem dig_val {b : Nat} (hb : 0 < b) : ∀ l : List Nat, (∀ x ∈ l, x < b) → dig b l.length (val b l) = l
  | [], _ => rfl
  | x :: l, h => by
    have h1 := h x (by simp)
    rw [List.length_cons, dig, val, Nat.add_mul_mod_self_left, Nat.mod_eq_of_lt h1, Nat.add_mul_div_left _ _ hb, Nat.div_eq_of_lt h1, Nat.zero_add, dig_val hb l (fun y hy => h y (by simp [hy]))]
theorem dig_append (b : Nat) : ∀ k m n, dig b (k + m) n = dig b k n ++ dig b m (n / b ^ k)
  | 0, m, n => by simp [dig]
  | k + 1, m, n => by
    rw [show k + 1 + m = (k + m) + 1 by omega, dig, dig, dig_append b k, Nat.div_div_eq_div_mul, Nat.pow_succ, Nat.mul_comm b]; rfl
theorem val_append (b : Nat) : ∀ l m, val b (l ++ m) = val b l + b ^ l.length * val b m
  | [], m => by simp [val]
  | x :: l, m => by
    rw [List.cons_append, val, val, val_append b l, List.length_cons, Nat.pow_succ, Nat.mul_add, Nat.mul_comm (b ^ l.length) b, Nat.mul_assoc, Nat.add_assoc]
theorem dig_get (b : Nat) : ∀ k n i, i < k → (dig b k n).getD i 0 = n / b ^ i % b
  | 0, _, _, h => by omega
  | k + 1, n, 0, _ => by simp [dig]
  | k + 1, n, i + 1, h => by
    rw [dig, List.getD_cons_succ, dig_get b k _ i (by omega), Nat.div_div_eq_div_mul, Nat.pow_succ, Nat.mul_comm b]
theorem pow8 (k : Nat) : 256 ^ k = 2 ^ (8 * k) := by rw [Nat.pow_mul]
theorem p2 (w : Nat) : 0 < 2 ^ w := Nat.pow_pos (by omega)
end Go.Proofs.YtlcjkpoaehmghaaQ
