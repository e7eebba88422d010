/-! Plain: numbers and their digits. No program in sight. -/
namespace Go.Proofs.YtbcjbgmjiehamaaQ
set_option linter.unusedVariables false
set_option linter.unusedSimpArgs false
/-- The number of digits, the lowest first. -/
def val (b : Nat) : List Nat → Nat
  | [] => 0
  | x :: l => x + b * val b l
/-- So many digits of a number, the lowest first. -/
def dig (b : Nat) : Nat → Nat → List Nat
  | 0, _ => []
  | k + 1, n => n % b :: dig b k (n / b)
theorem dig_len (b : Nat) : ∀ k n, (dig b k n).length = k
  | 0, _ => rfl
  | k + 1, n => by simp [dig, dig_len b k]
theorem dig_lt {b : Nat} (hb : 0 < b) : ∀ k n, ∀ x ∈ dig b k n, x < b
  | 0, _, x, h => by simp [dig] at h
  | k + 1, n, x, h => by
    rcases List.mem_cons.1 h with rfl | h
    · exact Nat.mod_lt _ hb
    · exact dig_lt hb k _ x h
theorem val_lt {b : Nat} (hb : 0 < b) : ∀ l : List Nat, (∀ x ∈ l, x < b) → val b l < b ^ l.length
  | [], _ => by simp [val]
  | x :: l, h => by
    have h1 := h x (by simp)
    have h2 := val_lt hb l (fun y hy => h y (by simp [hy]))
    have : b * (val b l + 1) ≤ b * b ^ l.length := Nat.mul_le_mul_left _ h2
    rw [List.length_cons, Nat.pow_succ, val, Nat.mul_comm (b ^ _)]
    rw [Nat.mul_add] at this
    omega
theorem val_dig (b : Nat) : ∀ k n, val b (dig b k n) = n % b ^ k
  | 0, n => by simp [dig, val, Nat.mod_one]
  | k + 1, n => by
    rw [dig, val, val_dig b k, Nat.pow_succ, Nat.mul_comm (b ^ k), Nat.mod_mul]
theorem dig_val {b : Nat} (hb : 0 < b) : ∀ l : List Nat, (∀ x ∈ l, x < b) → dig b l.length (val b l) = l
  | [], _ => rfl
  | x :: l, h => by
    have h1 := h x (by simp)
    rw [List.length_cons, dig, val, Nat.add_mul_mod_self_left, Nat.mod_eq_of_lt h1, Nat.add_mul_div_left _ _ hb, Nat.div_eq_of_lt h1, Nat.zero_add, dig_val hb l (fun y hy => h y (by simp [hy]))]
theorem dig_append (b : Nat) : ∀ k m n, dig b (k + m) n = dig b k n ++ dig b m (n / b ^ k)
  | 0, m, n => by simp [dig]
  | k + 1, m, n => by
    rw [show k + 1 + m = (k + m) + 1 by omega, dig, dig, dig_append b k, Nat.div_div_eq_div_mul, Nat.pow_succ, Nat.mul_comm b]; rfl
theorem dig_succ (b k n : Nat) : dig b (k + 1) n = dig b k n ++ [n / b ^ k % b] := by rw [dig_append]; rfl
theorem val_append (b : Nat) : ∀ l m, val b (l ++ m) = val b l + b ^ l.length * val b m
  | [], m => by simp [val]
  | x :: l, m => by
    rw [List.cons_append, val, val, val_append b l, List.length_cons, Nat.pow_succ, Nat.mul_add, Nat.mul_comm (b ^ l.length) b, Nat.mul_assoc, Nat.add_assoc]
theorem val_snoc (b : Nat) (l : List Nat) (x : Nat) : val b (l ++ [x]) = val b l + b ^ l.length * x := by rw [val_append]; simp [val]
theorem dig_get (b : Nat) : ∀ k n i, i < k → (dig b k n).getD i 0 = n / b ^ i % b
  | 0, _, _, h => by omega
  | k + 1, n, 0, _ => by simp [dig]
  | k + 1, n, i + 1, h => by
    rw [dig, List.getD_cons_succ, dig_get b k _ i (by omega), Nat.div_div_eq_div_mul, Nat.pow_succ, Nat.mul_comm b]
theorem dig_ext {b : Nat} (hb : 0 < b) {k n m : Nat} (h : n % b ^ k = m % b ^ k) : dig b k n = dig b k m := by
  have h1 := dig_val hb _ (dig_lt hb k n)
  have h2 := dig_val hb _ (dig_lt hb k m)
  rw [dig_len, val_dig] at h1 h2
  rw [← h1, ← h2, h]
theorem dig_mod {b : Nat} (hb : 0 < b) (k n : Nat) : dig b k (n % b ^ k) = dig b k n := dig_ext hb (Nat.mod_mod _ _)
theorem val_inj {b : Nat} (hb : 0 < b) {l m : List Nat} (hl : ∀ x ∈ l, x < b) (hm : ∀ x ∈ m, x < b) (hlen : l.length = m.length) (h : val b l = val b m) : l = m := by
  rw [← dig_val hb l hl, ← dig_val hb m hm, h, hlen]
/-- Digits cut finer. -/
theorem val_flat {b w : Nat} : ∀ l : List Nat, (∀ x ∈ l, x < b ^ w) → val b (l.flatMap (dig b w)) = val (b ^ w) l
  | [], _ => rfl
  | x :: l, h => by
    rw [List.flatMap_cons, val_append, val_dig, dig_len, Nat.mod_eq_of_lt (h x (by simp)), val_flat l (fun y hy => h y (by simp [hy])), val]
theorem len_flat (b w : Nat) : ∀ l : List Nat, (l.flatMap (dig b w)).length = l.length * w
  | [] => by simp
  | x :: l => by rw [List.flatMap_cons, List.length_append, dig_len, len_flat b w l, List.length_cons, Nat.succ_mul]; omega
/-- So many bits in so many bytes. -/
def need (n : Nat) : Nat := (n + 7) / 8
theorem need_le (n : Nat) : n ≤ 8 * need n := by unfold need; omega
theorem pow8 (k : Nat) : 256 ^ k = 2 ^ (8 * k) := by rw [Nat.pow_mul]
/-- Numbers of w bits as bytes. -/
def pk (w : Nat) (l : List Nat) : List Nat := dig 256 (need (l.length * w)) (val (2 ^ w) l)
theorem p2 (w : Nat) : 0 < 2 ^ w := Nat.pow_pos (by omega)
theorem pk_val {w : Nat} {l : List Nat} (h : ∀ x ∈ l, x < 2 ^ w) : val 256 (pk w l) = val (2 ^ w) l := by
  unfold pk
  rw [val_dig, Nat.mod_eq_of_lt]
  have h1 := val_lt (p2 w) l h
  rw [← Nat.pow_mul, Nat.mul_comm] at h1
  rw [pow8]
  exact Nat.lt_of_lt_of_le h1 (Nat.pow_le_pow_right (by omega) (need_le _))
theorem pk_len (w : Nat) (l : List Nat) : (pk w l).length = need (l.length * w) := dig_len _ _ _
theorem pk_lt (w : Nat) (l : List Nat) : ∀ x ∈ pk w l, x < 256 := dig_lt (by omega) _ _
theorem pk_small {w : Nat} {l : List Nat} (h : ∀ x ∈ l, x < 2 ^ w) : val 256 (pk w l) < 2 ^ (l.length * w) := by
  rw [pk_val h]
  have := val_lt (p2 w) l h
  rwa [← Nat.pow_mul, Nat.mul_comm] at this
/-- And back. -/
theorem unpk_pk {w : Nat} {l : List Nat} (h : ∀ x ∈ l, x < 2 ^ w) : dig (2 ^ w) l.length (val 256 (pk w l)) = l := by rw [pk_val h, dig_val (p2 w) l h]
theorem pk_unpk {w n : Nat} {s : List Nat} (hs : ∀ x ∈ s, x < 256) (hl : s.length = need (n * w)) (hv : val 256 s < 2 ^ (n * w)) : pk w (dig (2 ^ w) n (val 256 s)) = s := by
  unfold pk
  rw [val_dig, dig_len, Nat.mod_eq_of_lt (by rwa [← Nat.pow_mul, Nat.mul_comm w]), ← hl, dig_val (by omega) s hs]
end Go.Proofs.YtbcjbgmjiehamaaQ
