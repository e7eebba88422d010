import Derived.Test.YtbcjbgmjiehamaaQL
/-! Plain: bits one by one. -/
namespace Go.Proofs.YtbcjbgmjiehamaaQ
open Go.Proofs.YtbcjbgmjiehamaaW.PrintWords
set_option linter.unusedVariables false
set_option linter.unusedSimpArgs false
theorem tb (N k : Nat) : N.testBit k = decide (N / 2 ^ k % 2 = 1) := Nat.testBit_eq_decide_div_mod_eq
theorem tb_nat (N k : Nat) : (N.testBit k).toNat = N / 2 ^ k % 2 := by
  rw [tb]
  rcases Nat.mod_two_eq_zero_or_one (N / 2 ^ k) with h | h <;> rw [h] <;> rfl
/-- The bits of a number, the lowest first. -/
def bitsN (N m : Nat) : List Bool := (List.range m).map N.testBit
theorem bitsN_len (N m : Nat) : (bitsN N m).length = m := by simp [bitsN]
theorem bitsN_succ (N m : Nat) : bitsN N (m + 1) = bitsN N m ++ [N.testBit m] := by simp [bitsN, List.range_succ]
theorem bitsN_get {N m k : Nat} (h : k < m) : rdOf false (bitsN N m) (k : Int) = N.testBit k := by
  unfold rdOf bitsN
  rw [Int.toNat_natCast, List.getD_eq_getElem?_getD, List.getElem?_map, List.getElem?_range h]; rfl
theorem bitn_bitsN (N : Nat) : ∀ m, bitn (bitsN N m) = dig 2 m N
  | 0 => rfl
  | m + 1 => by
    rw [bitsN_succ, dig_succ, ← bitn_bitsN N m, ← tb_nat]
    unfold bitn
    rw [List.map_append]; rfl
theorem lt_of_bits {N m : Nat} (h : ∀ i, m ≤ i → N.testBit i = false) : N < 2 ^ m := Nat.lt_pow_two_of_testBit N h
theorem bit_big {N m i : Nat} (h : N.testBit i = true) (hi : m ≤ i) : ¬ N < 2 ^ m := by
  intro hl
  have h2 : N < 2 ^ i := Nat.lt_of_lt_of_le hl (Nat.pow_le_pow_right (by omega) hi)
  rw [Nat.testBit_lt_two_pow h2] at h
  cases h
/-- One bit more set: one byte grows. -/
theorem dig_bit {N i k : Nat} (hN : N < 2 ^ i) (hk : i / 8 < k) : dig 256 k (N + 2 ^ i) = (dig 256 k N).set (i / 8) (N / 256 ^ (i / 8) % 256 + 2 ^ (i % 8)) := by
  have h1 := pow8_lt hN
  have h2 : 2 ^ (i % 8) * 2 ≤ 2 ^ 8 := by rw [← Nat.pow_succ]; exact Nat.pow_le_pow_right (by omega) (by omega)
  have e2 : 2 ^ i = 2 ^ (i % 8) * 256 ^ (i / 8) := by rw [pow8, ← Nat.pow_add]; congr 1; omega
  have hp : ∀ j : Nat, 0 < 256 ^ j := fun j => Nat.pow_pos (by omega)
  apply List.ext_getElem?
  intro j
  rw [List.getElem?_set, dig_len]
  have hg : ∀ M j, j < k → (dig 256 k M)[j]? = some (M / 256 ^ j % 256) := by
    intro M j hj
    have hl : j < (dig 256 k M).length := by rw [dig_len]; exact hj
    have := dig_get 256 k M j hj
    rw [List.getD_eq_getElem?_getD, List.getElem?_eq_getElem hl] at this
    rw [List.getElem?_eq_getElem hl, ← this]; rfl
  by_cases hj : j < k
  · rw [hg _ _ hj]
    by_cases hq : i / 8 = j
    · rw [if_pos hq, if_pos hk]
      subst hq
      have e3 : (N + 2 ^ i) / 256 ^ (i / 8) = N / 256 ^ (i / 8) + 2 ^ (i % 8) := by rw [e2, Nat.add_mul_div_right _ _ (hp _)]
      rw [e3]
      generalize N / 256 ^ (i / 8) = y at *
      generalize 2 ^ (i % 8) = u at *
      congr 1; omega
    · rw [if_neg hq, hg _ _ hj]
      congr 1
      by_cases hlt : j < i / 8
      · have e4 : 256 ^ (i / 8) = 256 ^ j * (256 ^ (i / 8 - j - 1) * 256) := by
          rw [← Nat.pow_succ, ← Nat.pow_add]; congr 1; omega
        have e5 : 2 ^ i = (2 ^ (i % 8) * 256 ^ (i / 8 - j - 1)) * 256 * 256 ^ j := by
          rw [e2, e4]; simp only [Nat.mul_comm, Nat.mul_left_comm]
        rw [e5, Nat.add_mul_div_right _ _ (hp j), Nat.add_mul_mod_self_right]
      · have e6 : N + 2 ^ i < 256 ^ j := by
          have h3 : 2 ^ (i + 1) ≤ 256 ^ j := by rw [pow8]; exact Nat.pow_le_pow_right (by omega) (by omega)
          rw [Nat.pow_succ] at h3
          omega
        rw [Nat.div_eq_of_lt e6, Nat.div_eq_of_lt (by omega)]
  · rw [if_neg (fun e => hj (by omega)), List.getElem?_eq_none (by rw [dig_len]; omega), List.getElem?_eq_none (by rw [dig_len]; omega)]
theorem blen_or (a b : Nat) : blen (a ||| b) = max (blen a) (blen b) := by
  apply Nat.le_antisymm
  · rw [blen_le, or_lt]
    exact ⟨blen_le.1 (Nat.le_max_left _ _), blen_le.1 (Nat.le_max_right _ _)⟩
  · have h : (a ||| b) < 2 ^ blen (a ||| b) := blen_le.1 (Nat.le_refl _)
    rw [or_lt] at h
    exact Nat.max_le.2 ⟨blen_le.2 h.1, blen_le.2 h.2⟩
theorem wd_snoc (l : List Nat) (x : Nat) : wd (l ++ [x]) = max (wd l) (blen x) := by
  unfold wd
  rw [List.foldl_append, List.foldl_cons, List.foldl_nil, blen_or]
theorem flat_take {l : List Nat} {w i : Nat} (h : i < l.length) : (l.take (i + 1)).flatMap (fun x => bitsN x w) = (l.take i).flatMap (fun x => bitsN x w) ++ bitsN (l.getD i 0) w := by
  rw [List.take_add_one, List.getElem?_eq_getElem h, List.getD_eq_getElem?_getD, List.getElem?_eq_getElem h, List.flatMap_append]; simp
theorem flat_bitn (w : Nat) : ∀ l : List Nat, bitn (l.flatMap fun x => bitsN x w) = l.flatMap (dig 2 w)
  | [] => rfl
  | x :: l => by
    rw [List.flatMap_cons, List.flatMap_cons, ← flat_bitn w l, ← bitn_bitsN]
    unfold bitn
    rw [List.map_append]
theorem flat_len (w : Nat) : ∀ l : List Nat, (l.flatMap fun x => bitsN x w).length = l.length * w
  | [] => by simp
  | x :: l => by rw [List.flatMap_cons, List.length_append, bitsN_len, flat_len w l, List.length_cons, Nat.succ_mul]; omega
theorem set_ints (l : List Nat) (i x : Nat) : (ints l).set i (x : Int) = ints (l.set i x) := by
  unfold ints; rw [List.map_set]
theorem ints_zero (n : Nat) : (List.replicate n 0 : List Int) = ints (dig 256 n 0) := by
  have : dig 256 n 0 = List.replicate n 0 := by
    induction n with
    | zero => rfl
    | succ n ih => rw [dig, List.replicate_succ, Nat.zero_mod, Nat.zero_div, ih]
  rw [this]; simp [ints]
end Go.Proofs.YtbcjbgmjiehamaaQ
