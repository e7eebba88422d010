import Derived.Test.YtbcjbgmjiehamaaQW
/-! Plain: how many bits numbers need. -/
namespace Go.Proofs.YtbcjbgmjiehamaaQ
open Go.Proofs.YtbcjbgmjiehamaaW.PrintWords
set_option linter.unusedVariables false
set_option linter.unusedSimpArgs false
def blen (n : Nat) : Nat := if n = 0 then 0 else n.log2 + 1
theorem blen_le {n w : Nat} : blen n ≤ w ↔ n < 2 ^ w := by
  unfold blen
  split
  · rename_i h
    subst h
    exact ⟨fun _ => p2 w, fun _ => Nat.zero_le _⟩
  · rename_i h
    rw [Nat.succ_le_iff, Nat.log2_lt h]
theorem blen_div {n k : Nat} (h : 2 ^ k ≤ n) : blen n = blen (n / 2 ^ k) + k := by
  apply Nat.le_antisymm
  · rw [blen_le, Nat.pow_add, ← Nat.div_lt_iff_lt_mul (p2 k)]
    exact blen_le.1 (Nat.le_refl _)
  · have h1 : n < 2 ^ blen n := blen_le.1 (Nat.le_refl _)
    have h2 : k < blen n := by
      refine Nat.lt_of_not_le fun h3 => ?_
      have := blen_le.1 h3
      omega
    have h3 : blen (n / 2 ^ k) ≤ blen n - k := by
      rw [blen_le, Nat.div_lt_iff_lt_mul (p2 k), ← Nat.pow_add, show blen n - k + k = blen n by omega]
      exact h1
    omega
theorem blen_64 {n : Nat} (h : n < 18446744073709551616) : blen n ≤ 64 := blen_le.2 h
def wd (l : List Nat) : Nat := blen (l.foldl (· ||| ·) 0)
theorem or_lt {a b w : Nat} : a ||| b < 2 ^ w ↔ a < 2 ^ w ∧ b < 2 ^ w :=
  ⟨fun h => ⟨Nat.lt_of_le_of_lt Nat.left_le_or h, Nat.lt_of_le_of_lt Nat.right_le_or h⟩, fun h => Nat.or_lt_two_pow h.1 h.2⟩
theorem fold_or : ∀ (l : List Nat) (a w : Nat), l.foldl (· ||| ·) a < 2 ^ w ↔ a < 2 ^ w ∧ ∀ x ∈ l, x < 2 ^ w
  | [], a, w => by simp
  | x :: l, a, w => by
    rw [List.foldl_cons, fold_or l, or_lt]
    constructor
    · rintro ⟨⟨h1, h2⟩, h3⟩
      exact ⟨h1, fun y hy => (List.mem_cons.1 hy).elim (fun e => e ▸ h2) (h3 y)⟩
    · rintro ⟨h1, h2⟩
      exact ⟨⟨h1, h2 x (by simp)⟩, fun y hy => h2 y (by simp [hy])⟩
theorem wd_le {l : List Nat} {w : Nat} : wd l ≤ w ↔ ∀ x ∈ l, x < 2 ^ w := by
  unfold wd
  rw [blen_le, fold_or]
  exact ⟨fun h => h.2, fun h => ⟨p2 w, h⟩⟩
/-- Numbers as they come: of 64 bits each. -/
def U64 (l : List Int) : Prop := ∀ x ∈ l, 0 ≤ x ∧ x < 18446744073709551616
instance (l : List Int) : Decidable (U64 l) := inferInstanceAs (Decidable (∀ x ∈ l, 0 ≤ x ∧ x < 18446744073709551616))
def unats (l : List Int) : List Nat := l.map Int.toNat
theorem unats_len (l : List Int) : (unats l).length = l.length := by simp [unats]
theorem ints_unats {l : List Int} (h : ∀ x ∈ l, 0 ≤ x) : ints (unats l) = l := by
  unfold ints unats
  rw [List.map_map]
  exact (List.map_congr_left (fun x hx => by have := h x hx; simp; omega)).trans (List.map_id l)
theorem unats_ints (l : List Nat) : unats (ints l) = l := by
  unfold ints unats
  rw [List.map_map]
  exact (List.map_congr_left (fun x hx => by simp)).trans (List.map_id l)
theorem unats_64 {l : List Int} (h : U64 l) : ∀ x ∈ unats l, x < 2 ^ 64 := by
  intro x hx
  obtain ⟨y, hy, rfl⟩ := List.mem_map.1 hx
  have := h y hy
  omega
theorem wd_64 {l : List Int} (h : U64 l) : wd (unats l) ≤ 64 := wd_le.2 (unats_64 h)
theorem rd_unats {l : List Int} (h : U64 l) {i : Nat} (hi : i < l.length) : rd l (i : Int) = (((unats l).getD i 0 : Nat) : Int) ∧ (unats l).getD i 0 < 18446744073709551616 := by
  have h1 := h _ (List.getElem_mem hi)
  unfold rd unats
  rw [Int.toNat_natCast, List.getD_eq_getElem?_getD, List.getD_eq_getElem?_getD, List.getElem?_map, List.getElem?_eq_getElem hi]
  simp only [Option.map_some, Option.getD_some]
  omega
theorem take_unats {l : List Int} {i : Nat} (hi : i < l.length) : (unats l).take (i + 1) = (unats l).take i ++ [(unats l).getD i 0] := by
  have h : i < (unats l).length := by rw [unats_len]; exact hi
  rw [List.take_add_one, List.getD_eq_getElem?_getD, List.getElem?_eq_getElem h]; rfl
theorem take_lt {l : List Nat} {w i : Nat} (h : ∀ x ∈ l, x < w) : ∀ x ∈ l.take i, x < w := fun x hx => h x (List.mem_of_mem_take hx)
/-- One number more. -/
theorem val_next {l : List Nat} {w i x : Nat} (hi : i ≤ l.length) (hx : x < 2 ^ w) : val (2 ^ w) (l.take i) + x % 2 ^ w * 2 ^ (i * w) = val (2 ^ w) (l.take i ++ [x]) := by
  rw [val_snoc, List.length_take, Nat.min_eq_left hi, ← Nat.pow_mul, Nat.mod_eq_of_lt hx, Nat.mul_comm x, Nat.mul_comm w]
theorem val_take_lt {l : List Nat} {w i : Nat} (h : ∀ x ∈ l, x < 2 ^ w) (hi : i ≤ l.length) : val (2 ^ w) (l.take i) < 2 ^ (i * w) := by
  have := val_lt (p2 w) (l.take i) (take_lt h)
  rwa [List.length_take, Nat.min_eq_left hi, ← Nat.pow_mul, Nat.mul_comm] at this
theorem pk_wb (w : Nat) (l : List Nat) : pk w l = wb (val (2 ^ w) l) (l.length * w) := rfl
/-- Truths as numbers. -/
def bitn (l : List Bool) : List Nat := l.map Bool.toNat
theorem bitn_len (l : List Bool) : (bitn l).length = l.length := by simp [bitn]
theorem bitn_lt (l : List Bool) : ∀ x ∈ bitn l, x < 2 ^ 1 := by
  intro x hx
  obtain ⟨b, _, rfl⟩ := List.mem_map.1 hx
  cases b <;> decide
theorem take_bitn {l : List Bool} {i : Nat} (hi : i < l.length) : (bitn l).take (i + 1) = (bitn l).take i ++ [(rdOf false l (i : Int)).toNat] := by
  have h : i < (List.map Bool.toNat l).length := by simpa using hi
  unfold bitn rdOf
  rw [List.take_add_one, List.getElem?_eq_getElem h, Int.toNat_natCast, List.getD_eq_getElem?_getD, List.getElem?_eq_getElem hi, List.getElem_map]
  rfl
/-- Why bytes aren't so many bits (0: they are). -/
def fitE (s : ByteArray) (m : Nat) : Int := if s.size < need m then 2 else if need m < s.size then 3 else if num s < 2 ^ m then 0 else 5
theorem num_top {s : ByteArray} {m : Nat} (hs : s.size = need m) (h : m % 8 ≠ 0) : (num s < 2 ^ m ↔ byt s (need m - 1) / 2 ^ (m % 8) = 0) := by
  have e : need m - 1 = m / 8 := by unfold need; omega
  have e2 : need m = m / 8 + 1 := by unfold need; omega
  have hb := num_byte s (m / 8) (by omega)
  have hn := num_lt s
  rw [hs, e2] at hn
  have h1 : num s / 256 ^ (m / 8) < 256 := by
    rw [Nat.div_lt_iff_lt_mul (Nat.pow_pos (by omega)), Nat.mul_comm, ← Nat.pow_succ, pow8]
    exact hn
  rw [e, hb, Nat.mod_eq_of_lt h1, pow8, Nat.div_div_eq_div_mul, ← Nat.pow_add, show 8 * (m / 8) + m % 8 = m by omega]
  constructor
  · intro h; exact Nat.div_eq_of_lt h
  · intro h
    have := Nat.lt_of_div_lt_div (a := num s) (c := 2 ^ m) (b := 2 ^ m) (by rw [h, Nat.div_self (p2 m)]; omega)
    exact this
theorem num_whole {s : ByteArray} {m : Nat} (hs : s.size = need m) (h : m % 8 = 0) : num s < 2 ^ m := by
  have e2 : 8 * need m = m := by unfold need; omega
  have hn := num_lt s
  rwa [hs, e2] at hn
end Go.Proofs.YtbcjbgmjiehamaaQ
