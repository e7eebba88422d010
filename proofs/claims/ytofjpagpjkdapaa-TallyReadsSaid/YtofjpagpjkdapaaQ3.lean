import Derived.Test.YtofjpagpjkdapaaQ2
import GoSem.Op.String
/-! Plain: the order of numbers' bytes. -/
namespace Go.Proofs.YtofjpagpjkdapaaQ
open Go.RowKit Go.Proofs.YtofjpagpjkdapaaW.PrintWords Go.Proofs.YtofjpagpjkdapaaW.PrintMore
set_option linter.unusedVariables false
set_option linter.unusedSimpArgs false
theorem encU_inj {x y : Int} (hx : u64 x) (hy : u64 y) (h : encU x = encU y) : x = y := by
  have a := decU_enc hx []
  have b := decU_enc hy []
  rw [h, b] at a
  simp only [Prod.mk.injEq] at a
  exact a.1.symm
def blI : List Int → List Int → Bool
  | _, [] => false
  | [], _ :: _ => true
  | a :: x, b :: y => decide (a < b) || (a == b && blI x y)
theorem bytesLess_I {a b : List Int} (ha : Bs a) (hb : Bs b) : Op.bytesLess (strOfNums a).toList (strOfNums b).toList = blI a b := by
  rw [ByteArray.toList_eq, ByteArray.toList_eq]
  unfold strOfNums
  simp only
  induction a generalizing b with
  | nil => cases b <;> rfl
  | cons x a ih =>
    cases b with
    | nil => rfl
    | cons y b =>
      have h1 := ha.head
      have h2 := hb.head
      simp only [List.map_cons, Op.bytesLess, blI]
      rw [ih ha.tail hb.tail]
      have e1 : decide (UInt8.ofNat x.toNat < UInt8.ofNat y.toNat) = decide (x < y) := by
        rw [decide_eq_decide, UInt8.lt_iff_toNat_lt]; simp only [UInt8.toNat_ofNat']; omega
      have e2 : (UInt8.ofNat x.toNat == UInt8.ofNat y.toNat) = (x == y) := by
        rw [Bool.eq_iff_iff, beq_iff_eq, beq_iff_eq, ← UInt8.toNat_inj]; simp only [UInt8.toNat_ofNat']; omega
      rw [e1, e2]
def bigN (x : Int) : Nat → List Int
  | 0 => []
  | n + 1 => x / 256 ^ n % 256 :: bigN x n
theorem bigN_less (n : Nat) : ∀ (x y : Int), 0 ≤ x → 0 ≤ y → x % 256 ^ n < y % 256 ^ n → blI (bigN x n) (bigN y n) = true := by
  induction n with
  | zero => intro x y _ _ h; simp [Int.emod_one] at h
  | succ n ih =>
    intro x y hx hy h
    have e : ∀ z : Int, z % 256 ^ (n + 1) = (z / 256 ^ n % 256) * 256 ^ n + z % 256 ^ n := by
      intro z
      have p : (0 : Int) < 256 ^ n := Int.pow_pos (by omega)
      rw [Int.pow_succ]
      generalize (256 : Int) ^ n = p' at *
      have h1 := Int.mul_ediv_add_emod z p'
      have h2 := Int.mul_ediv_add_emod (z / p') 256
      have r0 := Int.emod_nonneg (z / p') (show (256 : Int) ≠ 0 by omega)
      have r1 := Int.emod_lt_of_pos (z / p') (show (0 : Int) < 256 by omega)
      have s0 := Int.emod_nonneg z (Int.ne_of_gt p)
      have s1 := Int.emod_lt_of_pos z p
      generalize z / p' % 256 = r at *
      generalize z % p' = s at *
      generalize z / p' / 256 = q at *
      rw [← h2] at h1
      have e1 : z = (r * p' + s) + (p' * 256) * q := by
        rw [← h1, Int.mul_add, Int.mul_comm r p', Int.mul_assoc]; omega
      have hi : (r + 1) * p' ≤ 256 * p' := Int.mul_le_mul_of_nonneg_right (by omega) (Int.le_of_lt p)
      have lo : 0 ≤ r * p' := Int.mul_nonneg r0 (Int.le_of_lt p)
      rw [Int.add_mul, Int.one_mul] at hi
      rw [e1, Int.add_mul_emod_self_left, Int.emod_eq_of_lt (by omega) (by rw [Int.mul_comm p' 256]; omega)]
    simp only [bigN, blI]
    rw [e x, e y] at h
    have p : (0 : Int) < 256 ^ n := Int.pow_pos (by omega)
    have m1 := Int.emod_nonneg x (Int.ne_of_gt p)
    have m2 := Int.emod_lt_of_pos x p
    have m3 := Int.emod_nonneg y (Int.ne_of_gt p)
    have m4 := Int.emod_lt_of_pos y p
    generalize x / 256 ^ n % 256 = a at *
    generalize y / 256 ^ n % 256 = b at *
    rcases Int.lt_trichotomy a b with c | c | c
    · simp [c]
    · subst c
      have := ih x y hx hy (by omega)
      simp [this]
    · exfalso
      have : (b + 1) * 256 ^ n ≤ a * 256 ^ n := Int.mul_le_mul_of_nonneg_right (by omega) (Int.le_of_lt p)
      rw [Int.add_mul, Int.one_mul] at this
      omega
theorem encU_less {x y : Int} (hx : u64 x) (hy : u64 y) (h : x < y) : (encU x).length < (encU y).length ∨ (encU x).length = (encU y).length ∧ blI (encU x) (encU y) = true := by
  obtain ⟨h0, h1⟩ := hx
  obtain ⟨g0, g1⟩ := hy
  have E : ∀ z : Int, 0 ≤ z → z < 18446744073709551616 → encU z = if z < 64 then bigN z 1 else if z < 16384 then bigN (16384 + z) 2 else if z < 1073741824 then bigN (2147483648 + z) 4 else 192 :: bigN z 8 := by
    intro z z0 z1
    unfold encU
    split
    · simp [bigN]; omega
    · split
      · simp [bigN]; omega
      · split
        · simp [bigN]; omega
        · simp [bigN]
  rw [E x h0 h1, E y g0 g1]
  by_cases c1 : x < 64
  · rw [if_pos c1]
    by_cases d1 : y < 64
    · rw [if_pos d1]; right; exact ⟨rfl, bigN_less 1 x y h0 g0 (by omega)⟩
    · rw [if_neg d1]; left
      split
      · simp [bigN]
      · split <;> simp [bigN]
  · rw [if_neg c1, if_neg (show ¬ y < 64 by omega)]
    by_cases c2 : x < 16384
    · rw [if_pos c2]
      by_cases d2 : y < 16384
      · rw [if_pos d2]; right; exact ⟨rfl, bigN_less 2 _ _ (by omega) (by omega) (by omega)⟩
      · rw [if_neg d2]; left
        split <;> simp [bigN]
    · rw [if_neg c2, if_neg (show ¬ y < 16384 by omega)]
      by_cases c3 : x < 1073741824
      · rw [if_pos c3]
        by_cases d3 : y < 1073741824
        · rw [if_pos d3]; right; exact ⟨rfl, bigN_less 4 _ _ (by omega) (by omega) (by omega)⟩
        · rw [if_neg d3]; left; simp [bigN]
      · rw [if_neg c3, if_neg (show ¬ y < 1073741824 by omega)]
        right
        refine ⟨rfl, ?_⟩
        simp only [blI]
        rw [bigN_less 8 x y h0 g0 (by omega)]
        simp
end Go.Proofs.YtofjpagpjkdapaaQ
