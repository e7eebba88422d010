import Derived.Test.YtagokgijffpdnaaZM1
import Derived.Test.YtagokgijffpdnaaZG12
namespace Go.Proofs.Ytagokgijffpdnaa.G
open Go.RowKit Go.Proofs.YtagokgijffpdnaaQ Go.Proofs.YtagokgijffpdnaaW.PrintWords Go.Proofs.YtagokgijffpdnaaW.PrintLast Go.Proofs.YtagokgijffpdnaaW.PrintMore
set_option linter.unusedVariables false
set_option linter.unusedSimpArgs false
theorem number_f (n : Int) : tithebarnref16_number.f n = some (!oddI n) := by
  unfold tithebarnref16_number.f oddI
  by_cases h : n ≥ 0
  · rw [if_pos h, decide_eq_false (show ¬ n < 0 by omega), Bool.false_or]
    congr 1
    by_cases h2 : n ≤ 999999999
    · rw [decide_eq_true h2, decide_eq_false (by omega)]; rfl
    · rw [decide_eq_false h2, decide_eq_true (by omega)]; rfl
  · rw [if_neg h, decide_eq_true (show n < 0 by omega)]; rfl
theorem key_f (v : SV) : tithebarnref16_key.f v.f0 v.f1 v.f2 = some (!badV v) := by
  unfold tithebarnref16_key.f badV
  cases v.f0
  · rw [if_neg (by decide), Bool.false_or]
    congr 1
    by_cases h : v.f2.size ≤ 64
    · rw [decide_eq_true (by omega), decide_eq_false (by omega)]; rfl
    · rw [decide_eq_false (by omega), decide_eq_true (by omega)]; rfl
  · rfl
def aheadI : List Int → List Int → Bool
  | [], [] => false
  | [], _ :: _ => true
  | _ :: _, [] => false
  | a :: l, b :: m => if a = b then aheadI l m else decide (a < b)
theorem ahead_l0 (a b : ByteArray) (ha : a.size ≤ 4611686018427387904) (hb : b.size ≤ 4611686018427387904) : ∀ (m i k : Nat), i + m = a.size → 2 * m + 2 ≤ k → i ≤ b.size → tithebarnref02_ahead.l0 k a b (i : Int) = some (aheadI ((bytesOf a).drop i) ((bytesOf b).drop i)) := by
  have sa := bytesOf_size a
  have sb := bytesOf_size b
  intro m
  induction m with
  | zero =>
    intro i k hi hk hib
    obtain ⟨k, rfl⟩ : ∃ m, k = m + 2 := ⟨k - 2, by omega⟩
    simp only [tithebarnref02_ahead.l0, tithebarnref02_ahead.j1]
    have e1 : (bytesOf a).drop i = [] := List.drop_eq_nil_of_le (by omega)
    rw [if_neg (by omega), if_neg (show ¬ (false = true) by decide), e1]
    by_cases h : i < b.size
    · rw [List.drop_eq_getElem_cons (show i < (bytesOf b).length by omega)]
      unfold aheadI
      rw [decide_eq_true (by omega)]
    · rw [List.drop_eq_nil_of_le (show (bytesOf b).length ≤ i by omega)]
      unfold aheadI
      rw [decide_eq_false (by omega)]
  | succ m ih =>
    intro i k hi hk hib
    obtain ⟨k, rfl⟩ : ∃ m, k = m + 2 := ⟨k - 2, by omega⟩
    simp only [tithebarnref02_ahead.l0, tithebarnref02_ahead.j1]
    rw [if_pos (by omega)]
    have ew : wrap64 ((i : Int) + 1) = ((i + 1 : Nat) : Int) := by rw [w64 (by omega) (by omega)]; omega
    have da := List.drop_eq_getElem_cons (show i < (bytesOf a).length by omega)
    have ba : bt a (i : Int) = (bytesOf a)[i]'(by omega) := by
      rw [bt_rd]; unfold rd
      rw [Int.toNat_natCast, List.getD_eq_getElem?_getD, List.getElem?_eq_getElem (by omega)]; rfl
    by_cases h : i < b.size
    · have db := List.drop_eq_getElem_cons (show i < (bytesOf b).length by omega)
      have bb : bt b (i : Int) = (bytesOf b)[i]'(by omega) := by
        rw [bt_rd]; unfold rd
        rw [Int.toNat_natCast, List.getD_eq_getElem?_getD, List.getElem?_eq_getElem (by omega)]; rfl
      rw [decide_eq_true (by omega), if_pos rfl, if_pos (by omega), if_pos (by omega), if_pos (by omega), da, db, ba, bb]
      unfold aheadI
      by_cases e : (bytesOf a)[i]'(by omega) = (bytesOf b)[i]'(by omega)
      · rw [if_pos e, if_pos e, ew]; exact ih (i + 1) k (by omega) (by omega) (by omega)
      · rw [if_neg e, if_neg e]
    · rw [decide_eq_false (by omega), if_neg (show ¬ (false = true) by decide), da, List.drop_eq_nil_of_le (show (bytesOf b).length ≤ i by omega)]
      unfold aheadI
      rw [decide_eq_false (by omega)]
theorem aheadI_less : ∀ (a b : List UInt8), aheadI (a.map fun x => (x.toNat : Int)) (b.map fun x => (x.toNat : Int)) = Op.bytesLess a b
  | [], [] => rfl
  | [], _ :: _ => rfl
  | _ :: _, [] => rfl
  | x :: a, y :: b => by
    simp only [List.map_cons]
    unfold aheadI Op.bytesLess
    have ih := aheadI_less a b
    by_cases h : x = y
    · subst h; simp [ih]
    · have hne : ¬ ((x.toNat : Int) = (y.toNat : Int)) := fun e => h (UInt8.toNat_inj.mp (by omega))
      rw [if_neg hne]
      have h1 : (x == y) = false := by simpa using h
      simp only [h1, Bool.false_and, Bool.or_false]
      simp [UInt8.lt_iff_toNat_lt]
theorem bytesOf_map (a : ByteArray) : bytesOf a = a.toList.map fun x => (x.toNat : Int) := by rw [ByteArray.toList_eq]; rfl
theorem ahead_f {a b : ByteArray} (ha : a.size ≤ 64) (hb : b.size ≤ 64) {k : Nat} (hk : 200 ≤ k) : tithebarnref02_ahead.f k a b = some (Op.bytesLess a.toList b.toList) := by
  unfold tithebarnref02_ahead.f
  have := ahead_l0 a b (by omega) (by omega) a.size 0 k (by omega) (by omega) (by omega)
  rw [show ((0 : Nat) : Int) = 0 from rfl, List.drop_zero, List.drop_zero, bytesOf_map, bytesOf_map, aheadI_less] at this
  exact this
theorem less_total : ∀ (a b : List UInt8), Op.bytesLess b a = (!Op.bytesLess a b && !(a == b))
  | [], [] => rfl
  | [], _ :: _ => rfl
  | _ :: _, [] => rfl
  | x :: a, y :: b => by
    unfold Op.bytesLess
    have ih := less_total a b
    by_cases h : x = y
    · subst h; simp [ih]
    · have h1 : (x == y) = false := by simpa using h
      have h2 : (y == x) = false := by simpa using Ne.symm h
      have h3 : ((x :: a) == (y :: b)) = false := by simp [h]
      rw [h3]
      simp only [h1, h2, Bool.false_and, Bool.or_false, Bool.not_false, Bool.and_true]
      have : x.toNat ≠ y.toNat := fun e => h (UInt8.toNat_inj.mp e)
      by_cases c : x < y
      · have : ¬ y < x := by rw [UInt8.lt_iff_toNat_lt] at c ⊢; omega
        simp [c, this]
      · have : y < x := by rw [UInt8.lt_iff_toNat_lt] at c ⊢; omega
        simp [c, this]
theorem Ahead_f {a b : SV} (ha : badV a = false) (hb : badV b = false) {k : Nat} (hk : 201 ≤ k) : tithebarnref02_Ahead.f k b.f0 b.f1 b.f2 a.f0 a.f1 a.f2 = some (decide (0 < cmpV a b)) := by
  obtain ⟨k, rfl⟩ : ∃ m, k = m + 1 := ⟨k - 1, by omega⟩
  unfold badV at ha hb
  simp only [Bool.or_eq_false_iff, decide_eq_false_iff_not] at ha hb
  obtain ⟨ha0, ha1⟩ := ha
  obtain ⟨hb0, hb1⟩ := hb
  unfold tithebarnref02_Ahead.f cmpV
  rw [ha0, hb0]
  simp only [Bool.false_eq_true, if_false, tithebarnref02_Ahead.j0]
  by_cases h : b.f1 = a.f1
  · rw [if_pos h, ahead_f (by omega) (by omega) (by omega), Option.bind_some, if_neg (by omega), if_neg (by omega), less_total]
    unfold cmpStr
    cases Op.bytesLess a.f2.toList b.f2.toList <;> cases (a.f2.toList == b.f2.toList) <;> rfl
  · rw [if_neg h]
    by_cases c : a.f1 < b.f1
    · rw [if_pos c, decide_eq_false (by omega)]; rfl
    · rw [if_neg c, if_pos (by omega), decide_eq_true (by omega)]; rfl
theorem part_f (p : SP) {k : Nat} (hk : 201 ≤ k) : tithebarnref16_part.f k p.f0 p.f1 p.f2.f0 p.f2.f1 p.f2.f2 p.f3.f0 p.f3.f1 p.f3.f2 = some (!oddP p) := by
  unfold tithebarnref16_part.f oddP
  rw [number_f, Option.bind_some]
  cases oddI p.f0
  · rw [if_pos (by decide)]
    by_cases h1 : p.f1 ≥ 0
    · rw [if_pos h1, decide_eq_false (show ¬ p.f1 < 0 by omega)]
      by_cases h2 : p.f1 < 4
      · rw [if_pos h2, decide_eq_false (show ¬ 4 ≤ p.f1 by omega), key_f, Option.bind_some]
        cases h3 : badV p.f2
        · rw [if_pos (by decide), key_f, Option.bind_some]
          cases h4 : badV p.f3
          · rw [if_pos (by decide), Ahead_f h3 h4 hk]; simp
          · rw [if_neg (by decide)]; simp
        · rw [if_neg (by decide)]; simp
      · rw [if_neg h2, decide_eq_true (show 4 ≤ p.f1 by omega)]; simp
    · rw [if_neg h1, decide_eq_true (show p.f1 < 0 by omega)]; simp
  · rw [if_neg (by decide)]; simp
theorem rRight_l1 (d : List Int) (a : List SP) (fl nx : Int) (ha : a.length ≤ 1000) : ∀ (m i k : Nat), i + m = a.length → m + 210 ≤ k → tithebarnref16_Right.l1 k (i : Int) d a fl nx = some ((a.drop i).all fun p => !oddP p) := by
  intro m
  induction m with
  | zero =>
    intro i k hi hk
    obtain ⟨k, rfl⟩ : ∃ m, k = m + 1 := ⟨k - 1, by omega⟩
    simp only [tithebarnref16_Right.l1]
    rw [if_neg (by omega), List.drop_eq_nil_of_le (by omega)]; rfl
  | succ m ih =>
    intro i k hi hk
    obtain ⟨k, rfl⟩ : ∃ m, k = m + 1 := ⟨k - 1, by omega⟩
    simp only [tithebarnref16_Right.l1]
    have ew : wrap64 ((i : Int) + 1) = ((i + 1 : Nat) : Int) := by rw [w64 (by omega) (by omega)]; omega
    rw [if_pos (by omega), if_pos (by omega), part_f _ (by omega), Option.bind_some, rdP_drop (show i < a.length by omega), List.all_cons, ew]
    cases oddP (rd_T36 a (i : Int))
    · rw [if_pos (by decide), ih (i + 1) k (by omega) (by omega)]; simp
    · rw [if_neg (by decide)]; simp
theorem rRight_l0 (d : List Int) (a : List SP) (fl nx : Int) (ha : a.length ≤ 1000) (hd : d.length ≤ 1000) : ∀ (m i k : Nat), i + m = d.length → m + 1220 ≤ k → tithebarnref16_Right.l0 k (i : Int) d a fl nx = some (((d.drop i).all fun x => !oddI x) && (a.all fun p => !oddP p)) := by
  intro m
  induction m with
  | zero =>
    intro i k hi hk
    obtain ⟨k, rfl⟩ : ∃ m, k = m + 1 := ⟨k - 1, by omega⟩
    simp only [tithebarnref16_Right.l0]
    have := rRight_l1 d a fl nx ha a.length 0 k (by omega) (by omega)
    rw [show ((0 : Nat) : Int) = 0 from rfl, List.drop_zero] at this
    rw [if_neg (by omega), List.drop_eq_nil_of_le (show d.length ≤ i by omega), this]; rfl
  | succ m ih =>
    intro i k hi hk
    obtain ⟨k, rfl⟩ : ∃ m, k = m + 1 := ⟨k - 1, by omega⟩
    simp only [tithebarnref16_Right.l0]
    have ew : wrap64 ((i : Int) + 1) = ((i + 1 : Nat) : Int) := by rw [w64 (by omega) (by omega)]; omega
    have hdr : d.drop i = rd d (i : Int) :: d.drop (i + 1) := by
      rw [List.drop_eq_getElem_cons (show i < d.length by omega)]
      unfold rd
      rw [Int.toNat_natCast, List.getD_eq_getElem?_getD, List.getElem?_eq_getElem (show i < d.length by omega)]; rfl
    rw [if_pos (by omega), if_pos (by omega), number_f, Option.bind_some, hdr, List.all_cons, ew]
    cases oddI (rd d (i : Int))
    · rw [if_pos (by decide), ih (i + 1) k (by omega) (by omega)]; simp
    · rw [if_neg (by decide)]; simp
theorem rRight_f (d : List Int) (a : List SP) (fl nx : Int) {k : Nat} (hk : 3000 ≤ k) : tithebarnref16_Right.f k d a fl nx = some (rightB d a fl nx) := by
  obtain ⟨k, rfl⟩ : ∃ m, k = m + 1 := ⟨k - 1, by omega⟩
  unfold tithebarnref16_Right.f rightB
  have j1 : tithebarnref16_Right.j0 (k + 1) true d a fl nx = some false := by simp only [tithebarnref16_Right.j0, if_true]
  by_cases h1 : d.length ≤ 1000
  · rw [if_neg (by omega), decide_eq_true h1]
    by_cases h2 : a.length ≤ 1000
    · rw [if_neg (by omega), decide_eq_true h2, number_f, Option.bind_some]
      cases oddI fl
      · rw [if_pos (by decide), number_f, Option.bind_some]
        cases oddI nx
        · simp only [tithebarnref16_Right.j0]
          rw [if_neg (by decide)]
          have := rRight_l0 d a fl nx h2 h1 d.length 0 k (by omega) (by omega)
          rw [show ((0 : Nat) : Int) = 0 from rfl, List.drop_zero] at this
          rw [this]; simp
        · rw [show (!!true) = true from rfl, j1]; simp
      · rw [if_neg (by decide), j1]; simp
    · rw [if_pos (by omega), decide_eq_false h2, j1]; simp
  · rw [if_pos (by omega), decide_eq_false h1, j1]; simp
end Go.Proofs.Ytagokgijffpdnaa.G
