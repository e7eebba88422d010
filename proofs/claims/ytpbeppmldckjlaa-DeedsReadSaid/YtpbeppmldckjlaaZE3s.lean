import Derived.Test.YtpbeppmldckjlaaZE1
import Derived.Test.YtpbeppmldckjlaaZG8
namespace Go.Proofs.Ytpbeppmldckjlaa.G
open Go.RowKit Go.Proofs.YtpbeppmldckjlaaQ Go.Proofs.YtpbeppmldckjlaaW.PrintWords Go.Proofs.YtpbeppmldckjlaaW.PrintLast Go.Proofs.YtpbeppmldckjlaaW.PrintMore
set_option linter.unusedVariables false
set_option linter.unusedSimpArgs false
def eqV (a b : SV) : Bool := (a.f0 == b.f0) && ((a.f1 == b.f1) && (a.f2.toList == b.f2.toList))
theorem eqV_iff (a b : SV) : eqV a b = true ↔ a = b := by
  obtain ⟨a0, a1, a2⟩ := a
  obtain ⟨b0, b1, b2⟩ := b
  unfold eqV
  simp only [Bool.and_eq_true, beq_iff_eq, chars_eq]
  constructor
  · rintro ⟨rfl, rfl, rfl⟩; rfl
  · intro h
    injection h with h1 h2 h3
    exact ⟨h1, h2, h3⟩
theorem eqV_not (a b : SV) : (!(a.f0 == b.f0) || (!(a.f1 == b.f1) || !(a.f2.toList == b.f2.toList))) = !eqV a b := by
  unfold eqV
  cases (a.f0 == b.f0) <;> cases (a.f1 == b.f1) <;> cases (a.f2.toList == b.f2.toList) <;> rfl
def eqR : List SV → List SV → Bool
  | a :: l, b :: r => eqV a b && eqR l r
  | _, _ => true
theorem eqR_iff : ∀ (l r : List SV), l.length = r.length → (eqR l r = true ↔ l = r)
  | [], [], _ => by simp [eqR]
  | [], _ :: _, h => by simp at h
  | _ :: _, [], h => by simp at h
  | a :: l, b :: r, h => by
    have ih := eqR_iff l r (by simpa using h)
    simp only [eqR, Bool.and_eq_true, ih, eqV_iff, List.cons.injEq]
def sameB (g1 : Bool) (r1 : List SV) (g2 : Bool) (r2 : List SV) : Bool := (g1 == g2) && (decide (r1.length = r2.length) && eqR r1 r2)
theorem sameB_iff (g1 : Bool) (r1 : List SV) (g2 : Bool) (r2 : List SV) : sameB g1 r1 g2 r2 = true ↔ g1 = g2 ∧ r1 = r2 := by
  unfold sameB
  simp only [Bool.and_eq_true, beq_iff_eq, decide_eq_true_eq]
  constructor
  · rintro ⟨h1, h2, h3⟩; exact ⟨h1, (eqR_iff _ _ h2).mp h3⟩
  · rintro ⟨rfl, rfl⟩; exact ⟨rfl, rfl, (eqR_iff _ _ rfl).mpr rfl⟩
theorem Value_l0 (a b : List SV) (hl : a.length = b.length) (hm : a.length ≤ 9223372036854775807) (d : Nat) : ∀ (k i : Nat), a.length - i = d → i ≤ a.length → d < k → api_Value.l0 k a b (a.length : Int) (i : Int) = some (eqR (a.drop i) (b.drop i)) := by
  induction d with
  | zero =>
    intro k i hd hi hk
    obtain ⟨k, rfl⟩ : ∃ m, k = m + 1 := ⟨k - 1, by omega⟩
    simp only [api_Value.l0]
    rw [if_neg (by omega), List.drop_eq_nil_of_le (by omega)]
    simp [eqR]
  | succ d ih =>
    intro k i hd hi hk
    obtain ⟨k, rfl⟩ : ∃ m, k = m + 1 := ⟨k - 1, by omega⟩
    have next := ih k (i + 1) (by omega) (by omega) (by omega)
    rw [show ((i + 1 : Nat) : Int) = (i : Int) + 1 by omega] at next
    simp only [api_Value.l0]
    rw [if_pos (by omega), if_pos (by omega), if_pos (by omega), if_pos (by omega), w64' ((i : Int) + 1) (by omega) (by omega), next, eqV_not, rdV (show i < a.length by omega), rdV (show i < b.length by omega), eqR]
    cases eqV (rd_T43 a (i : Int)) (rd_T43 b (i : Int)) <;> simp
theorem Same_f {k : Nat} (g1 : Bool) (r1 : List SV) (g2 : Bool) (r2 : List SV) (hm : r1.length ≤ 9223372036854775807) (hk : r1.length < k) : deeds_Same.f k g1 r1 g2 r2 = some (sameB g1 r1 g2 r2) := by
  unfold deeds_Same.f kinds_Same.f api_Value.f sameB
  cases g1 == g2
  · rfl
  · rw [if_pos rfl]
    by_cases hl : r1.length = r2.length
    · rw [if_pos (by omega)]
      have := Value_l0 r1 r2 hl hm r1.length k 0 (by omega) (by omega) hk
      rw [show ((0 : Nat) : Int) = 0 from rfl] at this
      rw [this]
      simp [hl]
    · rw [if_neg (by omega)]
      simp [hl]
end Go.Proofs.Ytpbeppmldckjlaa.G
