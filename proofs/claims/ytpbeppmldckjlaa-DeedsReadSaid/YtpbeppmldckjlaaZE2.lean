import Derived.Test.YtpbeppmldckjlaaZE1
import Derived.Test.YtpbeppmldckjlaaZG10
namespace Go.Proofs.Ytpbeppmldckjlaa.G
open Go.RowKit Go.Proofs.YtpbeppmldckjlaaQ Go.Proofs.YtpbeppmldckjlaaW.PrintWords Go.Proofs.YtpbeppmldckjlaaW.PrintLast Go.Proofs.YtpbeppmldckjlaaW.PrintMore
set_option linter.unusedVariables false
set_option linter.unusedSimpArgs false
theorem odd_false {c : SC} : kinds_Right.odd c = false ↔ (c.f0 = 1 ∨ c.f0 = 2) := by
  unfold kinds_Right.odd
  by_cases h1 : c.f0 = 1 <;> by_cases h2 : c.f0 = 2 <;> simp [h1, h2]
theorem fine_drop {l : List SC} {i : Nat} (h : i < l.length) : kinds_Right.fine (l.drop i) = (!kinds_Right.odd (rd_T39 l (i : Int)) && kinds_Right.fine (l.drop (i + 1))) := by
  rw [rdC h]; rfl
theorem rRight_l0 (l : List SC) (hl : l.length ≤ 4611686018427387904) (d : Nat) : ∀ (k i : Nat), l.length - i = d → i ≤ l.length → d < k →
    tithebarnref02_Right.l0 k l (i : Int) = some (kinds_Right.fine (l.drop i) && (decide (0 < l.length) && decide (l.length ≤ 6)) && !(decide (i = 0) && decide (0 < l.length) && (rd_T39 l 0).f1)) := by
  induction d with
  | zero =>
    intro k i hd hi hk
    obtain ⟨k, rfl⟩ : ∃ m, k = m + 1 := ⟨k - 1, by omega⟩
    simp only [tithebarnref02_Right.l0]
    rw [if_neg (by omega), List.drop_eq_nil_of_le (by omega)]
    by_cases h0 : 0 < l.length
    · rw [if_pos (by omega)]
      have : i ≠ 0 := by omega
      by_cases h6 : l.length ≤ 6
      · have e : decide ((l.length : Int) ≤ 6) = true := decide_eq_true (by omega)
        simp [this, h0, h6, e, kinds_Right.fine]
      · have e : decide ((l.length : Int) ≤ 6) = false := decide_eq_false (by omega)
        simp [this, h6, e]
    · rw [if_neg (by omega)]
      simp [h0]
  | succ d ih =>
    intro k i hd hi hk
    obtain ⟨k, rfl⟩ : ∃ m, k = m + 1 := ⟨k - 1, by omega⟩
    have next := ih k (i + 1) (by omega) (by omega) (by omega)
    rw [show ((i + 1 : Nat) : Int) = (i : Int) + 1 by omega] at next
    have hn : ¬ (i + 1 = 0) := by omega
    simp only [hn, decide_false, Bool.false_and, Bool.not_false, Bool.and_true] at next
    simp only [tithebarnref02_Right.l0]
    rw [if_pos (by omega), if_pos (by omega), w64' ((i : Int) + 1) (by omega) (by omega), next, fine_drop (show i < l.length by omega)]
    have h0 : 0 < l.length := by omega
    obtain ⟨x, hx⟩ : ∃ x, rd_T39 l (i : Int) = x := ⟨_, rfl⟩
    rw [hx]
    by_cases hi0 : i = 0
    · subst hi0
      have hx0 : rd_T39 l 0 = x := hx
      rw [hx0]
      by_cases h1 : x.f0 = 1
      · rw [if_pos h1, odd_false.mpr (.inl h1)]
        cases hf : x.f1 <;> simp [h0]
      · rw [if_neg h1]
        by_cases h2 : x.f0 = 2
        · rw [if_pos h2, odd_false.mpr (.inr h2)]
          cases hf : x.f1 <;> simp [h0]
        · rw [if_neg h2]
          have : kinds_Right.odd x = true := by
            cases ho : kinds_Right.odd x
            · rcases odd_false.mp ho with h | h
              · exact absurd h h1
              · exact absurd h h2
            · rfl
          simp [this]
    · have hi0' : ¬ ((i : Int) = 0) := by omega
      by_cases h1 : x.f0 = 1
      · rw [if_pos h1, if_neg hi0', odd_false.mpr (.inl h1)]
        simp [hi0]
      · rw [if_neg h1]
        by_cases h2 : x.f0 = 2
        · rw [if_pos h2, if_neg hi0', odd_false.mpr (.inr h2)]
          simp [hi0]
        · rw [if_neg h2]
          have : kinds_Right.odd x = true := by
            cases ho : kinds_Right.odd x
            · rcases odd_false.mp ho with h | h
              · exact absurd h h1
              · exact absurd h h2
            · rfl
          simp [this]
theorem rRight_f {k : Nat} {l : List SC} (hk : l.length < k) (hl : l.length ≤ 4611686018427387904) : tithebarnref02_Right.f k l = some (rightB l) := by
  unfold tithebarnref02_Right.f rightB
  have := rRight_l0 l hl l.length k 0 (by omega) (by omega) hk
  rw [show ((0 : Nat) : Int) = 0 from rfl] at this
  rw [this, List.drop_zero]
  cases kinds_Right.fine l <;> by_cases h0 : 0 < l.length <;> by_cases h6 : l.length ≤ 6 <;> cases (rd_T39 l 0).f1 <;> simp [h0, h6]
end Go.Proofs.Ytpbeppmldckjlaa.G
