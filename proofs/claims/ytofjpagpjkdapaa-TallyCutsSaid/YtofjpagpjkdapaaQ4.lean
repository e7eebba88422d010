import Derived.Test.YtofjpagpjkdapaaQ1
/-! Plain: a beginning of a number's bytes is none. -/
namespace Go.Proofs.YtofjpagpjkdapaaQ
open Go.Proofs.YtofjpagpjkdapaaW.PrintWords
set_option linter.unusedVariables false
set_option linter.unusedSimpArgs false
theorem decU_short {l : List Int} {b : Int} {r : List Int} (h : l = b :: r) (h1 : ¬ 192 < b) (h2 : r.length < szU b) : decU l = (0, 0, 2) := by
  subst h
  simp only [decU]
  rw [if_neg h1, if_pos h2]
theorem decU_cut {n : Int} (h : u64 n) {k : Nat} (hk : k < (encU n).length) : decU ((encU n).take k) = (0, 0, 2) := by
  obtain ⟨h0, h1⟩ := h
  rcases k with _ | k
  · simp [decU]
  · unfold encU at hk ⊢
    by_cases c1 : n < 64
    · rw [if_pos c1] at hk; simp at hk
    · rw [if_neg c1] at hk ⊢
      by_cases c2 : n < 16384
      · rw [if_pos c2] at hk ⊢
        have e1 : szU (64 + n / 256) = 1 := by unfold szU; rw [if_neg (by omega), if_pos (by omega)]
        refine decU_short (b := 64 + n / 256) rfl (by omega) ?_
        rw [e1]; simp at hk ⊢; omega
      · rw [if_neg c2] at hk ⊢
        by_cases c3 : n < 1073741824
        · rw [if_pos c3] at hk ⊢
          have e1 : szU (128 + n / 16777216) = 3 := by unfold szU; rw [if_neg (by omega), if_neg (by omega), if_pos (by omega)]
          refine decU_short (b := 128 + n / 16777216) rfl (by omega) ?_
          rw [e1]; simp at hk ⊢; omega
        · rw [if_neg c3] at hk ⊢
          have e1 : szU 192 = 8 := by decide
          refine decU_short (b := 192) rfl (by omega) ?_
          rw [e1]; simp at hk ⊢; omega
end Go.Proofs.YtofjpagpjkdapaaQ
