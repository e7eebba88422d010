import Derived.Test.YtpbeppmldckjlaaZE3s
import Derived.Test.YtpbeppmldckjlaaZG14
namespace Go.Proofs.Ytpbeppmldckjlaa.G
open Go.RowKit Go.Proofs.YtpbeppmldckjlaaQ Go.Proofs.YtpbeppmldckjlaaW.PrintWords Go.Proofs.YtpbeppmldckjlaaW.PrintLast Go.Proofs.YtpbeppmldckjlaaW.PrintMore
set_option linter.unusedVariables false
set_option linter.unusedSimpArgs false
theorem rSame_l0 (a b : List SV) (hl : a.length = b.length) (hm : a.length ≤ 9223372036854775807) (d : Nat) : ∀ (k i : Nat), a.length - i = d → i ≤ a.length → d < k → tithebarnref02_Same.l0 k a b (i : Int) = some (eqR (a.drop i) (b.drop i)) := by
  induction d with
  | zero =>
    intro k i hd hi hk
    obtain ⟨k, rfl⟩ : ∃ m, k = m + 1 := ⟨k - 1, by omega⟩
    simp only [tithebarnref02_Same.l0]
    rw [if_neg (by omega), List.drop_eq_nil_of_le (by omega)]
    simp [eqR]
  | succ d ih =>
    intro k i hd hi hk
    obtain ⟨k, rfl⟩ : ∃ m, k = m + 1 := ⟨k - 1, by omega⟩
    have next := ih k (i + 1) (by omega) (by omega) (by omega)
    rw [show ((i + 1 : Nat) : Int) = (i : Int) + 1 by omega] at next
    simp only [tithebarnref02_Same.l0]
    rw [if_pos (by omega), if_pos (by omega), if_pos (by omega), w64' ((i : Int) + 1) (by omega) (by omega), next, eqV_not, rdV (show i < a.length by omega), rdV (show i < b.length by omega), eqR]
    cases eqV (rd_T43 a (i : Int)) (rd_T43 b (i : Int)) <;> simp
theorem rSame_f {k : Nat} (g1 : Bool) (r1 : List SV) (g2 : Bool) (r2 : List SV) (hm : r1.length ≤ 9223372036854775807) (hk : r1.length < k) : tithebarnref07_Same.f k g1 r1 g2 r2 = some (sameB g1 r1 g2 r2) := by
  unfold tithebarnref07_Same.f tithebarnref02_Same.f sameB
  cases g1 == g2
  · rfl
  · rw [if_pos rfl]
    by_cases hl : r1.length = r2.length
    · rw [if_pos (by omega)]
      have := rSame_l0 r1 r2 hl hm r1.length k 0 (by omega) (by omega) hk
      rw [show ((0 : Nat) : Int) = 0 from rfl] at this
      rw [this]
      simp [hl]
    · rw [if_neg (by omega)]
      simp [hl]
end Go.Proofs.Ytpbeppmldckjlaa.G
