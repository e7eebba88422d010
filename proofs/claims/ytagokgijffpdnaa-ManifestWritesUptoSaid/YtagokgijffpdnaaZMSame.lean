import Derived.Test.YtagokgijffpdnaaZM1
import Derived.Test.YtagokgijffpdnaaZG7
namespace Go.Proofs.Ytagokgijffpdnaa.G
open Go.RowKit Go.Proofs.YtagokgijffpdnaaQ Go.Proofs.YtagokgijffpdnaaW.PrintWords Go.Proofs.YtagokgijffpdnaaW.PrintLast Go.Proofs.YtagokgijffpdnaaW.PrintMore
set_option linter.unusedVariables false
set_option linter.unusedSimpArgs false
theorem Same_l0 (s : List SP) (f n : Int) (hs : s.length ≤ 9223372036854775807) : ∀ (m i k : Nat), i + m = s.length → m < k → tithebarnref16_Same.l0 k (i : Int) s f n s f n = some true := by
  intro m
  induction m with
  | zero =>
    intro i k hi hk
    obtain ⟨k, rfl⟩ : ∃ m, k = m + 1 := ⟨k - 1, by omega⟩
    simp only [tithebarnref16_Same.l0]
    rw [if_neg (by omega)]
  | succ m ih =>
    intro i k hi hk
    obtain ⟨k, rfl⟩ : ∃ m, k = m + 1 := ⟨k - 1, by omega⟩
    simp only [tithebarnref16_Same.l0]
    have e : wrap64 ((i : Int) + 1) = ((i + 1 : Nat) : Int) := by rw [w64 (by omega) (by omega)]; omega
    rw [if_pos (by omega), if_pos (by omega), if_pos (by omega), if_neg (by simp), e]
    exact ih (i + 1) k (by omega) (by omega)
theorem Same_self {s : List SP} {f n : Int} {k : Nat} (hs : s.length ≤ 9223372036854775807) (hk : s.length + 1 < k) : tithebarnref16_Same.f k s f n s f n = some true := by
  obtain ⟨k, rfl⟩ : ∃ m, k = m + 1 := ⟨k - 1, by omega⟩
  unfold tithebarnref16_Same.f
  rw [if_pos rfl, if_pos rfl]
  simp only [tithebarnref16_Same.j0]
  rw [if_neg (by simp)]
  have := Same_l0 s f n hs s.length 0 k (by omega) (by omega)
  rw [show ((0 : Nat) : Int) = 0 from rfl] at this
  exact this
end Go.Proofs.Ytagokgijffpdnaa.G
