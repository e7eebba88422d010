import Derived.Test.YtagokgijffpdnaaZM1
namespace Go.Proofs.Ytagokgijffpdnaa.G
open Go.RowKit Go.Proofs.YtagokgijffpdnaaQ Go.Proofs.YtagokgijffpdnaaW.PrintWords Go.Proofs.YtagokgijffpdnaaW.PrintLast Go.Proofs.YtagokgijffpdnaaW.PrintMore
set_option linter.unusedVariables false
set_option linter.unusedSimpArgs false
theorem applyA : manifest_Apply.f [] 0 0 [] [(⟨1, 0, ⟨false, 0, ⟨#[]⟩⟩, ⟨false, 0, ⟨#[]⟩⟩⟩ : SP)] 0 2 = some ([(⟨1, 0, ⟨false, 0, ⟨#[]⟩⟩, ⟨false, 0, ⟨#[]⟩⟩⟩ : SP)], 0, 2, 0) := by kernel_rfl
theorem applyB : manifest_Apply.f [(⟨1, 0, ⟨false, 0, ⟨#[]⟩⟩, ⟨false, 0, ⟨#[]⟩⟩⟩ : SP)] 0 2 [1] [(⟨2, 0, ⟨false, 0, ⟨#[]⟩⟩, ⟨false, 0, ⟨#[]⟩⟩⟩ : SP)] 0 3 = some ([(⟨2, 0, ⟨false, 0, ⟨#[]⟩⟩, ⟨false, 0, ⟨#[]⟩⟩⟩ : SP)], 0, 3, 0) := by kernel_rfl
theorem lives_f {k : Nat} (hk : 10 ≤ k) : tithebarnlaw16_lives.f k = some true := by
  have h : tithebarnlaw16_lives.g 10 = some true := by
    unfold tithebarnlaw16_lives.g
    rw [applyA, Option.bind_some, applyB, Option.bind_some]
    kernel_rfl
  have h2 : tithebarnlaw16_lives.f 10 = some true := by unfold tithebarnlaw16_lives.f; rw [if_pos h]
  obtain ⟨d, rfl⟩ : ∃ d, k = 10 + d := ⟨k - 10, by omega⟩
  clear hk
  induction d with
  | zero => exact h2
  | succ d ih => exact tithebarnlaw16_lives.mono _ _ ih
end Go.Proofs.Ytagokgijffpdnaa.G
