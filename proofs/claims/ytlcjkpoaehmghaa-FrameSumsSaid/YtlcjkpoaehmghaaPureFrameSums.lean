import Derived.Test.YtlcjkpoaehmghaaC1
/-! FrameSums' plain part. -/
namespace Go.Proofs.Ytlcjkpoaehmghaa.Pure
open Go.RowKit Go.Proofs.YtlcjkpoaehmghaaQ Go.Proofs.Ytlcjkpoaehmghaa.G Go.Proofs.YtlcjkpoaehmghaaW.PrintWords Go.Proofs.YtlcjkpoaehmghaaW.PrintLast
theorem FrameSums : tithebarnlaw08_FrameSums.Pure := by
  intro a0 h
  refine ⟨5, ?_⟩
  unfold tithebarnlaw08_FrameSums.f tithebarnlaw08_lives.f
  simp only [Option.bind_some]
  rw [if_pos trivial, sum_f (by omega), rsum_f (by omega)]
  simp only [Option.bind_some]
  rw [if_pos trivial, Write_f (Nat.le_refl _) (by omega), rWrite_f (by omega)]
  simp
end Go.Proofs.Ytlcjkpoaehmghaa.Pure
