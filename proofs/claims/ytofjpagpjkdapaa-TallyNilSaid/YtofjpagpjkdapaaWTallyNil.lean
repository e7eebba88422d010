import Derived.Test.YtofjpagpjkdapaaPureTallyOrder
/-! The walk of TallyNil. -/
namespace Go.Proofs.Ytofjpagpjkdapaa.G
open Go.RowKit Go.Proofs.YtofjpagpjkdapaaQ Go.Proofs.YtofjpagpjkdapaaW.PrintWords Go.Proofs.YtofjpagpjkdapaaW.PrintLast Go.Proofs.YtofjpagpjkdapaaW.PrintMore
set_option linter.unusedVariables false
set_option linter.unusedSimpArgs false
set_option maxHeartbeats 1000000 in
set_option maxRecDepth 100000 in
theorem TallyNil.walk (most : Int) (w : World) (hm : (Lit.int .i64 most).wf = true) :
    Calls Try.prog 8 #[.int .i64 most] w fun e w' => e = .returned (.bool true) ∧ Below w.heap.size w w' := by
  clear hm
  have hx : Go.bits .xor .i64 0 (wrap64 (-wrap64 (Go.bits .and .u64 0 1))) = 0 := by
    have h := zag 0 (by unfold u64; omega)
    have e : wrap64 (0 / 2) = 0 := by unfold wrap64; decide
    rw [e] at h
    exact h
  go_enter Try.func8, Try.ntmps8
  go_wp2_with (first | (go_at_call 10; refine (tithebarnlaw01_lives.calls 10 true _ (Pure.lives1 (Nat.le_refl _))).mono ?_; rintro e w1 ⟨rfl, hb⟩) | go_in)
  go_ret
  exact ⟨rfl, hb⟩
end Go.Proofs.Ytofjpagpjkdapaa.G
