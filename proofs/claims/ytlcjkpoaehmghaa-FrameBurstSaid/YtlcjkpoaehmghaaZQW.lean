import Derived.Test.YtlcjkpoaehmghaaZQ1
import Derived.Test.YtlcjkpoaehmghaaZQB
import Derived.Laws.BitsAllLaws
namespace Go.Proofs.YtlcjkpoaehmghaaQ
open Go.Proofs.YtlcjkpoaehmghaaW.PrintWords
set_option linter.unusedVariables false
set_option linter.unusedSimpArgs false
def ints (l : List Nat) : List Int := l.map fun x => ((x : Nat) : Int)
theorem ints_len (l : List Nat) : (ints l).length = l.length := by simp [ints]
theorem ints_app (l m : List Nat) : ints (l ++ m) = ints l ++ ints m := by simp [ints]
theorem ints_Bs {l : List Nat} (h : ∀ x ∈ l, x < 256) : Bs (ints l) := by
  intro y hy
  obtain ⟨x, hx, rfl⟩ := List.mem_map.1 hy
  have := h x hx
  omega
end Go.Proofs.YtlcjkpoaehmghaaQ
