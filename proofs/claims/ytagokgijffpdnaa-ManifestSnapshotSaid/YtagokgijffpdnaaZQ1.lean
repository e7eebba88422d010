import Derived.Test.YtagokgijffpdnaaZWWords
import Derived.Laws.BitsAllLaws
namespace Go.Proofs.YtagokgijffpdnaaQ
open Go.Proofs.YtagokgijffpdnaaW.PrintWords
set_option linter.unusedVariables false
set_option linter.unusedSimpArgs false
def Bs (l : List Int) : Prop := ∀ x ∈ l, 0 ≤ x ∧ x < 256
theorem Bs.nil : Bs [] := fun _ h => by cases h
theorem Bs.cons {x : Int} {l : List Int} (h0 : 0 ≤ x) (h1 : x < 256) (h : Bs l) : Bs (x :: l) := fun y hy => by
  rcases List.mem_cons.1 hy with rfl | hy
  · exact ⟨h0, h1⟩
  · exact h y hy
theorem Bs.drop {l : List Int} (h : Bs l) (n : Nat) : Bs (l.drop n) := fun y hy => h y (List.mem_of_mem_drop hy)
theorem Bs.take {l : List Int} (h : Bs l) (n : Nat) : Bs (l.take n) := fun y hy => h y (List.mem_of_mem_take hy)
theorem Bs.bytesOf (s : ByteArray) : Bs (bytesOf s) := fun y hy => by
  unfold Go.Proofs.YtagokgijffpdnaaW.PrintWords.bytesOf at hy
  rw [List.mem_map] at hy
  obtain ⟨b, _, rfl⟩ := hy
  have := b.toNat_lt
  omega
def i64 (n : Int) : Prop := -9223372036854775808 ≤ n ∧ n < 9223372036854775808
end Go.Proofs.YtagokgijffpdnaaQ
