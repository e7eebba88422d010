import Derived.Test.YtagokgijffpdnaaZWTab
namespace Go.Proofs.YtagokgijffpdnaaW.PrintLast
def lof (n : Nat) (O : List Nat) (b : Nat → Bool) : List Bool := (List.range n).map fun j => if O.contains j then b j else true
section
variable {P : Program} {ops : Array Oper} {Q : Exit → Act → World → Prop} {md : Region.Mode} {T : Bool × List (List Nat × List Nat)} {B : List Nat} {O : List Nat} {b : Nat → Bool} {i j n : Nat}
theorem lof_length : (lof n O b).length = n := by simp [lof]
end
end Go.Proofs.YtagokgijffpdnaaW.PrintLast
