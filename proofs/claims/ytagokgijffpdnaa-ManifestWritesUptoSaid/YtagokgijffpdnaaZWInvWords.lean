import Derived.Test.YtagokgijffpdnaaZWInv
import Derived.Test.YtagokgijffpdnaaZWFootNe
namespace Go.Proofs.YtagokgijffpdnaaW.PrintWords
open Go.RowKit
end Go.Proofs.YtagokgijffpdnaaW.PrintWords
namespace Go.Proofs.YtagokgijffpdnaaW.PrintLast
section
variable {ops : Array Oper} {a : Act} {o og : Oper} {g : Nat} {t : Tmp} {u : Bool}
theorem eval_of {v : Value} (h : a.tmps[t]? = some v) : a.eval (.tmp t) = v := by simp [Act.eval, h]
end
end Go.Proofs.YtagokgijffpdnaaW.PrintLast
