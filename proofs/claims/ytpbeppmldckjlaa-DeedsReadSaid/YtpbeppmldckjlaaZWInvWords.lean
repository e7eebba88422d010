import Derived.Test.YtpbeppmldckjlaaZWInv
import Derived.Test.YtpbeppmldckjlaaZWFootNe
namespace Go.Proofs.YtpbeppmldckjlaaW.PrintWords
open Go.RowKit
end Go.Proofs.YtpbeppmldckjlaaW.PrintWords
namespace Go.Proofs.YtpbeppmldckjlaaW.PrintLast
section
variable {ops : Array Oper} {a : Act} {o og : Oper} {g : Nat} {t : Tmp} {u : Bool}
theorem eval_of {v : Value} (h : a.tmps[t]? = some v) : a.eval (.tmp t) = v := by simp [Act.eval, h]
end
end Go.Proofs.YtpbeppmldckjlaaW.PrintLast
