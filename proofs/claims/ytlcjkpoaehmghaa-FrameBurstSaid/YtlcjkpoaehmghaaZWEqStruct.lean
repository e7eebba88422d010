import Derived.Test.YtlcjkpoaehmghaaZWWords
import Derived.Laws.StructEq
namespace Go.Proofs.YtlcjkpoaehmghaaW.PrintWords
open Go.RowKit
section
variable {P : Program} {d : Nat} {xs ys : Array Value} {f : Field} {fs : List Field} {a b : Value} {r s : Bool} {w : World}
theorem eqf_nil : (Op.eqFields d xs ys []).run P w = .ok true w := by simp [Op.eqFields]
end
end Go.Proofs.YtlcjkpoaehmghaaW.PrintWords
