import Derived.Test.YtbcjbgmjiehamaaD1
/-! BitsLeast's plain part. -/
namespace Go.Proofs.Ytbcjbgmjiehamaa.Pure
open Go.RowKit Go.Proofs.YtbcjbgmjiehamaaQ Go.Proofs.Ytbcjbgmjiehamaa.G Go.Proofs.YtbcjbgmjiehamaaW.PrintWords Go.Proofs.YtbcjbgmjiehamaaW.PrintLast
theorem BitsLeast : tithebarnlaw03_BitsLeast.Pure := Least_pure
end Go.Proofs.Ytbcjbgmjiehamaa.Pure
