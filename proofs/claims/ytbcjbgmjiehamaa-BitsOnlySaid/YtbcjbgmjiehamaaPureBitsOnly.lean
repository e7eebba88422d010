import Derived.Test.YtbcjbgmjiehamaaD1
/-! BitsOnly's plain part. -/
namespace Go.Proofs.Ytbcjbgmjiehamaa.Pure
open Go.RowKit Go.Proofs.YtbcjbgmjiehamaaQ Go.Proofs.Ytbcjbgmjiehamaa.G Go.Proofs.YtbcjbgmjiehamaaW.PrintWords Go.Proofs.YtbcjbgmjiehamaaW.PrintLast
theorem BitsOnly : tithebarnlaw03_BitsOnly.Pure := Only_pure
end Go.Proofs.Ytbcjbgmjiehamaa.Pure
