import Derived.Test.YtbcjbgmjiehamaaD2
/-! BitsUnpack's plain part. -/
namespace Go.Proofs.Ytbcjbgmjiehamaa.Pure
open Go.RowKit Go.Proofs.YtbcjbgmjiehamaaQ Go.Proofs.Ytbcjbgmjiehamaa.G Go.Proofs.YtbcjbgmjiehamaaW.PrintWords Go.Proofs.YtbcjbgmjiehamaaW.PrintLast
theorem BitsUnpack : tithebarnlaw03_BitsUnpack.Pure := Unpack_pure
end Go.Proofs.Ytbcjbgmjiehamaa.Pure
