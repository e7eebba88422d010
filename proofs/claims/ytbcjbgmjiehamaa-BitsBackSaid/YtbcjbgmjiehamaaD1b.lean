import Derived.Test.YtbcjbgmjiehamaaD1
/-! BitsBack, as the row wants it. -/
namespace Go.Proofs.Ytbcjbgmjiehamaa.G
open Go.RowKit Go.Proofs.YtbcjbgmjiehamaaQ Go.Proofs.YtbcjbgmjiehamaaW.PrintWords Go.Proofs.YtbcjbgmjiehamaaW.PrintLast Go.Proofs.YtbcjbgmjiehamaaW.PrintMore
set_option linter.unusedVariables false
theorem BitsBack.law (A0 : Option Addr) (c0 : Nat) (l : List Int) (more : Int) (A2 : Option Addr) (c2 : Nat) (t : List Bool) (w : World)
    (hc0 : l.length ≤ c0) (hr0 : (Kd.int .u64).C w A0 l.length l) (hm0 : l.length ≤ maxLen) (hok0 : ∀ x ∈ l, (Lit.int .u64 x).wf = true) (hb0 : l.length * 8 ≤ 140737488351232) (hmore : (Lit.int .i64 more).wf = true)
    (hc2 : t.length ≤ c2) (hr2 : Kd.bool.C w A2 t.length t) (hm2 : t.length ≤ maxLen) (hok2 : ∀ x ∈ t, True) (hb2 : t.length * 1 ≤ 140737488351232) :
    Calls Try.prog 8 #[.slice A0 l.length c0, .int .i64 more, .slice A2 t.length c2] w fun e w' => e = .returned (.bool true) ∧ Below w.heap.size w w' :=
  tithebarnlaw03_BitsBack.calls 70000 A0 c0 l more A2 c2 t true w hr0 hc0 hr2 hc2 (Back_pure more (wf_U64 hok0) (by omega) (by omega) (by omega))
end Go.Proofs.Ytbcjbgmjiehamaa.G
