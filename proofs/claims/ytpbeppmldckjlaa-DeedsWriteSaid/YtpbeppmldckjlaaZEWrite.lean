import Derived.Test.YtpbeppmldckjlaaZE4
import Derived.Test.YtpbeppmldckjlaaZE2
import Derived.Test.YtpbeppmldckjlaaZG10
namespace Go.Proofs.Ytpbeppmldckjlaa.G
open Go.RowKit Go.Proofs.YtpbeppmldckjlaaQ Go.Proofs.YtpbeppmldckjlaaW.PrintWords Go.Proofs.YtpbeppmldckjlaaW.PrintLast Go.Proofs.YtpbeppmldckjlaaW.PrintMore
set_option linter.unusedVariables false
set_option linter.unusedSimpArgs false
theorem DeedsWrite_f {k : Nat} (l : List SC) (g : Bool) (r : List SV) (hk : l.length + 50 < k) (hl : l.length ≤ 4611686018427387904) (hv : ∀ v ∈ r, i64 v.f1) : tithebarnlaw07_DeedsWrite.f k l g r = some true := by
  unfold tithebarnlaw07_DeedsWrite.f
  rw [lives_f (by omega)]
  simp only [Option.bind_some]
  rw [if_pos trivial, Write_f (by omega) l g r hv, rWrite_f l hk hl g r hv]
  simp
theorem DeedsWrite.law (A : Option Addr) (c : Nat) (l : List SC) (cs : Array Value) (x : SD) (w : World) (hc : l.length ≤ c) (hr : k39.C w A l.length l) (hm : l.length ≤ maxLen) (ok : ∀ x ∈ l, True) (hb : l.length * 16 ≤ 140737488351232) (hk : k26.K w x cs.toList) (okd : OkD x) :
    Calls Try.prog 3 #[.slice A l.length c, .agg cs] w fun e w' => e = .returned (.bool true) ∧ Below w.heap.size w w' := by
  obtain ⟨A1, c1, e, h1, h2⟩ := k26_open hk
  obtain rfl : cs = #[.bool x.f0, .slice A1 x.f1.length c1] := by cases cs; simp_all
  exact tithebarnlaw07_DeedsWrite.calls (l.length + 51) A c l x.f0 A1 c1 x.f1 true w hr hc h2 h1 (DeedsWrite_f l x.f0 x.f1 (by omega) (by omega) okd.2)
end Go.Proofs.Ytpbeppmldckjlaa.G
