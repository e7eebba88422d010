import Derived.Test.YtpbeppmldckjlaaE4
import Derived.Test.YtpbeppmldckjlaaE3r
import Derived.Test.YtpbeppmldckjlaaG14
/-! EBack -/
namespace Go.Proofs.Ytpbeppmldckjlaa.G
open Go.RowKit Go.Proofs.YtpbeppmldckjlaaQ Go.Proofs.YtpbeppmldckjlaaW.PrintWords Go.Proofs.YtpbeppmldckjlaaW.PrintLast Go.Proofs.YtpbeppmldckjlaaW.PrintMore
set_option linter.unusedVariables false
set_option linter.unusedSimpArgs false
theorem DeedsBack_f {k : Nat} (l : List SC) (g : Bool) (r : List SV) (hk : r.length + 50 < k) (hm : r.length ≤ 9223372036854775807) (hv : ∀ v ∈ r, i64 v.f1) : tithebarnlaw07_DeedsBack.f k l g r = some true := by
  unfold tithebarnlaw07_DeedsBack.f
  rw [lives_f (by omega)]
  simp only [Option.bind_some]
  rw [if_pos trivial, Write_f (by omega) l g r hv]
  unfold writeE
  by_cases h : fitsE l g r = 0
  · rw [if_pos h]
    simp only [Option.bind_some]
    have hB := deedB_Bs h hv
    have hL := deedB_len h
    rw [if_pos trivial, readE (fits_len h).1 (by rw [size_strOfNums]; omega), bytesOf_strOfNums hB]
    have := readL_enc h hv []
    rw [List.append_nil, if_pos rfl] at this
    rw [this]
    simp only [Option.bind_some]
    rw [if_pos trivial, rSame_f _ _ _ _ hm (by omega), (sameB_iff _ _ _ _).mpr ⟨rfl, rfl⟩]
    rfl
  · rw [if_neg h]
    simp only [Option.bind_some]
    rw [if_neg h, (toList_eq_nil _).mpr rfl]
theorem DeedsBack.law (A : Option Addr) (c : Nat) (l : List SC) (cs : Array Value) (x : SD) (w : World) (hc : l.length ≤ c) (hr : k39.C w A l.length l) (hm : l.length ≤ maxLen) (ok : ∀ x ∈ l, True) (hb : l.length * 16 ≤ 140737488351232) (hk : k26.K w x cs.toList) (okd : OkD x) :
    Calls Try.prog 5 #[.slice A l.length c, .agg cs] w fun e w' => e = .returned (.bool true) ∧ Below w.heap.size w w' := by
  obtain ⟨A1, c1, e, h1, h2⟩ := k26_open hk
  obtain rfl : cs = #[.bool x.f0, .slice A1 x.f1.length c1] := by cases cs; simp_all
  exact tithebarnlaw07_DeedsBack.calls (x.f1.length + 51) A c l x.f0 A1 c1 x.f1 true w hr hc h2 h1 (DeedsBack_f l x.f0 x.f1 (by omega) (by have := okd.1; rw [maxLen_is] at this; exact this) okd.2)
end Go.Proofs.Ytpbeppmldckjlaa.G
