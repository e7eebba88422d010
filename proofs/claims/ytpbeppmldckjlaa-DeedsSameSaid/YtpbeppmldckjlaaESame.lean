import Derived.Test.YtpbeppmldckjlaaE4
import Derived.Test.YtpbeppmldckjlaaE3r
import Derived.Test.YtpbeppmldckjlaaG16
/-! ESame -/
namespace Go.Proofs.Ytpbeppmldckjlaa.G
open Go.RowKit Go.Proofs.YtpbeppmldckjlaaQ Go.Proofs.YtpbeppmldckjlaaW.PrintWords Go.Proofs.YtpbeppmldckjlaaW.PrintLast Go.Proofs.YtpbeppmldckjlaaW.PrintMore
set_option linter.unusedVariables false
set_option linter.unusedSimpArgs false
theorem beq_of_iff {a b : Bool} (h : a = true ↔ b = true) : (a == b) = true := by cases a <;> cases b <;> simp_all
theorem DeedsSame_f {k : Nat} (l : List SC) (g1 : Bool) (r1 : List SV) (g2 : Bool) (r2 : List SV) (hk : r1.length + 50 < k) (hm : r1.length ≤ 9223372036854775807) (v1 : ∀ v ∈ r1, i64 v.f1) (v2 : ∀ v ∈ r2, i64 v.f1) : tithebarnlaw07_DeedsSame.f k l g1 r1 g2 r2 = some true := by
  obtain ⟨k, rfl⟩ : ∃ m, k = m + 1 := ⟨k - 1, by omega⟩
  unfold tithebarnlaw07_DeedsSame.f
  rw [lives_f (by omega)]
  simp only [Option.bind_some]
  rw [if_pos trivial, Same_f _ _ _ _ hm (by omega), rSame_f _ _ _ _ hm (by omega)]
  simp only [Option.bind_some, tithebarnlaw07_DeedsSame.j0]
  rw [if_neg (by simp), Write_f (by omega) l g1 r1 v1, Write_f (by omega) l g2 r2 v2, Same_f _ _ _ _ hm (by omega)]
  simp only [Option.bind_some]
  unfold writeE
  by_cases h1 : fitsE l g1 r1 = 0
  · rw [if_pos h1]
    by_cases h2 : fitsE l g2 r2 = 0
    · rw [if_pos h2]
      simp only
      rw [if_pos trivial, if_pos trivial]
      congr 1
      apply beq_of_iff
      rw [sameB_iff, beq_iff_eq, chars_eq]
      constructor
      · intro h
        have := congrArg bytesOf h
        rw [bytesOf_strOfNums (deedB_Bs h1 v1), bytesOf_strOfNums (deedB_Bs h2 v2)] at this
        exact deedB_inj h1 h2 v1 v2 this
      · rintro ⟨rfl, rfl⟩; rfl
    · rw [if_neg h2]
      simp only
      rw [if_pos trivial, if_neg h2]
  · rw [if_neg h1]
    simp only
    rw [if_neg h1]
theorem DeedsSame.law (A : Option Addr) (c : Nat) (l : List SC) (cs : Array Value) (x : SD) (cs' : Array Value) (y : SD) (w : World) (hc : l.length ≤ c) (hr : k39.C w A l.length l) (hm : l.length ≤ maxLen) (ok : ∀ x ∈ l, True) (hb : l.length * 16 ≤ 140737488351232) (hk : k26.K w x cs.toList) (okd : OkD x) (hk' : k26.K w y cs'.toList) (okd' : OkD y) :
    Calls Try.prog 7 #[.slice A l.length c, .agg cs, .agg cs'] w fun e w' => e = .returned (.bool true) ∧ Below w.heap.size w w' := by
  obtain ⟨A1, c1, e, h1, h2⟩ := k26_open hk
  obtain rfl : cs = #[.bool x.f0, .slice A1 x.f1.length c1] := by cases cs; simp_all
  obtain ⟨A2, c2, e', h3, h4⟩ := k26_open hk'
  obtain rfl : cs' = #[.bool y.f0, .slice A2 y.f1.length c2] := by cases cs'; simp_all
  exact tithebarnlaw07_DeedsSame.calls (x.f1.length + 51) A c l x.f0 A1 c1 x.f1 y.f0 A2 c2 y.f1 true w hr hc h2 h1 h4 h3 (DeedsSame_f l x.f0 x.f1 y.f0 y.f1 (by omega) (by have := okd.1; rw [maxLen_is] at this; exact this) okd.2 okd'.2)
end Go.Proofs.Ytpbeppmldckjlaa.G
