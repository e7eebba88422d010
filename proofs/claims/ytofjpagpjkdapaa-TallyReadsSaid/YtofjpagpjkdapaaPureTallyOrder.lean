/- Of two numbers without a sign the lesser one's bytes aren't longer and, of as many bytes, are ahead, for all numbers of 64 bits. -/
import Derived.Test.YtofjpagpjkdapaaR1
import Derived.Test.YtofjpagpjkdapaaQ3
import Derived.OpenShut
namespace Go.Proofs.Ytofjpagpjkdapaa.Pure
open Go.RowKit Go.Proofs.Ytofjpagpjkdapaa.G Go.Proofs.YtofjpagpjkdapaaQ Go.Proofs.YtofjpagpjkdapaaW.PrintWords Go.Proofs.YtofjpagpjkdapaaW.PrintLast
theorem lives1 {k : Nat} (hk : 10 ≤ k) : tithebarnlaw01_lives.f k = some true := by
  unfold tithebarnlaw01_lives.f tally_From.f
  rw [Uint_f hk (by simp) (by unfold u64; omega)]
  have e : encU 64 = [64, 64] := by decide
  simp only [Option.bind_some, e, List.nil_append]
  rw [if_pos (by rw [ByteArray.toList_eq]; decide)]
  unfold tally_Cursor_Left.f
  simp only [Option.bind_some]
  have hb : bytesOf (⟨#[64, 64]⟩ : ByteArray) = encU 64 := by decide
  have hd := decU_enc (n := 64) (by unfold u64; omega) []
  rw [List.append_nil] at hd
  rw [if_pos (by rfl), cUint_f, hb]
  unfold aUint
  rw [if_pos rfl, hd]
  simp only [Option.bind_some, List.drop_length]
  rw [if_pos trivial, cDone_f]
  rfl
theorem TallyOrder : tithebarnlaw01_TallyOrder.Pure := by
  intro x y hx hy
  have hx' : u64 x := by have := bounds_u64 hx; unfold u64; omega
  have hy' : u64 y := by have := bounds_u64 hy; unfold u64; omega
  refine ⟨10, ?_⟩
  unfold tithebarnlaw01_TallyOrder.f
  rw [lives1 (Nat.le_refl _), Uint_f (Nat.le_refl _) (by simp) hx', Uint_f (Nat.le_refl _) (by simp) hy']
  simp only [Option.bind_some, List.nil_append, if_true]
  have hc : ((strOfNums (encU x)).toList == (strOfNums (encU y)).toList) = (x == y) := by
    rw [Bool.eq_iff_iff, beq_iff_eq, beq_iff_eq, chars_eq]
    constructor
    · intro h
      have := congrArg bytesOf h
      rw [bytesOf_strOfNums (encU_Bs hx'), bytesOf_strOfNums (encU_Bs hy')] at this
      exact encU_inj hx' hy' this
    · rintro rfl; rfl
  rw [hc, if_pos (by simp)]
  by_cases c : x ≥ y
  · rw [if_pos c]
  · rw [if_neg c, size_strOfNums, size_strOfNums]
    rcases encU_less hx' hy' (by omega) with h | ⟨h, h2⟩
    · rw [if_pos (by omega)]
    · rw [if_neg (by omega), if_pos (by omega), bytesLess_I (encU_Bs hx') (encU_Bs hy'), h2]
end Go.Proofs.Ytofjpagpjkdapaa.Pure
