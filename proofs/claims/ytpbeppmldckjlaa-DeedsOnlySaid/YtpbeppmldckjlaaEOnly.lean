import Derived.Test.YtpbeppmldckjlaaE5
import Derived.Test.YtpbeppmldckjlaaG15
/-! EOnly -/
namespace Go.Proofs.Ytpbeppmldckjlaa.G
open Go.RowKit Go.Proofs.YtpbeppmldckjlaaQ Go.Proofs.YtpbeppmldckjlaaW.PrintWords Go.Proofs.YtpbeppmldckjlaaW.PrintLast Go.Proofs.YtpbeppmldckjlaaW.PrintMore
set_option linter.unusedVariables false
set_option linter.unusedSimpArgs false
theorem read_f (l : List SC) {s : ByteArray} (hs : s.size ≤ 4611686018427387904) : deeds_Read.f l s = some (if rightB l = true then readL l (bytesOf s) else (false, [], 4)) := by
  unfold deeds_Read.f
  rw [right_f]
  cases rightB l
  · rfl
  · rw [if_pos rfl, if_pos hs]; rfl
theorem bytesOf_zero : bytesOf (⟨#[0]⟩ : ByteArray) = [0] := rfl
theorem DeedsOnly_f {k : Nat} (l : List SC) (s : ByteArray) (hk : 50 < k) (hs : s.size ≤ 140737488351232) : tithebarnlaw07_DeedsOnly.f k l s = some true := by
  unfold tithebarnlaw07_DeedsOnly.f
  rw [lives_f (by omega)]
  simp only [Option.bind_some]
  rw [if_pos trivial, read_f l (by omega)]
  simp only [Option.bind_some]
  by_cases hR : rightB l = true
  · rw [if_pos hR]
    rcases hq : readL l (bytesOf s) with ⟨g, r, e⟩
    simp only
    by_cases he : e = 0
    · subst he
      obtain ⟨h1, h2, h3⟩ := readL_dec hR (Bs.bytesOf s) hq
      have hsz : (bytesOf s).length = s.size := bytesOf_size s
      have hpos : 0 < s.size := by rw [← hsz, h3]; exact List.length_pos_iff.mpr (deedB_ne l g r)
      rw [if_pos rfl, Write_f (by omega) l g r h2]
      unfold writeE
      rw [if_pos h1]
      simp only [Option.bind_some]
      rw [if_pos (by omega), read_f l (by rw [ByteArray.size_append]; show s.size + 1 ≤ _; omega)]
      simp only [Option.bind_some]
      rw [w64' ((s.size : Int) - 1) (by omega) (by omega), if_pos (by omega), if_pos (by omega)]
      have hx : ((s.size : Int) - 1).toNat = s.size - 1 := by omega
      rw [hx, read_f l (by rw [ByteArray.size_extract]; omega)]
      simp only [Option.bind_some]
      have hz := readL_enc h1 h2 [0]
      rw [if_neg (by simp)] at hz
      rw [if_pos trivial, if_pos (by rw [← h3, strOfNums_bytesOf]), if_pos hR, if_pos hR, bytesOf_append, bytesOf_zero, h3, hz]
      show (if (5 : Int) = 5 then some ((readL l (bytesOf (s.extract 0 (s.size - 1)))).2.2 != 0) else some false) = some true
      rw [if_pos rfl]
      congr 1
      rcases hp : readL l (bytesOf (s.extract 0 (s.size - 1))) with ⟨g', r', e'⟩
      simp only
      rw [bne_iff_ne]
      rintro rfl
      obtain ⟨p1, p2, p3⟩ := readL_dec hR (Bs.bytesOf _) hp
      rw [bytesOf_extract, List.drop_zero] at p3
      have hl1 : (bytesOf s).length - 1 < (bytesOf s).length := by omega
      have hsplit : bytesOf s = deedB l g' r' ++ (bytesOf s).drop (s.size - 1) := by rw [← p3, List.take_append_drop]
      have := readL_enc p1 p2 ((bytesOf s).drop (s.size - 1))
      rw [← hsplit, if_neg (fun hnil => by have := congrArg List.length hnil; rw [List.length_drop] at this; simp only [List.length_nil] at this; omega), hq] at this
      simp at this
    · rw [if_neg he]
      obtain ⟨rfl, rfl⟩ := readL_bad hq he
      rfl
  · rw [if_neg hR]
    rfl
theorem DeedsOnly.law (A : Option Addr) (c : Nat) (l : List SC) (s : ByteArray) (w : World) (hc : l.length ≤ c) (hr : k39.C w A l.length l) (hm : l.length ≤ maxLen) (ok : ∀ x ∈ l, True) (hb : l.length * 16 ≤ 140737488351232) (hs : s.size ≤ 140737488351232) :
    Calls Try.prog 6 #[.slice A l.length c, .string s] w fun e w' => e = .returned (.bool true) ∧ Below w.heap.size w w' :=
  tithebarnlaw07_DeedsOnly.calls 51 A c l s true w hr hc (DeedsOnly_f l s (by omega) hs)
end Go.Proofs.Ytpbeppmldckjlaa.G
