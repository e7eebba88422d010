import Derived.Test.YtlcjkpoaehmghaaZG
import Derived.Test.YtlcjkpoaehmghaaZQ2
import Derived.Test.YtlcjkpoaehmghaaZQF2
namespace Go.Proofs.Ytlcjkpoaehmghaa.G
open Go.RowKit Go.Proofs.YtlcjkpoaehmghaaQ Go.Proofs.YtlcjkpoaehmghaaW.PrintWords Go.Proofs.YtlcjkpoaehmghaaW.PrintLast Go.Proofs.YtlcjkpoaehmghaaW.PrintMore
set_option linter.unusedVariables false
set_option linter.unusedSimpArgs false
theorem put_f {k : Nat} (hk : 5 ≤ k) {l : List Int} (hl : l.length + 4 ≤ 140737488355328) (n : Int) : frame_put.f k l n = some (l ++ le4 n) := by
  obtain ⟨k, rfl⟩ : ∃ m, k = m + 5 := ⟨k - 5, by omega⟩
  unfold frame_put.f
  simp only [frame_put.l0]
  have e1 : wrap64 (0 + 1) = 1 := by unfold wrap64; decide
  have e2 : wrap64 (1 + 1) = 2 := by unfold wrap64; decide
  have e3 : wrap64 (2 + 1) = 3 := by unfold wrap64; decide
  have e4 : wrap64 (3 + 1) = 4 := by unfold wrap64; decide
  simp only [e1, e2, e3, e4, List.length_append, List.length_cons, List.length_nil]
  rw [if_pos (by omega), if_pos (by omega), if_pos (by omega), if_pos (by omega), if_pos (by omega), if_pos (by omega), if_pos (by omega), if_pos (by omega), if_neg (by omega)]
  have d1 : n / 256 / 256 = n / 65536 := by omega
  have d2 : n / 65536 / 256 = n / 16777216 := by omega
  rw [d1, d2]
  simp [le4]
theorem get_f {k : Nat} (hk : 5 ≤ k) {s : ByteArray} (hs : 4 ≤ s.size) : frame_get.f k s = some (num4 (bytesOf s)) := frame_next.get_f hk hs
theorem sum_f {s : ByteArray} (hs : s.size ≤ 4611686018427387904) : frame_Sum.f s = some ((crc (bytesOf s) : Nat) : Int) := by unfold frame_Sum.f; rw [if_pos hs]
theorem Write_f {k : Nat} (hk : 5 ≤ k) {s : ByteArray} (hs : s.size + 8 < 140737488355328) : frame_Write.f k s = some (strOfNums (frm (bytesOf s))) := by
  unfold frame_Write.f
  rw [put_f hk (by simp)]
  simp only [Option.bind_some, List.nil_append]
  rw [if_pos (by rw [le4_len]; omega), sum_f (by omega)]
  simp only [Option.bind_some]
  rw [put_f hk (by simp [le4_len, bytesOf_size]; omega)]
  simp only [Option.bind_some, frm, bytesOf_size]
end Go.Proofs.Ytlcjkpoaehmghaa.G
