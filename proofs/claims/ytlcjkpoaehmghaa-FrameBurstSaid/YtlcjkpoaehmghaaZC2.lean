import Derived.Test.YtlcjkpoaehmghaaZC1
namespace Go.Proofs.Ytlcjkpoaehmghaa.G
open Go.RowKit Go.Proofs.YtlcjkpoaehmghaaQ Go.Proofs.YtlcjkpoaehmghaaW.PrintWords Go.Proofs.YtlcjkpoaehmghaaW.PrintLast Go.Proofs.YtlcjkpoaehmghaaW.PrintMore
set_option linter.unusedVariables false
set_option linter.unusedSimpArgs false
def told (n : Nat) (acc : List ByteArray) : Option (List (List Int) × List Int) → List ByteArray × Int × Int
  | none => ([], 0, 8)
  | some (ts, q) => (acc ++ ts.map strOfNums, ((n - q.length : Nat) : Int), 0)
theorem told_cons (n : Nat) (acc : List ByteArray) (t : List Int) (o : Option (List (List Int) × List Int)) : told n acc (o.map fun p => (t :: p.1, p.2)) = told n (acc ++ [strOfNums t]) o := by
  cases o with
  | none => rfl
  | some p => simp [told]
theorem next_f {s : ByteArray} (hs : s.size ≤ 4611686018427387904) : frame_next.f s = some (match frI (bytesOf s) with | .part => (⟨#[]⟩, s, false, 0) | .bad => (⟨#[]⟩, s, false, 8) | .whole t r => (strOfNums t, strOfNums r, true, 0)) := by
  unfold frame_next.f; rw [if_pos hs]
  cases frI (bytesOf s) <;> rfl
theorem Scan_l0 (a0 : ByteArray) (ha : a0.size ≤ 67108864) : ∀ (n k : Nat) (acc : List ByteArray) (s : ByteArray), s.size ≤ n → n < k → s.size ≤ a0.size → acc.length + s.size < 8796093022208 →
    frame_Scan.l0 k a0 acc s = some (told a0.size acc (scan (bytesOf s))) := by
  intro n
  induction n with
  | zero =>
    intro k acc s hn hk hsa hl
    obtain ⟨k, rfl⟩ : ∃ m, k = m + 1 := ⟨k - 1, by omega⟩
    have h0 : bytesOf s = [] := (size_zero_iff s).1 (by omega)
    have hf : frI (bytesOf s) = .part := by rw [h0]; rfl
    simp only [frame_Scan.l0]
    rw [next_f (by omega), hf, scan_part hf]
    simp only [Option.bind_some]
    rw [if_pos trivial, if_neg (by simp), w64 (by omega) (by omega)]
    simp only [told, List.map_nil, List.append_nil, bytesOf_size]
    congr 3; omega
  | succ n ih =>
    intro k acc s hn hk hsa hl
    obtain ⟨k, rfl⟩ : ∃ m, k = m + 1 := ⟨k - 1, by omega⟩
    have hB := Bs.bytesOf s
    have hsz := bytesOf_size s
    simp only [frame_Scan.l0]
    rw [next_f (by omega)]
    simp only [Option.bind_some]
    cases hf : frI (bytesOf s) with
    | part =>
      simp only
      rw [if_pos trivial, if_neg (by simp), w64 (by omega) (by omega), scan_part hf]
      simp only [told, List.map_nil, List.append_nil, hsz]
      congr 3; omega
    | bad =>
      simp only
      rw [if_neg (by decide), scan_bad hf]; rfl
    | whole t r =>
      simp only
      have h1 := frI_whole hB hf
      obtain ⟨ht, hr⟩ := frI_rest_Bs hB hf
      rw [if_pos trivial, if_pos trivial, if_pos (by omega), ih k _ (strOfNums r) (by rw [size_strOfNums]; omega) (by omega) (by rw [size_strOfNums]; omega) (by rw [size_strOfNums]; simp; omega), bytesOf_strOfNums hr, scan_whole hB hf, told_cons]
theorem Scan_f {k : Nat} {s : ByteArray} (hs : s.size ≤ 67108864) (hk : s.size < k) : frame_Scan.f k s = some (told s.size [] (scan (bytesOf s))) := by
  unfold frame_Scan.f
  exact Scan_l0 s hs s.size k [] s (Nat.le_refl _) hk (Nat.le_refl _) (by simp; omega)
end Go.Proofs.Ytlcjkpoaehmghaa.G
