import Derived.Test.YtlcjkpoaehmghaaC1
/-! Layer 8's scans, in closed form. -/
namespace Go.Proofs.Ytlcjkpoaehmghaa.G
open Go.RowKit Go.Proofs.YtlcjkpoaehmghaaQ Go.Proofs.YtlcjkpoaehmghaaW.PrintWords Go.Proofs.YtlcjkpoaehmghaaW.PrintLast Go.Proofs.YtlcjkpoaehmghaaW.PrintMore
set_option linter.unusedVariables false
set_option linter.unusedSimpArgs false
/-- What a scan of text of so many bytes answers, some texts ahead. -/
def told (n : Nat) (acc : List ByteArray) : Option (List (List Int) × List Int) → List ByteArray × Int × Int
  | none => ([], 0, 8)
  | some (ts, q) => (acc ++ ts.map strOfNums, ((n - q.length : Nat) : Int), 0)
theorem told_cons (n : Nat) (acc : List ByteArray) (t : List Int) (o : Option (List (List Int) × List Int)) : told n acc (o.map fun p => (t :: p.1, p.2)) = told n (acc ++ [strOfNums t]) o := by
  cases o with
  | none => rfl
  | some p => simp [told]
theorem next_f {s : ByteArray} (hs : s.size ≤ 4611686018427387904) : frame_next.f s = some (match frI (bytesOf s) with | .part => (⟨#[]⟩, s, false, 0) | .bad => (⟨#[]⟩, s, false, 8) | .whole t r => (strOfNums t, strOfNums r, true, 0)) := by
  unfold frame_next.f; rw [if_pos hs]
  cases frI (bytesOf s) <;> rfl
theorem Scan_l0 (a0 : ByteArray) (ha : a0.size ≤ 67108864) : ∀ (n k : Nat) (acc : List ByteArray) (s : ByteArray), s.size ≤ n → n < k → s.size ≤ a0.size → acc.length + s.size < 8796093022208 →
    frame_Scan.l0 k a0 acc s = some (told a0.size acc (scan (bytesOf s))) := by
  intro n
  induction n with
  | zero =>
    intro k acc s hn hk hsa hl
    obtain ⟨k, rfl⟩ : ∃ m, k = m + 1 := ⟨k - 1, by omega⟩
    have h0 : bytesOf s = [] := (size_zero_iff s).1 (by omega)
    have hf : frI (bytesOf s) = .part := by rw [h0]; rfl
    simp only [frame_Scan.l0]
    rw [next_f (by omega), hf, scan_part hf]
    simp only [Option.bind_some]
    rw [if_pos trivial, if_neg (by simp), w64 (by omega) (by omega)]
    simp only [told, List.map_nil, List.append_nil, bytesOf_size]
    congr 3; omega
  | succ n ih =>
    intro k acc s hn hk hsa hl
    obtain ⟨k, rfl⟩ : ∃ m, k = m + 1 := ⟨k - 1, by omega⟩
    have hB := Bs.bytesOf s
    have hsz := bytesOf_size s
    simp only [frame_Scan.l0]
    rw [next_f (by omega)]
    simp only [Option.bind_some]
    cases hf : frI (bytesOf s) with
    | part =>
      simp only
      rw [if_pos trivial, if_neg (by simp), w64 (by omega) (by omega), scan_part hf]
      simp only [told, List.map_nil, List.append_nil, hsz]
      congr 3; omega
    | bad =>
      simp only
      rw [if_neg (by decide), scan_bad hf]; rfl
    | whole t r =>
      simp only
      have h1 := frI_whole hB hf
      obtain ⟨ht, hr⟩ := frI_rest_Bs hB hf
      rw [if_pos trivial, if_pos trivial, if_pos (by omega), ih k _ (strOfNums r) (by rw [size_strOfNums]; omega) (by omega) (by rw [size_strOfNums]; omega) (by rw [size_strOfNums]; simp; omega), bytesOf_strOfNums hr, scan_whole hB hf, told_cons]
theorem Scan_f {k : Nat} {s : ByteArray} (hs : s.size ≤ 67108864) (hk : s.size < k) : frame_Scan.f k s = some (told s.size [] (scan (bytesOf s))) := by
  unfold frame_Scan.f
  exact Scan_l0 s hs s.size k [] s (Nat.le_refl _) hk (Nat.le_refl _) (by simp; omega)
def allT : Option (List (List Int) × List Int) → List ByteArray × Int
  | none => ([], 8)
  | some (ts, q) => if q = [] then (ts.map strOfNums, 0) else ([], 2)
theorem All_f {k : Nat} {s : ByteArray} (hs : s.size ≤ 67108864) (hk : s.size < k) : frame_All.f k s = some (allT (scan (bytesOf s))) := by
  unfold frame_All.f
  rw [Scan_f hs hk, Option.bind_some]
  cases hsc : scan (bytesOf s) with
  | none => rfl
  | some p =>
    obtain ⟨ts, q⟩ := p
    have hq := scan_Bs _ _ (Nat.le_refl _) (Bs.bytesOf s) ts q hsc
    have hsz := bytesOf_size s
    rw [if_pos (show (told s.size [] (some (ts, q))).2.2 = 0 from rfl)]
    by_cases c : q = []
    · subst c
      rw [if_neg (show ¬ (told s.size [] (some (ts, []))).2.1 < (s.size : Int) from (show ¬ ((s.size - 0 : Nat) : Int) < (s.size : Int) by omega))]
      rfl
    · have : 0 < q.length := List.length_pos_iff.2 c
      rw [if_pos (show (told s.size [] (some (ts, q))).2.1 < (s.size : Int) from (show ((s.size - q.length : Nat) : Int) < (s.size : Int) by omega))]
      show _ = some (if q = [] then (ts.map strOfNums, (0 : Int)) else ([], 2))
      rw [if_neg c]
theorem Same_l0 (l : List ByteArray) (hl : l.length ≤ 67108864) : ∀ (d k i : Nat), i + d = l.length → d < k → tithebarnref05_Same.l0 k l l i = some true := by
  intro d
  induction d with
  | zero =>
    intro k i hi hk
    obtain ⟨k, rfl⟩ : ∃ m, k = m + 1 := ⟨k - 1, by omega⟩
    simp only [tithebarnref05_Same.l0]
    rw [if_neg (by omega)]
  | succ d ih =>
    intro k i hi hk
    obtain ⟨k, rfl⟩ : ∃ m, k = m + 1 := ⟨k - 1, by omega⟩
    simp only [tithebarnref05_Same.l0]
    have e : wrap64 ((i : Int) + 1) = ((i + 1 : Nat) : Int) := by rw [w64 (by omega) (by omega)]; omega
    rw [if_pos (by omega), if_pos (by omega), if_pos (by omega), e]
    simp only [if_true]
    exact ih k (i + 1) (by omega) (by omega)
theorem Same_f {k : Nat} {l : List ByteArray} (hl : l.length ≤ 67108864) (hk : l.length < k) : tithebarnref05_Same.f k l l = some true := by
  unfold tithebarnref05_Same.f
  rw [if_pos rfl]
  exact Same_l0 l hl l.length k 0 (by omega) hk
end Go.Proofs.Ytlcjkpoaehmghaa.G
