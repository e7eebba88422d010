import Derived.Test.YtlcjkpoaehmghaaC2
import Derived.Test.YtlcjkpoaehmghaaQR
/-! FrameBack, in closed form. -/
namespace Go.Proofs.Ytlcjkpoaehmghaa.G
open Go.RowKit Go.Proofs.YtlcjkpoaehmghaaQ Go.Proofs.YtlcjkpoaehmghaaW.PrintWords Go.Proofs.YtlcjkpoaehmghaaW.PrintLast Go.Proofs.YtlcjkpoaehmghaaW.PrintMore
set_option linter.unusedVariables false
set_option linter.unusedSimpArgs false
theorem rdOf_get {l : List ByteArray} {i : Nat} (h : i < l.length) : rdOf ByteArray.empty l (i : Int) = l[i] := by
  unfold rdOf
  rw [Int.toNat_natCast, List.getD_eq_getElem?_getD, List.getElem?_eq_getElem h]; rfl
theorem long_l0 (l : List ByteArray) (hl : l.length ≤ 67108864) (h : ∀ x ∈ l, x.size ≤ 1048576) : ∀ (d k i : Nat), i + d = l.length → d < k → tithebarnlaw08_long.l0 k l i = some false := by
  intro d
  induction d with
  | zero =>
    intro k i hi hk
    obtain ⟨k, rfl⟩ : ∃ m, k = m + 1 := ⟨k - 1, by omega⟩
    simp only [tithebarnlaw08_long.l0]
    rw [if_neg (by omega)]
  | succ d ih =>
    intro k i hi hk
    obtain ⟨k, rfl⟩ : ∃ m, k = m + 1 := ⟨k - 1, by omega⟩
    simp only [tithebarnlaw08_long.l0]
    have e : wrap64 ((i : Int) + 1) = ((i + 1 : Nat) : Int) := by rw [w64 (by omega) (by omega)]; omega
    have hx := h _ (List.getElem_mem (show i < l.length by omega))
    rw [if_pos (by omega), if_pos (by omega), rdOf_get (by omega), if_neg (by omega), e]
    exact ih k (i + 1) (by omega) (by omega)
theorem long_f {k : Nat} {l : List ByteArray} (hl : l.length ≤ 67108864) (h : ∀ x ∈ l, x.size ≤ 1048576) (hk : l.length < k) : tithebarnlaw08_long.f k l = some false := long_l0 l hl h l.length k 0 (by omega) hk
/-- The frames of texts. -/
def frms (l : List ByteArray) : List Int := (l.map bytesOf).flatMap frm
theorem frms_snoc (l : List ByteArray) (s : ByteArray) : frms (l ++ [s]) = frms l ++ frm (bytesOf s) := by simp [frms]
theorem frms_len (l : List ByteArray) : (frms l).length = (l.map fun s => s.size + 8).sum := by
  induction l with
  | nil => rfl
  | cons s l ih =>
    have : frms (s :: l) = frm (bytesOf s) ++ frms l := rfl
    rw [this, List.length_append, frm_len, bytesOf_size, ih, List.map_cons, List.sum_cons]
theorem frms_Bs (l : List ByteArray) : Bs (frms l) := by
  intro y hy
  obtain ⟨x, hx, hy⟩ := List.mem_flatMap.1 hy
  obtain ⟨s, _, rfl⟩ := List.mem_map.1 hx
  exact frm_Bs (Bs.bytesOf s) y hy
theorem frms_take (l : List ByteArray) (i : Nat) : (frms (l.take i)).length ≤ (frms l).length := by
  have : frms l = frms (l.take i) ++ frms (l.drop i) := by unfold frms; rw [← List.flatMap_append, ← List.map_append, List.take_append_drop]
  rw [this, List.length_append]; omega
theorem scan_all (l : List ByteArray) (h : ∀ x ∈ l, x.size ≤ 1048576) : scan (frms l) = some (l.map bytesOf, []) := by
  have := scan_frms (l.map bytesOf) (fun t ht => by
    obtain ⟨s, hs, rfl⟩ := List.mem_map.1 ht
    exact ⟨Bs.bytesOf s, by rw [bytesOf_size]; exact h s hs⟩) (q := []) Bs.nil
  rw [List.append_nil, scan_part frI_nil] at this
  simpa [frms] using this
theorem map_back (l : List ByteArray) : (l.map bytesOf).map strOfNums = l := by
  rw [List.map_map]
  have : (strOfNums ∘ bytesOf) = id := by funext s; exact strOfNums_bytesOf s
  rw [this, List.map_id]
theorem take_succ' {l : List ByteArray} {i : Nat} (h : i < l.length) : l.take (i + 1) = l.take i ++ [l[i]] := by
  rw [List.take_add_one, List.getElem?_eq_getElem h]; rfl
theorem Back_l0 (l : List ByteArray) (h : ∀ x ∈ l, x.size ≤ 1048576) (hz : (frms l).length ≤ 67108864) (hl : l.length ≤ 67108864) : ∀ (d k i : Nat) (s : ByteArray), i + d = l.length → bytesOf s = frms (l.take i) → d + 67108870 < k →
    tithebarnlaw08_FrameBack.l0 k l s i = some true := by
  intro d
  induction d with
  | zero =>
    intro k i s hi hs hk
    obtain ⟨k, rfl⟩ : ∃ m, k = m + 1 := ⟨k - 1, by omega⟩
    rw [List.take_of_length_le (by omega)] at hs
    have hsz : s.size ≤ 67108864 := by rw [size_eq, hs]; exact hz
    simp only [tithebarnlaw08_FrameBack.l0]
    rw [if_neg (by omega), Scan_f hsz (by omega), All_f hsz (by omega), hs, scan_all l h]
    simp only [Option.bind_some, told, List.nil_append, map_back, List.length_nil, Nat.sub_zero, if_true]
    have ea : allT (some (l.map bytesOf, ([] : List Int))) = (l, 0) := by
      show ((l.map bytesOf).map strOfNums, (0 : Int)) = (l, 0)
      rw [map_back]
    rw [ea, Same_f hl (by omega), if_pos rfl, Option.bind_some, if_pos rfl]
    rfl
  | succ d ih =>
    intro k i s hi hs hk
    obtain ⟨k, rfl⟩ : ∃ m, k = m + 1 := ⟨k - 1, by omega⟩
    have hx := h _ (List.getElem_mem (show i < l.length by omega))
    have e : wrap64 ((i : Int) + 1) = ((i + 1 : Nat) : Int) := by rw [w64 (by omega) (by omega)]; omega
    have h1 := frms_take l i
    have h2 : s.size ≤ 67108864 := by rw [size_eq, hs]; omega
    simp only [tithebarnlaw08_FrameBack.l0]
    rw [if_pos (by omega), if_pos (by omega), rdOf_get (by omega), Write_f (by omega) (by omega)]
    simp only [Option.bind_some]
    rw [if_pos (by rw [size_strOfNums, frm_len, bytesOf_size]; omega), e]
    exact ih k (i + 1) _ (by omega) (by rw [bytesOf_append, bytesOf_strOfNums (frm_Bs (Bs.bytesOf _)), hs, take_succ' (by omega), frms_snoc]) (by omega)
theorem Back_pure {l : List ByteArray} (h : ∀ x ∈ l, x.size ≤ 1048576) (hz : (frms l).length ≤ 67108864) (hl : l.length ≤ 67108864) : tithebarnlaw08_FrameBack.f 200000000 l = some true := by
  unfold tithebarnlaw08_FrameBack.f tithebarnlaw08_lives.f
  simp only [Option.bind_some]
  rw [if_pos trivial, long_f hl h (by omega)]
  simp only [Option.bind_some]
  obtain ⟨k, hk⟩ : ∃ k, 200000000 = k + 1 := ⟨199999999, rfl⟩
  rw [hk]
  simp only [tithebarnlaw08_FrameBack.j0]
  rw [if_neg (by simp)]
  exact Back_l0 l h hz hl l.length k 0 _ (by omega) rfl (by omega)
def BS (s : ByteArray) : Nat := s.size + 1
theorem BS_len (l : List ByteArray) : (l.map fun s => s.size + 8).sum ≤ 8 * (l.map BS).sum ∧ l.length ≤ (l.map BS).sum := by
  induction l with
  | nil => simp
  | cons s l ih => simp only [List.map_cons, List.sum_cons, List.length_cons, BS] at *; omega
theorem BS_mem {l : List ByteArray} {x : ByteArray} (h : x ∈ l) : x.size + 1 ≤ (l.map BS).sum := by
  induction l with
  | nil => simp at h
  | cons y l ih =>
    simp only [List.map_cons, List.sum_cons]
    rcases List.mem_cons.1 h with rfl | h
    · simp only [BS]; omega
    · have := ih h; omega
theorem FrameBack.law (A : Option Addr) (c0 : Nat) (l : List ByteArray) (w : World) (hc : l.length ≤ c0) (hr : Kd.string.C w A l.length l) (hm : l.length ≤ maxLen) (hok : ∀ x ∈ l, x.size ≤ maxLen) (hb : ((l.map fun s => s.size + 1).sum + 1) ≤ 1048576) :
    Calls Try.prog 7 #[.slice A l.length c0] w fun e w' => e = .returned (.bool true) ∧ Below w.heap.size w w' := by
  have hb' : (l.map BS).sum + 1 ≤ 1048576 := hb
  have h1 := BS_len l
  have h2 := frms_len l
  exact tithebarnlaw08_FrameBack.calls 200000000 A c0 l true w hr hc (Back_pure (fun x hx => by have := BS_mem hx; omega) (by omega) (by omega))
end Go.Proofs.Ytlcjkpoaehmghaa.G
