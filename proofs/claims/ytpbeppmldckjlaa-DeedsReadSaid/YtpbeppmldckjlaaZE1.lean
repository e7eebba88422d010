import Derived.Test.YtpbeppmldckjlaaZG6
import Derived.Test.YtpbeppmldckjlaaZG7
namespace Go.Proofs.Ytpbeppmldckjlaa.G
open Go.RowKit Go.Proofs.YtpbeppmldckjlaaQ Go.Proofs.YtpbeppmldckjlaaW.PrintWords Go.Proofs.YtpbeppmldckjlaaW.PrintLast Go.Proofs.YtpbeppmldckjlaaW.PrintMore
set_option linter.unusedVariables false
set_option linter.unusedSimpArgs false
abbrev SC := S39
abbrev SV := S43
theorem rdC {l : List SC} {i : Nat} (h : i < l.length) : l.drop i = rd_T39 l (i : Int) :: l.drop (i + 1) := by
  rw [List.drop_eq_getElem_cons h]
  unfold rd_T39
  rw [Int.toNat_natCast, List.getD_eq_getElem?_getD, List.getElem?_eq_getElem h]; rfl
theorem rdV {l : List SV} {i : Nat} (h : i < l.length) : l.drop i = rd_T43 l (i : Int) :: l.drop (i + 1) := by
  rw [List.drop_eq_getElem_cons h]
  unfold rd_T43
  rw [Int.toNat_natCast, List.getD_eq_getElem?_getD, List.getElem?_eq_getElem h]; rfl
theorem memV {l : List SV} {i : Nat} (h : i < l.length) : rd_T43 l (i : Int) ∈ l := by
  unfold rd_T43
  rw [Int.toNat_natCast, List.getD_eq_getElem?_getD, List.getElem?_eq_getElem h]; exact List.getElem_mem h
theorem rdC0 (x : SC) (l : List SC) : rd_T39 (x :: l) 0 = x := rfl
theorem rdV0 (x : SV) (l : List SV) : rd_T43 (x :: l) 0 = x := rfl
def isB (c : SC) (v : SV) : Bool := if v.f0 = true then c.f1 && (v.f1 == 0 && v.f2.toList == []) else if c.f0 = 1 then v.f2.toList == [] else v.f1 == 0 && decide (v.f2.size ≤ 64)
theorem is_f (c : SC) (v : SV) : kinds_is.f c.f0 c.f1 v.f0 v.f1 v.f2 = some (isB c v) := by
  unfold kinds_is.f isB
  cases h0 : v.f0 <;> cases h1 : c.f1 <;> by_cases h2 : c.f0 = 1 <;> by_cases h3 : v.f1 = 0 <;> simp [h2, h3] <;> omega
def fitE : List SC → List SV → Int
  | c :: l, v :: r => if isB c v = true then fitE l r else 6
  | _, _ => 0
theorem Fits_l0 (row : List SV) (cols : List SC) (hl : cols.length = row.length) (hm : cols.length ≤ 6) (d : Nat) : ∀ (k i : Nat), cols.length - i = d → i ≤ cols.length → d < k → kinds_Fits.l0 k row cols (cols.length : Int) (i : Int) = some (fitE (cols.drop i) (row.drop i)) := by
  induction d with
  | zero =>
    intro k i hd hi hk
    obtain ⟨k, rfl⟩ : ∃ m, k = m + 1 := ⟨k - 1, by omega⟩
    simp only [kinds_Fits.l0]
    rw [if_neg (by omega), List.drop_eq_nil_of_le (by omega)]
    simp [fitE]
  | succ d ih =>
    intro k i hd hi hk
    obtain ⟨k, rfl⟩ : ∃ m, k = m + 1 := ⟨k - 1, by omega⟩
    simp only [kinds_Fits.l0]
    rw [if_pos (by omega), if_pos (by omega), if_pos (by omega), if_pos (by omega), is_f, rdC (show i < cols.length by omega), rdV (show i < row.length by omega)]
    simp only [Option.bind_some, fitE]
    rw [w64' ((i : Int) + 1) (by omega) (by omega)]
    have := ih k (i + 1) (by omega) (by omega) (by omega)
    rw [show ((i + 1 : Nat) : Int) = (i : Int) + 1 by omega] at this
    rw [this]
    split <;> rfl
def rightB (l : List SC) : Bool := decide (0 < l.length) && decide (l.length ≤ 6) && !(rd_T39 l 0).f1 && kinds_Right.fine l
theorem right_f (l : List SC) : kinds_Right.f l = some (rightB l) := rfl
theorem right_bd {l : List SC} (h : rightB l = true) : 0 < l.length ∧ l.length ≤ 6 := by
  unfold rightB at h
  simp only [Bool.and_eq_true, decide_eq_true_eq] at h
  exact ⟨h.1.1.1, h.1.1.2⟩
def fitsE (l : List SC) (gone : Bool) (r : List SV) : Int :=
  if rightB l = true then (if gone = true then (if r.length = 1 then fitE (l.take 1) r else 7) else (if l.length = r.length then fitE l r else 7)) else 4
theorem fitE_one (l : List SC) (r : List SV) (hl : 0 < l.length) (hr : r.length = 1) : fitE (l.take 1) r = if isB (rd_T39 l 0) (rd_T43 r 0) = true then 0 else 6 := by
  obtain ⟨c, l, rfl⟩ : ∃ c l', l = c :: l' := by cases l with | nil => simp at hl | cons c l => exact ⟨c, l, rfl⟩
  obtain ⟨v, rfl⟩ : ∃ v, r = [v] := List.length_eq_one_iff.mp hr
  rw [rdC0, rdV0]
  simp [fitE]
theorem fits_f {k : Nat} (hk : 10 ≤ k) (l : List SC) (gone : Bool) (r : List SV) : deeds_fits.f k l gone r = some (fitsE l gone r) := by
  unfold deeds_fits.f fitsE
  rw [right_f]
  simp only [Option.bind_some]
  by_cases hR : rightB l = true
  · obtain ⟨h0, h6⟩ := right_bd hR
    rw [if_pos hR, if_pos hR]
    cases gone
    · rw [if_neg (by decide), if_neg (by decide)]
      unfold kinds_Fits.f
      rw [right_f]
      simp only [Option.bind_some]
      rw [if_pos hR]
      by_cases hl : l.length = r.length
      · rw [if_pos (by omega), if_pos hl]
        have := Fits_l0 r l hl h6 (l.length - 0) k 0 rfl (by omega) (by omega)
        simp only [List.drop_zero] at this
        rw [show ((0 : Nat) : Int) = 0 from rfl] at this
        rw [this]; rfl
      · rw [if_neg (by omega), if_neg hl]; rfl
    · rw [if_pos rfl, if_pos rfl]
      by_cases h1 : r.length = 1
      · rw [if_pos (by omega), if_pos h1, if_pos (by omega), fitE_one l r h0 h1]
        unfold kinds_Key.f
        rw [right_f]
        simp only [Option.bind_some]
        rw [if_pos hR, if_pos (by omega), is_f]
        simp only [Option.bind_some]
        split <;> rfl
      · rw [if_neg (by omega), if_neg h1]
  · rw [if_neg hR, if_neg hR]
def putB (c : SC) (v : SV) : List Int := (if c.f1 = true then [if v.f0 = true then 1 else 0] else []) ++ (if v.f0 = true then [] else if c.f0 = 1 then encI v.f1 else encT (bytesOf v.f2))
def rowB : List SC → List SV → List Int
  | c :: l, v :: r => putB c v ++ rowB l r
  | _, _ => []
theorem putB_len {c : SC} {v : SV} (h : isB c v = true) : (putB c v).length ≤ 100 := by
  unfold putB
  have a1 := encU_len (fold v.f1)
  have a2 := encU_len ((bytesOf v.f2).length : Int)
  unfold isB at h
  rw [List.length_append]
  have b1 : (if c.f1 = true then [if v.f0 = true then (1 : Int) else 0] else []).length ≤ 1 := by split <;> simp
  have b2 : (if v.f0 = true then [] else if c.f0 = 1 then encI v.f1 else encT (bytesOf v.f2)).length ≤ 80 := by
    split
    · simp
    · rename_i h0
      rw [if_neg h0] at h
      split
      · unfold encI; omega
      · rename_i h1
        rw [if_neg h1] at h
        simp only [Bool.and_eq_true, decide_eq_true_eq] at h
        unfold encT
        rw [List.length_append, bytesOf_size]
        rw [bytesOf_size] at a2
        omega
  omega
theorem flag_f {l : List Int} (hl : l.length < 140737488355328) (b : Bool) : deeds_flag.f l b = some (l ++ [if b = true then 1 else 0]) := by
  unfold deeds_flag.f
  cases b <;> simp [hl]
theorem put_f {k : Nat} (hk : 11 ≤ k) {l : List Int} {c : SC} {v : SV} (hl : l.length ≤ 100000) (hi : isB c v = true) (hv : i64 v.f1) : deeds_put.f k l c.f0 c.f1 v.f0 v.f1 v.f2 = some (l ++ putB c v) := by
  obtain ⟨k, rfl⟩ : ∃ m, k = m + 1 := ⟨k - 1, by omega⟩
  have key : ∀ m : List Int, m.length ≤ 100001 → deeds_put.j0 (k + 1) m c.f0 c.f1 v.f0 v.f1 v.f2 = some (m ++ (if v.f0 = true then [] else if c.f0 = 1 then encI v.f1 else encT (bytesOf v.f2))) := by
    intro m hm
    simp only [deeds_put.j0]
    by_cases h0 : v.f0 = true
    · rw [if_pos h0, if_pos h0]; simp
    · rw [if_neg h0, if_neg h0]
      by_cases h1 : c.f0 = 1
      · rw [if_pos h1, if_pos h1, Int_f (by omega) (by omega) hv]; rfl
      · rw [if_neg h1, if_neg h1]
        unfold isB at hi
        rw [if_neg h0, if_neg h1] at hi
        simp only [Bool.and_eq_true, decide_eq_true_eq] at hi
        rw [Text_f (by omega) (by omega)]; rfl
  unfold deeds_put.f putB
  by_cases h1 : c.f1 = true
  · rw [if_pos h1, if_pos h1, flag_f (by omega)]
    simp only [Option.bind_some]
    rw [key _ (by simp; omega), List.append_assoc]
  · rw [if_neg h1, if_neg h1, key _ (by omega)]; rfl
theorem fitE_cons {c : SC} {v : SV} {l : List SC} {r : List SV} (h : fitE (c :: l) (v :: r) = 0) : isB c v = true ∧ fitE l r = 0 := by
  unfold fitE at h
  split at h
  · rename_i h1; exact ⟨h1, h⟩
  · exact absurd h (by decide)
theorem Write_l0 (row : List SV) (cols : List SC) (hl : row.length ≤ cols.length) (hm : cols.length ≤ 6) (hv : ∀ v ∈ row, i64 v.f1) (d : Nat) : ∀ (k i : Nat) (acc : List Int), row.length - i = d → i ≤ row.length → d + 10 < k → acc.length ≤ 1 + 100 * i → fitE (cols.drop i) (row.drop i) = 0 →
    deeds_Write.l0 k cols acc row (row.length : Int) (i : Int) = some (strOfNums (acc ++ rowB (cols.drop i) (row.drop i)), 0) := by
  induction d with
  | zero =>
    intro k i acc hd hi hk ha hf
    obtain ⟨k, rfl⟩ : ∃ m, k = m + 1 := ⟨k - 1, by omega⟩
    simp only [deeds_Write.l0]
    rw [if_neg (by omega), List.drop_eq_nil_of_le (show row.length ≤ i by omega)]
    cases cols.drop i <;> simp [rowB]
  | succ d ih =>
    intro k i acc hd hi hk ha hf
    obtain ⟨k, rfl⟩ : ∃ m, k = m + 1 := ⟨k - 1, by omega⟩
    simp only [deeds_Write.l0]
    rw [rdC (show i < cols.length by omega), rdV (show i < row.length by omega)] at hf ⊢
    obtain ⟨hi1, hf1⟩ := fitE_cons hf
    rw [if_pos (by omega), if_pos (by omega), if_pos (by omega), if_pos (by omega), put_f (by omega) (by omega) hi1 (hv _ (memV (by omega)))]
    simp only [Option.bind_some]
    rw [w64' ((i : Int) + 1) (by omega) (by omega)]
    have := ih k (i + 1) (acc ++ putB (rd_T39 cols (i : Int)) (rd_T43 row (i : Int))) (by omega) (by omega) (by omega) (by have := putB_len hi1; rw [List.length_append]; omega) hf1
    rw [show ((i + 1 : Nat) : Int) = (i : Int) + 1 by omega] at this
    rw [this, rowB, List.append_assoc]
def deedB (l : List SC) (gone : Bool) (r : List SV) : List Int := (if gone = true then 1 else 0) :: rowB l r
def writeE (l : List SC) (gone : Bool) (r : List SV) : ByteArray × Int := if fitsE l gone r = 0 then (strOfNums (deedB l gone r), 0) else (⟨#[]⟩, fitsE l gone r)
theorem fits_len {l : List SC} {gone : Bool} {r : List SV} (h : fitsE l gone r = 0) : rightB l = true ∧ r.length ≤ l.length ∧ fitE l r = 0 ∧ (gone = false → l.length = r.length) ∧ (gone = true → r.length = 1) := by
  unfold fitsE at h
  split at h
  · rename_i hR
    obtain ⟨h0, h6⟩ := right_bd hR
    cases gone
    · rw [if_neg (by decide)] at h
      split at h
      · rename_i hl; exact ⟨hR, by omega, h, fun _ => hl, fun h => absurd h (by decide)⟩
      · exact absurd h (by decide)
    · rw [if_pos rfl] at h
      split at h
      · rename_i h1
        refine ⟨hR, by omega, ?_, fun h => absurd h (by decide), fun _ => h1⟩
        obtain ⟨c, l, rfl⟩ : ∃ c l', l = c :: l' := by cases l with | nil => simp at h0 | cons c l => exact ⟨c, l, rfl⟩
        obtain ⟨v, rfl⟩ : ∃ v, r = [v] := List.length_eq_one_iff.mp h1
        obtain ⟨h2, -⟩ := fitE_cons (l := []) (r := []) h
        unfold fitE
        rw [if_pos h2]
        cases l <;> rfl
      · exact absurd h (by decide)
  · exact absurd h (by decide)
theorem Write_f {k : Nat} (hk : 20 ≤ k) (l : List SC) (gone : Bool) (r : List SV) (hv : ∀ v ∈ r, i64 v.f1) : deeds_Write.f k l gone r = some (writeE l gone r) := by
  unfold deeds_Write.f writeE
  rw [fits_f (by omega)]
  simp only [Option.bind_some]
  by_cases h : fitsE l gone r = 0
  · rw [if_pos h, if_pos h, flag_f (by simp)]
    obtain ⟨hR, hl, hf, -, -⟩ := fits_len h
    have := Write_l0 r l hl (right_bd hR).2 hv (r.length - 0) k 0 ([] ++ [if gone = true then 1 else 0]) rfl (by omega) (by have := (right_bd hR).2; omega) (by simp) hf
    rw [show ((0 : Nat) : Int) = 0 from rfl] at this
    simp only [Option.bind_some]
    rw [this]; rfl
  · rw [if_neg h, if_neg h]
end Go.Proofs.Ytpbeppmldckjlaa.G
