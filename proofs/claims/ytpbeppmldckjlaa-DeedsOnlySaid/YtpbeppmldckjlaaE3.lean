import Derived.Test.YtpbeppmldckjlaaE1
import Derived.Test.YtpbeppmldckjlaaG8
/-! Deeds, plain: there and back; which are the same. -/
namespace Go.Proofs.Ytpbeppmldckjlaa.G
open Go.RowKit Go.Proofs.YtpbeppmldckjlaaQ Go.Proofs.YtpbeppmldckjlaaW.PrintWords Go.Proofs.YtpbeppmldckjlaaW.PrintLast Go.Proofs.YtpbeppmldckjlaaW.PrintMore
set_option linter.unusedVariables false
set_option linter.unusedSimpArgs false
theorem toList_eq_nil (s : ByteArray) : (s.toList == []) = true ↔ s = ⟨#[]⟩ := by
  rw [beq_iff_eq]
  constructor
  · intro h; exact eq_nil_of_bytes ((toList_nil s).mp h)
  · rintro rfl; exact (toList_nil _).mpr rfl
theorem aUint_enc {n : Int} (h : u64 n) (r : List Int) : aUint (encU n ++ r) 0 = (n, r, 0) := by
  unfold aUint
  rw [if_pos rfl, decU_enc h]
  simp
theorem aInt_enc {n : Int} (h : i64 n) (r : List Int) : (aInt (encI n ++ r) 0).1 = n ∧ (aUint (encI n ++ r) 0).2.1 = r ∧ (aUint (encI n ++ r) 0).2.2 = 0 := by
  unfold aInt encI
  rw [aUint_enc (fold_u64 h)]
  exact ⟨unfold_fold n, rfl, rfl⟩
theorem aText_enc {l : List Int} (h : l.length ≤ 64) (r : List Int) : aText 64 (encT l ++ r) 0 = (l, r, 0) := by
  have hu : u64 (l.length : Int) := by unfold u64; omega
  unfold aText encT
  rw [if_pos rfl, List.append_assoc, decU_enc hu]
  simp only
  rw [if_pos trivial, if_neg (by omega), List.drop_left, if_neg (by rw [List.length_append]; omega), Int.toNat_natCast, List.take_left, List.drop_left]
/-- What was written is read. -/
theorem valL_enc {c : SC} {v : SV} (hi : isB c v = true) (hv : i64 v.f1) (rest : List Int) : valL c.f0 c.f1 (putB c v ++ rest) 0 false = (v, rest, 0, false) := by
  obtain ⟨k, null⟩ := c
  obtain ⟨v0, v1, v2⟩ := v
  unfold isB at hi
  unfold putB valL
  simp only at hi hv ⊢
  have key : v0 = false → restL k ((if v0 = true then [] else if k = 1 then encI v1 else encT (bytesOf v2)) ++ rest) 0 false = (⟨v0, v1, v2⟩, rest, 0) := by
    rintro rfl
    simp only [Bool.false_eq_true, if_false] at hi ⊢
    unfold restL
    simp only [Bool.false_eq_true, if_false]
    by_cases hk : k = 1
    · rw [if_pos hk] at hi
      rw [if_pos hk, if_pos hk]
      obtain rfl := (toList_eq_nil v2).mp hi
      obtain ⟨a, b, c⟩ := aInt_enc hv rest
      rw [a, b, c]
    · rw [if_neg hk] at hi
      simp only [Bool.and_eq_true, beq_iff_eq, decide_eq_true_eq] at hi
      rw [if_neg hk, if_neg hk, aText_enc (by rw [bytesOf_size]; exact hi.2)]
      simp only
      rw [strOfNums_bytesOf, hi.1]
  cases null
  · simp only [Bool.false_eq_true, if_false, List.nil_append]
    cases v0
    · rw [key rfl]
    · simp at hi
  · simp only [if_true]
    cases v0
    · have hk := key rfl
      simp only [Bool.false_eq_true, if_false] at hk ⊢
      have hb : aByte ([0] ++ (if k = 1 then encI v1 else encT (bytesOf v2)) ++ rest) 0 = (0, (if k = 1 then encI v1 else encT (bytesOf v2)) ++ rest, 0) := rfl
      rw [hb]
      simp only
      rw [if_neg (by decide)]
      have : (false || decide ((1 : Int) < 0)) = false := by decide
      rw [this, hk]
    · simp only [if_true, Bool.true_and, Bool.and_eq_true, beq_iff_eq] at hi
      have hb : aByte (([1] : List Int) ++ [] ++ rest) 0 = (1, rest, 0) := rfl
      simp only [if_true]
      rw [hb]
      simp only
      rw [if_pos trivial]
      obtain rfl := (toList_eq_nil v2).mp (beq_iff_eq.mpr hi.2)
      rw [hi.1]
theorem rowsL_enc : ∀ (l : List SC) (r : List SV) (rest : List Int) (acc : List SV), l.length = r.length → fitE l r = 0 → (∀ v ∈ r, i64 v.f1) → rowsL l (rowB l r ++ rest) 0 false acc = (acc ++ r, rest, 0, false)
  | [], [], rest, acc, _, _, _ => by simp [rowsL, rowB]
  | [], _ :: _, _, _, h, _, _ => by simp at h
  | _ :: _, [], _, _, h, _, _ => by simp at h
  | c :: l, v :: r, rest, acc, h, hf, hv => by
    obtain ⟨h1, h2⟩ := fitE_cons hf
    rw [rowB, List.append_assoc, rows_on rfl (valL_enc h1 (hv v List.mem_cons_self) _), rowsL_enc l r rest (acc ++ [v]) (by simpa using h) h2 (fun x hx => hv x (List.mem_cons_of_mem _ hx))]
    simp
theorem aByte_cons (b : Int) (t : List Int) : aByte (b :: t) 0 = (b, t, 0) := rfl
theorem take_all {l : List SC} : l.take l.length = l := List.take_length
/-- The columns that a deed's values stand in. -/
def colsOf (l : List SC) (gone : Bool) : List SC := l.take (if gone = true then 1 else l.length)
theorem fits_cols {l : List SC} {gone : Bool} {r : List SV} (h : fitsE l gone r = 0) : rightB l = true ∧ (colsOf l gone).length = r.length ∧ fitE (colsOf l gone) r = 0 := by
  unfold fitsE at h
  split at h
  · rename_i hR
    obtain ⟨h0, h6⟩ := right_bd hR
    unfold colsOf
    cases gone
    · simp only [Bool.false_eq_true, if_false] at h ⊢
      split at h
      · rename_i hl; rw [take_all]; exact ⟨hR, hl, h⟩
      · exact absurd h (by decide)
    · simp only [if_true] at h ⊢
      split at h
      · rename_i h1; exact ⟨hR, by rw [List.length_take]; omega, h⟩
      · exact absurd h (by decide)
  · exact absurd h (by decide)
theorem cols_fits {l : List SC} {gone : Bool} {r : List SV} (hR : rightB l = true) (hl : (colsOf l gone).length = r.length) (hf : fitE (colsOf l gone) r = 0) : fitsE l gone r = 0 := by
  obtain ⟨h0, h6⟩ := right_bd hR
  unfold fitsE
  rw [if_pos hR]
  unfold colsOf at hl hf
  cases gone
  · simp only [Bool.false_eq_true, if_false] at hl hf ⊢
    rw [take_all] at hl hf
    rw [if_pos hl]; exact hf
  · simp only [if_true] at hl hf ⊢
    rw [List.length_take] at hl
    rw [if_pos (by omega)]; exact hf
theorem rowB_one (l : List SC) (r : List SV) (h0 : 0 < l.length) (hr : r.length = 1) : rowB (l.take 1) r = rowB l r := by
  obtain ⟨c, l, rfl⟩ : ∃ c l', l = c :: l' := by cases l with | nil => simp at h0 | cons c l => exact ⟨c, l, rfl⟩
  obtain ⟨v, rfl⟩ : ∃ v, r = [v] := List.length_eq_one_iff.mp hr
  cases l <;> simp [rowB]
theorem rowB_cols {l : List SC} {gone : Bool} {r : List SV} (hR : rightB l = true) (hl : (colsOf l gone).length = r.length) : rowB (colsOf l gone) r = rowB l r := by
  obtain ⟨h0, h6⟩ := right_bd hR
  unfold colsOf at hl ⊢
  cases gone
  · simp only [Bool.false_eq_true, if_false]; rw [take_all]
  · simp only [if_true] at hl ⊢
    rw [List.length_take] at hl
    exact rowB_one l r h0 (by omega)
theorem readL_cols (l : List SC) (gone : Bool) (t : List Int) : readL l ((if gone = true then 1 else 0) :: t) = endL gone (rowsL (colsOf l gone) t 0 false []) := by
  unfold readL colsOf
  rw [aByte_cons]
  cases gone <;> rfl
/-- A deed that fits, then more bytes. -/
theorem readL_enc {l : List SC} {gone : Bool} {r : List SV} (h : fitsE l gone r = 0) (hv : ∀ v ∈ r, i64 v.f1) (rest : List Int) : readL l (deedB l gone r ++ rest) = if rest = [] then (gone, r, 0) else (false, [], 5) := by
  obtain ⟨hR, hl, hf⟩ := fits_cols h
  unfold deedB
  rw [List.cons_append, readL_cols, ← rowB_cols hR hl, rowsL_enc _ _ _ _ hl hf hv]
  unfold endL aDone
  by_cases hr : rest = [] <;> simp [hr]
theorem deedB_inj {l : List SC} {g1 g2 : Bool} {r1 r2 : List SV} (h1 : fitsE l g1 r1 = 0) (h2 : fitsE l g2 r2 = 0) (v1 : ∀ v ∈ r1, i64 v.f1) (v2 : ∀ v ∈ r2, i64 v.f1) (h : deedB l g1 r1 = deedB l g2 r2) : g1 = g2 ∧ r1 = r2 := by
  have a := readL_enc h1 v1 []
  have b := readL_enc h2 v2 []
  rw [List.append_nil, if_pos rfl] at a b
  rw [h, b] at a
  simp only [Prod.mk.injEq] at a
  exact ⟨a.1.symm, a.2.1.symm⟩
theorem putB_Bs {c : SC} {v : SV} (hi : isB c v = true) (hv : i64 v.f1) : Bs (putB c v) := by
  unfold putB
  refine Bs.app ?_ ?_
  · split
    · split
      · exact Bs.cons (by decide) (by decide) Bs.nil
      · exact Bs.cons (by decide) (by decide) Bs.nil
    · exact Bs.nil
  · split
    · exact Bs.nil
    · rename_i h0
      unfold isB at hi
      rw [if_neg h0] at hi
      split
      · exact encI_Bs hv
      · rename_i h1
        rw [if_neg h1] at hi
        simp only [Bool.and_eq_true, decide_eq_true_eq] at hi
        unfold encT
        exact Bs.app (encU_Bs (by unfold u64; rw [bytesOf_size]; omega)) (Bs.bytesOf _)
theorem rowB_Bs : ∀ (l : List SC) (r : List SV), fitE l r = 0 → (∀ v ∈ r, i64 v.f1) → Bs (rowB l r)
  | [], _, _, _ => by unfold rowB; exact Bs.nil
  | _ :: _, [], _, _ => by unfold rowB; exact Bs.nil
  | c :: l, v :: r, hf, hv => by
    obtain ⟨h1, h2⟩ := fitE_cons hf
    rw [rowB]
    exact Bs.app (putB_Bs h1 (hv v List.mem_cons_self)) (rowB_Bs l r h2 (fun x hx => hv x (List.mem_cons_of_mem _ hx)))
theorem deedB_Bs {l : List SC} {gone : Bool} {r : List SV} (h : fitsE l gone r = 0) (hv : ∀ v ∈ r, i64 v.f1) : Bs (deedB l gone r) := by
  unfold deedB
  have hf := (fits_len h).2.2.1
  split
  · exact Bs.cons (by decide) (by decide) (rowB_Bs l r hf hv)
  · exact Bs.cons (by decide) (by decide) (rowB_Bs l r hf hv)
theorem rowB_len : ∀ (l : List SC) (r : List SV), fitE l r = 0 → (rowB l r).length ≤ 100 * l.length
  | [], _, _ => by unfold rowB; simp
  | _ :: _, [], _ => by unfold rowB; simp
  | c :: l, v :: r, hf => by
    obtain ⟨h1, h2⟩ := fitE_cons hf
    have := putB_len h1
    have := rowB_len l r h2
    rw [rowB, List.length_append, List.length_cons]
    omega
theorem deedB_len {l : List SC} {gone : Bool} {r : List SV} (h : fitsE l gone r = 0) : (deedB l gone r).length ≤ 1000 := by
  have h6 := (right_bd (fits_len h).1).2
  have := rowB_len l r (fits_len h).2.2.1
  unfold deedB
  rw [List.length_cons]
  omega
/-! the same -/
def eqV (a b : SV) : Bool := (a.f0 == b.f0) && ((a.f1 == b.f1) && (a.f2.toList == b.f2.toList))
theorem eqV_iff (a b : SV) : eqV a b = true ↔ a = b := by
  obtain ⟨a0, a1, a2⟩ := a
  obtain ⟨b0, b1, b2⟩ := b
  unfold eqV
  simp only [Bool.and_eq_true, beq_iff_eq, chars_eq]
  constructor
  · rintro ⟨rfl, rfl, rfl⟩; rfl
  · intro h
    injection h with h1 h2 h3
    exact ⟨h1, h2, h3⟩
theorem eqV_not (a b : SV) : (!(a.f0 == b.f0) || (!(a.f1 == b.f1) || !(a.f2.toList == b.f2.toList))) = !eqV a b := by
  unfold eqV
  cases (a.f0 == b.f0) <;> cases (a.f1 == b.f1) <;> cases (a.f2.toList == b.f2.toList) <;> rfl
def eqR : List SV → List SV → Bool
  | a :: l, b :: r => eqV a b && eqR l r
  | _, _ => true
theorem eqR_iff : ∀ (l r : List SV), l.length = r.length → (eqR l r = true ↔ l = r)
  | [], [], _ => by simp [eqR]
  | [], _ :: _, h => by simp at h
  | _ :: _, [], h => by simp at h
  | a :: l, b :: r, h => by
    have ih := eqR_iff l r (by simpa using h)
    simp only [eqR, Bool.and_eq_true, ih, eqV_iff, List.cons.injEq]
def sameB (g1 : Bool) (r1 : List SV) (g2 : Bool) (r2 : List SV) : Bool := (g1 == g2) && (decide (r1.length = r2.length) && eqR r1 r2)
theorem sameB_iff (g1 : Bool) (r1 : List SV) (g2 : Bool) (r2 : List SV) : sameB g1 r1 g2 r2 = true ↔ g1 = g2 ∧ r1 = r2 := by
  unfold sameB
  simp only [Bool.and_eq_true, beq_iff_eq, decide_eq_true_eq]
  constructor
  · rintro ⟨h1, h2, h3⟩; exact ⟨h1, (eqR_iff _ _ h2).mp h3⟩
  · rintro ⟨rfl, rfl⟩; exact ⟨rfl, rfl, (eqR_iff _ _ rfl).mpr rfl⟩
theorem Value_l0 (a b : List SV) (hl : a.length = b.length) (hm : a.length ≤ 9223372036854775807) (d : Nat) : ∀ (k i : Nat), a.length - i = d → i ≤ a.length → d < k → api_Value.l0 k a b (a.length : Int) (i : Int) = some (eqR (a.drop i) (b.drop i)) := by
  induction d with
  | zero =>
    intro k i hd hi hk
    obtain ⟨k, rfl⟩ : ∃ m, k = m + 1 := ⟨k - 1, by omega⟩
    simp only [api_Value.l0]
    rw [if_neg (by omega), List.drop_eq_nil_of_le (by omega)]
    simp [eqR]
  | succ d ih =>
    intro k i hd hi hk
    obtain ⟨k, rfl⟩ : ∃ m, k = m + 1 := ⟨k - 1, by omega⟩
    have next := ih k (i + 1) (by omega) (by omega) (by omega)
    rw [show ((i + 1 : Nat) : Int) = (i : Int) + 1 by omega] at next
    simp only [api_Value.l0]
    rw [if_pos (by omega), if_pos (by omega), if_pos (by omega), if_pos (by omega), w64' ((i : Int) + 1) (by omega) (by omega), next, eqV_not, rdV (show i < a.length by omega), rdV (show i < b.length by omega), eqR]
    cases eqV (rd_T43 a (i : Int)) (rd_T43 b (i : Int)) <;> simp
theorem Same_f {k : Nat} (g1 : Bool) (r1 : List SV) (g2 : Bool) (r2 : List SV) (hm : r1.length ≤ 9223372036854775807) (hk : r1.length < k) : deeds_Same.f k g1 r1 g2 r2 = some (sameB g1 r1 g2 r2) := by
  unfold deeds_Same.f kinds_Same.f api_Value.f sameB
  cases g1 == g2
  · rfl
  · rw [if_pos rfl]
    by_cases hl : r1.length = r2.length
    · rw [if_pos (by omega)]
      have := Value_l0 r1 r2 hl hm r1.length k 0 (by omega) (by omega) hk
      rw [show ((0 : Nat) : Int) = 0 from rfl] at this
      rw [this]
      simp [hl]
    · rw [if_neg (by omega)]
      simp [hl]
end Go.Proofs.Ytpbeppmldckjlaa.G
