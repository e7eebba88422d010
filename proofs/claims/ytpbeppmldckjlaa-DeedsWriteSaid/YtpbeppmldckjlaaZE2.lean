import Derived.Test.YtpbeppmldckjlaaZE1
import Derived.Test.YtpbeppmldckjlaaZG10
namespace Go.Proofs.Ytpbeppmldckjlaa.G
open Go.RowKit Go.Proofs.YtpbeppmldckjlaaQ Go.Proofs.YtpbeppmldckjlaaW.PrintWords Go.Proofs.YtpbeppmldckjlaaW.PrintLast Go.Proofs.YtpbeppmldckjlaaW.PrintMore
set_option linter.unusedVariables false
set_option linter.unusedSimpArgs false
theorem odd_false {c : SC} : kinds_Right.odd c = false ↔ (c.f0 = 1 ∨ c.f0 = 2) := by
  unfold kinds_Right.odd
  by_cases h1 : c.f0 = 1 <;> by_cases h2 : c.f0 = 2 <;> simp [h1, h2]
theorem fine_drop {l : List SC} {i : Nat} (h : i < l.length) : kinds_Right.fine (l.drop i) = (!kinds_Right.odd (rd_T39 l (i : Int)) && kinds_Right.fine (l.drop (i + 1))) := by
  rw [rdC h]; rfl
theorem rRight_l0 (l : List SC) (hl : l.length ≤ 4611686018427387904) (d : Nat) : ∀ (k i : Nat), l.length - i = d → i ≤ l.length → d < k →
    tithebarnref02_Right.l0 k l (i : Int) = some (kinds_Right.fine (l.drop i) && (decide (0 < l.length) && decide (l.length ≤ 6)) && !(decide (i = 0) && decide (0 < l.length) && (rd_T39 l 0).f1)) := by
  induction d with
  | zero =>
    intro k i hd hi hk
    obtain ⟨k, rfl⟩ : ∃ m, k = m + 1 := ⟨k - 1, by omega⟩
    simp only [tithebarnref02_Right.l0]
    rw [if_neg (by omega), List.drop_eq_nil_of_le (by omega)]
    by_cases h0 : 0 < l.length
    · rw [if_pos (by omega)]
      have : i ≠ 0 := by omega
      by_cases h6 : l.length ≤ 6
      · have e : decide ((l.length : Int) ≤ 6) = true := decide_eq_true (by omega)
        simp [this, h0, h6, e, kinds_Right.fine]
      · have e : decide ((l.length : Int) ≤ 6) = false := decide_eq_false (by omega)
        simp [this, h6, e]
    · rw [if_neg (by omega)]
      simp [h0]
  | succ d ih =>
    intro k i hd hi hk
    obtain ⟨k, rfl⟩ : ∃ m, k = m + 1 := ⟨k - 1, by omega⟩
    have next := ih k (i + 1) (by omega) (by omega) (by omega)
    rw [show ((i + 1 : Nat) : Int) = (i : Int) + 1 by omega] at next
    have hn : ¬ (i + 1 = 0) := by omega
    simp only [hn, decide_false, Bool.false_and, Bool.not_false, Bool.and_true] at next
    simp only [tithebarnref02_Right.l0]
    rw [if_pos (by omega), if_pos (by omega), w64' ((i : Int) + 1) (by omega) (by omega), next, fine_drop (show i < l.length by omega)]
    have h0 : 0 < l.length := by omega
    obtain ⟨x, hx⟩ : ∃ x, rd_T39 l (i : Int) = x := ⟨_, rfl⟩
    rw [hx]
    by_cases hi0 : i = 0
    · subst hi0
      have hx0 : rd_T39 l 0 = x := hx
      rw [hx0]
      by_cases h1 : x.f0 = 1
      · rw [if_pos h1, odd_false.mpr (.inl h1)]
        cases hf : x.f1 <;> simp [h0]
      · rw [if_neg h1]
        by_cases h2 : x.f0 = 2
        · rw [if_pos h2, odd_false.mpr (.inr h2)]
          cases hf : x.f1 <;> simp [h0]
        · rw [if_neg h2]
          have : kinds_Right.odd x = true := by
            cases ho : kinds_Right.odd x
            · rcases odd_false.mp ho with h | h
              · exact absurd h h1
              · exact absurd h h2
            · rfl
          simp [this]
    · have hi0' : ¬ ((i : Int) = 0) := by omega
      by_cases h1 : x.f0 = 1
      · rw [if_pos h1, if_neg hi0', odd_false.mpr (.inl h1)]
        simp [hi0]
      · rw [if_neg h1]
        by_cases h2 : x.f0 = 2
        · rw [if_pos h2, if_neg hi0', odd_false.mpr (.inr h2)]
          simp [hi0]
        · rw [if_neg h2]
          have : kinds_Right.odd x = true := by
            cases ho : kinds_Right.odd x
            · rcases odd_false.mp ho with h | h
              · exact absurd h h1
              · exact absurd h h2
            · rfl
          simp [this]
theorem rRight_f {k : Nat} {l : List SC} (hk : l.length < k) (hl : l.length ≤ 4611686018427387904) : tithebarnref02_Right.f k l = some (rightB l) := by
  unfold tithebarnref02_Right.f rightB
  have := rRight_l0 l hl l.length k 0 (by omega) (by omega) hk
  rw [show ((0 : Nat) : Int) = 0 from rfl] at this
  rw [this, List.drop_zero]
  cases kinds_Right.fine l <;> by_cases h0 : 0 < l.length <;> by_cases h6 : l.length ≤ 6 <;> cases (rd_T39 l 0).f1 <;> simp [h0, h6]
theorem fine_at {l : List SC} (h : kinds_Right.fine l = true) {i : Nat} (hi : i < l.length) : (rd_T39 l (i : Int)).f0 = 1 ∨ (rd_T39 l (i : Int)).f0 = 2 := by
  have hm : rd_T39 l (i : Int) ∈ l := by
    unfold rd_T39
    rw [Int.toNat_natCast, List.getD_eq_getElem?_getD, List.getElem?_eq_getElem hi]; exact List.getElem_mem hi
  unfold kinds_Right.fine at h
  have := List.all_eq_true.mp h _ hm
  exact odd_false.mp (by simpa using this)
def rIsB (c : SC) (v : SV) : Bool := if v.f0 = true then v.f1 == 0 && v.f2.toList == [] else if c.f0 = 1 then v.f2.toList == [] else v.f1 == 0 && decide (v.f2.size ≤ 64)
theorem rIs_f {c : SC} (hc : c.f0 = 1 ∨ c.f0 = 2) (v : SV) : tithebarnref02_Is.f c.f0 v.f0 v.f1 v.f2 = some (rIsB c v) := by
  unfold tithebarnref02_Is.f rIsB
  rcases hc with h | h <;> rw [h] <;> cases h0 : v.f0 <;> by_cases h3 : v.f1 = 0 <;> simp [h3] <;> omega
theorem isB_eq (c : SC) (v : SV) : isB c v = (rIsB c v && (!v.f0 || c.f1)) := by
  unfold isB rIsB
  cases h0 : v.f0 <;> cases h1 : c.f1 <;> simp
theorem rFits_l0 (row : List SV) (cols : List SC) (hl : cols.length = row.length) (hm : cols.length ≤ 6) (hf : kinds_Right.fine cols = true) (d : Nat) : ∀ (k i : Nat), cols.length - i = d → i ≤ cols.length → d < k → tithebarnref02_Fits.l0 k cols row (i : Int) = some (fitE (cols.drop i) (row.drop i)) := by
  induction d with
  | zero =>
    intro k i hd hi hk
    obtain ⟨k, rfl⟩ : ∃ m, k = m + 1 := ⟨k - 1, by omega⟩
    simp only [tithebarnref02_Fits.l0]
    rw [if_neg (by omega), List.drop_eq_nil_of_le (by omega)]
    simp [fitE]
  | succ d ih =>
    intro k i hd hi hk
    obtain ⟨k, rfl⟩ : ∃ m, k = m + 1 := ⟨k - 1, by omega⟩
    have next := ih k (i + 1) (by omega) (by omega) (by omega)
    rw [show ((i + 1 : Nat) : Int) = (i : Int) + 1 by omega] at next
    simp only [tithebarnref02_Fits.l0]
    rw [if_pos (by omega), if_pos (by omega), if_pos (by omega), rIs_f (fine_at hf (by omega)), rdC (show i < cols.length by omega), rdV (show i < row.length by omega)]
    simp only [Option.bind_some, fitE]
    rw [w64' ((i : Int) + 1) (by omega) (by omega), next, isB_eq]
    obtain ⟨c, hc⟩ : ∃ c, rd_T39 cols (i : Int) = c := ⟨_, rfl⟩
    obtain ⟨v, hv⟩ : ∃ v, rd_T43 row (i : Int) = v := ⟨_, rfl⟩
    rw [hc, hv]
    cases rIsB c v <;> cases v.f0 <;> cases c.f1 <;> simp
theorem rfits_f {k : Nat} (l : List SC) (hk : l.length + 10 < k) (hl : l.length ≤ 4611686018427387904) (gone : Bool) (r : List SV) : tithebarnref07_Fits.f k l gone r = some (fitsE l gone r) := by
  unfold tithebarnref07_Fits.f fitsE
  cases gone
  · simp only [Bool.false_eq_true, if_false]
    unfold tithebarnref02_Fits.f
    rw [rRight_f (by omega) hl]
    simp only [Option.bind_some]
    by_cases hR : rightB l = true
    · rw [if_pos hR, if_pos hR]
      by_cases h : l.length = r.length
      · rw [if_pos (by omega), if_pos h]
        have := rFits_l0 r l h (right_bd hR).2 (right_fine hR) (l.length - 0) k 0 rfl (by omega) (by omega)
        simp only [List.drop_zero] at this
        rw [show ((0 : Nat) : Int) = 0 from rfl] at this
        rw [this]; rfl
      · rw [if_neg (by omega), if_neg h]; rfl
    · rw [if_neg hR, if_neg hR]; rfl
  · rw [if_pos rfl, rRight_f (by omega) hl]
    simp only [Option.bind_some]
    by_cases hR : rightB l = true
    · obtain ⟨h0, h6⟩ := right_bd hR
      rw [if_pos hR, if_pos hR, if_pos trivial]
      by_cases h1 : r.length = 1
      · rw [if_pos (by omega), if_pos h1, if_pos (by omega), fitE_one l r h0 h1]
        unfold tithebarnref02_Key.f
        rw [rRight_f (by omega) hl]
        simp only [Option.bind_some]
        rw [if_pos hR, isB_eq, right_head hR]
        obtain ⟨v, hv⟩ : ∃ v, rd_T43 r 0 = v := ⟨_, rfl⟩
        rw [hv]
        have hi := rIs_f (c := rd_T39 l 0) (by have := fine_at (right_fine hR) (i := 0) h0; exact this) v
        cases h0' : v.f0
        · rw [if_neg (by decide), if_pos (by omega)]
          rw [h0'] at hi
          rw [hi]
          simp only [Option.bind_some]
          cases rIsB (rd_T39 l 0) v <;> simp
        · rw [if_pos rfl]
          simp
      · rw [if_neg (by omega), if_neg h1]
    · rw [if_neg hR, if_neg hR]
theorem rflag_f (b : Bool) : tithebarnref07_flag.f b = some (strOfNums [if b = true then 1 else 0]) := by
  unfold tithebarnref07_flag.f
  cases b <;> rfl
theorem rWrite_l0 (gone : Bool) (row : List SV) (cols : List SC) (hl : row.length ≤ cols.length) (hm : cols.length ≤ 6) (hv : ∀ v ∈ row, i64 v.f1) (d : Nat) : ∀ (k i : Nat) (acc : List Int), row.length - i = d → i ≤ row.length → 2 * d + 20 < k → acc.length ≤ 1 + 100 * i → fitE (cols.drop i) (row.drop i) = 0 →
    tithebarnref07_Write.l0 k cols (strOfNums acc) (i : Int) gone row = some (strOfNums (acc ++ rowB (cols.drop i) (row.drop i)), 0) := by
  induction d with
  | zero =>
    intro k i acc hd hi hk ha hf
    obtain ⟨k, rfl⟩ : ∃ m, k = m + 1 := ⟨k - 1, by omega⟩
    simp only [tithebarnref07_Write.l0]
    rw [if_neg (by omega), List.drop_eq_nil_of_le (show row.length ≤ i by omega)]
    cases cols.drop i <;> simp [rowB]
  | succ d ih =>
    intro k i acc hd hi hk ha hf
    obtain ⟨k, rfl⟩ : ∃ m, k = m + 2 := ⟨k - 2, by omega⟩
    rw [rdC (show i < cols.length by omega), rdV (show i < row.length by omega)] at hf ⊢
    obtain ⟨hi1, hf1⟩ := fitE_cons hf
    have hv1 := hv _ (memV (show i < row.length by omega))
    have pl := putB_len hi1
    have next := ih k (i + 1) (acc ++ putB (rd_T39 cols (i : Int)) (rd_T43 row (i : Int))) (by omega) (by omega) (by omega) (by rw [List.length_append]; omega) hf1
    rw [show ((i + 1 : Nat) : Int) = (i : Int) + 1 by omega, List.append_assoc] at next
    rw [rowB, ← next]
    simp only [tithebarnref07_Write.l0]
    rw [if_pos (by omega), if_pos (by omega), if_pos (by omega)]
    obtain ⟨c, hc⟩ : ∃ c, rd_T39 cols (i : Int) = c := ⟨_, rfl⟩
    obtain ⟨v, hvv⟩ : ∃ v, rd_T43 row (i : Int) = v := ⟨_, rfl⟩
    rw [hc, hvv] at hi1 pl ⊢
    rw [hvv] at hv1
    have key : ∀ m : List Int, m.length ≤ 1 + 100 * i + 1 → m.length + (if v.f0 = true then [] else if c.f0 = 1 then encI v.f1 else encT (bytesOf v.f2)).length ≤ 100000 →
        tithebarnref07_Write.j1 (k + 1) cols (strOfNums m) (i : Int) gone row v.f0 v.f1 v.f2 = tithebarnref07_Write.l0 k cols (strOfNums (m ++ (if v.f0 = true then [] else if c.f0 = 1 then encI v.f1 else encT (bytesOf v.f2)))) ((i : Int) + 1) gone row := by
      intro m hm1 hm2
      simp only [tithebarnref07_Write.j1]
      rw [w64' ((i : Int) + 1) (by omega) (by omega), hc]
      by_cases h0 : v.f0 = true
      · rw [if_pos h0, if_pos h0, List.append_nil]
      · rw [if_neg h0, if_neg h0, if_pos (by omega), if_pos (by omega)]
        rw [if_neg h0] at hm2
        by_cases h1 : c.f0 = 1
        · rw [if_pos h1, if_pos h1, rInt_f (by omega) hv1]
          rw [if_pos h1] at hm2
          simp only [Option.bind_some]
          rw [if_pos (by rw [size_strOfNums, size_strOfNums]; omega), strOfNums_append]
        · rw [if_neg h1] at hm2
          unfold isB at hi1
          rw [if_neg h0, if_neg h1] at hi1
          simp only [Bool.and_eq_true, decide_eq_true_eq] at hi1
          rw [if_neg h1, if_neg h1, rText_f (by omega) (by omega)]
          simp only [Option.bind_some]
          rw [if_pos (by rw [size_strOfNums, size_strOfNums]; omega), strOfNums_append]
    unfold putB at pl
    rw [List.length_append] at pl
    unfold putB
    by_cases h1 : c.f1 = true
    · rw [if_pos h1, if_pos h1, rflag_f]
      rw [if_pos h1] at pl
      simp only [Option.bind_some]
      rw [if_pos (by rw [size_strOfNums, size_strOfNums]; simp; omega), ← strOfNums_append, key _ (by simp; omega) (by rw [List.length_append]; simp at pl ⊢; omega), List.append_assoc]
    · rw [if_neg h1, if_neg h1, key _ (by omega) (by omega)]; rfl
theorem rWrite_f {k : Nat} (l : List SC) (hk : l.length + 50 < k) (hl : l.length ≤ 4611686018427387904) (gone : Bool) (r : List SV) (hv : ∀ v ∈ r, i64 v.f1) : tithebarnref07_Write.f k l gone r = some (writeE l gone r) := by
  unfold tithebarnref07_Write.f writeE
  rw [rfits_f l (by omega) hl]
  simp only [Option.bind_some]
  by_cases h : fitsE l gone r = 0
  · rw [if_pos h, if_pos h, rflag_f]
    obtain ⟨hR, hl', hf, -, -⟩ := fits_len h
    have h6 := (right_bd hR).2
    have := rWrite_l0 gone r l hl' h6 hv (r.length - 0) k 0 [if gone = true then 1 else 0] rfl (by omega) (by omega) (by simp) hf
    rw [show ((0 : Nat) : Int) = 0 from rfl] at this
    simp only [Option.bind_some]
    rw [this]; rfl
  · rw [if_neg h, if_neg h]
end Go.Proofs.Ytpbeppmldckjlaa.G
