import Derived.Test.YtpbeppmldckjlaaE4
/-! Deeds: what is read is what was written; a column more or less. -/
namespace Go.Proofs.Ytpbeppmldckjlaa.G
open Go.RowKit Go.Proofs.YtpbeppmldckjlaaQ Go.Proofs.YtpbeppmldckjlaaW.PrintWords Go.Proofs.YtpbeppmldckjlaaW.PrintLast Go.Proofs.YtpbeppmldckjlaaW.PrintMore
set_option linter.unusedVariables false
set_option linter.unusedSimpArgs false
/-! reading backward: an end without error was written -/
theorem aUint_dec {r : List Int} (hr : Bs r) {x : Int} {r' : List Int} (h : aUint r 0 = (x, r', 0)) : r = encU x ++ r' ∧ u64 x := by
  unfold aUint at h
  rw [if_pos rfl] at h
  rcases hd : decU r with ⟨y, n, e⟩
  rw [hd] at h
  simp only [Prod.mk.injEq] at h
  obtain ⟨rfl, rfl, rfl⟩ := h
  obtain ⟨h1, h2, h3⟩ := decU_bytes hr hd
  exact ⟨by rw [← h3, List.take_append_drop], h2⟩
theorem aText_dec {r : List Int} (hr : Bs r) {t r' : List Int} (h : aText 64 r 0 = (t, r', 0)) : r = encT t ++ r' ∧ t.length ≤ 64 := by
  unfold aText at h
  rw [if_pos rfl] at h
  rcases hd : decU r with ⟨y, n, e⟩
  rw [hd] at h
  simp only at h
  split at h
  · rename_i he
    subst he
    obtain ⟨h1, h2, h3⟩ := decU_bytes hr hd
    obtain ⟨u0, u1⟩ := h2
    split at h
    · simp only [Prod.mk.injEq] at h; exact absurd h.2.2 (by decide)
    · rename_i hm
      split at h
      · simp only [Prod.mk.injEq] at h; exact absurd h.2.2 (by decide)
      · rename_i hn
        simp only [Prod.mk.injEq] at h
        obtain ⟨rfl, rfl, -⟩ := h
        have hl : ((r.drop n).take y.toNat).length = y.toNat := by rw [List.length_take]; omega
        refine ⟨?_, by omega⟩
        unfold encT
        rw [hl, Int.toNat_of_nonneg u0, ← h3, List.append_assoc, List.take_append_drop, List.take_append_drop]
  · rename_i he
    simp only [Prod.mk.injEq] at h
    exact absurd h.2.2 he
theorem restL_dec {k : Int} {r : List Int} (hr : Bs r) {v : SV} {r' : List Int} (h : restL k r 0 false = (v, r', 0)) : v.f0 = false ∧ i64 v.f1 ∧ r = (if k = 1 then encI v.f1 else encT (bytesOf v.f2)) ++ r' ∧ (if k = 1 then v.f2.toList == [] else v.f1 == 0 && decide (v.f2.size ≤ 64)) = true := by
  unfold restL at h
  simp only [Bool.false_eq_true, if_false] at h
  by_cases hk : k = 1
  · rw [if_pos hk] at h
    simp only [Prod.mk.injEq] at h
    obtain ⟨rfl, h2, h3⟩ := h
    obtain ⟨e1, e2⟩ := aUint_dec (x := (aUint r 0).1) (r' := r') hr (Prod.ext rfl (Prod.ext h2 h3))
    refine ⟨rfl, unfold_i64 e2, ?_, ?_⟩
    · rw [if_pos hk]
      show r = encI (unfold_ (aUint r 0).1) ++ r'
      unfold encI
      rw [fold_unfold e2.1]; exact e1
    · rw [if_pos hk]; exact (toList_eq_nil _).mpr rfl
  · rw [if_neg hk] at h
    simp only [Prod.mk.injEq] at h
    obtain ⟨rfl, h2, h3⟩ := h
    obtain ⟨e1, e2⟩ := aText_dec (t := (aText 64 r 0).1) (r' := r') hr (Prod.ext rfl (Prod.ext h2 h3))
    have hB := (aText_Bs hr 64 0).1
    refine ⟨rfl, by unfold i64; simp, ?_, ?_⟩
    · rw [if_neg hk]
      show r = encT (bytesOf (strOfNums (aText 64 r 0).1)) ++ r'
      rw [bytesOf_strOfNums hB]; exact e1
    · rw [if_neg hk]
      simp only [beq_self_eq_true, Bool.true_and, decide_eq_true_eq]
      rw [size_strOfNums]; exact e2
/-- Behind an error it stays. -/
theorem restL_bad {k : Int} {r : List Int} {e : Int} {odd : Bool} (h : odd = true ∨ e ≠ 0) : (restL k r e odd).2.2 = e := by
  unfold restL
  cases odd
  · have he : e ≠ 0 := h.resolve_left (by decide)
    simp only [Bool.false_eq_true, if_false]
    split
    · unfold aUint; rw [if_neg he]
    · unfold aText; rw [if_neg he]
  · rw [if_pos rfl]
theorem aByte_dec {r : List Int} {b : Int} {r' : List Int} (h : aByte r 0 = (b, r', 0)) : r = b :: r' := by
  unfold aByte at h
  rw [if_pos rfl] at h
  cases r with
  | nil => simp at h
  | cons x t => simp only [Prod.mk.injEq] at h; obtain ⟨rfl, rfl, -⟩ := h; rfl
theorem aByte_err (r : List Int) : (aByte r 0).2.2 = 0 ∨ aByte r 0 = (0, [], 2) := by
  unfold aByte
  cases r with
  | nil => right; rfl
  | cons x t => left; rfl
theorem valL_dec {c : SC} {r : List Int} (hr : Bs r) {v : SV} {r' : List Int} (h : valL c.f0 c.f1 r 0 false = (v, r', 0, false)) : r = putB c v ++ r' ∧ isB c v = true ∧ i64 v.f1 := by
  obtain ⟨k, null⟩ := c
  unfold valL at h
  simp only at h
  cases null
  · simp only [Bool.false_eq_true, if_false, Prod.mk.injEq, and_true] at h
    obtain ⟨h1, h2, h3⟩ := h
    obtain ⟨a, b, c, d⟩ := restL_dec (k := k) (v := v) (r' := r') hr (Prod.ext h1 (Prod.ext h2 h3))
    unfold putB isB
    simp only [a, Bool.false_eq_true, if_false, List.nil_append]
    exact ⟨c, d, b⟩
  · simp only [if_true] at h
    rcases aByte_err r with he | he
    · rcases hb : aByte r 0 with ⟨b, r1, e1⟩
      rw [hb] at he h
      simp only at he h
      subst he
      obtain rfl := aByte_dec hb
      have hr1 : Bs r1 := hr.tail
      by_cases h1 : b = 1
      · subst h1
        rw [if_pos rfl] at h
        simp only [Prod.mk.injEq, and_true] at h
        obtain ⟨rfl, rfl⟩ := h
        refine ⟨rfl, ?_, by unfold i64; simp⟩
        unfold isB
        simp only [if_true, Bool.true_and, beq_self_eq_true]
        exact (toList_eq_nil _).mpr rfl
      · rw [if_neg h1] at h
        simp only [Bool.false_or, Prod.mk.injEq] at h
        obtain ⟨h2, h3, h4, h5⟩ := h
        rw [h5] at h2 h3 h4
        have hb0 : b = 0 := by have := hr.head; have := of_decide_eq_false h5; omega
        subst hb0
        obtain ⟨a, b, c, d⟩ := restL_dec (k := k) (v := v) (r' := r') hr1 (Prod.ext h2 (Prod.ext h3 h4))
        unfold putB isB
        simp only [a, Bool.false_eq_true, if_false, if_true]
        exact ⟨by rw [List.cons_append, List.nil_append, List.cons_append, ← c], d, b⟩
    · rw [he] at h
      simp only at h
      rw [if_neg (by decide)] at h
      simp only [Prod.mk.injEq] at h
      have := restL_bad (k := k) (r := []) (e := 2) (odd := (false || decide ((1 : Int) < 0))) (.inr (by decide))
      rw [this] at h
      exact absurd h.2.2.1 (by decide)
theorem valL_Bs {k : Int} {null : Bool} {r : List Int} {e : Int} {odd : Bool} (hr : Bs r) : Bs (valL k null r e odd).2.1 := by
  have rest : ∀ (r : List Int) (e : Int) (odd : Bool), Bs r → Bs (restL k r e odd).2.1 := by
    intro r e odd hr
    unfold restL
    split
    · exact hr
    · split
      · exact aUint_Bs hr e
      · exact (aText_Bs hr 64 e).2
  unfold valL
  split
  · split
    · exact aByte_Bs hr e
    · exact rest _ _ _ (aByte_Bs hr e)
  · exact rest _ _ _ hr
theorem rowsL_dec : ∀ (l : List SC) (s : List Int) (acc res : List SV) (s' : List Int), Bs s → rowsL l s 0 false acc = (res, s', 0, false) → ∃ r, res = acc ++ r ∧ l.length = r.length ∧ s = rowB l r ++ s' ∧ fitE l r = 0 ∧ (∀ v ∈ r, i64 v.f1)
  | [], s, acc, res, s', hs, h => by
    simp only [rowsL, Prod.mk.injEq, and_true] at h
    obtain ⟨rfl, rfl⟩ := h
    exact ⟨[], by simp, rfl, by simp [rowB], rfl, by simp⟩
  | c :: l, s, acc, res, s', hs, h => by
    rcases hv : valL c.f0 c.f1 s 0 false with ⟨v, s1, e1, o1⟩
    rw [rows_on rfl hv] at h
    have hs1 : Bs s1 := by have := valL_Bs (k := c.f0) (null := c.f1) (e := 0) (odd := false) hs; rw [hv] at this; exact this
    have hgood : e1 = 0 ∧ o1 = false := by
      by_cases hg : (!o1 && (e1 == 0)) = true
      · simp only [Bool.and_eq_true, Bool.not_eq_true', beq_iff_eq] at hg
        exact ⟨hg.2, hg.1⟩
      · have : rowsL l s1 e1 o1 (acc ++ [v]) = (acc ++ [v], s1, e1, o1) := by
          cases l with
          | nil => rfl
          | cons c' l' => exact rows_no (by simpa using hg)
        rw [this] at h
        simp only [Prod.mk.injEq] at h
        exact ⟨h.2.2.1, h.2.2.2⟩
    obtain ⟨rfl, rfl⟩ := hgood
    obtain ⟨d1, d2, d3⟩ := valL_dec hs hv
    obtain ⟨r, r1, r2, r3, r4, r5⟩ := rowsL_dec l s1 _ _ _ hs1 h
    refine ⟨v :: r, by rw [r1]; simp, by simp [r2], by rw [rowB, List.append_assoc, ← r3]; exact d1, ?_, ?_⟩
    · unfold fitE; rw [if_pos d2]; exact r4
    · intro x hx
      rcases List.mem_cons.1 hx with rfl | hx
      · exact d3
      · exact r5 x hx
/-- An end without error: the bytes are those of a deed that fits. -/
theorem readL_dec {l : List SC} (hR : rightB l = true) {s : List Int} (hs : Bs s) {g : Bool} {r : List SV} (h : readL l s = (g, r, 0)) : fitsE l g r = 0 ∧ (∀ v ∈ r, i64 v.f1) ∧ s = deedB l g r := by
  unfold readL at h
  rcases hb : aByte s 0 with ⟨b, s1, e1⟩
  rw [hb] at h
  simp only at h
  rcases hq : rowsL (l.take (if (b == 1) = true then 1 else l.length)) s1 e1 (decide (1 < b)) [] with ⟨res, s2, e2, o2⟩
  rw [hq] at h
  unfold endL at h
  simp only at h
  have hcol : colsOf l (b == 1) = l.take (if (b == 1) = true then 1 else l.length) := rfl
  obtain ⟨h0, h6⟩ := right_bd hR
  have hne : ∃ c l', l.take (if (b == 1) = true then 1 else l.length) = c :: l' := by
    cases hl : l.take (if (b == 1) = true then 1 else l.length) with
    | nil => have := congrArg List.length hl; rw [List.length_take] at this; simp only [List.length_nil] at this; split at this <;> omega
    | cons c l' => exact ⟨c, l', rfl⟩
  by_cases ho : o2 = true
  · rw [if_pos ho] at h
    simp at h
  · rw [if_neg ho] at h
    by_cases hd : aDone s2 e2 = 0
    · rw [if_pos hd] at h
      simp only [Prod.mk.injEq, and_true] at h
      obtain ⟨rfl, rfl⟩ := h
      have he2 : e2 = 0 ∧ s2 = [] := by
        unfold aDone at hd
        split at hd
        · rename_i he; split at hd
          · rename_i hs2; exact ⟨he, hs2⟩
          · exact absurd hd (by decide)
        · rename_i he; exact absurd hd he
      obtain ⟨rfl, rfl⟩ := he2
      have ho2 : o2 = false := by simpa using ho
      subst ho2
      have hgood : e1 = 0 ∧ decide (1 < b) = false := by
        by_cases hg : (!decide (1 < b) && (e1 == 0)) = true
        · simp only [Bool.and_eq_true, Bool.not_eq_true', beq_iff_eq] at hg
          exact ⟨hg.2, hg.1⟩
        · obtain ⟨c, l', hl⟩ := hne
          rw [hl, rows_no (by simpa using hg)] at hq
          simp only [Prod.mk.injEq] at hq
          exact ⟨hq.2.2.1, hq.2.2.2⟩
      obtain ⟨rfl, hb1⟩ := hgood
      rw [hb1] at hq
      obtain rfl := aByte_dec hb
      obtain ⟨r, r1, r2, r3, r4, r5⟩ := rowsL_dec _ s1 [] _ [] hs.tail hq
      rw [List.nil_append] at r1
      subst r1
      have hf : fitsE l (b == 1) res = 0 := cols_fits hR (by rw [hcol]; exact r2) (by rw [hcol]; exact r4)
      refine ⟨hf, r5, ?_⟩
      unfold deedB
      rw [← rowB_cols hR (gone := (b == 1)) (by rw [hcol]; exact r2), hcol]
      rw [List.append_nil] at r3
      rw [← r3]
      congr 1
      have := hs.head
      have := of_decide_eq_false hb1
      by_cases h1 : b = 1
      · subst h1; rfl
      · have : b = 0 := by omega
        subst this; rfl
    · rw [if_neg hd] at h
      simp only [Prod.mk.injEq] at h
      exact absurd h.2.2 hd
/-- An error: nothing. -/
theorem endL_bad {gone : Bool} {q : List SV × List Int × Int × Bool} {g : Bool} {r : List SV} {e : Int} (h : endL gone q = (g, r, e)) (he : e ≠ 0) : g = false ∧ r = [] := by
  unfold endL at h
  by_cases h1 : q.2.2.2 = true
  · rw [if_pos h1] at h
    cases h; exact ⟨rfl, rfl⟩
  · rw [if_neg h1] at h
    by_cases h2 : aDone q.2.1 q.2.2.1 = 0
    · rw [if_pos h2] at h
      cases h; exact absurd rfl he
    · rw [if_neg h2] at h
      cases h; exact ⟨rfl, rfl⟩
theorem readL_bad {l : List SC} {s : List Int} {g : Bool} {r : List SV} {e : Int} (h : readL l s = (g, r, e)) (he : e ≠ 0) : g = false ∧ r = [] := endL_bad h he
theorem deedB_ne (l : List SC) (g : Bool) (r : List SV) : deedB l g r ≠ [] := by unfold deedB; simp
end Go.Proofs.Ytpbeppmldckjlaa.G
