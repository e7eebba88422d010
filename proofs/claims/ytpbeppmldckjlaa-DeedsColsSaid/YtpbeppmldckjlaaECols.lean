import Derived.Test.YtpbeppmldckjlaaE4
import Derived.Test.YtpbeppmldckjlaaG17
/-! ECols -/
namespace Go.Proofs.Ytpbeppmldckjlaa.G
open Go.RowKit Go.Proofs.YtpbeppmldckjlaaQ Go.Proofs.YtpbeppmldckjlaaW.PrintWords Go.Proofs.YtpbeppmldckjlaaW.PrintLast Go.Proofs.YtpbeppmldckjlaaW.PrintMore
set_option linter.unusedVariables false
set_option linter.unusedSimpArgs false
theorem read_f (l : List SC) {s : ByteArray} (hs : s.size ≤ 4611686018427387904) : deeds_Read.f l s = some (if rightB l = true then readL l (bytesOf s) else (false, [], 4)) := by
  unfold deeds_Read.f
  rw [right_f]
  cases rightB l
  · rfl
  · rw [if_pos rfl, if_pos hs]; rfl
/-! a column more, a column less -/
theorem rowB_split (l1 : List SC) (c : SC) : ∀ (r1 : List SV) (v : SV), l1.length = r1.length → rowB (l1 ++ [c]) (r1 ++ [v]) = rowB l1 r1 ++ putB c v := by
  induction l1 with
  | nil => intro r1 v h; obtain rfl : r1 = [] := by cases r1 <;> simp_all
           simp [rowB]
  | cons a l ih =>
    intro r1 v h
    cases r1 with
    | nil => simp at h
    | cons b r =>
      simp only [List.cons_append, rowB]
      rw [ih r v (by simpa using h), List.append_assoc]
theorem fitE_split (l1 : List SC) (c : SC) : ∀ (r1 : List SV) (v : SV), l1.length = r1.length → fitE (l1 ++ [c]) (r1 ++ [v]) = 0 → fitE l1 r1 = 0 ∧ isB c v = true := by
  induction l1 with
  | nil => intro r1 v h hf; obtain rfl : r1 = [] := by cases r1 <;> simp_all
           exact ⟨rfl, (fitE_cons hf).1⟩
  | cons a l ih =>
    intro r1 v h hf
    cases r1 with
    | nil => simp at h
    | cons b r =>
      obtain ⟨h1, h2⟩ := fitE_cons hf
      obtain ⟨h3, h4⟩ := ih r v (by simpa using h) h2
      refine ⟨?_, h4⟩
      unfold fitE; rw [if_pos h1]; exact h3
theorem putB_pos {c : SC} {v : SV} (hi : isB c v = true) : putB c v ≠ [] := by
  have a1 := encU_len (fold v.f1)
  have a2 := encU_len ((bytesOf v.f2).length : Int)
  unfold putB isB at *
  cases h0 : v.f0
  · rw [h0] at hi
    simp only [Bool.false_eq_true, if_false]
    intro h
    have := congrArg List.length h
    rw [List.length_append] at this
    simp only [List.length_nil] at this
    split at this
    · split at this
      · unfold encI at this; omega
      · unfold encT at this; rw [List.length_append] at this; omega
    · split at this
      · unfold encI at this; omega
      · unfold encT at this; rw [List.length_append] at this; omega
  · rw [h0] at hi
    simp only [if_true, Bool.and_eq_true] at hi
    simp [hi.1]
theorem right_take {l : List SC} (h : rightB l = true) {m : Nat} (hm : 0 < m) : rightB (l.take m) = true := by
  obtain ⟨h0, h6⟩ := right_bd h
  have hh := right_head h
  have hf := right_fine h
  obtain ⟨c, l, rfl⟩ : ∃ c l', l = c :: l' := by cases l with | nil => simp at h0 | cons c l => exact ⟨c, l, rfl⟩
  obtain ⟨m, rfl⟩ : ∃ n, m = n + 1 := ⟨m - 1, by omega⟩
  rw [rdC0] at hh
  unfold rightB
  rw [List.take_succ_cons, rdC0, hh]
  have hf2 : kinds_Right.fine (c :: l.take m) = true := by
    unfold kinds_Right.fine at hf ⊢
    rw [List.all_eq_true] at hf ⊢
    intro x hx
    refine hf x ?_
    rcases List.mem_cons.1 hx with rfl | hx
    · exact List.mem_cons_self
    · exact List.mem_cons_of_mem _ (List.mem_of_mem_take hx)
  rw [hf2]
  simp only [List.length_cons, List.length_take] at h6 ⊢
  simp
  omega
theorem right_snoc {l : List SC} (h : rightB l = true) (hl : l.length < 6) : rightB (l ++ [⟨1, false⟩]) = true := by
  obtain ⟨h0, h6⟩ := right_bd h
  have hh := right_head h
  have hf := right_fine h
  obtain ⟨c, l, rfl⟩ : ∃ c l', l = c :: l' := by cases l with | nil => simp at h0 | cons c l => exact ⟨c, l, rfl⟩
  rw [rdC0] at hh
  unfold rightB
  rw [List.cons_append, rdC0, hh]
  have hf2 : kinds_Right.fine (c :: (l ++ [⟨1, false⟩])) = true := by
    unfold kinds_Right.fine at hf ⊢
    rw [← List.cons_append, List.all_append, hf]
    rfl
  rw [hf2]
  simp only [List.length_cons, List.length_append, List.length_nil] at hl ⊢
  simp
  omega
theorem read_less {l : List SC} {r : List SV} (h : fitsE l false r = 0) (hv : ∀ v ∈ r, i64 v.f1) (h2 : 2 ≤ l.length) : readL (l.take (l.length - 1)) (deedB l false r) = (false, [], 5) := by
  obtain ⟨hR, hl, hf⟩ := fits_cols h
  have hcol : colsOf l false = l := by unfold colsOf; simp
  rw [hcol] at hl hf
  obtain ⟨l1, c, rfl⟩ : ∃ l1 c, l = l1 ++ [c] := ⟨l.dropLast, l.getLast (by intro e; simp [e] at h2), (List.dropLast_concat_getLast _).symm⟩
  obtain ⟨r1, v, rfl⟩ : ∃ r1 v, r = r1 ++ [v] := ⟨r.dropLast, r.getLast (by intro e; subst e; simp only [List.length_nil] at hl; omega), (List.dropLast_concat_getLast _).symm⟩
  have hl1 : l1.length = r1.length := by simpa using hl
  obtain ⟨f1, f2⟩ := fitE_split l1 c r1 v hl1 hf
  have ht : (l1 ++ [c]).take ((l1 ++ [c]).length - 1) = l1 := by
    rw [List.length_append]
    show (l1 ++ [c]).take (l1.length + 1 - 1) = l1
    rw [Nat.add_sub_cancel, List.take_left]
  have hR1 : rightB l1 = true := by
    have := right_take hR (m := (l1 ++ [c]).length - 1) (by omega)
    rwa [ht] at this
  rw [ht]
  have hfit : fitsE l1 false r1 = 0 := cols_fits hR1 (by unfold colsOf; simpa using hl1) (by unfold colsOf; simpa using f1)
  have := readL_enc hfit (fun x hx => hv x (List.mem_append_left _ hx)) (putB c v)
  rw [if_neg (putB_pos f2)] at this
  rw [← this]
  unfold deedB
  rw [rowB_split l1 c r1 v hl1, List.cons_append]
theorem rowsL_more : ∀ (l : List SC) (r : List SV) (acc : List SV), l.length = r.length → fitE l r = 0 → (∀ v ∈ r, i64 v.f1) → rowsL (l ++ [⟨1, false⟩]) (rowB l r) 0 false acc = (acc ++ r ++ [⟨false, 0, ⟨#[]⟩⟩], [], 2, false)
  | [], [], acc, _, _, _ => by
    have : valL 1 false [] 0 false = (⟨false, 0, ⟨#[]⟩⟩, [], 2, false) := by kernel_rfl
    rw [List.nil_append, rowB, rows_on rfl this, List.append_nil]
    rfl
    all_goals simp
  | [], _ :: _, _, h, _, _ => by simp at h
  | _ :: _, [], _, h, _, _ => by simp at h
  | c :: l, v :: r, acc, h, hf, hv => by
    obtain ⟨h1, h2⟩ := fitE_cons hf
    rw [rowB, List.cons_append, rows_on rfl (valL_enc h1 (hv v List.mem_cons_self) _), rowsL_more l r (acc ++ [v]) (by simpa using h) h2 (fun x hx => hv x (List.mem_cons_of_mem _ hx))]
    simp
theorem read_more {l : List SC} {r : List SV} (h : fitsE l false r = 0) (hv : ∀ v ∈ r, i64 v.f1) : readL (l ++ [⟨1, false⟩]) (deedB l false r) = (false, [], 2) := by
  obtain ⟨hR, hl, hf⟩ := fits_cols h
  have hcol : colsOf l false = l := by unfold colsOf; simp
  rw [hcol] at hl hf
  unfold deedB
  rw [readL_cols]
  have : colsOf (l ++ [⟨1, false⟩]) false = l ++ [⟨1, false⟩] := by unfold colsOf; exact List.take_length
  rw [this, rowsL_more l r [] hl hf hv]
  rfl
theorem DeedsCols_f {k : Nat} (l : List SC) (r : List SV) (hk : 50 < k) (hl : l.length ≤ 8796093021952) (hv : ∀ v ∈ r, i64 v.f1) : tithebarnlaw07_DeedsCols.f k l r = some true := by
  obtain ⟨k, rfl⟩ : ∃ m, k = m + 1 := ⟨k - 1, by omega⟩
  unfold tithebarnlaw07_DeedsCols.f
  rw [lives_f (by omega)]
  simp only [Option.bind_some]
  rw [if_pos trivial, Write_f (by omega) l false r hv]
  unfold writeE
  by_cases h : fitsE l false r = 0
  · rw [if_pos h]
    simp only [Option.bind_some]
    rw [if_pos trivial]
    by_cases h2 : (l.length : Int) < 2
    · rw [if_pos h2]
      simp only [tithebarnlaw07_DeedsCols.j0]
      rw [if_pos trivial]
    · rw [if_neg h2]
      by_cases h6 : (l.length : Int) ≥ 6
      · rw [decide_eq_true h6]
        simp only [tithebarnlaw07_DeedsCols.j0]
        rw [if_pos trivial]
      · rw [decide_eq_false h6]
        have hR := (fits_len h).1
        have hB := deedB_Bs h hv
        have hL := deedB_len h
        simp only [tithebarnlaw07_DeedsCols.j0]
        rw [if_neg (by decide), w64' ((l.length : Int) - 1) (by omega) (by omega), if_pos (by omega), if_pos (by omega)]
        have hx : ((l.length : Int) - 1).toNat = l.length - 1 := by omega
        rw [hx, read_f _ (by rw [size_strOfNums]; omega), if_pos (right_take hR (by omega)), bytesOf_strOfNums hB, read_less h hv (by omega)]
        simp only [Option.bind_some]
        rw [if_pos (by simp; omega)]
        rw [List.nil_append, if_pos (by omega), read_f _ (by rw [size_strOfNums]; omega), if_pos (right_snoc hR (by omega)), bytesOf_strOfNums hB, read_more h hv]
        simp only [Option.bind_some]
        rw [if_pos trivial]
        rfl
  · rw [if_neg h]
    simp only [Option.bind_some]
    rw [if_neg h]
    simp only [tithebarnlaw07_DeedsCols.j0]
    rw [if_pos trivial]
theorem DeedsCols.law (A : Option Addr) (c : Nat) (l : List SC) (A1 : Option Addr) (c1 : Nat) (r : List SV) (w : World) (hc : l.length ≤ c) (hr : k39.C w A l.length l) (hm : l.length ≤ maxLen) (ok : ∀ x ∈ l, True) (hb : l.length * 16 ≤ 140737488351232) (hc1 : r.length ≤ c1) (hr1 : k43.C w A1 r.length r) (hm1 : r.length ≤ maxLen) (ok1 : ∀ x ∈ r, OkV x) (hb1 : r.length * 32 ≤ 140737488351232) :
    Calls Try.prog 8 #[.slice A l.length c, .slice A1 r.length c1] w fun e w' => e = .returned (.bool true) ∧ Below w.heap.size w w' :=
  tithebarnlaw07_DeedsCols.calls 51 A c l A1 c1 r true w hr hc hr1 hc1 (DeedsCols_f l r (by omega) (by omega) ok1)
end Go.Proofs.Ytpbeppmldckjlaa.G
