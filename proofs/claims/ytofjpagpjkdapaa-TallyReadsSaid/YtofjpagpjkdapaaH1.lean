import Derived.Test.YtofjpagpjkdapaaR1
/-! Layer 1's functions, as contracts for walks by hand: what a cursor holds is told by lists. -/
namespace Go.Proofs.Ytofjpagpjkdapaa.G
open Go.RowKit Go.Proofs.YtofjpagpjkdapaaQ Go.Proofs.YtofjpagpjkdapaaW.PrintWords Go.Proofs.YtofjpagpjkdapaaW.PrintLast Go.Proofs.YtofjpagpjkdapaaW.PrintMore
set_option linter.unusedVariables false
set_option linter.unusedSimpArgs false
/-- The cursor at block g, of the call's own (from w0 on): the bytes that are left, the first error. -/
def Cur (w0 w : World) (g : Nat) (r : List Int) (e : Int) : Prop := IsS56 w0 w g (strOfNums r) e ∧ Bs r ∧ r.length ≤ 4611686018427387904
theorem Cur.keep {w0 W W' : World} {g g' : Nat} {r : List Int} {e : Int} (h : Cur w0 W g r e) (hk : KeepBut W W' g' none) (hne : g ≠ g') : Cur w0 W' g r e := by
  refine ⟨⟨?_, h.1.2⟩, h.2⟩
  rw [hk.2 g (Array.getElem?_eq_some_iff.1 h.1.1).1 hne (by simp)]
  exact h.1.1
theorem Cur.below {w0 W W' : World} {g : Nat} {r : List Int} {e : Int} (h : Cur w0 W g r e) (hb : Below W.heap.size W W') : Cur w0 W' g r e := by
  refine ⟨⟨?_, h.1.2⟩, h.2⟩
  rw [hb.block g (Array.getElem?_eq_some_iff.1 h.1.1).1]
  exact h.1.1
theorem Cur.drew {w0 W : World} {g : Nat} {r : List Int} {e : Int} (h : Cur w0 W g r e) : Cur w0 W.drew g r e := h
theorem Cur.drewN {w0 W : World} {g : Nat} {r : List Int} {e : Int} (h : Cur w0 W g r e) (n : Nat) : Cur w0 (W.drewN n) g r e := ⟨⟨h.1.1, h.1.2⟩, h.2⟩
theorem Cur.lt {w0 W : World} {g : Nat} {r : List Int} {e : Int} (h : Cur w0 W g r e) : g < W.heap.size := (Array.getElem?_eq_some_iff.1 h.1.1).1
theorem Cur.ge {w0 W : World} {g : Nat} {r : List Int} {e : Int} (h : Cur w0 W g r e) : w0.heap.size ≤ g := h.1.2
theorem Cur.lower {w0 w1 W : World} {g : Nat} {r : List Int} {e : Int} (h : Cur w1 W g r e) (hs : w0.heap.size ≤ w1.heap.size) : Cur w0 W g r e := ⟨⟨h.1.1, Nat.le_trans hs h.1.2⟩, h.2⟩
theorem from_any {w0 w : World} (s : ByteArray) (hs : s.size ≤ 4611686018427387904) (hB : Below w0.heap.size w0 w) : Calls Try.prog 17 #[.string s] w fun en w' =>
    ∃ g, en = .returned (.pointer (some ⟨g, 0, none⟩)) ∧ Cur w0 w' g (bytesOf s) 0 ∧ w.heap.size ≤ g ∧ Below w0.heap.size w0 w' ∧ Below w.heap.size w w' := by
  refine (tally_From.calls s s 0 w w (Below.refl _ _) rfl).mono ?_
  rintro en w' ⟨g, rfl, hI, _, hb⟩
  refine ⟨g, rfl, ⟨⟨by rw [strOfNums_bytesOf]; exact hI.1, Nat.le_trans hB.size hI.2⟩, Bs.bytesOf s, by rw [bytesOf_size]; exact hs⟩, hI.2, below_then hB hB.size hb, hb⟩
section
variable {w0 w : World} {g : Nat} {r : List Int} {e : Int}
theorem Cur.bytes (hC : Cur w0 w g r e) : bytesOf (strOfNums r) = r := bytesOf_strOfNums hC.2.1
theorem Cur.size (hC : Cur w0 w g r e) : (strOfNums r).size ≤ 4611686018427387904 := by rw [size_strOfNums]; exact hC.2.2
theorem aUint_len (r : List Int) (e : Int) : (aUint r e).2.1.length ≤ r.length := by unfold aUint; split <;> simp
theorem aByte_len (r : List Int) (e : Int) : (aByte r e).2.1.length ≤ r.length := by
  unfold aByte; split
  · split <;> simp
  · simp
theorem aText_len (r : List Int) (m e : Int) : (aText m r e).2.1.length ≤ r.length ∧ (aText m r e).1.length ≤ r.length := by
  unfold aText
  repeat' split
  all_goals simp
  all_goals omega
theorem uint_any (hC : Cur w0 w g r e) (hB : Below w0.heap.size w0 w) : Calls Try.prog 18 #[.pointer (some ⟨g, 0, none⟩)] w fun en w' =>
    en = .returned (.int .u64 (aUint r e).1) ∧ Cur w0 w' g (aUint r e).2.1 (aUint r e).2.2 ∧ Below w0.heap.size w0 w' ∧ KeepBut w w' g none := by
  have h := cUint_f (strOfNums r) e
  rw [hC.bytes] at h
  refine (tally_Cursor_Uint.calls g _ _ _ _ _ w0 w hC.1 hB h).mono ?_
  rintro en w' ⟨rfl, hI, hb, hk⟩
  exact ⟨rfl, ⟨hI, aUint_Bs hC.2.1 e, Nat.le_trans (aUint_len r e) hC.2.2⟩, hb, hk⟩
theorem int_any (hC : Cur w0 w g r e) (hB : Below w0.heap.size w0 w) : Calls Try.prog 24 #[.pointer (some ⟨g, 0, none⟩)] w fun en w' =>
    en = .returned (.int .i64 (aInt r e).1) ∧ Cur w0 w' g (aUint r e).2.1 (aUint r e).2.2 ∧ Below w0.heap.size w0 w' ∧ KeepBut w w' g none := by
  have h := cInt_f (strOfNums r) e
  rw [hC.bytes] at h
  refine (tally_Cursor_Int.calls g _ _ _ _ _ w0 w hC.1 hB h).mono ?_
  rintro en w' ⟨rfl, hI, hb, hk⟩
  exact ⟨rfl, ⟨hI, aUint_Bs hC.2.1 e, Nat.le_trans (aUint_len r e) hC.2.2⟩, hb, hk⟩
theorem byte_any (hC : Cur w0 w g r e) (hB : Below w0.heap.size w0 w) : Calls Try.prog 27 #[.pointer (some ⟨g, 0, none⟩)] w fun en w' =>
    en = .returned (.int .i64 (aByte r e).1) ∧ Cur w0 w' g (aByte r e).2.1 (aByte r e).2.2 ∧ Below w0.heap.size w0 w' ∧ KeepBut w w' g none := by
  have h := cByte_f (strOfNums r) e (by have := hC.size; omega)
  rw [hC.bytes] at h
  refine (tally_Cursor_Byte.calls g _ _ _ _ _ w0 w hC.1 hB h).mono ?_
  rintro en w' ⟨rfl, hI, hb, hk⟩
  exact ⟨rfl, ⟨hI, aByte_Bs hC.2.1 e, Nat.le_trans (aByte_len r e) hC.2.2⟩, hb, hk⟩
theorem text_any (m : Int) (hm : m < 9223372036854775808) (hC : Cur w0 w g r e) (hB : Below w0.heap.size w0 w) : Calls Try.prog 19 #[.pointer (some ⟨g, 0, none⟩), .int .i64 m] w fun en w' =>
    en = .returned (.string (strOfNums (aText m r e).1)) ∧ Cur w0 w' g (aText m r e).2.1 (aText m r e).2.2 ∧ Below w0.heap.size w0 w' ∧ KeepBut w w' g none := by
  have h := cText_f (k := 1) (Nat.le_refl _) (strOfNums r) e m (by have := hC.size; omega) hm
  rw [hC.bytes] at h
  refine (tally_Cursor_Text.calls 1 g _ _ m _ _ _ w0 w hC.1 hB h).mono ?_
  rintro en w' ⟨rfl, hI, hb, hk⟩
  exact ⟨rfl, ⟨hI, (aText_Bs hC.2.1 m e).2, Nat.le_trans (aText_len r m e).1 hC.2.2⟩, hb, hk⟩
theorem err_any (hC : Cur w0 w g r e) (hB : Below w0.heap.size w0 w) : Calls Try.prog 20 #[.pointer (some ⟨g, 0, none⟩)] w fun en w' =>
    en = .returned (.int .i64 e) ∧ Cur w0 w' g r e ∧ Below w0.heap.size w0 w' ∧ KeepBut w w' g none := by
  refine (tally_Cursor_Err.calls g _ _ _ _ _ w0 w hC.1 hB rfl).mono ?_
  rintro en w' ⟨rfl, hI, hb, hk⟩
  exact ⟨rfl, ⟨hI, hC.2⟩, hb, hk⟩
theorem left_any (hC : Cur w0 w g r e) (hB : Below w0.heap.size w0 w) : Calls Try.prog 21 #[.pointer (some ⟨g, 0, none⟩)] w fun en w' =>
    en = .returned (.int .i64 (r.length : Int)) ∧ Cur w0 w' g r e ∧ Below w0.heap.size w0 w' ∧ KeepBut w w' g none := by
  refine (tally_Cursor_Left.calls g _ _ _ _ _ w0 w hC.1 hB rfl).mono ?_
  rintro en w' ⟨rfl, hI, hb, hk⟩
  exact ⟨by rw [size_strOfNums], ⟨hI, hC.2⟩, hb, hk⟩
theorem done_any (hC : Cur w0 w g r e) (hB : Below w0.heap.size w0 w) : Calls Try.prog 30 #[.pointer (some ⟨g, 0, none⟩)] w fun en w' =>
    en = .returned (.int .i64 (aDone r e)) ∧ Cur w0 w' g r e ∧ Below w0.heap.size w0 w' ∧ KeepBut w w' g none := by
  have h := cDone_f (strOfNums r) e
  rw [hC.bytes] at h
  refine (tally_Cursor_Done.calls g _ _ _ _ _ w0 w hC.1 hB h).mono ?_
  rintro en w' ⟨rfl, hI, hb, hk⟩
  exact ⟨rfl, ⟨hI, hC.2⟩, hb, hk⟩
end
/-! the same for what only reads: the very world -/
theorem Cur.cell0 {w0 w : World} {g : Nat} {r : List Int} {e : Int} (hC : Cur w0 w g r e) : w.cell? ⟨g, 0, none⟩ = some (.string (strOfNums r)) := by simp [World.cell?, hC.1.1]
theorem Cur.cell1 {w0 w : World} {g : Nat} {r : List Int} {e : Int} (hC : Cur w0 w g r e) : w.cell? ⟨g, 1, none⟩ = some (.int .i64 e) := by simp [World.cell?, hC.1.1]
set_option maxHeartbeats 400000 in
set_option maxRecDepth 100000 in
theorem err_same {w0 w : World} {g : Nat} {r : List Int} {e : Int} (hC : Cur w0 w g r e) : Calls Try.prog 20 #[.pointer (some ⟨g, 0, none⟩)] w fun en w' => en = .returned (.int .i64 e) ∧ w' = w := by
  have h1 := hC.cell1
  clear hC
  go_enter Try.func20, Try.ntmps20
  go_wp2
  go_ret
  exact ⟨rfl, rfl⟩
set_option maxHeartbeats 400000 in
set_option maxRecDepth 100000 in
theorem left_same {w0 w : World} {g : Nat} {r : List Int} {e : Int} (hC : Cur w0 w g r e) : Calls Try.prog 21 #[.pointer (some ⟨g, 0, none⟩)] w fun en w' => en = .returned (.int .i64 (r.length : Int)) ∧ w' = w := by
  have h1 := hC.cell0
  have hs := size_strOfNums r
  generalize strOfNums r = s at *
  rw [← hs]
  clear hC hs
  go_enter Try.func21, Try.ntmps21
  go_wp2
  go_ret
  exact ⟨rfl, rfl⟩
/-! the writers: onto a row of the call's own, or nil -/
theorem below_of_kept {w w' : World} (hb : Below w.heap.size w w') : Below w.heap.size w w' := hb
/-- Bytes that the call owns, from w0 on. -/
def Own (w0 w : World) (v : Value) (l : List Int) : Prop := (Kd.int .u8).R 5 w w0.heap.size (fun _ => True) v l
theorem Own.nil (w0 w : World) : Own w0 w (.slice none 0 0) [] := Kd.R_nil _ _ _ _ _
theorem putU_any {w0 w : World} {v : Value} {l : List Int} {x : Int} (hO : Own w0 w v l) (hB : Below w0.heap.size w0 w) (hl : l.length + 9 ≤ 140737488355328) (hx : u64 x) : Calls Try.prog 11 #[v, .int .u64 x] w fun en w' =>
    ∃ v', en = .returned v' ∧ Own w0 w' v' (l ++ encU x) ∧ Below w0.heap.size w0 w' ∧ Kept w w' (fun k => v.ownBlock = some k) := by
  refine (tally_Uint.calls 10 (fun k => v.ownBlock = some k) v l x _ w0 w hB (Kd.R_mono (Kd.R_tight rfl hO) (fun k hk => hk.symm)) (Uint_f (Nat.le_refl _) hl hx)).mono ?_
  rintro en w' ⟨v', rfl, ho, hb, hk⟩
  exact ⟨v', rfl, Kd.R_mono ho (fun _ _ => trivial), hb, hk⟩
theorem putI_any {w0 w : World} {v : Value} {l : List Int} {x : Int} (hO : Own w0 w v l) (hB : Below w0.heap.size w0 w) (hl : l.length + 9 ≤ 140737488355328) (hx : i64 x) : Calls Try.prog 12 #[v, .int .i64 x] w fun en w' =>
    ∃ v', en = .returned v' ∧ Own w0 w' v' (l ++ encI x) ∧ Below w0.heap.size w0 w' ∧ Kept w w' (fun k => v.ownBlock = some k) := by
  refine (tally_Int.calls 10 (fun k => v.ownBlock = some k) v l x _ w0 w hB (Kd.R_mono (Kd.R_tight rfl hO) (fun k hk => hk.symm)) (Int_f (Nat.le_refl _) hl hx)).mono ?_
  rintro en w' ⟨v', rfl, ho, hb, hk⟩
  exact ⟨v', rfl, Kd.R_mono ho (fun _ _ => trivial), hb, hk⟩
theorem putT_any {w0 w : World} {v : Value} {l : List Int} {s : ByteArray} (hO : Own w0 w v l) (hB : Below w0.heap.size w0 w) (hl : l.length + 9 + s.size < 140737488355328) : Calls Try.prog 13 #[v, .string s] w fun en w' =>
    ∃ v', en = .returned v' ∧ Own w0 w' v' (l ++ encT (bytesOf s)) ∧ Below w0.heap.size w0 w' ∧ Kept w w' (fun k => v.ownBlock = some k) := by
  refine (tally_Text.calls 10 (fun k => v.ownBlock = some k) v l s _ w0 w hB (Kd.R_mono (Kd.R_tight rfl hO) (fun k hk => hk.symm)) (Text_f (Nat.le_refl _) hl)).mono ?_
  rintro en w' ⟨v', rfl, ho, hb, hk⟩
  exact ⟨v', rfl, Kd.R_mono ho (fun _ _ => trivial), hb, hk⟩
/-- 'string(b)' of such bytes. -/
theorem Own.str {w0 w : World} {v : Value} {l : List Int} (h : Own w0 w v l) : (convert 24 9 v).run Try.prog w = .ok (.string (strOfNums l)) w :=
  own_string Try.underlying24 Try.underlying5 Try.underlying9 (Kd.own_of_R h)
theorem Own.below {w0 W W' : World} {v : Value} {l : List Int} (h : Own w0 W v l) (hb : Below W.heap.size W W') : Own w0 W' v l := Kd.R_below h hb
theorem Own.kept {w0 W W' : World} {v : Value} {l : List Int} {S : Nat → Prop} (h : Own w0 W v l) (hk : Kept W W' S) (hn : ∀ k, v.ownBlock = some k → ¬ S k) : Own w0 W' v l := by
  have h' := Kd.R_tight rfl h
  exact Kd.R_mono (Kd.R_step h' (fun k hk' hlt => hk.2 k hlt (hn k hk'.symm))) (fun _ _ => trivial)
section
variable {ops : Array Oper} {rest : List Oper} {o : Oper} {a : Act} {Q : Exit → Act → World → Prop}
/-- 'append([]byte(nil), b...)', b read. -/
theorem app_copy {w0 W : World} (hgd : o.guard = none) (s x : Operand) (ho : o.op = .call { callee := .builtin .append, args := #[s, x], argTypes := #[24, 24] })
    {A : Option Addr} {n c : Nat} {ys : List Int} (hs : a.eval s = .slice none 0 0) (hx : a.eval x = .slice A n c) (HR : (Kd.int .u8).C W A n ys) (HB : Below w0.heap.size w0 W) (hl : n ≤ 140737488355328)
    (h : ∀ v1 w1, Own w0 w1 v1 ys → Below w0.heap.size w0 w1 → Below W.heap.size W w1 → (∀ k, v1.ownBlock = some k → W.heap.size ≤ k) → wpList Try.prog ops Q rest (a.put o.dst v1) w1) : wpList Try.prog ops Q (o :: rest) a W := by
  refine Kd.R_append_rows (Kd.int .u8) (Rr := (Kd.int .u8).K W) (w0 := w0) w0.heap.size hgd s x 24 5 (.int .u8 0) 1 ho Try.underlying24 info5 rfl (by decide) (by omega) (.slice none 0 0) [] ys A n c (fun _ => True) (fun _ => False) hs hx (Kd.R_nil _ _ _ _ _) HR (fun _ _ h => h) (fun _ h => h.elim) (fun _ _ => trivial) HB HB.size (by simp; omega) ?_
  intro v1 w1 ho1 hb1 hg hat
  refine h v1 w1 ho1 hb1 ⟨hg.os, hg.tape, hg.output, hg.size, fun i hi => hg.block i hi (by simp [Value.ownBlock])⟩ (fun k hk => ?_)
  rcases hat with hat | ⟨b, hat, hb⟩
  · rw [hat] at hk; simp [Value.ownBlock] at hk
  · rw [hat] at hk; cases hk; exact hb
end
theorem sum_one {α : Type} (l : List α) : (l.map fun _ => 1).sum = l.length := by
  induction l with
  | nil => rfl
  | cons x l ih => simp only [List.map_cons, List.sum_cons, ih, List.length_cons]; omega
theorem Own.new {w0 W : World} {v : Value} {l : List Int} (h : Own w0 W v l) (k : Nat) (hk : v.ownBlock = some k) : k < W.heap.size := by
  obtain ⟨inner, ho⟩ := Kd.R_own h
  exact own_lt ho k hk
theorem Own.kept_nil {w0 W W' : World} {v : Value} {l : List Int} (h : Own w0 W v l) (hk : Kept W W' (fun k => (Value.slice none 0 0).ownBlock = some k)) : Own w0 W' v l :=
  Kd.R_step h (fun k _ hlt => hk.2 k hlt (by simp [Value.ownBlock]))
theorem Cur.kept {w0 W W' : World} {g : Nat} {r : List Int} {e : Int} {S : Nat → Prop} (h : Cur w0 W g r e) (hk : Kept W W' S) (hn : ¬ S g) : Cur w0 W' g r e := by
  refine ⟨⟨?_, h.1.2⟩, h.2⟩
  rw [hk.2 g h.lt hn]
  exact h.1.1
end Go.Proofs.Ytofjpagpjkdapaa.G
