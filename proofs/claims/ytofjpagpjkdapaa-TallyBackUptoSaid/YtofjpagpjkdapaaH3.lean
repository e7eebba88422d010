import Derived.Test.YtofjpagpjkdapaaRT
/-! TallyBack's plain part: what things are as bytes, and that reading gives them back; a byte appended. -/
namespace Go.Proofs.Ytofjpagpjkdapaa.G
open Go.RowKit Go.Proofs.YtofjpagpjkdapaaQ Go.Proofs.YtofjpagpjkdapaaW.PrintWords Go.Proofs.YtofjpagpjkdapaaW.PrintLast Go.Proofs.YtofjpagpjkdapaaW.PrintMore
set_option linter.unusedVariables false
set_option linter.unusedSimpArgs false
def encX (x : ST) : List Int := if kdT x.f0 = 0 then encU (IntKind.u64.wrap x.f1) else if kdT x.f0 = 1 then encI x.f1 else if kdT x.f0 = 2 then encT (bytesOf x.f2) else [x.f1 % 256]
def encAll (l : List ST) : List Int := l.flatMap encX
theorem encAll_cons (x : ST) (l : List ST) : encAll (x :: l) = encX x ++ encAll l := rfl
theorem encAll_snoc (l : List ST) (x : ST) : encAll (l ++ [x]) = encAll l ++ encX x := by simp [encAll]
theorem encX0 {x : ST} (h : kdT x.f0 = 0) : encX x = encU (IntKind.u64.wrap x.f1) := by unfold encX; rw [if_pos h]
theorem encX1 {x : ST} (h : kdT x.f0 = 1) : encX x = encI x.f1 := by unfold encX; rw [if_neg (by omega), if_pos h]
theorem encX2 {x : ST} (h : kdT x.f0 = 2) : encX x = encT (bytesOf x.f2) := by unfold encX; rw [if_neg (by omega), if_neg (by omega), if_pos h]
theorem encX3 {x : ST} (h : kdT x.f0 = 3) : encX x = [x.f1 % 256] := by unfold encX; rw [if_neg (by omega), if_neg (by omega), if_neg (by omega)]
theorem u64_wrap (x : Int) : u64 (IntKind.u64.wrap x) := by rw [wu64_def]; unfold u64; omega
theorem encX_len (x : ST) : (encX x).length ≤ 9 * BT x := by
  have l1 := encU_len (IntKind.u64.wrap x.f1)
  have l2 := encU_len (fold x.f1)
  have l3 := encU_len ((bytesOf x.f2).length : Int)
  have l4 := bytesOf_size x.f2
  unfold BT
  rcases kdT_cases x.f0 with h | h | h | h
  · rw [encX0 h]; omega
  · rw [encX1 h]; show (encU (fold x.f1)).length ≤ _; omega
  · rw [encX2 h]; unfold encT; rw [List.length_append]; omega
  · rw [encX3 h]; simp; omega
theorem encAll_len (l : List ST) : (encAll l).length ≤ 9 * (l.map BT).sum := by
  induction l with
  | nil => simp [encAll]
  | cons x l ih => rw [encAll_cons, List.length_append, List.map_cons, List.sum_cons]; have := encX_len x; omega
theorem encAll_take (l : List ST) (i : Nat) : (encAll (l.take i)).length ≤ 9 * (l.map BT).sum := by
  have h := encAll_len l
  have : encAll l = encAll (l.take i) ++ encAll (l.drop i) := by unfold encAll; rw [← List.flatMap_append, List.take_append_drop]
  rw [this, List.length_append] at h
  omega
theorem size_u64 {n : Nat} (h : n ≤ 1048576) : u64 (n : Int) := by unfold u64; omega
theorem encX_Bs {x : ST} (hx : OkT x) (hs : x.f2.size ≤ 1048576) : Bs (encX x) := by
  rcases kdT_cases x.f0 with h | h | h | h
  · rw [encX0 h]; exact encU_Bs (u64_wrap _)
  · rw [encX1 h]; exact encI_Bs hx.2
  · rw [encX2 h]; unfold encT; exact (encU_Bs (by rw [bytesOf_size]; exact size_u64 hs)).app (Bs.bytesOf _)
  · rw [encX3 h]; exact Bs.cons (by omega) (by omega) Bs.nil
theorem encAll_Bs {l : List ST} (h : ∀ x ∈ l, OkT x ∧ x.f2.size ≤ 1048576) : Bs (encAll l) := by
  induction l with
  | nil => exact Bs.nil
  | cons x l ih => rw [encAll_cons]; exact (encX_Bs (h x List.mem_cons_self).1 (h x List.mem_cons_self).2).app (ih fun y hy => h y (List.mem_cons_of_mem _ hy))
theorem back0 {x : ST} (h : kdT x.f0 = 0) (r : List Int) : aUint (encX x ++ r) 0 = (IntKind.u64.wrap x.f1, r, 0) := by
  unfold aUint
  rw [if_pos rfl, encX0 h, decU_enc (u64_wrap _)]
  simp
theorem back1 {x : ST} (h : kdT x.f0 = 1) (hx : i64 x.f1) (r : List Int) : aUint (encX x ++ r) 0 = (fold x.f1, r, 0) := by
  unfold aUint
  rw [if_pos rfl, encX1 h]
  unfold encI
  rw [decU_enc (fold_u64 hx)]
  simp
theorem back1' {x : ST} (h : kdT x.f0 = 1) (hx : i64 x.f1) (r : List Int) : aInt (encX x ++ r) 0 = (x.f1, r, 0) := by
  unfold aInt
  rw [back1 h hx, unfold_fold]
theorem back2 {x : ST} (h : kdT x.f0 = 2) (hs : x.f2.size ≤ 1048576) (r : List Int) : aText (x.f2.size : Int) (encX x ++ r) 0 = (bytesOf x.f2, r, 0) := by
  unfold aText
  rw [if_pos rfl, encX2 h]
  unfold encT
  rw [List.append_assoc, decU_enc (by rw [bytesOf_size]; exact size_u64 hs)]
  have hsz := bytesOf_size x.f2
  simp only [List.drop_left, Int.toNat_natCast]
  first | rw [if_pos trivial] | skip
  rw [if_neg (by omega), if_neg (by rw [List.length_append]; omega)]
  rw [List.take_left]
theorem back3 {x : ST} (h : kdT x.f0 = 3) (r : List Int) : aByte (encX x ++ r) 0 = (x.f1 % 256, r, 0) := by
  rw [encX3 h]; rfl
theorem drop_cons {l : List ST} {i : Nat} {x : ST} (hi : i < l.length) (hx : rdT l i = x) : l.drop i = x :: l.drop (i + 1) := by
  rw [List.drop_eq_getElem_cons hi]
  congr 1
  rw [← hx]; unfold rdT; rw [List.getD_eq_getElem?_getD, List.getElem?_eq_getElem hi]; rfl
theorem take_snoc {l : List ST} {i : Nat} {x : ST} (hi : i < l.length) (hx : rdT l i = x) : l.take (i + 1) = l.take i ++ [x] := by
  rw [List.take_add_one, List.getElem?_eq_getElem hi]
  congr 1
  rw [← hx]; unfold rdT; rw [List.getD_eq_getElem?_getD, List.getElem?_eq_getElem hi]; rfl
section
variable {ops : Array Oper} {rest : List Oper} {o : Oper} {a : Act} {Q : Exit → Act → World → Prop}
/-- A byte appended to bytes of the call's own. -/
theorem app_byte {w0 W : World} (hgd : o.guard = none) (s x : Operand) (ho : o.op = .call { callee := .builtin .append, args := #[s, x], argTypes := #[24, 24] })
    {v : Value} {l : List Int} {y : Int} (hs : a.eval s = v) (hx : a.eval x = .slice (some ⟨W.heap.size, 0, none⟩) 1 1) (HO : Own w0 W v l) (HB : Below w0.heap.size w0 W) (hl : l.length + 1 ≤ 140737488355328)
    (h : ∀ v1 w1, Own w0 w1 v1 (l ++ [y]) → Below w0.heap.size w0 w1 → wpList Try.prog ops Q rest (a.put o.dst v1) w1) : wpList Try.prog ops Q (o :: rest) a (W.alloc (.cells #[.int .u8 y] 5)) :=
  Kd.R_append (Kd.int .u8) (w0 := w0) w0.heap.size hgd s x 24 5 (.int .u8 0) 1 ho Try.underlying24 info5 rfl (by decide) (by omega) v l y [.int .u8 y] (fun _ => True) (fun _ => False) hs hx rfl (fun _ h => h.elim) (fun _ _ => trivial) HO HB HB.size (by omega)
    (fun v1 w1 ho1 hb1 _ _ => h v1 w1 ho1 hb1)
end
end Go.Proofs.Ytofjpagpjkdapaa.G
