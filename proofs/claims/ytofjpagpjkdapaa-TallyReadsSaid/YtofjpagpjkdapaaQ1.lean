import Derived.Test.YtofjpagpjkdapaaWWords
import Derived.Laws.BitsAllLaws
/-! Plain: numbers as bytes and back (layer 1). -/
namespace Go.Proofs.YtofjpagpjkdapaaQ
open Go.Proofs.YtofjpagpjkdapaaW.PrintWords
set_option linter.unusedVariables false
set_option linter.unusedSimpArgs false

/-! ### bytes and lists -/
/-- All are bytes. -/
def Bs (l : List Int) : Prop := ∀ x ∈ l, 0 ≤ x ∧ x < 256
theorem Bs.nil : Bs [] := fun _ h => by cases h
theorem Bs.cons {x : Int} {l : List Int} (h0 : 0 ≤ x) (h1 : x < 256) (h : Bs l) : Bs (x :: l) := fun y hy => by
  rcases List.mem_cons.1 hy with rfl | hy
  · exact ⟨h0, h1⟩
  · exact h y hy
theorem Bs.app {a b : List Int} (ha : Bs a) (hb : Bs b) : Bs (a ++ b) := fun y hy => by
  rcases List.mem_append.1 hy with hy | hy
  · exact ha y hy
  · exact hb y hy
theorem Bs.drop {l : List Int} (h : Bs l) (n : Nat) : Bs (l.drop n) := fun y hy => h y (List.mem_of_mem_drop hy)
theorem Bs.take {l : List Int} (h : Bs l) (n : Nat) : Bs (l.take n) := fun y hy => h y (List.mem_of_mem_take hy)
theorem Bs.tail {x : Int} {l : List Int} (h : Bs (x :: l)) : Bs l := fun y hy => h y (List.mem_cons_of_mem _ hy)
theorem Bs.head {x : Int} {l : List Int} (h : Bs (x :: l)) : 0 ≤ x ∧ x < 256 := h x List.mem_cons_self
theorem Bs.of_app_left {a b : List Int} (h : Bs (a ++ b)) : Bs a := fun y hy => h y (List.mem_append_left _ hy)
theorem Bs.of_app_right {a b : List Int} (h : Bs (a ++ b)) : Bs b := fun y hy => h y (List.mem_append_right _ hy)
theorem Bs.bytesOf (s : ByteArray) : Bs (bytesOf s) := fun y hy => by
  unfold Go.Proofs.YtofjpagpjkdapaaW.PrintWords.bytesOf at hy
  rw [List.mem_map] at hy
  obtain ⟨b, _, rfl⟩ := hy
  have := b.toNat_lt
  omega
theorem bytesOf_inj {a b : ByteArray} (h : bytesOf a = bytesOf b) : a = b := by
  unfold bytesOf at h
  have hi : Function.Injective (fun b : UInt8 => (b.toNat : Int)) := fun x y e => UInt8.toNat_inj.1 (by have e' : (x.toNat : Int) = (y.toNat : Int) := e; omega)
  have h1 : a.data.toList = b.data.toList := List.map_inj_right (fun x y e => hi e) |>.1 h
  cases a; cases b
  simp at h1
  simp [h1]
theorem bytesOf_strOfNums {l : List Int} (h : Bs l) : bytesOf (strOfNums l) = l := by
  unfold bytesOf strOfNums
  simp only [List.map_map]
  conv => rhs; rw [← List.map_id l]
  apply List.map_congr_left
  intro x hx
  obtain ⟨h0, h1⟩ := h x hx
  simp only [Function.comp, id, UInt8.toNat_ofNat']
  omega
theorem strOfNums_bytesOf (s : ByteArray) : strOfNums (bytesOf s) = s := bytesOf_inj (bytesOf_strOfNums (Bs.bytesOf s))
theorem bytesOf_append (a b : ByteArray) : bytesOf (a ++ b) = bytesOf a ++ bytesOf b := by
  simp [bytesOf, ByteArray.data_append]
theorem strOfNums_append (a b : List Int) : strOfNums (a ++ b) = strOfNums a ++ strOfNums b := by
  cases h : strOfNums (a ++ b)
  simp [strOfNums] at h
  subst h
  apply ByteArray.ext
  simp [strOfNums]
theorem bytesOf_nil : bytesOf (⟨#[]⟩ : ByteArray) = [] := rfl
theorem bytesOf_extract (s : ByteArray) (a b : Nat) : bytesOf (s.extract a b) = ((bytesOf s).take b).drop a := by
  unfold bytesOf
  rw [ByteArray.data_extract]
  simp [List.map_drop, List.map_take, List.drop_take]
theorem bytesOf_size (s : ByteArray) : (bytesOf s).length = s.size := bytesOf_length s
theorem size_eq (s : ByteArray) : s.size = (bytesOf s).length := (bytesOf_length s).symm
theorem bytesOf_tail (s : ByteArray) (a : Nat) : bytesOf (s.extract a s.size) = (bytesOf s).drop a := by
  rw [bytesOf_extract, List.take_of_length_le (by rw [bytesOf_size]; exact Nat.le_refl _)]
theorem bt_rd (s : ByteArray) (i : Int) : bt s i = rd (bytesOf s) i := (rd_bytesOf s i).symm
theorem size_strOfNums (l : List Int) : (strOfNums l).size = l.length := by simp [strOfNums, ByteArray.size]
theorem size_zero_iff (s : ByteArray) : s.size = 0 ↔ bytesOf s = [] := by rw [size_eq]; exact List.length_eq_zero_iff
theorem eq_nil_of_bytes {s : ByteArray} (h : bytesOf s = []) : s = ⟨#[]⟩ := bytesOf_inj (h.trans bytesOf_nil.symm)
/-- As the walk holds two texts against each other. -/
theorem chars_eq (a b : ByteArray) : a.toList = b.toList ↔ a = b := by
  constructor
  · intro h
    rw [ByteArray.toList_eq, ByteArray.toList_eq] at h
    cases a; cases b
    simp at h
    simp [h]
  · exact fun h => by rw [h]

/-! ### the encoding of a number -/
def encU (n : Int) : List Int :=
  if n < 64 then [n] else if n < 16384 then [64 + n / 256, n % 256]
  else if n < 1073741824 then [128 + n / 16777216, n / 65536 % 256, n / 256 % 256, n % 256]
  else [192, n / 72057594037927936 % 256, n / 281474976710656 % 256, n / 1099511627776 % 256, n / 4294967296 % 256, n / 16777216 % 256, n / 65536 % 256, n / 256 % 256, n % 256]
/-- A number with a sign, without. -/
def fold (n : Int) : Int := if n < 0 then -2 * n - 1 else 2 * n
/-- And back. -/
def unfold_ (n : Int) : Int := if n % 2 = 1 then -(n / 2) - 1 else n / 2
def encI (n : Int) : List Int := encU (fold n)
def encT (s : List Int) : List Int := encU s.length ++ s
def u64 (n : Int) : Prop := 0 ≤ n ∧ n < 18446744073709551616
def i64 (n : Int) : Prop := -9223372036854775808 ≤ n ∧ n < 9223372036854775808
theorem encU_Bs {n : Int} (h : u64 n) : Bs (encU n) := by
  unfold encU
  obtain ⟨h0, h1⟩ := h
  split
  · exact Bs.cons (by omega) (by omega) Bs.nil
  · split
    · exact Bs.cons (by omega) (by omega) (Bs.cons (by omega) (by omega) Bs.nil)
    · split
      · exact Bs.cons (by omega) (by omega) (Bs.cons (by omega) (by omega) (Bs.cons (by omega) (by omega) (Bs.cons (by omega) (by omega) Bs.nil)))
      · refine Bs.cons (by omega) (by omega) (Bs.cons (by omega) (by omega) (Bs.cons (by omega) (by omega) (Bs.cons (by omega) (by omega) (Bs.cons (by omega) (by omega) (Bs.cons (by omega) (by omega) (Bs.cons (by omega) (by omega) (Bs.cons (by omega) (by omega) (Bs.cons (by omega) (by omega) Bs.nil))))))))
theorem encU_len (n : Int) : 1 ≤ (encU n).length ∧ (encU n).length ≤ 9 := by
  unfold encU
  split
  · simp
  · split
    · simp
    · split <;> simp
theorem fold_u64 {n : Int} (h : i64 n) : u64 (fold n) := by
  unfold fold; obtain ⟨h0, h1⟩ := h; unfold u64; split <;> omega
theorem unfold_fold (n : Int) : unfold_ (fold n) = n := by unfold fold unfold_; split <;> split <;> omega
theorem fold_unfold {n : Int} (h : 0 ≤ n) : fold (unfold_ n) = n := by unfold fold unfold_; split <;> split <;> omega
theorem unfold_i64 {n : Int} (h : u64 n) : i64 (unfold_ n) := by unfold unfold_; obtain ⟨h0, h1⟩ := h; unfold i64; split <;> omega
theorem encI_Bs {n : Int} (h : i64 n) : Bs (encI n) := encU_Bs (fold_u64 h)

/-! ### and back -/
def numI (x : Int) (l : List Int) : Int := l.foldl (fun a c => a * 256 + c) x
theorem numI_snoc (x : Int) (l : List Int) (c : Int) : numI x (l ++ [c]) = numI x l * 256 + c := by
  unfold numI; rw [List.foldl_append]; rfl
theorem numI_cons (x c : Int) (l : List Int) : numI x (c :: l) = numI (x * 256 + c) l := rfl
theorem numI_nil (x : Int) : numI x [] = x := rfl
theorem numI_step (x : Int) (l : List Int) (k : Nat) (h : k < l.length) : numI x (l.take (k + 1)) = numI x (l.take k) * 256 + rd l k := by
  rw [List.take_succ_eq_append_getElem h, numI_snoc]; simp [rd, List.getD_eq_getElem?_getD, List.getElem?_eq_getElem h]
theorem numI_bd {x : Int} (h0 : 0 ≤ x) (l : List Int) (hl : Bs l) : 0 ≤ numI x l ∧ numI x l < (x + 1) * 256 ^ l.length := by
  induction l generalizing x with
  | nil => simp [numI]; omega
  | cons c l ih =>
    have hc := hl.head
    obtain ⟨a, b⟩ := ih (x := x * 256 + c) (by omega) hl.tail
    rw [numI_cons]
    refine ⟨a, Int.lt_of_lt_of_le b ?_⟩
    rw [List.length_cons, Int.pow_succ, Int.mul_comm (256 ^ l.length), ← Int.mul_assoc]
    exact Int.mul_le_mul_of_nonneg_right (by omega) (Int.pow_nonneg (by omega))
/-- By a first byte: how many more. -/
def szU (b : Int) : Nat := if b < 64 then 0 else if b < 128 then 1 else if b < 192 then 3 else 8
def leastU (n : Nat) : Int := if n = 1 then 64 else if n = 3 then 16384 else if n = 8 then 1073741824 else 0
/-- The number that comes first, how many bytes it has, the error. -/
def decU : List Int → Int × Nat × Int
  | [] => (0, 0, 2)
  | b :: r => if 192 < b then (0, 0, 5) else if r.length < szU b then (0, 0, 2) else
    if numI (b % 64) (r.take (szU b)) < leastU (szU b) then (0, 0, 5) else (numI (b % 64) (r.take (szU b)), szU b + 1, 0)
theorem decU_enc {n : Int} (h : u64 n) (r : List Int) : decU (encU n ++ r) = (n, (encU n).length, 0) := by
  obtain ⟨h0, h1⟩ := h
  unfold encU
  by_cases c1 : n < 64
  · rw [if_pos c1]
    have e1 : szU n = 0 := by unfold szU; rw [if_pos c1]
    simp only [List.cons_append, List.nil_append, decU, e1]
    rw [if_neg (by omega), if_neg (by omega), if_neg (by simp [numI, leastU]; omega)]
    simp [numI]; omega
  · rw [if_neg c1]
    by_cases c2 : n < 16384
    · rw [if_pos c2]
      have e1 : szU (64 + n / 256) = 1 := by unfold szU; rw [if_neg (by omega), if_pos (by omega)]
      simp only [List.cons_append, List.nil_append, decU, e1]
      rw [if_neg (by omega), if_neg (by simp), if_neg (by simp [numI, leastU]; omega)]
      simp [numI]; omega
    · rw [if_neg c2]
      by_cases c3 : n < 1073741824
      · rw [if_pos c3]
        have e1 : szU (128 + n / 16777216) = 3 := by unfold szU; rw [if_neg (by omega), if_neg (by omega), if_pos (by omega)]
        simp only [List.cons_append, List.nil_append, decU, e1]
        rw [if_neg (by omega), if_neg (by simp), if_neg (by simp [numI, leastU]; omega)]
        simp [numI]; omega
      · rw [if_neg c3]
        have e1 : szU 192 = 8 := by decide
        simp only [List.cons_append, List.nil_append, decU, e1]
        rw [if_neg (by omega), if_neg (by simp), if_neg (by simp [numI, leastU]; omega)]
        simp [numI]; omega
theorem decU_bytes {l : List Int} (hl : Bs l) {x : Int} {n : Nat} (h : decU l = (x, n, 0)) : n ≤ l.length ∧ u64 x ∧ l.take n = encU x := by
  cases l with
  | nil => simp [decU] at h
  | cons b r =>
    have hb := hl.head
    have hr := hl.tail
    simp only [decU] at h
    split at h
    · simp at h
    · rename_i c1
      split at h
      · simp at h
      · rename_i c2
        split at h
        · simp at h
        · rename_i c3
          simp only [Prod.mk.injEq] at h
          obtain ⟨rfl, rfl, _⟩ := h
          by_cases d1 : b < 64
          · have e1 : szU b = 0 := by unfold szU; rw [if_pos d1]
            simp only [e1] at *
            simp only [List.take_zero, numI, List.foldl_nil] at *
            refine ⟨by simp, ?_, ?_⟩
            · unfold u64; omega
            · unfold encU; rw [if_pos (by omega)]; simp; omega
          · by_cases d2 : b < 128
            · have e1 : szU b = 1 := by unfold szU; rw [if_neg d1, if_pos d2]
              simp only [e1] at *
              match r, c2, hr with
              | a :: r, _, hr =>
                have ha := hr.head
                simp [numI, leastU] at *
                refine ⟨?_, ?_⟩
                · unfold u64; omega
                · unfold encU; rw [if_neg (by omega), if_pos (by omega)]; simp; omega
            · by_cases d3 : b < 192
              · have e1 : szU b = 3 := by unfold szU; rw [if_neg d1, if_neg d2, if_pos d3]
                simp only [e1] at *
                match r, c2, hr with
                | a0 :: a1 :: a2 :: r, _, hr =>
                  have ha := hr.head
                  have ha1 := hr.tail.head
                  have ha2 := hr.tail.tail.head
                  simp [numI, leastU] at *
                  refine ⟨?_, ?_⟩
                  · unfold u64; omega
                  · unfold encU; rw [if_neg (by omega), if_neg (by omega), if_pos (by omega)]; simp; omega
                | [], h, _ => simp at h
                | [_], h, _ => simp at h
                | [_, _], h, _ => simp at h
              · have e0 : b = 192 := by omega
                subst e0
                have e1 : szU 192 = 8 := by decide
                simp only [e1] at *
                match r, c2, hr with
                | a0 :: a1 :: a2 :: a3 :: a4 :: a5 :: a6 :: a7 :: r, _, hr =>
                  have g0 := hr.head
                  have g1 := hr.tail.head
                  have g2 := hr.tail.tail.head
                  have g3 := hr.tail.tail.tail.head
                  have g4 := hr.tail.tail.tail.tail.head
                  have g5 := hr.tail.tail.tail.tail.tail.head
                  have g6 := hr.tail.tail.tail.tail.tail.tail.head
                  have g7 := hr.tail.tail.tail.tail.tail.tail.tail.head
                  simp [numI, leastU] at *
                  refine ⟨?_, ?_⟩
                  · unfold u64; omega
                  · unfold encU; rw [if_neg (by omega), if_neg (by omega), if_neg (by omega)]; simp; omega
                | [], h, _ => simp at h
                | [_], h, _ => simp at h
                | [_, _], h, _ => simp at h
                | [_, _, _], h, _ => simp at h
                | [_, _, _, _], h, _ => simp at h
                | [_, _, _, _, _], h, _ => simp at h
                | [_, _, _, _, _, _], h, _ => simp at h
                | [_, _, _, _, _, _, _], h, _ => simp at h
theorem decU_err {l : List Int} {x : Int} {n : Nat} {e : Int} (h : decU l = (x, n, e)) : (e = 0 ∧ 0 < n) ∨ ((e = 2 ∨ e = 5) ∧ x = 0 ∧ n = 0) := by
  cases l with
  | nil => simp [decU] at h; omega
  | cons b r =>
    simp only [decU] at h
    repeat' split at h
    all_goals simp only [Prod.mk.injEq] at h; omega
theorem decU_le {l : List Int} {x : Int} {n : Nat} {e : Int} (h : decU l = (x, n, e)) : n ≤ l.length := by
  cases l with
  | nil => simp [decU] at h; omega
  | cons b r =>
    simp only [decU] at h
    repeat' split at h
    all_goals (simp only [Prod.mk.injEq] at h; simp; omega)
end Go.Proofs.YtofjpagpjkdapaaQ
