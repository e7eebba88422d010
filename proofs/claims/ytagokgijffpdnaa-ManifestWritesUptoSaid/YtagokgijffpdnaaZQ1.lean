import Derived.Test.YtagokgijffpdnaaZWWords
import Derived.Laws.BitsAllLaws
namespace Go.Proofs.YtagokgijffpdnaaQ
open Go.Proofs.YtagokgijffpdnaaW.PrintWords
set_option linter.unusedVariables false
set_option linter.unusedSimpArgs false
def Bs (l : List Int) : Prop := ∀ x ∈ l, 0 ≤ x ∧ x < 256
theorem Bs.nil : Bs [] := fun _ h => by cases h
theorem Bs.cons {x : Int} {l : List Int} (h0 : 0 ≤ x) (h1 : x < 256) (h : Bs l) : Bs (x :: l) := fun y hy => by
  rcases List.mem_cons.1 hy with rfl | hy
  · exact ⟨h0, h1⟩
  · exact h y hy
theorem Bs.app {a b : List Int} (ha : Bs a) (hb : Bs b) : Bs (a ++ b) := fun y hy => by
  rcases List.mem_append.1 hy with hy | hy
  · exact ha y hy
  · exact hb y hy
theorem Bs.drop {l : List Int} (h : Bs l) (n : Nat) : Bs (l.drop n) := fun y hy => h y (List.mem_of_mem_drop hy)
theorem Bs.take {l : List Int} (h : Bs l) (n : Nat) : Bs (l.take n) := fun y hy => h y (List.mem_of_mem_take hy)
theorem Bs.bytesOf (s : ByteArray) : Bs (bytesOf s) := fun y hy => by
  unfold Go.Proofs.YtagokgijffpdnaaW.PrintWords.bytesOf at hy
  rw [List.mem_map] at hy
  obtain ⟨b, _, rfl⟩ := hy
  have := b.toNat_lt
  omega
theorem bytesOf_inj {a b : ByteArray} (h : bytesOf a = bytesOf b) : a = b := by
  unfold bytesOf at h
  have hi : Function.Injective (fun b : UInt8 => (b.toNat : Int)) := fun x y e => UInt8.toNat_inj.1 (by have e' : (x.toNat : Int) = (y.toNat : Int) := e; omega)
  have h1 : a.data.toList = b.data.toList := List.map_inj_right (fun x y e => hi e) |>.1 h
  cases a; cases b
  simp at h1
  simp [h1]
theorem bytesOf_strOfNums {l : List Int} (h : Bs l) : bytesOf (strOfNums l) = l := by
  unfold bytesOf strOfNums
  simp only [List.map_map]
  conv => rhs; rw [← List.map_id l]
  apply List.map_congr_left
  intro x hx
  obtain ⟨h0, h1⟩ := h x hx
  simp only [Function.comp, id, UInt8.toNat_ofNat']
  omega
theorem strOfNums_bytesOf (s : ByteArray) : strOfNums (bytesOf s) = s := bytesOf_inj (bytesOf_strOfNums (Bs.bytesOf s))
theorem strOfNums_append (a b : List Int) : strOfNums (a ++ b) = strOfNums a ++ strOfNums b := by
  cases h : strOfNums (a ++ b)
  simp [strOfNums] at h
  subst h
  apply ByteArray.ext
  simp [strOfNums]
theorem bytesOf_extract (s : ByteArray) (a b : Nat) : bytesOf (s.extract a b) = ((bytesOf s).take b).drop a := by
  unfold bytesOf
  rw [ByteArray.data_extract]
  simp [List.map_drop, List.map_take, List.drop_take]
theorem bytesOf_size (s : ByteArray) : (bytesOf s).length = s.size := bytesOf_length s
theorem bytesOf_tail (s : ByteArray) (a : Nat) : bytesOf (s.extract a s.size) = (bytesOf s).drop a := by
  rw [bytesOf_extract, List.take_of_length_le (by rw [bytesOf_size]; exact Nat.le_refl _)]
theorem bt_rd (s : ByteArray) (i : Int) : bt s i = rd (bytesOf s) i := (rd_bytesOf s i).symm
theorem size_strOfNums (l : List Int) : (strOfNums l).size = l.length := by simp [strOfNums, ByteArray.size]
def encU (n : Int) : List Int :=
  if n < 64 then [n] else if n < 16384 then [64 + n / 256, n % 256]
  else if n < 1073741824 then [128 + n / 16777216, n / 65536 % 256, n / 256 % 256, n % 256]
  else [192, n / 72057594037927936 % 256, n / 281474976710656 % 256, n / 1099511627776 % 256, n / 4294967296 % 256, n / 16777216 % 256, n / 65536 % 256, n / 256 % 256, n % 256]
def fold (n : Int) : Int := if n < 0 then -2 * n - 1 else 2 * n
def encI (n : Int) : List Int := encU (fold n)
def encT (s : List Int) : List Int := encU s.length ++ s
def u64 (n : Int) : Prop := 0 ≤ n ∧ n < 18446744073709551616
def i64 (n : Int) : Prop := -9223372036854775808 ≤ n ∧ n < 9223372036854775808
theorem encU_Bs {n : Int} (h : u64 n) : Bs (encU n) := by
  unfold encU
  obtain ⟨h0, h1⟩ := h
  split
  · exact Bs.cons (by omega) (by omega) Bs.nil
  · split
    · exact Bs.cons (by omega) (by omega) (Bs.cons (by omega) (by omega) Bs.nil)
    · split
      · exact Bs.cons (by omega) (by omega) (Bs.cons (by omega) (by omega) (Bs.cons (by omega) (by omega) (Bs.cons (by omega) (by omega) Bs.nil)))
      · refine Bs.cons (by omega) (by omega) (Bs.cons (by omega) (by omega) (Bs.cons (by omega) (by omega) (Bs.cons (by omega) (by omega) (Bs.cons (by omega) (by omega) (Bs.cons (by omega) (by omega) (Bs.cons (by omega) (by omega) (Bs.cons (by omega) (by omega) (Bs.cons (by omega) (by omega) Bs.nil))))))))
theorem encU_len (n : Int) : 1 ≤ (encU n).length ∧ (encU n).length ≤ 9 := by
  unfold encU
  split
  · simp
  · split
    · simp
    · split <;> simp
theorem fold_u64 {n : Int} (h : i64 n) : u64 (fold n) := by
  unfold fold; obtain ⟨h0, h1⟩ := h; unfold u64; split <;> omega
theorem encI_Bs {n : Int} (h : i64 n) : Bs (encI n) := encU_Bs (fold_u64 h)
end Go.Proofs.YtagokgijffpdnaaQ
