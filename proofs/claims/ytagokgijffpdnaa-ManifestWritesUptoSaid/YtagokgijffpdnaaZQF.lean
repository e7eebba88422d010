import Derived.Test.YtagokgijffpdnaaZQ2
import Derived.Test.YtagokgijffpdnaaZQC
namespace Go.Proofs.YtagokgijffpdnaaQ
open Go.Proofs.YtagokgijffpdnaaW.PrintWords
set_option linter.unusedVariables false
set_option linter.unusedSimpArgs false
def le4 (n : Int) : List Int := [n % 256, n / 256 % 256, n / 65536 % 256, n / 16777216 % 256]
theorem le4_len (n : Int) : (le4 n).length = 4 := rfl
def num4 (l : List Int) : Int := rd l 0 + 256 * rd l 1 + 65536 * rd l 2 + 16777216 * rd l 3
theorem rd_Bs {l : List Int} (hl : Bs l) (i : Int) : 0 ≤ rd l i ∧ rd l i < 256 := by
  unfold rd
  by_cases h : i.toNat < l.length
  · rw [List.getD_eq_getElem?_getD, List.getElem?_eq_getElem h]; exact hl _ (List.getElem_mem h)
  · rw [List.getD_eq_getElem?_getD, List.getElem?_eq_none (by omega)]; simp
theorem num4_bd {l : List Int} (hl : Bs l) : 0 ≤ num4 l ∧ num4 l < 4294967296 := by
  have h0 := rd_Bs hl 0; have h1 := rd_Bs hl 1; have h2 := rd_Bs hl 2; have h3 := rd_Bs hl 3
  unfold num4; omega
def frm (t : List Int) : List Int := le4 ((t.length : Int) % 4294967296) ++ t ++ le4 ((crc t : Nat) : Int)
inductive Fr where
  | part
  | bad
  | whole (t r : List Int)
def frI (l : List Int) : Fr :=
  if l.length < 4 then .part
  else if 1048576 < num4 l then .bad
  else if (l.length : Int) < num4 l + 8 then .part
  else if num4 (l.drop (4 + (num4 l).toNat)) = ((crc ((l.drop 4).take (num4 l).toNat) : Nat) : Int) then .whole ((l.drop 4).take (num4 l).toNat) (l.drop (8 + (num4 l).toNat))
  else .bad
end Go.Proofs.YtagokgijffpdnaaQ
