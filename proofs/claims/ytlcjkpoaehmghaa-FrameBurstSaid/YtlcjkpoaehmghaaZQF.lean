import Derived.Test.YtlcjkpoaehmghaaZQ2
import Derived.Test.YtlcjkpoaehmghaaZQC
namespace Go.Proofs.YtlcjkpoaehmghaaQ
open Go.Proofs.YtlcjkpoaehmghaaW.PrintWords
set_option linter.unusedVariables false
set_option linter.unusedSimpArgs false
def le4 (n : Int) : List Int := [n % 256, n / 256 % 256, n / 65536 % 256, n / 16777216 % 256]
theorem le4_len (n : Int) : (le4 n).length = 4 := rfl
theorem le4_Bs (n : Int) : Bs (le4 n) := by
  unfold le4
  exact Bs.cons (by omega) (by omega) (Bs.cons (by omega) (by omega) (Bs.cons (by omega) (by omega) (Bs.cons (by omega) (by omega) Bs.nil)))
def num4 (l : List Int) : Int := rd l 0 + 256 * rd l 1 + 65536 * rd l 2 + 16777216 * rd l 3
theorem rd_Bs {l : List Int} (hl : Bs l) (i : Int) : 0 ≤ rd l i ∧ rd l i < 256 := by
  unfold rd
  by_cases h : i.toNat < l.length
  · rw [List.getD_eq_getElem?_getD, List.getElem?_eq_getElem h]; exact hl _ (List.getElem_mem h)
  · rw [List.getD_eq_getElem?_getD, List.getElem?_eq_none (by omega)]; simp
theorem num4_bd {l : List Int} (hl : Bs l) : 0 ≤ num4 l ∧ num4 l < 4294967296 := by
  have h0 := rd_Bs hl 0; have h1 := rd_Bs hl 1; have h2 := rd_Bs hl 2; have h3 := rd_Bs hl 3
  unfold num4; omega
def frm (t : List Int) : List Int := le4 ((t.length : Int) % 4294967296) ++ t ++ le4 ((crc t : Nat) : Int)
theorem frm_len (t : List Int) : (frm t).length = t.length + 8 := by unfold frm; simp [le4_len]; omega
theorem frm_Bs {t : List Int} (h : Bs t) : Bs (frm t) := ((le4_Bs _).app h).app (le4_Bs _)
theorem num4_le4 {n : Int} (h0 : 0 ≤ n) (h1 : n < 4294967296) (r : List Int) : num4 (le4 n ++ r) = n := by
  show n % 256 + 256 * (n / 256 % 256) + 65536 * (n / 65536 % 256) + 16777216 * (n / 16777216 % 256) = n
  omega
inductive Fr where
  | part
  | bad
  | whole (t r : List Int)
def frI (l : List Int) : Fr :=
  if l.length < 4 then .part
  else if 1048576 < num4 l then .bad
  else if (l.length : Int) < num4 l + 8 then .part
  else if num4 (l.drop (4 + (num4 l).toNat)) = ((crc ((l.drop 4).take (num4 l).toNat) : Nat) : Int) then .whole ((l.drop 4).take (num4 l).toNat) (l.drop (8 + (num4 l).toNat))
  else .bad
theorem frI_whole {l t r : List Int} (hl : Bs l) (h : frI l = .whole t r) : r.length + 8 ≤ l.length ∧ r.length + t.length + 8 = l.length ∧ t = (l.drop 4).take t.length ∧ r = l.drop (8 + t.length) := by
  unfold frI at h
  have hb := num4_bd hl
  split at h
  · cases h
  · split at h
    · cases h
    · split at h
      · cases h
      · split at h
        · injection h with h1 h2
          have ht : t.length = (num4 l).toNat := by rw [← h1, List.length_take, List.length_drop]; omega
          have hr : r.length = l.length - (8 + (num4 l).toNat) := by rw [← h2, List.length_drop]
          refine ⟨by omega, by omega, ?_, ?_⟩
          · rw [ht]; exact h1.symm
          · rw [ht]; exact h2.symm
        · cases h
def scanI : Nat → List Int → Option (List (List Int) × List Int)
  | 0, l => some ([], l)
  | f + 1, l => match frI l with
    | .part => some ([], l)
    | .bad => none
    | .whole t r => (scanI f r).map fun p => (t :: p.1, p.2)
theorem frI_frm {t : List Int} (ht : Bs t) (h : t.length ≤ 1048576) (q : List Int) : frI (frm t ++ q) = .whole t q := by
  have hc := crc_lt ht
  have en : ((t.length : Int) % 4294967296) = (t.length : Int) := by omega
  have e0 : frm t ++ q = le4 (t.length : Int) ++ (t ++ (le4 ((crc t : Nat) : Int) ++ q)) := by unfold frm; rw [en]; simp
  have n0 : num4 (frm t ++ q) = (t.length : Int) := by rw [e0, num4_le4 (by omega) (by omega)]
  have d4 : (frm t ++ q).drop 4 = t ++ (le4 ((crc t : Nat) : Int) ++ q) := by rw [e0]; rfl
  have dn : (frm t ++ q).drop (4 + t.length) = le4 ((crc t : Nat) : Int) ++ q := by rw [← List.drop_drop, d4, List.drop_left]
  have d8 : (frm t ++ q).drop (8 + t.length) = q := by
    have : 8 + t.length = 4 + t.length + 4 := by omega
    rw [this, ← List.drop_drop, dn]; rfl
  have hl : (frm t ++ q).length = t.length + 8 + q.length := by rw [List.length_append, frm_len]
  unfold frI
  rw [n0, if_neg (by omega), if_neg (by omega), if_neg (by omega)]
  simp only [Int.toNat_natCast]
  rw [dn, num4_le4 (by omega) (by omega), d4, List.take_left, if_pos rfl, d8]
end Go.Proofs.YtlcjkpoaehmghaaQ
