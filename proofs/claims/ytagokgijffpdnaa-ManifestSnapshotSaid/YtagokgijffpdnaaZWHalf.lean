import Derived.Test.YtagokgijffpdnaaProg
import Derived.Test.YtagokgijffpdnaaZQC
import Derived.Test.YtagokgijffpdnaaZWMore
import Derived.Test.YtagokgijffpdnaaZWLast
import Derived.WalkKit
import Derived.KernelRfl
import Derived.RowKit3
import Derived.Deep.LoopGhost
import Derived.RowKit
namespace Go.Proofs.Ytagokgijffpdnaa.G
open Go.RowKit Go.Proofs.YtagokgijffpdnaaQ Go.Proofs.YtagokgijffpdnaaW.PrintWords Go.Proofs.YtagokgijffpdnaaW.PrintLast Go.Proofs.YtagokgijffpdnaaW.PrintMore
set_option linter.unusedVariables false
set_option linter.unusedSimpArgs false
def tabV (n : Nat) : Array Value := ((List.range 16).map fun i => Value.int .u32 (if i < n then (tab4 i : Int) else 0)).toArray
theorem tabV_get {n i : Nat} (hi : i < 16) : (tabV n)[i]? = some (Value.int .u32 (if i < n then (tab4 i : Int) else 0)) := by
  unfold tabV
  rw [List.getElem?_toArray, List.getElem?_map, List.getElem?_range hi]; rfl
theorem tabV_set {i : Nat} (hi : i < 16) : (tabV i).setIfInBounds i (.int .u32 (tab4 i : Int)) = tabV (i + 1) := by
  unfold tabV
  rw [List.setIfInBounds_toArray]
  congr 1
  apply List.ext_getElem?
  intro j
  rw [List.getElem?_set, List.getElem?_map, List.getElem?_map]
  by_cases hj : j < 16
  · rw [List.getElem?_range hj]
    by_cases e : i = j
    · subst e
      simp [hi]
    · have : j < i + 1 ↔ j < i := by omega
      simp [e, this]
  · have e : ¬ i = j := by omega
    rw [List.getElem?_eq_none (by simp; omega)]
    simp [e]
def HalfW (w wx : World) (i : Nat) : Prop := wx.heap[w.heap.size]? = some (.cells (tabV 0) 102 (0, 0)) ∧ wx.heap[w.heap.size + 1]? = some (.cells (tabV i) 102 (0, 0)) ∧ Below w.heap.size w wx
theorem HalfW.cell {w wx : World} {i : Nat} (h : HalfW w wx i) {j : Nat} (hj : j < 16) : wx.cell? ⟨w.heap.size + 1, j, none⟩ = some (Value.int .u32 (if j < i then (tab4 j : Int) else 0)) := (blk_cell h.2.1 j).trans (tabV_get hj)
theorem HalfW.set {w wx : World} {i : Nat} (h : HalfW w wx i) (hi : i < 16) : HalfW w (wx.setCell ⟨w.heap.size + 1, i, none⟩ (.int .u32 (tab4 i : Int))) (i + 1) := by
  refine ⟨?_, ?_, below_set h.2.2 (by omega)⟩
  · rw [Below.heap_setCell wx ⟨w.heap.size + 1, i, none⟩ _ _ (show w.heap.size ≠ w.heap.size + 1 by omega)]; exact h.1
  · have := blk_set h.2.1 i (.int .u32 (tab4 i : Int))
    rw [← tabV_set hi]
    simpa using this
end Go.Proofs.Ytagokgijffpdnaa.G
