import Derived.Test.YtlcjkpoaehmghaaC4
/-! FrameTorn, plain: a beginning of frames. -/
namespace Go.Proofs.Ytlcjkpoaehmghaa.G
open Go.RowKit Go.Proofs.YtlcjkpoaehmghaaQ Go.Proofs.YtlcjkpoaehmghaaW.PrintWords Go.Proofs.YtlcjkpoaehmghaaW.PrintLast Go.Proofs.YtlcjkpoaehmghaaW.PrintMore
set_option linter.unusedVariables false
set_option linter.unusedSimpArgs false
def fE (l : List ByteArray) (i : Nat) : Nat := (frms (l.take i)).length
theorem fE_zero (l : List ByteArray) : fE l 0 = 0 := rfl
theorem fE_succ {l : List ByteArray} {i : Nat} (h : i < l.length) : fE l (i + 1) = fE l i + l[i].size + 8 := by
  unfold fE
  rw [take_succ' h, frms_snoc, List.length_append, frm_len, bytesOf_size]; omega
theorem fE_le (l : List ByteArray) (i : Nat) : fE l i ≤ (frms l).length := frms_take l i
theorem fE_all (l : List ByteArray) : fE l l.length = (frms l).length := by unfold fE; rw [List.take_length]
theorem torn_scan {l : List ByteArray} (h : ∀ x ∈ l, x.size ≤ 1048576) {K m : Nat} (hm : m ≤ l.length) (h1 : fE l m ≤ K) (hK : K ≤ (frms l).length) (h2 : m < l.length → K < fE l (m + 1)) :
    told K [] (scan ((frms l).take K)) = (l.take m, (fE l m : Int), 0) := by
  have e1 : frms l = frms (l.take m) ++ frms (l.drop m) := by unfold frms; rw [← List.flatMap_append, ← List.map_append, List.take_append_drop]
  have e2 : (frms l).take K = frms (l.take m) ++ (frms (l.drop m)).take (K - fE l m) := by rw [e1]; exact take_app_ge h1
  have hp : frI ((frms (l.drop m)).take (K - fE l m)) = .part := by
    by_cases c : m < l.length
    · have e3 : frms (l.drop m) = frm (bytesOf l[m]) ++ frms (l.drop (m + 1)) := by rw [List.drop_eq_getElem_cons c]; rfl
      rw [e3]
      have := h2 c
      rw [fE_succ c] at this
      exact frI_cut (Bs.bytesOf _) (by rw [bytesOf_size]; exact h _ (List.getElem_mem c)) _ (by rw [bytesOf_size]; omega)
    · rw [List.drop_eq_nil_of_le (by omega), show frms [] = [] from rfl, List.take_nil]; rfl
  have hs := scan_frms ((l.take m).map bytesOf) (fun t ht => by
    obtain ⟨s, hs, rfl⟩ := List.mem_map.1 ht
    exact ⟨Bs.bytesOf s, by rw [bytesOf_size]; exact h s (List.mem_of_mem_take hs)⟩) (q := (frms (l.drop m)).take (K - fE l m)) ((frms_Bs _).take _)
  rw [scan_part hp] at hs
  have hq : ((frms (l.drop m)).take (K - fE l m)).length = K - fE l m := by
    rw [List.length_take]
    have : (frms l).length = fE l m + (frms (l.drop m)).length := by rw [e1, List.length_append]; rfl
    omega
  have e4 : frms (l.take m) = ((l.take m).map bytesOf).flatMap frm := rfl
  rw [e2, e4, hs]
  simp only [Option.map_some, told, List.nil_append, List.append_nil, map_back, hq]
  congr 3; omega
end Go.Proofs.Ytlcjkpoaehmghaa.G
