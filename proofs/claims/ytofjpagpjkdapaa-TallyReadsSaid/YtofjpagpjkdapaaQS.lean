import Derived.Test.YtofjpagpjkdapaaQR
import Derived.SizedLaws
/-! A parameter that is a slice, under the reach: how long it may be. -/
namespace Go.Proofs.YtofjpagpjkdapaaQ
open Go.ChangeShapes Go.WideShapes Go.RowKit Go.Proofs.YtofjpagpjkdapaaW.PrintWords
set_option linter.unusedVariables false
set_option linter.unusedSimpArgs false
theorem open_rows_s {α : Type} {P : Program} {W : World} {r : Reach} {b : Nat} {t e : TypeId} {v : Value} {d : Kd α} {Ok : α → Prop} {B : α → Nat} {H : Type} {enc : TypeId × Value → H} {base : Nat} {spare : Nat → Bool} {held : Bool} {dat : DataW H} {ps : List MemPlace} {ts : List TypeId} {ds : List (DataW H)} {j : Nat}
    (hall : (DataW.weightsEach P ts ds).all (· ≤ reachBytes) = true) (hti : ts[j]? = some t) (hdi : ds[j]? = some dat)
    (ht : P.underlying t = some (.slice e)) (hsz : P.cellsOf e = d.sz) (hd : Rdg P e d Ok B) (hv : Value.okWide P W r b t v) (h : DataW.Trod enc P W base spare held t v dat ps) :
    ∃ A c xs, v = .slice A xs.length c ∧ xs.length ≤ c ∧ d.C W A xs.length xs ∧ xs.length ≤ maxLen ∧ (∀ x ∈ xs, Ok x) ∧ xs.length * P.bytesOf e ≤ 140737488351232 := by
  obtain ⟨A, c, xs, rfl, hc, hC, hm, hok, _⟩ := open_rows ht hsz hd hv h
  refine ⟨A, c, xs, rfl, hc, hC, hm, hok, ?_⟩
  obtain ⟨fuel, hf⟩ := h
  rcases DataW.trod_slice ht hf with ⟨he, he0⟩ | ⟨a, len, cap, elems, rest, n, hn, he, he0, hb, hl, hm, hel, hat, _⟩
  · simp [Value.cells] at he
    obtain ⟨_, he, _⟩ := he
    subst he
    simp
  · simp [Value.cells] at he
    obtain ⟨_, he, _⟩ := he
    simp only [Prod.mk.injEq] at he0
    obtain ⟨rfl, _⟩ := he0
    have z := sized_slice hall hti hdi ht
    have z2 : reachBytes = 140737488351232 := by decide
    rw [z2] at z
    rw [List.length_map, hel] at z
    exact Nat.le_trans (Nat.mul_le_mul_right _ (by omega)) z
end Go.Proofs.YtofjpagpjkdapaaQ
