import Derived.Test.YtlcjkpoaehmghaaZQF
namespace Go.Proofs.YtlcjkpoaehmghaaQ
open Go.Proofs.YtlcjkpoaehmghaaW.PrintWords
set_option linter.unusedVariables false
set_option linter.unusedSimpArgs false
theorem frI_rest_Bs {l t r : List Int} (hl : Bs l) (h : frI l = .whole t r) : Bs t ∧ Bs r := by
  obtain ⟨_, _, h1, h2⟩ := frI_whole hl h
  rw [h1, h2]
  exact ⟨(hl.drop _).take _, hl.drop _⟩
theorem scanI_fuel : ∀ (n : Nat) (l : List Int), Bs l → l.length ≤ n → ∀ f g, l.length ≤ f → l.length ≤ g → scanI f l = scanI g l := by
  intro n
  induction n with
  | zero =>
    intro l hl hn f g hf hg
    have : l = [] := List.length_eq_zero_iff.1 (by omega)
    subst this
    have e : ∀ f, scanI f [] = some ([], []) := by intro f; cases f <;> rfl
    rw [e, e]
  | succ n ih =>
    intro l hl hn f g hf hg
    by_cases h0 : l = []
    · subst h0
      have e : ∀ f, scanI f [] = some ([], []) := by intro f; cases f <;> rfl
      rw [e, e]
    · have hp : 0 < l.length := List.length_pos_iff.2 h0
      obtain ⟨f, rfl⟩ : ∃ m, f = m + 1 := ⟨f - 1, by omega⟩
      obtain ⟨g, rfl⟩ : ∃ m, g = m + 1 := ⟨g - 1, by omega⟩
      simp only [scanI]
      cases hfr : frI l with
      | part => rfl
      | bad => rfl
      | whole t r =>
        have h1 := frI_whole hl hfr
        simp only
        rw [ih r (frI_rest_Bs hl hfr).2 (by omega) f g (by omega) (by omega)]
def scan (l : List Int) : Option (List (List Int) × List Int) := scanI l.length l
theorem scan_fuel {l : List Int} (hl : Bs l) {f : Nat} (hf : l.length ≤ f) : scanI f l = scan l := scanI_fuel l.length l hl (Nat.le_refl _) f l.length hf (Nat.le_refl _)
theorem scan_part {l : List Int} (h : frI l = .part) : scan l = some ([], l) := by
  unfold scan
  cases hn : l.length with
  | zero => rfl
  | succ n => simp only [scanI, h]
theorem frI_nil : frI [] = .part := rfl
theorem scan_bad {l : List Int} (h : frI l = .bad) : scan l = none := by
  unfold scan
  cases hn : l.length with
  | zero =>
    have : l = [] := List.length_eq_zero_iff.1 hn
    subst this; cases h
  | succ n => simp only [scanI, h]
theorem scan_whole {l t r : List Int} (hl : Bs l) (h : frI l = .whole t r) : scan l = (scan r).map fun p => (t :: p.1, p.2) := by
  have h1 := frI_whole hl h
  unfold scan
  cases hn : l.length with
  | zero => omega
  | succ n =>
    simp only [scanI, h]
    rw [scan_fuel (frI_rest_Bs hl h).2 (by omega)]; rfl
theorem scan_frms (ts : List (List Int)) (h : ∀ t ∈ ts, Bs t ∧ t.length ≤ 1048576) {q : List Int} (hq : Bs q) : scan (ts.flatMap frm ++ q) = (scan q).map fun p => (ts ++ p.1, p.2) := by
  induction ts with
  | nil => simp
  | cons t ts ih =>
    have ht := h t List.mem_cons_self
    have hts : ∀ t ∈ ts, Bs t ∧ t.length ≤ 1048576 := fun x hx => h x (List.mem_cons_of_mem _ hx)
    have hB : Bs (ts.flatMap frm ++ q) := by
      refine Bs.app ?_ hq
      intro y hy
      obtain ⟨x, hx, hy⟩ := List.mem_flatMap.1 hy
      exact frm_Bs (hts x hx).1 y hy
    have e : (t :: ts).flatMap frm ++ q = frm t ++ (ts.flatMap frm ++ q) := by simp
    rw [e, scan_whole ((frm_Bs ht.1).app hB) (frI_frm ht.1 ht.2 _), ih hts]
    cases scan q <;> rfl
theorem or_u32 (x c : Int) (h0 : 0 ≤ x) (h1 : x < 16777216) (hc : 0 ≤ c) (hc2 : c < 256) : Go.bits .or .u32 ((x * 256) % 4294967296) (c % 4294967296) = x * 256 + c := by
  have e1 : (x * 256) % 4294967296 = x * 256 := by omega
  have e2 : c % 4294967296 = c := by omega
  rw [e1, e2]
  obtain ⟨X, rfl⟩ := Int.eq_ofNat_of_zero_le h0
  obtain ⟨Y, rfl⟩ := Int.eq_ofNat_of_zero_le hc
  have := Go.u32_or_nat (X * 256) Y (by omega) (by omega)
  rw [Go.nat_join 8 _ _ (by omega) (by omega)] at this
  have e : ((X * 256 : Nat) : Int) = (X : Int) * 256 := by omega
  rw [← e, this, Int.natCast_add]
end Go.Proofs.YtlcjkpoaehmghaaQ
