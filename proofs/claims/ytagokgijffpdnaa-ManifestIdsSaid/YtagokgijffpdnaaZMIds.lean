import Derived.Test.YtagokgijffpdnaaZM1
import Derived.Test.YtagokgijffpdnaaZG6
namespace Go.Proofs.Ytagokgijffpdnaa.G
open Go.RowKit Go.Proofs.YtagokgijffpdnaaQ Go.Proofs.YtagokgijffpdnaaW.PrintWords Go.Proofs.YtagokgijffpdnaaW.PrintLast Go.Proofs.YtagokgijffpdnaaW.PrintMore
set_option linter.unusedVariables false
set_option linter.unusedSimpArgs false
theorem idsOf_get {s : List SP} {i : Nat} (h : i < s.length) : (rd_T36 s (i : Int)).f0 = (idsOf s)[i]'(by simpa [idsOf] using h) := by
  unfold rd_T36 idsOf
  rw [Int.toNat_natCast, List.getD_eq_getElem?_getD, List.getElem?_eq_getElem h, List.getElem_map]; rfl
theorem Ids_l2 {l : List SE} {i : Nat} {s : List SP} {f n : Int} (hnd : (idsOf s).Nodup) (hs : s.length ≤ 50000) {x K : Nat} (hx : x < s.length) (hnext : ∀ k, K ≤ k → tithebarnlaw16_ManifestIds.l1 k l i ((x + 1 : Nat) : Int) s f n = some true) :
    ∀ (m j k : Nat), j + m = x → K + m + 1 ≤ k → tithebarnlaw16_ManifestIds.l2 k l i (x : Int) (j : Int) s f n = some true := by
  intro m
  induction m with
  | zero =>
    intro j k hj hk
    obtain ⟨k, rfl⟩ : ∃ m, k = m + 1 := ⟨k - 1, by omega⟩
    simp only [tithebarnlaw16_ManifestIds.l2]
    rw [if_neg (by omega)]
    have e : wrap64 ((x : Int) + 1) = ((x + 1 : Nat) : Int) := by rw [w64 (by omega) (by omega)]; omega
    rw [e]
    exact hnext k (by omega)
  | succ m ih =>
    intro j k hj hk
    obtain ⟨k, rfl⟩ : ∃ m, k = m + 1 := ⟨k - 1, by omega⟩
    simp only [tithebarnlaw16_ManifestIds.l2]
    have e : wrap64 ((j : Int) + 1) = ((j + 1 : Nat) : Int) := by rw [w64 (by omega) (by omega)]; omega
    have hne : ¬ (rd_T36 s (j : Int)).f0 = (rd_T36 s (x : Int)).f0 := by
      rw [idsOf_get (show j < s.length by omega), idsOf_get hx]
      exact List.pairwise_iff_getElem.mp hnd j x _ _ (by omega)
    rw [if_pos (by omega), if_pos (by omega), if_pos (by omega), if_pos (by omega), if_pos (by omega), if_neg hne, e]
    exact ih (j + 1) k (by omega) (by omega)
theorem Ids_l1 {l : List SE} {i : Nat} {s : List SP} {f n : Int} (hnd : (idsOf s).Nodup) (hlt : ∀ x ∈ idsOf s, x < n) (hs : s.length ≤ 50000) {K : Nat} (hnext : ∀ k, K ≤ k → tithebarnlaw16_ManifestIds.l0 k l (wrap64 ((i : Int) + 1)) s f n = some true) :
    ∀ (m x k : Nat), x + m = s.length → K + m * 50002 + 1 ≤ k → tithebarnlaw16_ManifestIds.l1 k l i (x : Int) s f n = some true := by
  intro m
  induction m with
  | zero =>
    intro x k hx hk
    obtain ⟨k, rfl⟩ : ∃ m, k = m + 1 := ⟨k - 1, by omega⟩
    simp only [tithebarnlaw16_ManifestIds.l1]
    rw [if_neg (by omega)]
    exact hnext k (by omega)
  | succ m ih =>
    intro x k hx hk
    obtain ⟨k, rfl⟩ : ∃ m, k = m + 1 := ⟨k - 1, by omega⟩
    simp only [tithebarnlaw16_ManifestIds.l1]
    have hm : (rd_T36 s (x : Int)).f0 < n := by
      rw [idsOf_get (show x < s.length by omega)]
      exact hlt _ (List.getElem_mem _)
    rw [if_pos (by omega), if_pos (by omega), if_neg (by omega)]
    have := Ids_l2 (l := l) (i := i) (f := f) (n := n) hnd hs (x := x) (K := K + m * 50002 + 1) (by omega) (fun k hk => ih (x + 1) k (by omega) hk) x 0 k (by omega) (by omega)
    rw [show ((0 : Nat) : Int) = 0 from rfl] at this
    exact this
theorem Ids_l0 (l : List SE) (W : Nat) (hW : 50000 * 50002 + 10 ≤ W) : ∀ (d i : Nat) (s : List SP) (sf sn : Int) (k : Nat), i + d = 50 → Inv s sf sn (1000 * i) → d * W + 2 ≤ k → tithebarnlaw16_ManifestIds.l0 k l (i : Int) s sf sn = some true := by
  intro d
  induction d with
  | zero =>
    intro i s sf sn k hi hI hk
    obtain ⟨k, rfl⟩ : ∃ m, k = m + 2 := ⟨k - 2, by omega⟩
    simp only [tithebarnlaw16_ManifestIds.l0, tithebarnlaw16_ManifestIds.j1]
    have e : decide ((i : Int) < 50) = false := decide_eq_false (by omega)
    rw [e]
    simp
  | succ d ih =>
    intro i s sf sn k hi hI hk
    rw [Nat.succ_mul] at hk
    obtain ⟨k, rfl⟩ : ∃ m, k = m + 2 := ⟨k - 2, by omega⟩
    simp only [tithebarnlaw16_ManifestIds.l0, tithebarnlaw16_ManifestIds.j1]
    have e : decide ((i : Int) < 50) = true := decide_eq_true (by omega)
    rw [e]
    have ew : wrap64 ((i : Int) + 1) = ((i + 1 : Nat) : Int) := by rw [w64 (by omega) (by omega)]; omega
    by_cases hl : (i : Int) < (l.length : Int)
    · rw [if_pos hl, if_pos rfl, if_pos (by omega), if_pos hl]
      generalize rd_T32 l (i : Int) = x
      have hA : manifest_Apply.f s sf sn x.f0 x.f1 x.f2 x.f3 = some (applyL s sf sn x.f0 x.f1 x.f2 x.f3) := by
        unfold manifest_Apply.f
        rw [if_pos ⟨hI.wf, by have := hI.len; omega⟩]
      rw [hA, Option.bind_some]
      obtain ⟨⟨r, rf, rn, re⟩, hr⟩ : ∃ z, applyL s sf sn x.f0 x.f1 x.f2 x.f3 = z := ⟨_, rfl⟩
      rw [hr]
      simp only
      by_cases he : re = 0
      · subst he
        obtain ⟨hI2, h2, h3⟩ := hI.step hr
        rw [if_pos rfl, if_neg (by omega)]
        obtain ⟨k, rfl⟩ : ∃ m, k = m + 1 := ⟨k - 1, by omega⟩
        simp only [tithebarnlaw16_ManifestIds.j2]
        have e2 : decide (rn < sn) = false := decide_eq_false (by omega)
        rw [e2, if_neg (by decide)]
        have hlen := hI2.len
        have := Ids_l1 (l := l) (i := i) (f := rf) (n := rn) hI2.nd hI2.lt (by omega) (K := d * W + 2) (fun k hk => by rw [ew]; exact ih (i + 1) r rf rn k (by omega) (by rw [show 1000 * (i + 1) = 1000 * i + 1000 by omega]; exact hI2) hk) r.length 0 k (by omega) (by omega)
        rw [show ((0 : Nat) : Int) = 0 from rfl] at this
        exact this
      · obtain ⟨rfl, rfl, rfl, rfl⟩ := apply_bad hr he
        have h0 : ¬ ((([] : List SP).length : Int) > 0) := by decide
        rw [if_neg he, if_neg h0, if_pos (show (0 : Int) = 0 from rfl), if_pos (show (0 : Int) = 0 from rfl), ew]
        have hk3 : d * W + 2 ≤ k := by omega
        have hl3 : s.length ≤ 1000 * (i + 1) := Nat.le_trans hI.len (by omega)
        exact ih (i + 1) s sf sn k (by omega) ⟨hI.wf, hI.nd, hI.lt, hl3⟩ hk3
    · rw [if_neg hl, if_neg (by decide)]
theorem applyA : manifest_Apply.f [] 0 0 [] [(⟨1, 0, ⟨false, 0, ⟨#[]⟩⟩, ⟨false, 0, ⟨#[]⟩⟩⟩ : SP)] 0 2 = some ([(⟨1, 0, ⟨false, 0, ⟨#[]⟩⟩, ⟨false, 0, ⟨#[]⟩⟩⟩ : SP)], 0, 2, 0) := by kernel_rfl
theorem applyB : manifest_Apply.f [(⟨1, 0, ⟨false, 0, ⟨#[]⟩⟩, ⟨false, 0, ⟨#[]⟩⟩⟩ : SP)] 0 2 [1] [(⟨2, 0, ⟨false, 0, ⟨#[]⟩⟩, ⟨false, 0, ⟨#[]⟩⟩⟩ : SP)] 0 3 = some ([(⟨2, 0, ⟨false, 0, ⟨#[]⟩⟩, ⟨false, 0, ⟨#[]⟩⟩⟩ : SP)], 0, 3, 0) := by kernel_rfl
theorem lives_f {k : Nat} (hk : 10 ≤ k) : tithebarnlaw16_lives.f k = some true := by
  have h : tithebarnlaw16_lives.g 10 = some true := by
    unfold tithebarnlaw16_lives.g
    rw [applyA, Option.bind_some, applyB, Option.bind_some]
    kernel_rfl
  have h2 : tithebarnlaw16_lives.f 10 = some true := by unfold tithebarnlaw16_lives.f; rw [if_pos h]
  obtain ⟨d, rfl⟩ : ∃ d, k = 10 + d := ⟨k - 10, by omega⟩
  clear hk
  induction d with
  | zero => exact h2
  | succ d ih => exact tithebarnlaw16_lives.mono _ _ ih
theorem Ids_f (l : List SE) : tithebarnlaw16_ManifestIds.f 200000000000 l = some true := by
  unfold tithebarnlaw16_ManifestIds.f
  rw [if_pos]
  unfold tithebarnlaw16_ManifestIds.g
  rw [lives_f (by omega), Option.bind_some, if_pos rfl]
  have := Ids_l0 l 2600000000 (by decide) 50 0 [] 0 0 200000000000 rfl (Inv.nil _) (by decide)
  rw [show ((0 : Nat) : Int) = 0 from rfl] at this
  exact this
theorem ManifestIds.law (A : Option Addr) (c : Nat) (l : List SE) (w : World) (hc : l.length ≤ c) (hr : k32.C w A l.length l) (hm : l.length ≤ maxLen) (ok : ∀ x ∈ l, OkE x) (hb : l.length * 64 ≤ 140737488351232) :
    Calls Try.prog 3 #[.slice A l.length c] w fun e w' => e = .returned (.bool true) ∧ Below w.heap.size w w' :=
  tithebarnlaw16_ManifestIds.calls 200000000000 A c l true w hr hc (Ids_f l)
end Go.Proofs.Ytagokgijffpdnaa.G
