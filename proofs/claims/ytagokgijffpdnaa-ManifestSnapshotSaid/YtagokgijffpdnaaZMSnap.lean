import Derived.Test.YtagokgijffpdnaaZM1
import Derived.Test.YtagokgijffpdnaaZMLives
import Derived.Test.YtagokgijffpdnaaZMSame
import Derived.Test.YtagokgijffpdnaaZG8
namespace Go.Proofs.Ytagokgijffpdnaa.G
open Go.RowKit Go.Proofs.YtagokgijffpdnaaQ Go.Proofs.YtagokgijffpdnaaW.PrintWords Go.Proofs.YtagokgijffpdnaaW.PrintLast Go.Proofs.YtagokgijffpdnaaW.PrintMore
set_option linter.unusedVariables false
set_option linter.unusedSimpArgs false
structure Inv2 (s : List SP) (sf sn : Int) (n : Nat) : Prop where
  inv : Inv s sf sn n
  parts : (s.all fun p => !oddP p) = true
  fl : oddI sf = false
  nx : oddI sn = false
theorem Inv2.step {s : List SP} {sf sn : Int} {n : Nat} (hI : Inv2 s sf sn n) {d : List Int} {a : List SP} {fl nx : Int} {r : List SP} {rf rn : Int} (h : applyL s sf sn d a fl nx = (r, rf, rn, 0)) : Inv2 r rf rn (n + 1000) := by
  obtain ⟨h0, -, -⟩ := hI.inv.step h
  obtain ⟨h1, h2, h3, h4, h5, rfl, rfl, rfl⟩ := apply_ok h
  unfold rightB at h1
  simp only [Bool.and_eq_true, Bool.not_eq_true'] at h1
  refine ⟨h0, ?_, h1.2.2.1, h1.2.2.2.1⟩
  rw [List.all_append, Bool.and_eq_true]
  refine ⟨?_, h1.2.2.2.2.2⟩
  have := hI.parts
  rw [List.all_eq_true] at this ⊢
  exact fun p hp => this p (List.mem_filter.mp hp).1
theorem addB_mk : ∀ (a : List SP) (ids : List Int) (nx : Int), (ids ++ idsOf a).Nodup → (∀ x ∈ idsOf a, x < nx) → addB nx ids a = true
  | [], ids, nx, _, _ => rfl
  | p :: a, ids, nx, hn, hl => by
    unfold addB
    have h1 : p.f0 < nx := hl p.f0 (by simp [idsOf])
    have h2 : ¬ p.f0 ∈ ids := fun h => by
      have := (List.nodup_append.mp hn).2.2 p.f0 h p.f0 (by simp [idsOf])
      exact this rfl
    have e : ids ++ idsOf (p :: a) = (ids ++ [p.f0]) ++ idsOf a := by simp [idsOf]
    rw [e] at hn
    rw [addB_mk a (ids ++ [p.f0]) nx hn (fun x hx => hl x (by simp only [idsOf, List.map_cons, List.mem_cons]; exact .inr hx))]
    have h3 : decide (nx ≤ p.f0) = false := decide_eq_false (by omega)
    rw [h3]; simp [h2]
theorem snap_apply {s : List SP} {sf sn : Int} {n : Nat} (hI : Inv2 s sf sn n) : applyL [] 0 0 [] s sf sn = if s.length ≤ 1000 then (s, sf, sn, 0) else ([], 0, 0, 8) := by
  have odd : ∀ n, oddI n = false → 0 ≤ n := fun n hn => by unfold oddI at hn; simp at hn; omega
  have e1 : decide ((0 : Int) ≤ sf) = true := decide_eq_true (odd _ hI.fl)
  have e2 : decide ((0 : Int) ≤ sn) = true := decide_eq_true (odd _ hI.nx)
  have e3 : addB sn (idsOf (keptL [] [])) s = true := addB_mk s [] sn (by rw [List.nil_append]; exact hI.inv.nd) hI.inv.lt
  have e4 : rightB [] s sf sn = decide (s.length ≤ 1000) := by
    unfold rightB
    rw [hI.fl, hI.nx, hI.parts]
    simp
  unfold applyL
  rw [e4, e1, e2, e3]
  by_cases h : s.length ≤ 1000
  · rw [if_pos h, if_pos (by simp [h])]; rfl
  · rw [if_neg h, if_neg (by simp [h])]
theorem Snap_end {l : List SE} {s : List SP} {sf sn : Int} {n : Nat} (hI : Inv2 s sf sn n) (hn : n ≤ 1000000) {k : Nat} (hk : 1000010 ≤ k) :
    ((manifest_Snapshot.f s sf sn).bind fun bt176 => ((manifest_Apply.f ([] : List SP) 0 0 bt176.1 bt176.2.1 bt176.2.2.1 bt176.2.2.2).bind fun bt185 => (if (s.length : Int) > 1000 then (some (bt185.2.2.2 == 8)) else (if bt185.2.2.2 = 0 then ((tithebarnref16_Same.f k s sf sn bt185.1 bt185.2.1 bt185.2.2.1).bind fun t192 => (some t192)) else (some false))))) = some true := by
  have hlen := hI.inv.len
  have hS : manifest_Snapshot.f s sf sn = some ([], s, sf, sn) := by
    unfold manifest_Snapshot.f api_Part_19.f
    rw [if_pos (by omega)]; rfl
  have hA : manifest_Apply.f ([] : List SP) 0 0 [] s sf sn = some (if s.length ≤ 1000 then (s, sf, sn, 0) else ([], 0, 0, 8)) := by
    unfold manifest_Apply.f
    rw [if_pos ⟨rfl, by simp⟩, snap_apply hI]
  rw [hS, Option.bind_some]
  simp only
  rw [hA, Option.bind_some]
  by_cases h : s.length ≤ 1000
  · rw [if_pos h, if_neg (by omega)]
    simp only
    rw [if_pos trivial, Same_self (by omega) (by omega)]; rfl
  · rw [if_neg h, if_pos (by omega)]; rfl
theorem Snap_l0 (l : List SE) : ∀ (d i : Nat) (s : List SP) (sf sn : Int) (k : Nat), i + d = 50 → Inv2 s sf sn (1000 * i) → 2 * d + 1000020 ≤ k → tithebarnlaw16_ManifestSnapshot.l0 k l (i : Int) s sf sn = some true := by
  intro d
  induction d with
  | zero =>
    intro i s sf sn k hi hI hk
    obtain ⟨k, rfl⟩ : ∃ m, k = m + 2 := ⟨k - 2, by omega⟩
    simp only [tithebarnlaw16_ManifestSnapshot.l0, tithebarnlaw16_ManifestSnapshot.j1]
    have e : decide ((i : Int) < 50) = false := decide_eq_false (by omega)
    have h2 := Snap_end (l := l) hI (by omega) (k := k) (by omega)
    rw [e, if_neg (show ¬ (false = true) by decide), h2]
    simp
  | succ d ih =>
    intro i s sf sn k hi hI hk
    obtain ⟨k, rfl⟩ : ∃ m, k = m + 2 := ⟨k - 2, by omega⟩
    simp only [tithebarnlaw16_ManifestSnapshot.l0, tithebarnlaw16_ManifestSnapshot.j1]
    have e : decide ((i : Int) < 50) = true := decide_eq_true (by omega)
    rw [e]
    have ew : wrap64 ((i : Int) + 1) = ((i + 1 : Nat) : Int) := by rw [w64 (by omega) (by omega)]; omega
    have e1000 : 1000 * (i + 1) = 1000 * i + 1000 := by omega
    by_cases hl : (i : Int) < (l.length : Int)
    · rw [if_pos hl, if_pos rfl, if_pos (by omega), if_pos hl]
      generalize rd_T32 l (i : Int) = x
      have hA : manifest_Apply.f s sf sn x.f0 x.f1 x.f2 x.f3 = some (applyL s sf sn x.f0 x.f1 x.f2 x.f3) := by
        unfold manifest_Apply.f
        rw [if_pos ⟨hI.inv.wf, by have := hI.inv.len; omega⟩]
      rw [hA, Option.bind_some]
      obtain ⟨⟨r, rf, rn, re⟩, hr⟩ : ∃ z, applyL s sf sn x.f0 x.f1 x.f2 x.f3 = z := ⟨_, rfl⟩
      rw [hr]
      simp only
      by_cases he : re = 0
      · subst he
        rw [if_pos rfl, ew]
        exact ih (i + 1) r rf rn k (by omega) (by rw [e1000]; exact hI.step hr) (by omega)
      · rw [if_neg he, ew]
        have hI2 : Inv2 s sf sn (1000 * (i + 1)) := ⟨⟨hI.inv.wf, hI.inv.nd, hI.inv.lt, by have := hI.inv.len; omega⟩, hI.parts, hI.fl, hI.nx⟩
        exact ih (i + 1) s sf sn k (by omega) hI2 (by omega)
    · have h2 := Snap_end (l := l) hI (by omega) (k := k) (by omega)
      rw [if_neg hl, if_neg (show ¬ (false = true) by decide)]
      exact h2
theorem Snap_f (l : List SE) : tithebarnlaw16_ManifestSnapshot.f 2000000 l = some true := by
  unfold tithebarnlaw16_ManifestSnapshot.f
  rw [lives_f (by decide), Option.bind_some, if_pos rfl]
  have := Snap_l0 l 50 0 [] 0 0 2000000 rfl ⟨Inv.nil _, rfl, by decide, by decide⟩ (by decide)
  rw [show ((0 : Nat) : Int) = 0 from rfl] at this
  exact this
theorem ManifestSnapshot.law (A : Option Addr) (c : Nat) (l : List SE) (w : World) (hc : l.length ≤ c) (hr : k32.C w A l.length l) (hm : l.length ≤ maxLen) (ok : ∀ x ∈ l, OkE x) (hb : l.length * 64 ≤ 140737488351232) :
    Calls Try.prog 4 #[.slice A l.length c] w fun e w' => e = .returned (.bool true) ∧ Below w.heap.size w w' :=
  tithebarnlaw16_ManifestSnapshot.calls 2000000 A c l true w hr hc (Snap_f l)
end Go.Proofs.Ytagokgijffpdnaa.G
