import Derived.Test.YtagokgijffpdnaaZMRight
import Derived.Test.YtagokgijffpdnaaZG16
namespace Go.Proofs.Ytagokgijffpdnaa.G
open Go.RowKit Go.Proofs.YtagokgijffpdnaaQ Go.Proofs.YtagokgijffpdnaaW.PrintWords Go.Proofs.YtagokgijffpdnaaW.PrintLast Go.Proofs.YtagokgijffpdnaaW.PrintMore
set_option linter.unusedVariables false
set_option linter.unusedSimpArgs false
def ixL (x : Int) : List SP → Nat
  | [] => 0
  | p :: l => if p.f0 = x then 0 else ixL x l + 1
def atL (l : List SP) (x : Int) (i : Nat) : Int := if x ∈ idsOf (l.drop i) then ((i + ixL x (l.drop i) : Nat) : Int) else -1
theorem ixL_spec (x : Int) : ∀ l : List SP, x ∈ idsOf l → ixL x l < l.length ∧ (l.take (ixL x l) ++ l.drop (ixL x l + 1)).filter (fun p => decide (p.f0 ≠ x)) = l.filter (fun p => decide (p.f0 ≠ x))
  | [], h => by simp [idsOf] at h
  | p :: l, h => by
    unfold ixL
    by_cases e : p.f0 = x
    · rw [if_pos e]
      exact ⟨by simp, by simp [e]⟩
    · rw [if_neg e]
      have hm : x ∈ idsOf l := by
        simp only [idsOf, List.map_cons, List.mem_cons] at h
        exact h.resolve_left (Ne.symm e)
      obtain ⟨h1, h2⟩ := ixL_spec x l hm
      refine ⟨by rw [List.length_cons]; omega, ?_⟩
      rw [List.take_succ_cons, List.drop_succ_cons, List.cons_append, List.filter_cons_of_pos (by simp [e]), List.filter_cons_of_pos (by simp [e]), h2]
theorem at_l0 (l : List SP) (x : Int) (hl : l.length ≤ 4611686018427387904) : ∀ (m i k : Nat), i + m = l.length → m < k → tithebarnref16_at.l0 k l x (i : Int) = some (atL l x i) := by
  intro m
  induction m with
  | zero =>
    intro i k hi hk
    obtain ⟨k, rfl⟩ : ∃ m, k = m + 1 := ⟨k - 1, by omega⟩
    simp only [tithebarnref16_at.l0]
    unfold atL
    rw [if_neg (by omega), List.drop_eq_nil_of_le (show l.length ≤ i by omega), if_neg (by simp [idsOf])]
  | succ m ih =>
    intro i k hi hk
    obtain ⟨k, rfl⟩ : ∃ m, k = m + 1 := ⟨k - 1, by omega⟩
    simp only [tithebarnref16_at.l0]
    have EW : Aside0 (wrap64 ((i : Int) + 1) = ((i + 1 : Nat) : Int)) := ⟨by rw [w64 (by omega) (by omega)]; omega⟩
    have hd := rdP_drop (show i < l.length by omega)
    rw [if_pos (by omega), if_pos (by omega)]
    unfold atL
    rw [hd]
    generalize rd_T36 l (i : Int) = p
    have hids : idsOf (p :: l.drop (i + 1)) = p.f0 :: idsOf (l.drop (i + 1)) := rfl
    rw [hids]
    by_cases e : p.f0 = x
    · rw [if_pos e, if_pos (by simp [e])]
      unfold ixL
      rw [if_pos e]; rfl
    · rw [if_neg e, EW.out, ih (i + 1) k (by omega) (by omega)]
      unfold atL
      by_cases h : x ∈ idsOf (l.drop (i + 1))
      · rw [if_pos h, if_pos (List.mem_cons_of_mem _ h)]
        conv => rhs; unfold ixL
        rw [if_neg e]
        congr 2; omega
      · rw [if_neg h, if_neg (by simp only [List.mem_cons, not_or]; exact ⟨Ne.symm e, h⟩)]
theorem at_f (l : List SP) (x : Int) (hl : l.length ≤ 4611686018427387904) {k : Nat} (hk : l.length < k) : tithebarnref16_at.f k l x = some (atL l x 0) := by
  unfold tithebarnref16_at.f
  have := at_l0 l x hl l.length 0 k (by omega) hk
  rw [show ((0 : Nat) : Int) = 0 from rfl] at this
  exact this
theorem at_neg {l : List SP} {x : Int} (h : ¬ x ∈ idsOf l) : atL l x 0 = -1 := by unfold atL; rw [List.drop_zero, if_neg h]
theorem at_pos {l : List SP} {x : Int} (h : x ∈ idsOf l) : ∃ i : Nat, atL l x 0 = (i : Int) ∧ i < l.length ∧ (l.take i ++ l.drop (i + 1)).filter (fun p => decide (p.f0 ≠ x)) = l.filter (fun p => decide (p.f0 ≠ x)) :=
  ⟨ixL x l, by unfold atL; rw [List.drop_zero, if_pos h, Nat.zero_add], (ixL_spec x l h).1, (ixL_spec x l h).2⟩
theorem Apply_l1 (d : List Int) (a : List SP) (fl nx : Int) {j : Nat} (hj : j < d.length) (hd : d.length ≤ 1000) (L : Nat) (hL : L ≤ 1000000000) {K : Nat} {R : Option (List SP × Int × Int × Int)} : ∀ (n : Nat) (l : List SP) (k : Nat), l.length = n → n ≤ L → K + n + L + 5 ≤ k →
    (∀ k, K ≤ k → tithebarnref16_Apply.l0 k (l.filter fun p => decide (p.f0 ≠ rd d (j : Int))) ((j + 1 : Nat) : Int) d a fl nx = R) → tithebarnref16_Apply.l1 k l (j : Int) d a fl nx = R := by
  intro n
  induction n with
  | zero =>
    intro l k hn hl hk hnext
    obtain ⟨k, rfl⟩ : ∃ m, k = m + 1 := ⟨k - 1, by omega⟩
    obtain rfl := List.length_eq_zero_iff.mp hn
    simp only [tithebarnref16_Apply.l1]
    have EW : Aside0 (wrap64 ((j : Int) + 1) = ((j + 1 : Nat) : Int)) := ⟨by rw [w64 (by omega) (by omega)]; omega⟩
    rw [if_pos (by omega), if_pos (by omega), at_f [] _ (by simp) (by simp; omega), Option.bind_some, at_neg (by simp [idsOf]), if_neg (by omega), EW.out]
    exact hnext k (by omega)
  | succ n ih =>
    intro l k hn hl hk hnext
    obtain ⟨k, rfl⟩ : ∃ m, k = m + 1 := ⟨k - 1, by omega⟩
    simp only [tithebarnref16_Apply.l1]
    have EW : Aside0 (wrap64 ((j : Int) + 1) = ((j + 1 : Nat) : Int)) := ⟨by rw [w64 (by omega) (by omega)]; omega⟩
    rw [if_pos (by omega), if_pos (by omega), at_f l _ (by omega) (by omega), Option.bind_some]
    by_cases hx : rd d (j : Int) ∈ idsOf l
    · obtain ⟨i, hi, hil, hfl⟩ := at_pos hx
      have HX := Aside0.mk hx; clear hx
      have ei : wrap64 ((i : Int) + 1) = ((i + 1 : Nat) : Int) := by rw [w64 (by omega) (by omega)]; omega
      have EI := Aside0.mk ei; clear ei
      have t1 : (l.take i).length ≤ l.length := List.length_take_le' _ _
      have t2 : (l.drop (i + 1)).length ≤ l.length := by rw [List.length_drop]; omega
      rw [hi, if_pos (by omega), Option.bind_some, if_pos (by omega), if_pos (by omega), Option.bind_some, Int.toNat_natCast, if_pos (by rw [List.length_nil]; omega), Option.bind_some, EI.out, if_pos (by omega), if_pos (by omega), Option.bind_some, Int.toNat_natCast, List.nil_append, if_pos (by omega)]
      refine ih (l.take i ++ l.drop (i + 1)) k (by rw [List.length_append, List.length_take, List.length_drop]; omega) (by omega) (by omega) ?_
      rw [hfl]
      exact hnext
    · have hf : l.filter (fun p => decide (p.f0 ≠ rd d (j : Int))) = l := List.filter_eq_self.mpr (fun p hp => by
        simp only [ne_eq, decide_not, Bool.not_eq_true', decide_eq_false_iff_not]
        intro e; exact hx (by rw [← e]; exact List.mem_map.mpr ⟨p, hp, rfl⟩))
      rw [at_neg hx, if_neg (by omega), EW.out]
      rw [hf] at hnext
      exact hnext k (by omega)
def refD : List SP → List Int → Option (List SP)
  | l, [] => some l
  | l, x :: d => if x ∈ idsOf l then refD (l.filter fun p => decide (p.f0 ≠ x)) d else none
theorem refD_is : ∀ (d : List Int) (s : List SP), refD s d = if d.all (goodD s d) = true then some (keptL s d) else none
  | [], s => by
    unfold refD
    rw [if_pos (show ([] : List Int).all (goodD s []) = true from rfl)]
    congr 1
    unfold keptL
    simp only [List.contains_nil, Bool.not_false]
    exact (List.filter_eq_self.mpr (fun _ _ => rfl)).symm
  | x :: d, s => by
    unfold refD
    by_cases hx : x ∈ idsOf s
    · rw [if_pos hx, refD_is d]
      have hk : keptL (s.filter fun p => decide (p.f0 ≠ x)) d = keptL s (x :: d) := by
        unfold keptL
        rw [List.filter_filter]
        congr 1; funext p
        simp only [List.contains_cons, Bool.not_or, ne_eq, decide_not]
        rw [Bool.and_comm]
        congr 1
      have hg : (d.all (goodD (s.filter fun p => decide (p.f0 ≠ x)) d)) = ((x :: d).all (goodD s (x :: d))) := by
        rw [Bool.eq_iff_iff]
        simp only [List.all_eq_true, List.all_cons, Bool.and_eq_true]
        have hin : ∀ y, y ∈ idsOf (s.filter fun p => decide (p.f0 ≠ x)) ↔ (y ≠ x ∧ y ∈ idsOf s) := fun y => by
          unfold idsOf
          simp only [List.mem_map, List.mem_filter, ne_eq, decide_not, Bool.not_eq_true', decide_eq_false_iff_not]
          constructor
          · rintro ⟨p, ⟨h1, h2⟩, rfl⟩; exact ⟨h2, p, h1, rfl⟩
          · rintro ⟨h1, p, h2, rfl⟩; exact ⟨p, ⟨h2, h1⟩, rfl⟩
        have gd : ∀ (s : List SP) (d : List Int) (y : Int), goodD s d y = true ↔ (d.count y ≤ 1 ∧ y ∈ idsOf s) := fun s d y => by unfold goodD; simp
        constructor
        · intro h
          have hnx : ¬ x ∈ d := fun hm => ((hin x).mp ((gd _ _ _).mp (h x hm)).2).1 rfl
          refine ⟨(gd _ _ _).mpr ⟨?_, hx⟩, fun y hy => (gd _ _ _).mpr ?_⟩
          · rw [List.count_cons_self, List.count_eq_zero_of_not_mem hnx]; omega
          · have h1 := (gd _ _ _).mp (h y hy)
            have h2 := (hin y).mp h1.2
            rw [List.count_cons_of_ne (Ne.symm h2.1)]
            exact ⟨h1.1, h2.2⟩
        · rintro ⟨h0, h⟩ y hy
          have h0' := (gd _ _ _).mp h0
          rw [List.count_cons_self] at h0'
          have hnx : ¬ x ∈ d := fun hm => by have := List.count_pos_iff.mpr hm; omega
          have h1 := (gd _ _ _).mp (h y hy)
          have hne : y ≠ x := fun e => hnx (e ▸ hy)
          rw [List.count_cons_of_ne (Ne.symm hne)] at h1
          exact (gd _ _ _).mpr ⟨h1.1, (hin y).mpr ⟨hne, h1.2⟩⟩
      rw [hk, hg]
    · rw [if_neg hx, if_neg]
      simp only [List.all_cons, Bool.and_eq_true, not_and]
      intro h
      unfold goodD at h
      simp [hx] at h
theorem Apply_l2 (d : List Int) (a : List SP) (fl nx : Int) (ha : a.length ≤ 1000) : ∀ (m i : Nat) (l : List SP) (k : Nat), i + m = a.length → l.length ≤ 1000000000 + i → m + 1000001010 ≤ k → tithebarnref16_Apply.l2 k l (i : Int) d a fl nx = some (if addB nx (idsOf l) (a.drop i) = true then (l ++ a.drop i, fl, nx, 0) else ([], 0, 0, 8)) := by
  intro m
  induction m with
  | zero =>
    intro i l k hi hl hk
    obtain ⟨k, rfl⟩ : ∃ m, k = m + 1 := ⟨k - 1, by omega⟩
    simp only [tithebarnref16_Apply.l2]
    rw [if_neg (by omega), List.drop_eq_nil_of_le (show a.length ≤ i by omega)]
    unfold addB
    rw [if_pos rfl, List.append_nil]
  | succ m ih =>
    intro i l k hi hl hk
    obtain ⟨k, rfl⟩ : ∃ m, k = m + 1 := ⟨k - 1, by omega⟩
    simp only [tithebarnref16_Apply.l2]
    have EW : Aside0 (wrap64 ((i : Int) + 1) = ((i + 1 : Nat) : Int)) := ⟨by rw [w64 (by omega) (by omega)]; omega⟩
    rw [if_pos (by omega), if_pos (by omega), rdP_drop (show i < a.length by omega)]
    obtain ⟨p, hp⟩ : ∃ p, rd_T36 a (i : Int) = p := ⟨_, rfl⟩
    rw [hp]
    unfold addB
    by_cases h1 : p.f0 ≥ nx
    · rw [if_pos h1, decide_eq_true (show nx ≤ p.f0 from h1)]
      simp
    · rw [if_neg h1, decide_eq_false (show ¬ nx ≤ p.f0 from h1), at_f l _ (by omega) (by omega), Option.bind_some]
      by_cases h2 : p.f0 ∈ idsOf l
      · obtain ⟨j, hj, _⟩ := at_pos h2
        rw [hj, if_pos (by omega)]
        simp [h2]
      · rw [at_neg h2, if_neg (by omega), if_pos (by omega), EW.out]
        have := ih (i + 1) (l ++ [p]) k (by omega) (by rw [List.length_append, List.length_singleton]; omega) (by omega)
        rw [idsOf_snoc] at this
        refine this.trans ?_
        have h3 : (idsOf l).contains p.f0 = false := by simpa using h2
        rw [h3, List.append_assoc, List.singleton_append]
        simp
theorem Apply_l0 (d : List Int) (a : List SP) (fl nx : Int) (ha : a.length ≤ 1000) (hd : d.length ≤ 1000) : ∀ (m j : Nat) (l : List SP) (k : Nat), j + m = d.length → l.length ≤ 1000000000 → (m + 1) * 2000000020 + 1000002020 ≤ k →
    tithebarnref16_Apply.l0 k l (j : Int) d a fl nx = some (match refD l (d.drop j) with | some l2 => if addB nx (idsOf l2) a = true then (l2 ++ a, fl, nx, 0) else ([], 0, 0, 8) | none => ([], 0, 0, 8)) := by
  obtain ⟨W, hW⟩ : ∃ W, W = 2000000020 := ⟨_, rfl⟩
  rw [← hW]
  intro m
  induction m with
  | zero =>
    intro j l k hj hl hk
    obtain ⟨k, rfl⟩ : ∃ m, k = m + 1 := ⟨k - 1, by omega⟩
    simp only [tithebarnref16_Apply.l0]
    rw [if_neg (by omega), List.drop_eq_nil_of_le (show d.length ≤ j by omega)]
    have := Apply_l2 d a fl nx ha a.length 0 l k (by omega) (by omega) (by omega)
    rw [show ((0 : Nat) : Int) = 0 from rfl, List.drop_zero] at this
    rw [this]; rfl
  | succ m ih =>
    intro j l k hj hl hk
    rw [Nat.succ_mul] at hk
    obtain ⟨k, rfl⟩ : ∃ m, k = m + 1 := ⟨k - 1, by omega⟩
    simp only [tithebarnref16_Apply.l0]
    have hdr : d.drop j = rd d (j : Int) :: d.drop (j + 1) := by
      rw [List.drop_eq_getElem_cons (show j < d.length by omega)]
      unfold rd
      rw [Int.toNat_natCast, List.getD_eq_getElem?_getD, List.getElem?_eq_getElem (show j < d.length by omega)]; rfl
    rw [if_pos (by omega), if_pos (by omega), at_f l _ (by omega) (by omega), Option.bind_some, hdr]
    unfold refD
    by_cases hx : rd d (j : Int) ∈ idsOf l
    · obtain ⟨i, hi, _⟩ := at_pos hx
      rw [hi, if_neg (by omega), if_pos hx]
      refine Apply_l1 d a fl nx (by omega) hd 1000000000 (by omega) (K := (m + 1) * W + 1000002020) l.length l k rfl hl (by omega) (fun k hk => ?_)
      exact ih (j + 1) _ k (by omega) (Nat.le_trans (List.length_filter_le _ _) hl) hk
    · rw [at_neg hx, if_pos (by omega), if_neg hx]
theorem rApply_f (s : List SP) (sf sn : Int) (d : List Int) (a : List SP) (fl nx : Int) (hs : s.length ≤ 1000000000) {k : Nat} (hk : 3000000000000 ≤ k) : tithebarnref16_Apply.f k s sf sn d a fl nx = some (applyL s sf sn d a fl nx) := by
  obtain ⟨k, rfl⟩ : ∃ m, k = m + 1 := ⟨k - 1, by omega⟩
  unfold tithebarnref16_Apply.f applyL
  rw [rRight_f d a fl nx (by omega), Option.bind_some]
  have j1 : tithebarnref16_Apply.j0 (k + 1) true s sf sn d a fl nx = some ([], 0, 0, 8) := by simp only [tithebarnref16_Apply.j0, if_true]
  cases hr : rightB d a fl nx
  · rw [if_neg (by decide), j1, if_neg (by simp)]
  · obtain ⟨q1, q2, -⟩ := right_d hr
    rw [if_pos rfl]
    by_cases h1 : fl < sf
    · rw [if_pos h1, j1, decide_eq_false (show ¬ sf ≤ fl by omega), if_neg (by simp)]
    · rw [if_neg h1, decide_eq_true (show sf ≤ fl by omega)]
      by_cases h2 : nx < sn
      · rw [decide_eq_true h2, j1, decide_eq_false (show ¬ sn ≤ nx by omega), if_neg (by simp)]
      · rw [decide_eq_false h2, decide_eq_true (show sn ≤ nx by omega)]
        simp only [tithebarnref16_Apply.j0]
        rw [if_neg (by decide), if_pos (by rw [List.length_nil]; omega), List.nil_append]
        have hb : (d.length + 1) * 2000000020 + 1000002020 ≤ k := Nat.le_trans (Nat.add_le_add_right (Nat.mul_le_mul_right _ (show d.length + 1 ≤ 1001 by omega)) _) (by omega)
        have := Apply_l0 d a fl nx q2 q1 d.length 0 s k (by omega) hs hb
        rw [show ((0 : Nat) : Int) = 0 from rfl, List.drop_zero, refD_is] at this
        rw [this]
        cases d.all (goodD s d)
        · simp
        · simp
end Go.Proofs.Ytagokgijffpdnaa.G
