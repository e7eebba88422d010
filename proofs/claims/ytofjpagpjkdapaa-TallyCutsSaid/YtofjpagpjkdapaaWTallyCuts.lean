import Derived.Test.YtofjpagpjkdapaaPureTallyOrder
import Derived.Test.YtofjpagpjkdapaaH1
import Derived.Test.YtofjpagpjkdapaaQ4
import Derived.OpenShut
/-! The walk of TallyCuts. Its two regions are printed by wip/rgn.py. -/
namespace Go.Proofs.Ytofjpagpjkdapaa.G
open Go.RowKit Go.Proofs.YtofjpagpjkdapaaQ Go.Proofs.YtofjpagpjkdapaaW.PrintWords Go.Proofs.YtofjpagpjkdapaaW.PrintLast Go.Proofs.YtofjpagpjkdapaaW.PrintMore
set_option linter.unusedVariables false
set_option linter.unusedSimpArgs false
def TallyCuts.T3 : Bool × List (List Nat × List Nat) := (true, [([], []), ([0], [0]), ([1], [1]), ([], []), ([3, 1], [3]), ([4], [4]), ([2, 4, 0, 1, 2], [2]), ([5, 6, 0, 1, 2, 3, 4, 5, 6], [5])])
theorem TallyCuts.tab3 : rtab .any (opsOf Try.f6 3) = TallyCuts.T3 := by kernel_rfl
set_option maxHeartbeats 4000000 in
set_option maxRecDepth 100000 in
theorem TallyCuts.walk0 (x : Int) (s : ByteArray) (cut : Int) (w : World) (hx : u64 x) (hm : s.size ≤ 140737488351232) (a b : ByteArray) (ha : strOfNums (encU x) = a) (hb : strOfNums (encT (bytesOf s)) = b)
    (i j : Nat) (hi : Int.tmod (IntKind.u64.wrap cut) (a.size : Int) = (i : Int)) (hj : Int.tmod (IntKind.u64.wrap cut) (b.size : Int) = (j : Int)) (i1 : (i : Int) ≤ (a.size : Int)) (j1 : (j : Int) ≤ (b.size : Int)) (a0 : 0 < a.size) (b0 : 0 < b.size)
    (az : a.size ≤ 4611686018427387904) (bz : b.size ≤ 4611686018427387904) (hU : aUint (bytesOf (a.extract 0 i)) 0 = (0, bytesOf (a.extract 0 i), 2)) (hT : aText (s.size : Int) (bytesOf (b.extract 0 j)) 0 = ([], bytesOf (b.extract 0 j), 2)) :
    Calls Try.prog 6 #[.int .u64 x, .string s, .int .i64 cut] w fun e w' => e = .returned (.bool true) ∧ Below w.heap.size w w' := by
  have HU := Aside0.mk hU; have HT := Aside0.mk hT; have HA := Aside0.mk ha; have HB := Aside0.mk hb; clear hU hT ha hb
  have a1 : ((a.size : Int) == 0) = false := by rw [beq_eq_false_iff_ne]; omega
  have b1 : ((b.size : Int) == 0) = false := by rw [beq_eq_false_iff_ne]; omega
  go_enter Try.func6, Try.ntmps6
  go_wp2_with fail
  refine (tithebarnlaw01_lives.calls 10 true _ (Pure.lives1 (Nat.le_refl _))).mono ?_; rintro e w1 ⟨rfl, hb1⟩
  go_wp2_with fail
  refine start_ (n := 8) (S := fun w' => True) (ds := []) #[false, false, false, false, false, false, false, false] (by kernel_rfl) rfl rfl trivial (fun hHeld => ?_)
  refine with_tab TallyCuts.tab3 (fun HT_ => ?_)
  replace hb1 := below_drew hb1
  generalize w1.drew = w2 at hb1 hHeld ⊢
  refine pure_ (i := 0) (N := (some 13)) (v := ?_) (a' := ?_) #[true, false, false, false, false, false, false, false] rfl rfl (any_of HT_.out (by kernel_rfl)) (fun _ _ _ h => h) (Or.inl ⟨by rfl, ?_⟩) ?_ ?_
  rotate_left
  · intro w'
    go_simp
    with_reducible rfl
  rotate_left
  · simp only [Act.put, List.setIfInBounds_toArray, List.set_cons_zero, List.set_cons_succ, i64_w, i32_w]
    rfl
  refine pure_ (i := 3) (N := (some 16)) (v := ?_) (a' := ?_) #[true, false, false, true, false, false, false, false] rfl rfl (any_of HT_.out (by kernel_rfl)) (fun _ _ _ h => h) (Or.inl ⟨by rfl, ?_⟩) ?_ ?_
  rotate_left
  · intro w'
    go_simp
    with_reducible rfl
  rotate_left
  · simp only [Act.put, List.setIfInBounds_toArray, List.set_cons_zero, List.set_cons_succ, i64_w, i32_w]
    rfl
  refine one_ (i := 1) (N := (some 14)) #[true, true, false, true, false, false, false, false] rfl rfl (one_of HT_.out (by kernel_rfl)) (by decide) (fun K hK => ?_)
  refine goes_ Try.func11 (by kernel_rfl) rfl #[.slice none 0 0, .int .u64 x] (by rfl) rfl rfl (by first | rfl | (simp only [List.map_toArray, List.map_cons, List.map_nil]; rfl)) ?_
  refine (putU_any (w0 := w) (l := []) (Own.nil _ _) hb1 (by simp) hx).mono ?_
  rintro e w3 ⟨v3, rfl, ho3, hb3, hk3⟩
  refine ⟨_, rfl, ?_⟩
  have hs3 : (convert 24 9 v3).run Try.prog w3 = .ok (.string a) w3 := by rw [← HA.out]; exact ho3.str
  refine hK.out _ _ trivial (fun hHeld => ?_)
  clear hK K
  refine norm_ (a' := ?_) ?_ ?_
  rotate_left
  · show Act.put _ (some 14) _ = _
    simp only [Act.put, List.setIfInBounds_toArray, List.set_cons_zero, List.set_cons_succ, i64_w, i32_w]
    rfl
  refine two_ (i := 2) (j := 4) (Ni := (some 15)) (Nj := (some 17)) #[true, true, true, true, false, false, false, false] #[true, true, false, true, true, false, false, false] rfl rfl rfl rfl (two_of HT_.out (by kernel_rfl)) (by decide) (by decide) (fun K hK => ?_) (fun K hK => ?_)
  · skip
    refine value_ (w1 := ?_) (v := ?_) (by rfl) rfl ?_ ?_
    rotate_left 2
    · go_simp
      constructor
      · rfl
      · rfl
    refine hK.out _ _ trivial (fun hHeld => ?_)
    clear hK K
    refine norm_ (a' := ?_) ?_ ?_
    rotate_left
    · show Act.put _ (some 15) _ = _
      simp only [Act.put, List.setIfInBounds_toArray, List.set_cons_zero, List.set_cons_succ, i64_w, i32_w]
      rfl
    refine one_ (i := 4) (N := (some 17)) #[true, true, true, true, true, false, false, false] rfl rfl (one_of HT_.out (by kernel_rfl)) (by decide) (fun K hK => ?_)
    refine goes_ Try.func13 (by kernel_rfl) rfl #[.slice none 0 0, .string s] (by rfl) rfl rfl (by first | rfl | (simp only [List.map_toArray, List.map_cons, List.map_nil]; rfl)) ?_
    refine (putT_any (w0 := w) (l := []) (s := s) (Own.nil _ _) hb3 (by simp; omega)).mono ?_
    rintro e w4 ⟨v4, rfl, ho4, hb4, hk4⟩
    refine ⟨_, rfl, ?_⟩
    have hs4 : (convert 24 9 v4).run Try.prog w4 = .ok (.string b) w4 := by rw [← HB.out]; exact ho4.str
    have hs3' : (convert 24 9 v3).run Try.prog w4 = .ok (.string a) w4 := by rw [← HA.out]; exact (Own.kept_nil ho3 hk4).str
    refine hK.out _ _ trivial (fun hHeld => ?_)
    clear hK K
    refine norm_ (a' := ?_) ?_ ?_
    rotate_left
    · show Act.put _ (some 17) _ = _
      simp only [Act.put, List.setIfInBounds_toArray, List.set_cons_zero, List.set_cons_succ, i64_w, i32_w]
      rfl
    refine pure_ (i := 6) (N := (some 7)) (v := ?_) (a' := ?_) #[true, true, true, true, true, false, true, false] rfl rfl (any_of HT_.out (by kernel_rfl)) (fun _ _ _ h => h) (Or.inl ⟨by rfl, ?_⟩) ?_ ?_
    rotate_left
    · intro w'
      go_simp
      with_reducible rfl
    rotate_left
    · simp only [Act.put, List.setIfInBounds_toArray, List.set_cons_zero, List.set_cons_succ, i64_w, i32_w]
      rfl
    refine one_ (i := 5) (N := (some 18)) #[true, true, true, true, true, true, true, false] rfl rfl (one_of HT_.out (by kernel_rfl)) (by decide) (fun K hK => ?_)
    refine value_ (w1 := ?_) (v := ?_) (by rfl) rfl ?_ ?_
    rotate_left 2
    · go_simp
      constructor
      · rfl
      · rfl
    refine hK.out _ _ trivial (fun hHeld => ?_)
    clear hK K
    refine norm_ (a' := ?_) ?_ ?_
    rotate_left
    · show Act.put _ (some 18) _ = _
      simp only [Act.put, List.setIfInBounds_toArray, List.set_cons_zero, List.set_cons_succ, i64_w, i32_w]
      rfl
    refine pure_ (i := 7) (N := (some 8)) (v := ?_) (a' := ?_) #[true, true, true, true, true, true, true, true] rfl rfl (any_of HT_.out (by kernel_rfl)) (fun _ _ _ h => h) (Or.inl ⟨by rfl, ?_⟩) ?_ ?_
    rotate_left
    · intro w'
      go_simp
      with_reducible rfl
    rotate_left
    · simp only [Act.put, List.setIfInBounds_toArray, List.set_cons_zero, List.set_cons_succ, i64_w, i32_w]
      rfl
    refine done_ (done_of HT_.out (by kernel_rfl)) ?_
    go_wp2_with fail
    refine (from_any (w0 := w) (a.extract 0 i) (by simp; omega) hb4).mono ?_; rintro e w5 ⟨c, rfl, hc, hcw, hb5, _⟩
    go_wp2_with fail
    refine (from_any (w0 := w) (b.extract 0 j) (by simp; omega) hb5).mono ?_; rintro e w6 ⟨d, rfl, hd, hdw, hb6, hb6'⟩
    have hcd : c ≠ d := by have := hc.lt; omega
    replace hc := hc.below hb6'
    clear hs4 hs3' hs3 hk4 hk3 ho3 ho4 hcw hdw hb6'
    go_wp2_with fail
    refine (uint_any hc hb6).mono ?_; rintro e w7 ⟨rfl, hc, hb7, hk7⟩
    replace hd := hd.keep hk7 (Ne.symm hcd)
    rw [HU.out] at hc ⊢
    go_wp2_with fail
    refine (err_same hc).mono ?_; rintro e w8 ⟨rfl, rfl⟩
    go_wp2_with fail
    refine (text_any (s.size : Int) (by omega) hd hb7).mono ?_; rintro e w9 ⟨rfl, hd, hb9, hk9⟩
    rw [HT.out] at hd ⊢
    simp only [strOfNums_nil]
    go_wp2_with fail
    refine (err_same hd).mono ?_; rintro e w10 ⟨rfl, rfl⟩
    go_wp2_with fail
    go_ret
    exact ⟨rfl, hb9⟩
  · skip
    refine goes_ Try.func13 (by kernel_rfl) rfl #[.slice none 0 0, .string s] (by rfl) rfl rfl (by first | rfl | (simp only [List.map_toArray, List.map_cons, List.map_nil]; rfl)) ?_
    refine (putT_any (w0 := w) (l := []) (s := s) (Own.nil _ _) hb3 (by simp; omega)).mono ?_
    rintro e w4 ⟨v4, rfl, ho4, hb4, hk4⟩
    refine ⟨_, rfl, ?_⟩
    have hs4 : (convert 24 9 v4).run Try.prog w4 = .ok (.string b) w4 := by rw [← HB.out]; exact ho4.str
    have hs3' : (convert 24 9 v3).run Try.prog w4 = .ok (.string a) w4 := by rw [← HA.out]; exact (Own.kept_nil ho3 hk4).str
    refine hK.out _ _ trivial (fun hHeld => ?_)
    clear hK K
    refine norm_ (a' := ?_) ?_ ?_
    rotate_left
    · show Act.put _ (some 17) _ = _
      simp only [Act.put, List.setIfInBounds_toArray, List.set_cons_zero, List.set_cons_succ, i64_w, i32_w]
      rfl
    refine two_ (i := 2) (j := 5) (Ni := (some 15)) (Nj := (some 18)) #[true, true, true, true, true, false, false, false] #[true, true, false, true, true, true, false, false] rfl rfl rfl rfl (two_of HT_.out (by kernel_rfl)) (by decide) (by decide) (fun K hK => ?_) (fun K hK => ?_)
    · skip
      refine value_ (w1 := ?_) (v := ?_) (by rfl) rfl ?_ ?_
      rotate_left 2
      · go_simp
        constructor
        · rfl
        · rfl
      refine hK.out _ _ trivial (fun hHeld => ?_)
      clear hK K
      refine norm_ (a' := ?_) ?_ ?_
      rotate_left
      · show Act.put _ (some 15) _ = _
        simp only [Act.put, List.setIfInBounds_toArray, List.set_cons_zero, List.set_cons_succ, i64_w, i32_w]
        rfl
      refine pure_ (i := 6) (N := (some 7)) (v := ?_) (a' := ?_) #[true, true, true, true, true, false, true, false] rfl rfl (any_of HT_.out (by kernel_rfl)) (fun _ _ _ h => h) (Or.inl ⟨by rfl, ?_⟩) ?_ ?_
      rotate_left
      · intro w'
        go_simp
        with_reducible rfl
      rotate_left
      · simp only [Act.put, List.setIfInBounds_toArray, List.set_cons_zero, List.set_cons_succ, i64_w, i32_w]
        rfl
      refine one_ (i := 5) (N := (some 18)) #[true, true, true, true, true, true, true, false] rfl rfl (one_of HT_.out (by kernel_rfl)) (by decide) (fun K hK => ?_)
      refine value_ (w1 := ?_) (v := ?_) (by rfl) rfl ?_ ?_
      rotate_left 2
      · go_simp
        constructor
        · rfl
        · rfl
      refine hK.out _ _ trivial (fun hHeld => ?_)
      clear hK K
      refine norm_ (a' := ?_) ?_ ?_
      rotate_left
      · show Act.put _ (some 18) _ = _
        simp only [Act.put, List.setIfInBounds_toArray, List.set_cons_zero, List.set_cons_succ, i64_w, i32_w]
        rfl
      refine pure_ (i := 7) (N := (some 8)) (v := ?_) (a' := ?_) #[true, true, true, true, true, true, true, true] rfl rfl (any_of HT_.out (by kernel_rfl)) (fun _ _ _ h => h) (Or.inl ⟨by rfl, ?_⟩) ?_ ?_
      rotate_left
      · intro w'
        go_simp
        with_reducible rfl
      rotate_left
      · simp only [Act.put, List.setIfInBounds_toArray, List.set_cons_zero, List.set_cons_succ, i64_w, i32_w]
        rfl
      refine done_ (done_of HT_.out (by kernel_rfl)) ?_
      go_wp2_with fail
      refine (from_any (w0 := w) (a.extract 0 i) (by simp; omega) hb4).mono ?_; rintro e w5 ⟨c, rfl, hc, hcw, hb5, _⟩
      go_wp2_with fail
      refine (from_any (w0 := w) (b.extract 0 j) (by simp; omega) hb5).mono ?_; rintro e w6 ⟨d, rfl, hd, hdw, hb6, hb6'⟩
      have hcd : c ≠ d := by have := hc.lt; omega
      replace hc := hc.below hb6'
      clear hs4 hs3' hs3 hk4 hk3 ho3 ho4 hcw hdw hb6'
      go_wp2_with fail
      refine (uint_any hc hb6).mono ?_; rintro e w7 ⟨rfl, hc, hb7, hk7⟩
      replace hd := hd.keep hk7 (Ne.symm hcd)
      rw [HU.out] at hc ⊢
      go_wp2_with fail
      refine (err_same hc).mono ?_; rintro e w8 ⟨rfl, rfl⟩
      go_wp2_with fail
      refine (text_any (s.size : Int) (by omega) hd hb7).mono ?_; rintro e w9 ⟨rfl, hd, hb9, hk9⟩
      rw [HT.out] at hd ⊢
      simp only [strOfNums_nil]
      go_wp2_with fail
      refine (err_same hd).mono ?_; rintro e w10 ⟨rfl, rfl⟩
      go_wp2_with fail
      go_ret
      exact ⟨rfl, hb9⟩
    · skip
      refine value_ (w1 := ?_) (v := ?_) (by rfl) rfl ?_ ?_
      rotate_left 2
      · go_simp
        constructor
        · rfl
        · rfl
      refine hK.out _ _ trivial (fun hHeld => ?_)
      clear hK K
      refine norm_ (a' := ?_) ?_ ?_
      rotate_left
      · show Act.put _ (some 18) _ = _
        simp only [Act.put, List.setIfInBounds_toArray, List.set_cons_zero, List.set_cons_succ, i64_w, i32_w]
        rfl
      refine one_ (i := 2) (N := (some 15)) #[true, true, true, true, true, true, false, false] rfl rfl (one_of HT_.out (by kernel_rfl)) (by decide) (fun K hK => ?_)
      refine value_ (w1 := ?_) (v := ?_) (by rfl) rfl ?_ ?_
      rotate_left 2
      · go_simp
        constructor
        · rfl
        · rfl
      refine hK.out _ _ trivial (fun hHeld => ?_)
      clear hK K
      refine norm_ (a' := ?_) ?_ ?_
      rotate_left
      · show Act.put _ (some 15) _ = _
        simp only [Act.put, List.setIfInBounds_toArray, List.set_cons_zero, List.set_cons_succ, i64_w, i32_w]
        rfl
      refine pure_ (i := 6) (N := (some 7)) (v := ?_) (a' := ?_) #[true, true, true, true, true, true, true, false] rfl rfl (any_of HT_.out (by kernel_rfl)) (fun _ _ _ h => h) (Or.inl ⟨by rfl, ?_⟩) ?_ ?_
      rotate_left
      · intro w'
        go_simp
        with_reducible rfl
      rotate_left
      · simp only [Act.put, List.setIfInBounds_toArray, List.set_cons_zero, List.set_cons_succ, i64_w, i32_w]
        rfl
      refine pure_ (i := 7) (N := (some 8)) (v := ?_) (a' := ?_) #[true, true, true, true, true, true, true, true] rfl rfl (any_of HT_.out (by kernel_rfl)) (fun _ _ _ h => h) (Or.inl ⟨by rfl, ?_⟩) ?_ ?_
      rotate_left
      · intro w'
        go_simp
        with_reducible rfl
      rotate_left
      · simp only [Act.put, List.setIfInBounds_toArray, List.set_cons_zero, List.set_cons_succ, i64_w, i32_w]
        rfl
      refine done_ (done_of HT_.out (by kernel_rfl)) ?_
      go_wp2_with fail
      refine (from_any (w0 := w) (a.extract 0 i) (by simp; omega) hb4).mono ?_; rintro e w5 ⟨c, rfl, hc, hcw, hb5, _⟩
      go_wp2_with fail
      refine (from_any (w0 := w) (b.extract 0 j) (by simp; omega) hb5).mono ?_; rintro e w6 ⟨d, rfl, hd, hdw, hb6, hb6'⟩
      have hcd : c ≠ d := by have := hc.lt; omega
      replace hc := hc.below hb6'
      clear hs4 hs3' hs3 hk4 hk3 ho3 ho4 hcw hdw hb6'
      go_wp2_with fail
      refine (uint_any hc hb6).mono ?_; rintro e w7 ⟨rfl, hc, hb7, hk7⟩
      replace hd := hd.keep hk7 (Ne.symm hcd)
      rw [HU.out] at hc ⊢
      go_wp2_with fail
      refine (err_same hc).mono ?_; rintro e w8 ⟨rfl, rfl⟩
      go_wp2_with fail
      refine (text_any (s.size : Int) (by omega) hd hb7).mono ?_; rintro e w9 ⟨rfl, hd, hb9, hk9⟩
      rw [HT.out] at hd ⊢
      simp only [strOfNums_nil]
      go_wp2_with fail
      refine (err_same hd).mono ?_; rintro e w10 ⟨rfl, rfl⟩
      go_wp2_with fail
      go_ret
      exact ⟨rfl, hb9⟩
theorem TallyCuts.walk (x : Int) (s : ByteArray) (cut : Int) (w : World) (hx : (Lit.int .u64 x).wf = true) (hm : s.size ≤ 140737488351232) (hc : (Lit.int .i64 cut).wf = true) :
    Calls Try.prog 6 #[.int .u64 x, .string s, .int .i64 cut] w fun e w' => e = .returned (.bool true) ∧ Below w.heap.size w w' := by
  have hx' : u64 x := by have := bounds_u64 hx; unfold u64; omega
  have hB := Bs.bytesOf s
  have hsz := bytesOf_size s
  have hu : u64 (s.size : Int) := by unfold u64; omega
  have l1 := encU_len x
  have l2 := encU_len (s.size : Int)
  have sa : (strOfNums (encU x)).size = (encU x).length := size_strOfNums _
  have sb : (strOfNums (encT (bytesOf s))).size = (encU (s.size : Int)).length + s.size := by rw [size_strOfNums]; unfold encT; rw [List.length_append, hsz]
  have eb : encT (bytesOf s) = encU (s.size : Int) ++ bytesOf s := by unfold encT; rw [hsz]
  have hcut : 0 ≤ IntKind.u64.wrap cut := by rw [wu64_def]; omega
  have md : ∀ m : Nat, 0 < m → ∃ i : Nat, Int.tmod (IntKind.u64.wrap cut) (m : Int) = (i : Int) ∧ i < m := by
    intro m hm
    have h0 := Int.tmod_nonneg (m : Int) hcut
    have h1 := Int.tmod_lt_of_pos (IntKind.u64.wrap cut) (show (0 : Int) < (m : Int) by omega)
    exact ⟨(Int.tmod (IntKind.u64.wrap cut) (m : Int)).toNat, by omega, by omega⟩
  obtain ⟨i, hi, hi'⟩ := md (strOfNums (encU x)).size (by omega)
  obtain ⟨j, hj, hj'⟩ := md (strOfNums (encT (bytesOf s))).size (by omega)
  have ea : bytesOf ((strOfNums (encU x)).extract 0 i) = (encU x).take i := by rw [bytesOf_extract, bytesOf_strOfNums (encU_Bs hx')]; rfl
  have eb' : bytesOf ((strOfNums (encT (bytesOf s))).extract 0 j) = (encT (bytesOf s)).take j := by rw [bytesOf_extract, bytesOf_strOfNums (by rw [eb]; exact (encU_Bs hu).app hB)]; rfl
  refine TallyCuts.walk0 x s cut w hx' hm _ _ rfl rfl i j hi hj (by omega) (by omega) (by omega) (by omega) (by omega) (by omega) ?_ ?_
  · rw [ea]
    unfold aUint
    rw [if_pos rfl, decU_cut hx' (by omega)]; simp
  · rw [eb', eb]
    unfold aText
    rw [if_pos rfl]
    by_cases c : j < (encU (s.size : Int)).length
    · have e : (encU (s.size : Int) ++ bytesOf s).take j = (encU (s.size : Int)).take j := List.take_append_of_le_length (by omega)
      rw [e, decU_cut hu c]; simp
    · have e : (encU (s.size : Int) ++ bytesOf s).take j = encU (s.size : Int) ++ (bytesOf s).take (j - (encU (s.size : Int)).length) := by
        rw [List.take_append, List.take_of_length_le (by omega)]
      rw [e, decU_enc hu]
      simp only
      rw [if_pos trivial, if_neg (by omega), if_pos (by rw [List.drop_left, List.length_take, hsz]; omega)]

end Go.Proofs.Ytofjpagpjkdapaa.G
