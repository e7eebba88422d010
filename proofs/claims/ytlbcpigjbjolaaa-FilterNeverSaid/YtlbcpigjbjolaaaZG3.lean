import Derived.Test.YtlbcpigjbjolaaaZQA
namespace Go.Proofs.Ytlbcpigjbjolaaa.G
open Go.RowKit Go.Proofs.YtlbcpigjbjolaaaQ Go.Proofs.YtlbcpigjbjolaaaW.PrintWords Go.Proofs.YtlbcpigjbjolaaaW.PrintLast Go.Proofs.YtlbcpigjbjolaaaW.PrintMore
attribute [local go_sem] max2_int min2_int max_two min_two max_three min_three max_four min_four   -- for this text's walks alone
set_option linter.unusedVariables false
set_option linter.unusedSimpArgs false
def Grw (w w' : World) : Prop := Below w.heap.size w w' ∧ w.drawn ≤ w'.drawn
theorem Grw.out {w w' : World} (h : Grw w w') : ∃ q os, w' = Go.Sort.grow (w.drewN q) os := by
 obtain ⟨hb, hd⟩ := h
 refine ⟨w'.drawn - w.drawn, w'.heap.extract w.heap.size w'.heap.size, ?_⟩
 have h1 : w.heap ++ w'.heap.extract w.heap.size w'.heap.size = w'.heap := by
  apply Array.ext_getElem?
  intro i
  have hs := hb.size
  rcases Nat.lt_or_ge i w.heap.size with hi | hi
  ·rw [Array.getElem?_append_left hi, hb.block i hi]
  ·rw [Array.getElem?_append_right hi, Array.getElem?_extract]
   split
   ·congr 1; omega
   ·rw [Array.getElem?_eq_none]; omega
 have h2 : w.drawn + (w'.drawn - w.drawn) = w'.drawn := by omega
 have e3 := hb.os; have e4 := hb.tape; have e5 := hb.output
 cases w'; cases w
 simp only [Go.Sort.grow, World.drewN] at *
 simp only [h1, h2, e3, e4, e5]
theorem Grw.refl (w : World) : Grw w w := ⟨Below.refl _ _, Nat.le_refl _⟩
def cmpI (a b : Int) : Int := if a < b then -1 else if b < a then 1 else 0
def cmpV (x y : S28) : Int := if x.f0 = true then (if y.f0 = true then 0 else -1) else if y.f0 = true then 1 else if cmpI x.f1 y.f1 = 0 then cmpStr x.f2 y.f2 else cmpI x.f1 y.f1
theorem cmpI_f (a b : Int) : cmp_Compare_int64.f a b = some (cmpI a b) := by
 unfold cmp_Compare_int64.f cmp_isNaN_int64.f cmpI
 simp only [bne_self_eq_false, Option.bind_some]
 by_cases h1 : a < b
 ·simp [h1]
 ·by_cases h2 : b < a <;> simp [h1, h2]
theorem cmpOr_f (k : Nat) (a b : Int) : cmp_Or_int.f (k + 3) [a, b] = some (if a = 0 then b else a) := by
 unfold cmp_Or_int.f
 have r0 : rd [a, b] 0 = a := rfl
 have r1 : rd [a, b] 1 = b := rfl
 have w0 : wrap64 ((0 : Int) + 1) = 1 := by unfold wrap64; decide
 have w1 : wrap64 ((1 : Int) + 1) = 2 := by unfold wrap64; decide
 rw [cmp_Or_int.l0]
 simp only [List.length_cons, List.length_nil, r0, w0]
 by_cases h : a = 0
 ·subst h
  rw [cmp_Or_int.l0]
  simp only [List.length_cons, List.length_nil, r1, w1]
  by_cases h2 : b = 0
  ·subst h2
   rw [cmp_Or_int.l0]
   simp
  ·simp [h2]
 ·simp [h]
theorem cmpV_tt (i1 i2 : Int) (s1 s2 : ByteArray) (w : World) :
  Calls Try.prog 14 #[.agg #[.bool true, .int .i64 i1, .string s1], .agg #[.bool true, .int .i64 i2, .string s2]] w fun e w' => e = .returned (.int .i64 0) ∧ Grw w w' := by
 go_enter Try.func14, Try.ntmps14
 go_wp2
 go_ret
 exact ⟨rfl, by repeat (first | exact Below.refl _ _ | apply below_alloc | apply pw_below_drewN | apply below_drew1), by simp only [World.alloc, World.drewN, World.drew]; omega⟩
theorem cmpV_tf (i1 i2 : Int) (s1 s2 : ByteArray) (w : World) :
  Calls Try.prog 14 #[.agg #[.bool true, .int .i64 i1, .string s1], .agg #[.bool false, .int .i64 i2, .string s2]] w fun e w' => e = .returned (.int .i64 (-1)) ∧ Grw w w' := by
 go_enter Try.func14, Try.ntmps14
 go_wp2
 go_ret
 exact ⟨rfl, by repeat (first | exact Below.refl _ _ | apply below_alloc | apply pw_below_drewN | apply below_drew1), by simp only [World.alloc, World.drewN, World.drew]; omega⟩
theorem cmpV_ft (i1 i2 : Int) (s1 s2 : ByteArray) (w : World) :
  Calls Try.prog 14 #[.agg #[.bool false, .int .i64 i1, .string s1], .agg #[.bool true, .int .i64 i2, .string s2]] w fun e w' => e = .returned (.int .i64 1) ∧ Grw w w' := by
 go_enter Try.func14, Try.ntmps14
 go_wp2
 go_ret
 exact ⟨rfl, by repeat (first | exact Below.refl _ _ | apply below_alloc | apply pw_below_drewN | apply below_drew1), by simp only [World.alloc, World.drewN, World.drew]; omega⟩
theorem blk_new2 (w : World) (o o' : Obj) : ((w.alloc o).alloc o').heap[w.heap.size + 1]? = some o' := by
 have h := blk_new (w.alloc o) o'
 have e : (w.alloc o).heap.size = w.heap.size + 1 := by simp only [World.alloc, Array.size_push]
 rw [e] at h
 exact h
theorem lit2_C (W : World) (a b : Int) : Kd.C (Kd.int .i64) (W.alloc (.cells #[.int .i64 a, .int .i64 b] 3 (0, 0))) (some ⟨W.heap.size, 0, none⟩) ([a, b] : List Int).length [a, b] := by
 refine ⟨rfl, by simp, fun _ => ⟨_, rfl, fun j p hj => ⟨[.int .i64 p], rfl, rfl, fun i u hu => ?_⟩⟩⟩
 have hi : i = 0 := by
  rcases i with _ | i
  ·rfl
  ·simp at hu
 subst hi
 have hb := blk_cell (blk_new W (.cells #[.int .i64 a, .int .i64 b] 3 (0, 0)))
 have hu' : Value.int .i64 p = u := by simpa using hu
 subst hu'
 rcases j with _ | _ | j
 ·have : a = p := by simpa using hj
  subst this
  exact (hb 0).trans rfl
 ·have : b = p := by simpa using hj
  subst this
  exact (hb 1).trans rfl
 ·simp at hj
set_option maxHeartbeats 4000000 in
set_option maxRecDepth 100000 in
theorem cmpV_ff (i1 i2 : Int) (s1 s2 : ByteArray) (T1 T2 T3 : Int) (ht1 : T1 = cmpI i1 i2) (ht2 : T2 = cmpStr s1 s2) (ht3 : T3 = if T1 = 0 then T2 else T1) (w : World) :
  Calls Try.prog 14 #[.agg #[.bool false, .int .i64 i1, .string s1], .agg #[.bool false, .int .i64 i2, .string s2]] w fun e w' => e = .returned (.int .i64 T3) ∧ Grw w w' := by
 have A1 : Aside0 (cmp_Compare_int64.f i1 i2 = some T1) := Aside0.mk (by rw [ht1]; exact cmpI_f i1 i2)
 have A2 : Aside0 (cmp_Compare_string.f s1 s2 = some T2) := Aside0.mk (by rw [ht2]; rfl)
 have A3 : Aside0 (cmp_Or_int.f 3 [T1, T2] = some T3) := Aside0.mk (by rw [ht3]; exact cmpOr_f 0 T1 T2)
 have HT1 := Aside0.mk ht1; have HT2 := Aside0.mk ht2; have HT3 := Aside0.mk ht3
 clear ht1 ht2 ht3
 go_enter Try.func14, Try.ntmps14
 go_wp2
 have BK1 := Aside0.mk (blk_alloc (blk_new w (.cells #[.bool false, .int .i64 i1, .string s1] 28 (0, 0))) (.cells #[.bool false, .int .i64 i2, .string s2] 28 (0, 0)))
 have BK2 : Aside0 (((w.alloc (.cells #[.bool false, .int .i64 i1, .string s1] 28 (0, 0))).alloc (.cells #[.bool false, .int .i64 i2, .string s2] 28 (0, 0))).heap[w.heap.size + 1]? = some (.cells #[.bool false, .int .i64 i2, .string s2] 28 (0, 0))) := Aside0.mk (blk_new2 w _ _)
 have HB : Aside0 (Below w.heap.size w ((w.alloc (.cells #[.bool false, .int .i64 i1, .string s1] 28 (0, 0))).alloc (.cells #[.bool false, .int .i64 i2, .string s2] 28 (0, 0)))) := Aside0.mk (below_alloc (below_alloc (Below.refl _ _) _) _)
 have HD : Aside0 (w.drawn ≤ ((w.alloc (.cells #[.bool false, .int .i64 i1, .string s1] 28 (0, 0))).alloc (.cells #[.bool false, .int .i64 i2, .string s2] 28 (0, 0))).drawn) := Aside0.mk (Nat.le_refl _)
 have hg1 : ∃ g, g = w.heap.size := ⟨_, rfl⟩
 obtain ⟨g1, hg1⟩ := hg1
 obtain ⟨g2, hg2⟩ : ∃ g, g = w.heap.size + 1 := ⟨_, rfl⟩
 rw [← hg1] at BK1; rw [← hg2] at BK2
 rw [← hg2, ← hg1]
 clear hg1 hg2
 generalize (w.alloc (.cells #[.bool false, .int .i64 i1, .string s1] 28 (0, 0))).alloc (.cells #[.bool false, .int .i64 i2, .string s2] 28 (0, 0)) = wc at BK1 BK2 HB HD ⊢
 have n0_ := Aside0.mk (blk_drew BK1.out)
 have n1_ := Aside0.mk (blk_drew BK2.out)
 have n2_ := Aside0.mk (below_drew1 HB.out)
 have n3_ : Aside0 (w.drawn ≤ wc.drew.drawn) := Aside0.mk (Nat.le_succ_of_le HD.out)
 clear BK1 BK2 HB HD
 have BK1 := n0_
 have BK2 := n1_
 have HB := n2_
 have HD := n3_
 clear n0_ n1_ n2_ n3_
 refine start_ (n := 13) (S := fun w' => w'.cell? ⟨g1, 0, none⟩ = some (.bool false) ∧ w'.cell? ⟨g1, 1, none⟩ = some (.int .i64 i1) ∧ w'.cell? ⟨g1, 2, none⟩ = some (.string s1) ∧ w'.cell? ⟨g2, 0, none⟩ = some (.bool false) ∧ w'.cell? ⟨g2, 1, none⟩ = some (.int .i64 i2) ∧ w'.cell? ⟨g2, 2, none⟩ = some (.string s2)) (ds := []) #[false, false, false, false, false, false, false, false, false, false, false, false, false] (by kernel_rfl) rfl rfl ⟨(blk_cell BK1.out 0).trans rfl, (blk_cell BK1.out 1).trans rfl, (blk_cell BK1.out 2).trans rfl, (blk_cell BK2.out 0).trans rfl, (blk_cell BK2.out 1).trans rfl, (blk_cell BK2.out 2).trans rfl⟩ (fun hHeld => ?_); refine with_tabW kinds_Compare.tab7 kinds_Compare.bits7 (fun HT_ HW_ => ?_)
 generalize hWD : wc.drew = wd at BK1 BK2 HB HD hHeld ⊢
 refine pure_ (i := 0) (N := some 18) (v := ?_) (a' := ?_) #[true, false, false, false, false, false, false, false, false, false, false, false, false] rfl rfl (any_of HT_.out (by kernel_rfl)) (fun _ _ _ h => h) (Or.inl ⟨by rfl, ?_⟩) ?_ ?_
 rotate_left
 ·intro w'
  go_simp
  with_reducible rfl
 rotate_left
 ·simp only [Act.put, List.setIfInBounds_toArray, List.set_cons_zero, List.set_cons_succ, i64_w, i32_w]
  rfl
 refine pure_ (i := 2) (N := some 20) (v := ?_) (a' := ?_) #[true, false, true, false, false, false, false, false, false, false, false, false, false] rfl rfl (any_of HT_.out (by kernel_rfl)) (fun _ _ _ h => h) (Or.inl ⟨by rfl, ?_⟩) ?_ ?_
 rotate_left
 ·intro w'
  go_simp
  with_reducible rfl
 rotate_left
 ·simp only [Act.put, List.setIfInBounds_toArray, List.set_cons_zero, List.set_cons_succ, i64_w, i32_w]
  rfl
 refine pure_ (i := 5) (N := some 23) (v := ?_) (a' := ?_) #[true, false, true, false, false, true, false, false, false, false, false, false, false] rfl rfl (any_of HT_.out (by kernel_rfl)) (fun _ _ _ h => h) (Or.inl ⟨by rfl, ?_⟩) ?_ ?_
 rotate_left
 ·intro w'
  go_simp
  with_reducible rfl
 rotate_left
 ·simp only [Act.put, List.setIfInBounds_toArray, List.set_cons_zero, List.set_cons_succ, i64_w, i32_w]
  rfl
 refine pure_ (i := 7) (N := some 25) (v := ?_) (a' := ?_) #[true, false, true, false, false, true, false, true, false, false, false, false, false] rfl rfl (any_of HT_.out (by kernel_rfl)) (fun _ _ _ h => h) (Or.inl ⟨by rfl, ?_⟩) ?_ ?_
 rotate_left
 ·intro w'
  go_simp
  with_reducible rfl
 rotate_left
 ·simp only [Act.put, List.setIfInBounds_toArray, List.set_cons_zero, List.set_cons_succ, i64_w, i32_w]
  rfl
 refine take_ (i := 1) (N := some 19) (v := ?_) (a' := ?_) #[true, true, true, false, false, true, false, true, false, false, false, false, false] rfl rfl (take_ofW HT_.out HW_.out (by kernel_rfl)) (fun _ _ _ h => h) (Or.inl ⟨by rfl, ?_⟩) hHeld ?_ ?_
 rotate_left
 ·rintro w' ⟨s0, s1, s2, s3, s4, s5⟩
  go_simp
  with_reducible rfl
 rotate_left
 ·simp only [Act.put, List.setIfInBounds_toArray, List.set_cons_zero, List.set_cons_succ, i64_w, i32_w]
  rfl
 refine take_ (i := 3) (N := some 21) (v := ?_) (a' := ?_) #[true, true, true, true, false, true, false, true, false, false, false, false, false] rfl rfl (take_ofW HT_.out HW_.out (by kernel_rfl)) (fun _ _ _ h => h) (Or.inl ⟨by rfl, ?_⟩) hHeld ?_ ?_
 rotate_left
 ·rintro w' ⟨s0, s1, s2, s3, s4, s5⟩
  go_simp
  with_reducible rfl
 rotate_left
 ·simp only [Act.put, List.setIfInBounds_toArray, List.set_cons_zero, List.set_cons_succ, i64_w, i32_w]
  rfl
 refine take_ (i := 6) (N := some 24) (v := ?_) (a' := ?_) #[true, true, true, true, false, true, true, true, false, false, false, false, false] rfl rfl (take_ofW HT_.out HW_.out (by kernel_rfl)) (fun _ _ _ h => h) (Or.inl ⟨by rfl, ?_⟩) hHeld ?_ ?_
 rotate_left
 ·rintro w' ⟨s0, s1, s2, s3, s4, s5⟩
  go_simp
  with_reducible rfl
 rotate_left
 ·simp only [Act.put, List.setIfInBounds_toArray, List.set_cons_zero, List.set_cons_succ, i64_w, i32_w]
  rfl
 refine take_ (i := 8) (N := some 26) (v := ?_) (a' := ?_) #[true, true, true, true, false, true, true, true, true, false, false, false, false] rfl rfl (take_ofW HT_.out HW_.out (by kernel_rfl)) (fun _ _ _ h => h) (Or.inl ⟨by rfl, ?_⟩) hHeld ?_ ?_
 rotate_left
 ·rintro w' ⟨s0, s1, s2, s3, s4, s5⟩
  go_simp
  with_reducible rfl
 rotate_left
 ·simp only [Act.put, List.setIfInBounds_toArray, List.set_cons_zero, List.set_cons_succ, i64_w, i32_w]
  rfl
 refine one_ (i := 4) (N := some 22) #[true, true, true, true, true, true, true, true, true, false, false, false, false] rfl rfl (one_of HT_.out (by kernel_rfl)) (by decide) (fun K hK => ?_)
 refine goes_ Try.func30 (by kernel_rfl) rfl #[.int .i64 i1, .int .i64 i2] (by rfl) rfl rfl (by (try simp only [List.map_toArray, List.map_cons, List.map_nil]); first | done | rfl | (simp only [List.length_drop, List.length_take]; rfl)) ?_
 with_reducible refine (cmp_Compare_int64.calls i1 i2 T1 _ A1.out).mono ?_
 rintro e w' ⟨rfl, ⟨nd1, rfl⟩⟩
 refine ⟨_, rfl, ?_⟩
 refine hK.out _ _ ⟨(blk_cell BK1.out 0).trans rfl, (blk_cell BK1.out 1).trans rfl, (blk_cell BK1.out 2).trans rfl, (blk_cell BK2.out 0).trans rfl, (blk_cell BK2.out 1).trans rfl, (blk_cell BK2.out 2).trans rfl⟩ (fun hHeld => ?_)
 clear hK K
 refine norm_ (a' := ?_) ?_ ?_
 rotate_left
 ·show Act.put _ (some 22) _ = _
  simp only [Act.put, List.setIfInBounds_toArray, List.set_cons_zero, List.set_cons_succ, i64_w, i32_w]
  rfl
 refine one_ (i := 9) (N := some 27) #[true, true, true, true, true, true, true, true, true, true, false, false, false] rfl rfl (one_of HT_.out (by kernel_rfl)) (by decide) (fun K hK => ?_)
 refine goes_ Try.func31 (by kernel_rfl) rfl #[.string s1, .string s2] (by rfl) rfl rfl (by (try simp only [List.map_toArray, List.map_cons, List.map_nil]); first | done | rfl | (simp only [List.length_drop, List.length_take]; rfl)) ?_
 with_reducible refine (cmp_Compare_string.calls s1 s2 T2 _ A2.out).mono ?_
 rintro e w' ⟨rfl, ⟨nd2, rfl⟩⟩
 refine ⟨_, rfl, ?_⟩
 refine hK.out _ _ ⟨(blk_cell BK1.out 0).trans rfl, (blk_cell BK1.out 1).trans rfl, (blk_cell BK1.out 2).trans rfl, (blk_cell BK2.out 0).trans rfl, (blk_cell BK2.out 1).trans rfl, (blk_cell BK2.out 2).trans rfl⟩ (fun hHeld => ?_)
 clear hK K
 refine norm_ (a' := ?_) ?_ ?_
 rotate_left
 ·show Act.put _ (some 27) _ = _
  simp only [Act.put, List.setIfInBounds_toArray, List.set_cons_zero, List.set_cons_succ, i64_w, i32_w]
  rfl
 refine one_ (i := 10) (N := some 28) #[true, true, true, true, true, true, true, true, true, true, true, false, false] rfl rfl (one_of HT_.out (by kernel_rfl)) (by decide) (fun K hK => ?_)
 refine event_step (w1 := World.alloc (wd.drewN (nd1 + nd2)) (.cells #[.int .i64 T1, .int .i64 T2] 3 (0, 0))) (v := .slice (some ⟨wd.heap.size, 0, none⟩) 2 2) (by rfl) (by first | (go_simp; done) | (go_simp; rfl)) ?_
 refine hK.out _ _ ⟨(blk_cell (blk_alloc (blk_drewN BK1.out _) _) 0).trans rfl, (blk_cell (blk_alloc (blk_drewN BK1.out _) _) 1).trans rfl, (blk_cell (blk_alloc (blk_drewN BK1.out _) _) 2).trans rfl, (blk_cell (blk_alloc (blk_drewN BK2.out _) _) 0).trans rfl, (blk_cell (blk_alloc (blk_drewN BK2.out _) _) 1).trans rfl, (blk_cell (blk_alloc (blk_drewN BK2.out _) _) 2).trans rfl⟩ (fun hHeld => ?_)
 clear hK K
 refine norm_ (a' := ?_) ?_ ?_
 rotate_left
 ·show Act.put _ (some 28) _ = _
  simp only [Act.put, List.setIfInBounds_toArray, List.set_cons_zero, List.set_cons_succ, i64_w, i32_w]
  rfl
 refine one_ (i := 11) (N := some 29) #[true, true, true, true, true, true, true, true, true, true, true, true, false] rfl rfl (one_of HT_.out (by kernel_rfl)) (by decide) (fun K hK => ?_)
 refine goes_ Try.func29 (by kernel_rfl) rfl #[.slice (some ⟨wd.heap.size, 0, none⟩) ([T1, T2] : List Int).length 2] (by rfl) rfl rfl (by (try simp only [List.map_toArray, List.map_cons, List.map_nil]); first | done | rfl | (simp only [List.length_drop, List.length_take]; rfl)) ?_
 with_reducible refine (cmp_Or_int.calls 3 _ _ [T1, T2] T3 _ ?side1 ?side2 A3.out).mono ?_
 (case side1 => exact lit2_C _ _ _)
 (case side2 => exact Nat.le_refl _)
 rintro e w' ⟨rfl, ⟨nd3, rfl⟩⟩
 refine ⟨_, rfl, ?_⟩
 refine hK.out _ _ ⟨(blk_cell (blk_drewN (blk_alloc (blk_drewN BK1.out _) _) _) 0).trans rfl, (blk_cell (blk_drewN (blk_alloc (blk_drewN BK1.out _) _) _) 1).trans rfl, (blk_cell (blk_drewN (blk_alloc (blk_drewN BK1.out _) _) _) 2).trans rfl, (blk_cell (blk_drewN (blk_alloc (blk_drewN BK2.out _) _) _) 0).trans rfl, (blk_cell (blk_drewN (blk_alloc (blk_drewN BK2.out _) _) _) 1).trans rfl, (blk_cell (blk_drewN (blk_alloc (blk_drewN BK2.out _) _) _) 2).trans rfl⟩ (fun hHeld => ?_)
 clear hK K
 refine norm_ (a' := ?_) ?_ ?_
 rotate_left
 ·show Act.put _ (some 29) _ = _
  simp only [Act.put, List.setIfInBounds_toArray, List.set_cons_zero, List.set_cons_succ, i64_w, i32_w]
  rfl
 refine pure_ (i := 12) (N := some 4) (v := ?_) (a' := ?_) #[true, true, true, true, true, true, true, true, true, true, true, true, true] rfl rfl (any_of HT_.out (by kernel_rfl)) (fun _ _ _ h => h) (Or.inl ⟨by rfl, ?_⟩) ?_ ?_
 rotate_left
 ·intro w'
  go_simp
  with_reducible rfl
 rotate_left
 ·simp only [Act.put, List.setIfInBounds_toArray, List.set_cons_zero, List.set_cons_succ, i64_w, i32_w]
  rfl
 refine done_ (done_of HT_.out (by kernel_rfl)) ?_
 go_wp2
 go_ret
 exact ⟨rfl, by repeat (first | exact HB.out | apply below_alloc | apply pw_below_drewN | apply below_drew1), by have := HD.out; simp only [World.alloc, World.drewN, World.drew] at this ⊢; omega⟩
def enc3 (x : S28) : List Value := [.bool x.f0, .int .i64 x.f1, .string x.f2]
theorem cmpV_grw (x y : S28) (w : World) : Calls Try.prog 14 #[.agg (enc3 x).toArray, .agg (enc3 y).toArray] w fun e w' => e = .returned (.int .i64 (cmpV x y)) ∧ Grw w w' := by
 obtain ⟨x0, x1, x2⟩ := x
 obtain ⟨y0, y1, y2⟩ := y
 cases x0 <;> cases y0
 ·exact cmpV_ff x1 y1 x2 y2 _ _ _ rfl rfl rfl w
 ·exact cmpV_ft x1 y1 x2 y2 w
 ·exact cmpV_tf x1 y1 x2 y2 w
 ·exact cmpV_tt x1 y1 x2 y2 w
theorem bl_total : ∀ (a b : List UInt8), Op.bytesLess b a = (!Op.bytesLess a b && !(a == b))
 | [], [] => rfl
 | [], _ :: _ => rfl
 | _ :: _, [] => rfl
 | x :: a, y :: b => by
  unfold Op.bytesLess
  have ih := bl_total a b
  by_cases h : x = y
  ·subst h; simp [ih]
  ·have h1 : (x == y) = false := by simpa using h
   have h2 : (y == x) = false := by simpa using Ne.symm h
   have h3 : ((x :: a) == (y :: b)) = false := by simp [h]
   rw [h3]
   simp only [h1, h2, Bool.false_and, Bool.or_false, Bool.not_false, Bool.and_true]
   have : x.toNat ≠ y.toNat := fun e => h (UInt8.toNat_inj.mp e)
   by_cases c : x < y
   ·have : ¬ y < x := by rw [UInt8.lt_iff_toNat_lt] at c ⊢; omega
    simp [c, this]
   ·have : y < x := by rw [UInt8.lt_iff_toNat_lt] at c ⊢; omega
    simp [c, this]
theorem bl_irrefl (a : List UInt8) : Op.bytesLess a a = false := by
 have h := bl_total a a
 cases hb : Op.bytesLess a a
 ·rfl
 ·rw [hb] at h; simp at h
theorem bl_trans : ∀ (a b c : List UInt8), Op.bytesLess a b = true → Op.bytesLess b c = true → Op.bytesLess a c = true
 | _, [], _, h, _ => by simp [Op.bytesLess] at h
 | _, _ :: _, [], _, h => by simp [Op.bytesLess] at h
 | [], _ :: _, _ :: _, _, _ => by simp [Op.bytesLess]
 | x :: a, y :: b, z :: c, h1, h2 => by
  simp only [Op.bytesLess, Bool.or_eq_true, Bool.and_eq_true, decide_eq_true_eq, beq_iff_eq, UInt8.lt_iff_toNat_lt] at h1 h2 ⊢
  rcases h1 with h1 | ⟨rfl, h1⟩ <;> rcases h2 with h2 | ⟨rfl, h2⟩
  ·exact Or.inl (by omega)
  ·exact Or.inl h1
  ·exact Or.inl h2
  ·exact Or.inr ⟨rfl, bl_trans a b c h1 h2⟩
theorem bl_tri (a b : List UInt8) (h1 : Op.bytesLess a b = false) (h2 : Op.bytesLess b a = false) : a = b := by
 have h := bl_total a b
 rw [h1, h2] at h
 simpa using h
def cls (x : S28) : Option (Int × List UInt8) := if x.f0 = true then none else some (x.f1, x.f2.toList)
def ltC : Option (Int × List UInt8) → Option (Int × List UInt8) → Prop
 | none, some _ => True
 | some a, some b => a.1 < b.1 ∨ (a.1 = b.1 ∧ Op.bytesLess a.2 b.2 = true)
 | _, none => False
theorem cmpV_lt (x y : S28) : cmpV x y < 0 ↔ ltC (cls x) (cls y) := by
 unfold cmpV cls
 cases hx : x.f0 <;> cases hy : y.f0
 ·simp only [if_neg (show ¬ (false = true) by decide), ltC]
  unfold cmpI cmpStr
  by_cases h1 : x.f1 < y.f1
  ·simp [h1]
  ·by_cases h2 : y.f1 < x.f1
   ·have : ¬ x.f1 = y.f1 := by omega
    simp [h1, h2, this]
   ·have : x.f1 = y.f1 := by omega
    rw [if_neg h1, if_neg h2, if_pos rfl]
    cases hb : Op.bytesLess x.f2.toList y.f2.toList
    ·rw [if_neg (by decide)]
     split <;> simp [h1]
    ·simp [this]
 ·simp [ltC]
 ·simp [ltC]
 ·simp [ltC]
theorem cmpV_eq (x y : S28) : cmpV x y = 0 ↔ cls x = cls y := by
 unfold cmpV cls
 cases hx : x.f0 <;> cases hy : y.f0
 ·simp only [if_neg (show ¬ (false = true) by decide)]
  unfold cmpI cmpStr
  by_cases h1 : x.f1 < y.f1
  ·have : ¬ x.f1 = y.f1 := by omega
   simp [h1, this]
  ·by_cases h2 : y.f1 < x.f1
   ·have : ¬ x.f1 = y.f1 := by omega
    simp [h1, h2, this]
   ·have : x.f1 = y.f1 := by omega
    rw [if_neg h1, if_neg h2, if_pos rfl]
    cases hb : Op.bytesLess x.f2.toList y.f2.toList
    ·rw [if_neg (by decide)]
     by_cases he : x.f2.toList = y.f2.toList
     ·rw [if_pos (by rw [he]; exact beq_self_eq_true _)]; simp [this, he]
     ·rw [if_neg (by simpa using he)]; simp [he]
    ·have : ¬ x.f2.toList = y.f2.toList := fun e => by rw [e, bl_irrefl] at hb; simp at hb
     simp [this]
 ·simp
 ·simp
 ·simp
theorem ltC_irrefl : ∀ x, ¬ ltC x x
 | none => fun h => h
 | some a => by simp [ltC, bl_irrefl]
theorem ltC_trans : ∀ x y z, ltC x y → ltC y z → ltC x z
 | none, none, _, h, _ => h.elim
 | none, some _, none, _, h => h.elim
 | none, some _, some _, _, _ => trivial
 | some _, none, _, h, _ => h.elim
 | some _, some _, none, _, h => h.elim
 | some a, some b, some c, h1, h2 => by
  simp only [ltC] at h1 h2 ⊢
  rcases h1 with h1 | ⟨h1, k1⟩ <;> rcases h2 with h2 | ⟨h2, k2⟩
  ·exact Or.inl (by omega)
  ·exact Or.inl (by omega)
  ·exact Or.inl (by omega)
  ·exact Or.inr ⟨by omega, bl_trans _ _ _ k1 k2⟩
theorem ltC_tri : ∀ x y, ¬ ltC x y → ¬ ltC y x → x = y
 | none, none, _, _ => rfl
 | none, some _, h, _ => (h trivial).elim
 | some _, none, _, h => (h trivial).elim
 | some a, some b, h1, h2 => by
  simp only [ltC, not_or, not_and, Bool.not_eq_true] at h1 h2
  have e : a.1 = b.1 := by omega
  have := bl_tri _ _ (h1.2 e) (h2.2 e.symm)
  exact congrArg some (Prod.ext e this)
theorem ltC_ntrans (x y z) (h1 : ¬ ltC x y) (h2 : ¬ ltC y z) : ¬ ltC x z := fun h => by
 rcases Classical.em (ltC y x) with k | k
 ·exact h2 (ltC_trans _ _ _ k h)
 ·exact h2 (ltC_tri _ _ h1 k ▸ h)
theorem ltOf_iff (x y : S28) : ltOf cmpV x y = true ↔ ltC (cls x) (cls y) := by
 unfold ltOf
 rw [decide_eq_true_iff]
 exact cmpV_lt x y
theorem ltOf_false (x y : S28) : ltOf cmpV x y = false ↔ ¬ ltC (cls x) (cls y) := by rw [← ltOf_iff, Bool.not_eq_true]
theorem swoV : Go.Sort.SWO (ltOf cmpV) where
 irrefl x := (ltOf_false _ _).2 (ltC_irrefl _)
 trans x y z h1 h2 := (ltOf_iff _ _).2 (ltC_trans _ _ _ ((ltOf_iff _ _).1 h1) ((ltOf_iff _ _).1 h2))
 ntrans x y z h1 h2 := (ltOf_false _ _).2 (ltC_ntrans _ _ _ ((ltOf_false _ _).1 h1) ((ltOf_false _ _).1 h2))
instance inhS28 : Inhabited S28 := ⟨z28⟩
theorem flat_at (l : List S28) (i j : Nat) (hi : i < l.length) (hj : j < 3) : (Go.Sort.flatK enc3 3 l.toArray)[i * 3 + j]! = (enc3 (l.getD i z28))[j]! := by
 rw [Go.Sort.get_flatK _ _ _ _ (by simp; omega), show (i * 3 + j) / 3 = i by omega, show (i * 3 + j) % 3 = j by omega]
 congr 1
 simp [List.getD_eq_getElem?_getD, hi]
theorem holds_of_R {w : World} {base : Nat} {ok : Nat → Prop} {v : Value} {l : List S28} (h : Kd.R k28 28 w base ok v l) (hne : 0 < l.length) :
  ∃ blk c, v = .slice (some ⟨blk, 0, none⟩) l.length c ∧ l.length ≤ c ∧ base ≤ blk ∧ blk < w.heap.size ∧ Go.Sort.HoldsK enc3 3 w blk 0 l.toArray := by
 obtain ⟨_, inner, ho, hr⟩ := h
 obtain ⟨hlen, hx⟩ := ho
 rcases hx with ⟨_, h0⟩ | ⟨g, cap, cur, rfl, hg, hh, hc, hm, hs, ht⟩
 ·omega
 ·refine ⟨g, cap, rfl, hc, hg, blk_lt hh, ?_⟩
  intro t ht'
  rw [Go.Sort.size_flatK] at ht'
  have ht3 : t < l.length * 3 := by simpa using ht'
  have hi : t / 3 < l.length := by omega
  refine ⟨?_, blk_frozen hh _⟩
  rw [blk_cell hh]
  have e1 := flat_at l (t / 3) (t % 3) hi (Nat.mod_lt _ (by omega))
  rw [show t / 3 * 3 + t % 3 = t by omega] at e1
  rw [e1]
  have h2 := k28_openM (hr.2 (t / 3) (l.getD (t / 3) z28) (by rw [List.getD_eq_getElem?_getD, List.getElem?_eq_getElem hi]; rfl))
  have h3 : cur[0 + t]? = inner[t]? := by
   have : (cur.toList.take (l.length * 3))[t]? = cur.toList[t]? := List.getElem?_take_of_lt ht3
   rw [← ht, Nat.zero_add]
   exact (Eq.trans this (by simp)).symm
  have h4 : inner[t]? = ((inner.drop (t / 3 * 3)).take 3)[t % 3]? := by
   rw [List.getElem?_take_of_lt (Nat.mod_lt _ (by omega)), List.getElem?_drop]
   congr 1; omega
  have h5 : (inner.drop (t / 3 * k28.sz)).take k28.sz = (inner.drop (t / 3 * 3)).take 3 := rfl
  rw [h5] at h2
  rw [h3, h4, h2]
  show _ = some (enc3 (l.getD (t / 3) z28))[t % 3]!
  have h6 : t % 3 < 3 := Nat.mod_lt _ (by omega)
  rcases (by omega : t % 3 = 0 ∨ t % 3 = 1 ∨ t % 3 = 2) with e | e | e <;> rw [e] <;> rfl
theorem C_of_holds {w : World} {blk : Nat} {d : Array S28} (h : Go.Sort.HoldsK enc3 3 w blk 0 d) (hn : d.size ≤ 9223372036854775807) : Kd.C k28 w (some ⟨blk, 0, none⟩) d.toList.length d.toList := by
 refine ⟨rfl, by simpa using hn, fun _ => ⟨_, rfl, fun j p hj => ⟨enc3 p, rfl, k28_mk w p, fun i u hu => ?_⟩⟩⟩
 obtain ⟨hj1, hj2⟩ := List.getElem?_eq_some_iff.1 hj
 have hi : i < 3 := by
  have := (List.getElem?_eq_some_iff.1 hu).1
  exact this
 have hd : j < d.size := by simpa using hj1
 have h1 := (Go.Sort.HoldsK.cell h (i := j) (c := i) hd hi).1
 have e : d[j]! = p := by
  rw [getElem!_pos d j hd]
  simpa using hj2
 rw [e] at h1
 have e2 : (enc3 p)[i]! = u := by
  rw [List.getElem!_eq_getElem?_getD, hu]; rfl
 rw [e2] at h1
 have ea : (⟨blk, 0, none⟩ : Addr).add (j * 3 + i) = ⟨blk, 0 + j * 3 + i, none⟩ := by
  rcases Nat.eq_zero_or_pos (j * 3 + i) with h0 | h0
  ·have : j = 0 := by omega
   have : i = 0 := by omega
   subst_vars; rfl
  ·simp [Addr.add]; omega
 show w.cell? ((⟨blk, 0, none⟩ : Addr).add (j * 3 + i)) = some u
 rw [ea]
 exact h1
theorem below_sortK {base : Nat} {w0 w : World} (hB : Below base w0 w) {blk off n : Nat} (hb : base ≤ blk) (d : Array S28) (os : Array Obj) (hs : blk < w.heap.size) : Below base w0 (sortWorldK enc3 3 w blk off n d os) := by
 refine hB.trans ⟨rfl, rfl, rfl, ?_, fun k hk => ?_⟩
 ·simp [sortWorldK, Go.Sort.grow, Go.Sort.putRowK, Go.Sort.putRow, Go.Sort.mapBlock, Go.Sort.ahead]
 ·simp only [sortWorldK, Go.Sort.grow, Go.Sort.putRowK, Go.Sort.putRow, Go.Sort.mapBlock, Go.Sort.ahead]
  rw [Array.getElem?_append_left (by rw [Array.size_modify]; omega), Array.getElem?_modify, if_neg (by omega)]
theorem sort_calls (base : Nat) (ok : Nat → Prop) (v : Value) (l : List S28) (w0 w : World) (hB : Below base w0 w) (hR : Kd.R k28 28 w base ok v l) (hl : l.length < 4611686018427387904) :
  Calls Try.prog 13 #[v, .func (.func 14) #[] #[]] w fun e w' => e = .returned (.tuple #[]) ∧ ∃ l' A c, l'.Perm l ∧ l'.Pairwise (fun a b => ¬ ltC (cls b) (cls a)) ∧ v = .slice A l'.length c ∧ l'.length ≤ c ∧ Kd.C k28 w' A l'.length l' ∧ Below base w0 w' := by
 rcases Nat.eq_zero_or_pos l.length with h0 | h0
 ·have e0 : l = [] := List.length_eq_zero_iff.mp h0
  subst e0
  obtain ⟨A, c, rfl, hc, hC⟩ := Kd.R_reads hR
  have hcon := AnyF.slices_SortFunc_none { Ytlbcpigjbjolaaa.Srt with } A c (.func (.func 14) #[] #[]) w
  change Calls Try.prog 13 _ _ _ at hcon
  refine hcon.mono ?_
  rintro e w' ⟨rfl, rfl⟩
  exact ⟨rfl, [], A, c, List.Perm.refl _, List.Pairwise.nil, rfl, hc, hC, hB⟩
 ·obtain ⟨blk, c, rfl, hc, hb, hlt, hH⟩ := holds_of_R hR h0
  have eg : ∀ args w, (callFunc 14 args).run Try.prog w = .ok (.enter 14 args) w := enters_of Try.func14 (by kernel_rfl) rfl
  have hcmp : CmpLays Try.prog 14 #[] enc3 3 cmpV blk 0 l.toArray.size w := fun m os dk _ x y => (cmpV_grw x y _).mono fun e w' ⟨he, hg⟩ => ⟨he, hg.out⟩
  have hcon := AnyQ.slices_SortFunc Ytlbcpigjbjolaaa.Srt 3 Try.isAgg28 Try.sizeOf28 enc3 (fun _ => rfl) (fun x v hv => by simp [enc3] at hv; rcases hv with rfl | rfl | rfl <;> rfl) cmpV swoV 14 #[] blk 0 c l.toArray w eg hcmp hH hlt (by simpa using hl)
  change Calls Try.prog 13 _ _ _ at hcon
  refine hcon.mono ?_
  rintro e w' ⟨rfl, d', n, os, hp, hs, rfl⟩
  obtain ⟨hp1, hp2, hp3⟩ := hp
  have hp1' : d'.size = l.length := by simpa using hp1
  have hperm : d'.toList.Perm l := by
   have e1 : d'.extract 0 l.toArray.size = d' := by rw [← hp1]; simp
   have e2 : l.toArray.extract 0 l.toArray.size = l.toArray := by simp
   rw [e1, e2] at hp3
   simpa using hp3
  have hlen : d'.toList.length = l.length := hperm.length_eq
  refine ⟨rfl, d'.toList, some ⟨blk, 0, none⟩, c, hperm, ?_, by rw [hlen], by omega, ?_, below_sortK hB hb _ _ hlt⟩
  ·rw [List.pairwise_iff_getElem]
   intro i j hi hj hij
   have hi' : i < d'.size := by simpa using hi
   have hj' : j < d'.size := by simpa using hj
   have := hs i j (Nat.zero_le _) hij (by rw [← hp1]; exact hj')
   rw [getElem!_pos d' i hi', getElem!_pos d' j hj'] at this
   have h2 := (ltOf_false _ _).1 this
   simpa using h2
  ·exact C_of_holds (holdsK_sortWorldK_c enc3 3 w blk 0 l.toArray d' n os hH hlt (by simpa using hp1)) (by omega)
theorem eqv_calls (x y : S28) (b : Bool) (hb : decide (cls x = cls y) = b) (w : World) : Calls Try.prog 16 #[.agg #[.bool x.f0, .int .i64 x.f1, .string x.f2], .agg #[.bool y.f0, .int .i64 y.f1, .string y.f2]] w fun e w' => e = .returned (.bool b) ∧ Below w.heap.size w w' := by
 have hcon := cmpV_grw x y
 obtain ⟨c, hc⟩ : ∃ c, c = cmpV x y := ⟨_, rfl⟩
 rw [← hc] at hcon
 have hcb : (c == 0) = b := by
  rw [← hb, hc]
  by_cases h : cls x = cls y
  ·rw [decide_eq_true h, (cmpV_eq x y).2 h]; rfl
  ·rw [decide_eq_false h, beq_eq_false_iff_ne]; exact fun e => h ((cmpV_eq x y).1 e)
 clear hc hb
 have HC := Aside0.mk hcon
 clear hcon
 go_enter Try.func16, Try.ntmps16
 go_wp2_with fail
 refine (HC.out _).mono ?_; rintro e w' ⟨rfl, hg⟩
 have HG := Aside0.mk (below_then (below_alloc (below_alloc (Below.refl w.heap.size w) _) _) (by simp only [World.alloc, Array.size_push]; omega) hg.1)
 clear hg
 go_wp2
 go_ret
 exact ⟨rfl, HG.out⟩
def dcount : List S28 → Nat
 | [] => 0
 | [_] => 1
 | x :: y :: t => (if cls y = cls x then 0 else 1) + dcount (y :: t)
theorem dcount_snoc (a : List S28) (x y : S28) : dcount (a ++ [x, y]) = dcount (a ++ [x]) + (if cls y = cls x then 0 else 1) := by
 induction a with
 | nil => simp [dcount]; omega
 | cons z t ih =>
  cases t with
  | nil => simp only [List.nil_append, List.cons_append, dcount]; simp [dcount] at ih; omega
  | cons z2 t2 =>
   simp only [List.cons_append, dcount] at ih ⊢
   omega
theorem dcount_take (l : List S28) (j : Nat) (h1 : 1 ≤ j) (h2 : j < l.length) : dcount (l.take (j + 1)) = dcount (l.take j) + (if cls (l.getD j z28) = cls (l.getD (j - 1) z28) then 0 else 1) := by
 obtain ⟨j, rfl⟩ : ∃ m, j = m + 1 := ⟨j - 1, by omega⟩
 have e1 : l.take (j + 1) = l.take j ++ [l.getD j z28] := by
  rw [List.take_add_one, List.getElem?_eq_getElem (by omega)]
  simp [List.getD_eq_getElem?_getD, List.getElem?_eq_getElem (show j < l.length by omega)]
 have e2 : l.take (j + 1 + 1) = l.take j ++ [l.getD j z28, l.getD (j + 1) z28] := by
  rw [List.take_add_one, e1, List.getElem?_eq_getElem (by omega)]
  simp [List.getD_eq_getElem?_getD, List.getElem?_eq_getElem (show j + 1 < l.length by omega)]
 rw [e2, e1, dcount_snoc, Nat.add_sub_cancel]
structure Cut (w0 : World) (base blk c : Nat) (l : List S28) (m : Nat) (W : World) : Prop where mk ::
 cells : ∃ cur, W.heap[blk]? = some (.cells cur 28 (0, 0)) ∧ cur.size = c * 3 ∧ ∀ j, m ≤ j → j < l.length → cur[j * 3]? = some (.bool (l.getD j z28).f0) ∧ cur[j * 3 + 1]? = some (.int .i64 (l.getD j z28).f1) ∧ cur[j * 3 + 2]? = some (.string (l.getD j z28).f2)
 below : Below base w0 W
 base : base ≤ blk
 cap : l.length ≤ c
theorem Cut.drew {w0 base blk c l m W} (h : Cut w0 base blk c l m W) : Cut w0 base blk c l m W.drew := ⟨h.cells, below_drew h.below, h.base, h.cap⟩
theorem Cut.grow {w0 base blk c l m W W'} (h : Cut w0 base blk c l m W) (hb : Below W.heap.size W W') : Cut w0 base blk c l m W' := by
 obtain ⟨cur, hc, hs⟩ := h.cells
 exact ⟨⟨cur, blk_below hc hb, hs⟩, h.below.trans ⟨hb.os, hb.tape, hb.output, hb.size, fun k hk => by
  rcases Nat.lt_or_ge k W.heap.size with q | q
  ·exact hb.block k q
  ·have := blk_lt hc; have := h.base; omega⟩, h.base, h.cap⟩
theorem Cut.at {w0 base blk c l m W} (h : Cut w0 base blk c l m W) (j : Nat) (h1 : m ≤ j) (h2 : j < l.length) : W.cell? ⟨blk, j * 3, none⟩ = some (.bool (l.getD j z28).f0) ∧ W.cell? ⟨blk, j * 3 + 1, none⟩ = some (.int .i64 (l.getD j z28).f1) ∧ W.cell? ⟨blk, j * 3 + 2, none⟩ = some (.string (l.getD j z28).f2) := by
 obtain ⟨cur, hc, hs, hx⟩ := h.cells
 obtain ⟨a, b, d⟩ := hx j h1 h2
 exact ⟨(blk_cell hc _).trans a, (blk_cell hc _).trans b, (blk_cell hc _).trans d⟩
theorem Cut.frozen {w0 base blk c l m W} (h : Cut w0 base blk c l m W) (i : Nat) : W.frozen? ⟨blk, i, none⟩ = false := by
 obtain ⟨cur, hc, _⟩ := h.cells
 exact blk_frozen hc i
theorem Cut.has {w0 base blk c l m W} (h : Cut w0 base blk c l m W) (i : Nat) (hi : i < c * 3) : ∃ v, W.cell? ⟨blk, i, none⟩ = some v := by
 obtain ⟨cur, hc, hs, _⟩ := h.cells
 exact ⟨_, (blk_cell hc i).trans (Array.getElem?_eq_getElem (by omega))⟩
theorem Cut.set {w0 base blk c l m W} (h : Cut w0 base blk c l m W) (i : Nat) (hi : i < m * 3) (v : Value) : Cut w0 base blk c l m (W.setCell ⟨blk, i, none⟩ v) := by
 obtain ⟨cur, hc, hs, hx⟩ := h.cells
 refine ⟨⟨cur.setIfInBounds i v, heap_setCell_same W blk i cur 28 v hc, by simpa using hs, fun j h1 h2 => ?_⟩, ?_, h.base, h.cap⟩
 ·obtain ⟨a, b, d⟩ := hx j h1 h2
  refine ⟨?_, ?_, ?_⟩ <;> rw [Array.getElem?_setIfInBounds_ne (by omega)] <;> assumption
 ·have hb := h.base
  exact h.below.trans ⟨rfl, rfl, rfl, by simp [World.setCell], fun k hk => Below.heap_setCell W ⟨blk, i, none⟩ v k (by show k ≠ blk; omega)⟩
theorem Cut.shift {w0 base blk c l m m' W} (h : Cut w0 base blk c l m W) (hm : m ≤ m') : Cut w0 base blk c l m' W := by
 obtain ⟨cur, hc, hs, hx⟩ := h.cells
 exact ⟨⟨cur, hc, hs, fun j h1 h2 => hx j (by omega) h2⟩, h.below, h.base, h.cap⟩
theorem goesE_ {P : Program} {Q : Exit → Act → World → Prop} {ops : Array Oper} {oi : Oper} {N : Option Tmp} {a : Act} {w : World} {K : Act → World → Prop} {f : FuncId} {fn : Func} {o : Operand} {ao : Array Operand} {ts : Array TypeId} (hf : P.funcs[f]? = some fn) (hname : (fn.name == "runtime.NumGoroutine") = false) (hb : fn.body.isSome = true) (args : Array Value)
  (hw : Region.wanted oi (yielded ops a.tmps) = true) (hN : oi.dst = N) (hop : oi.op = .call { callee := .value o, args := ao, argTypes := ts }) (ho : a.eval o = .func (.func f) #[] #[]) (hargs : ao.map a.eval = args)
  (h : Calls P f args w fun e w' => ∃ v, e = .returned v ∧ K (a.put N v) w') : if Region.wanted oi (yielded ops a.tmps) = true then Oper.wp P oi a w K Q else K (a.put N undef) w := by
 refine call_ f args hw hN ?_ h
 have he := enters_ hf hname hb args w
 unfold execOp
 simp [hop, resolve, Deferred.ofValue, invoke, ho, hargs, he]
theorem Cut.at2 {w0 : World} {base blk c : Nat} {l : List S28} {m : Nat} {W : World} (h : Cut w0 base blk c l m W) (i k : Nat) (h1 : m ≤ i + k) (h2 : i + k < l.length) : W.cell? ⟨blk, i * 3 + k * 3, none⟩ = some (.bool (l.getD (i + k) z28).f0) ∧ W.cell? ⟨blk, i * 3 + k * 3 + 1, none⟩ = some (.int .i64 (l.getD (i + k) z28).f1) ∧ W.cell? ⟨blk, i * 3 + k * 3 + 2, none⟩ = some (.string (l.getD (i + k) z28).f2) := by
 have e := h.at (i + k) h1 h2
 rw [show (i + k) * 3 = i * 3 + k * 3 by omega] at e
 exact e
theorem below_cells {B b : Nat} {a : World} (hb : B ≤ b) : ∀ (vs : List Value) (o : Nat) (w : World), Below B a w → Below B a (w.setCells b o vs)
 | [], _, _, h => h
 | v :: r, o, w, h => below_cells hb r (o + 1) _ (h.trans ⟨rfl, rfl, rfl, by simp [World.setCell], fun k hk => Below.heap_setCell w ⟨b, o, none⟩ v k (by show k ≠ b; omega)⟩)
theorem Cut.cleared {w0 : World} {base blk c : Nat} {l : List S28} {m : Nat} {W : World} (h : Cut w0 base blk c l m W) (i q : Nat) (hi : i + q ≤ c) (hq : 0 < q) (t : TypeId) (cc : Nat) : ∃ W', (Builtin.clear_ #[22] t #[Value.slice (some (Addr.mk blk (i * 3) none)) q cc]).run Try.prog W = .ok (.tuple #[]) W' ∧ Below base w0 W' := by
 refine ⟨W.setCells blk (i * 3) (Builtin.zeroCells (Value.agg #[.bool false, .int .i64 0, .string ⟨#[]⟩]).cells q).toList, ?_, below_cells h.base _ _ _ h.below⟩
 have hlen : (Builtin.zeroCells (Value.agg #[.bool false, .int .i64 0, .string ⟨#[]⟩]).cells q).toList.length = q * 3 := by
  rw [Array.length_toList, size_zeroCells]; rfl
 have hst := run_storeCells_cells (P := Try.prog) blk (i * 3) (Builtin.zeroCells (Value.agg #[.bool false, .int .i64 0, .string ⟨#[]⟩]).cells q).toList 0 W (fun j hj => by obtain ⟨v, hv⟩ := h.has (i * 3 + 0 + j) (by omega); rw [hv]; rfl) (fun j _ => h.frozen _) (by
  intro v hv
  simp only [Builtin.zeroCells, List.mem_map, Array.toList_map, Array.toList_range] at hv
  obtain ⟨x, _, rfl⟩ := hv
  have hx : x % 3 < 3 := Nat.mod_lt _ (by omega)
  show ((#[Value.bool false, .int .i64 0, .string ⟨#[]⟩] : Array Value)[x % 3]!).oneCell' = true
  rcases (by omega : x % 3 = 0 ∨ x % 3 = 1 ∨ x % 3 = 2) with e | e | e <;> rw [e] <;> rfl)
 rw [Nat.add_zero] at hst
 obtain ⟨q', rfl⟩ : ∃ m, q = m + 1 := ⟨q - 1, by omega⟩
 simp [Builtin.clear_, run_underlying Try.underlying22, Try.zeroValue28, hst]
def compact.T6 : Bool × List (List Nat × List Nat) := (true, [([], []), ([], []), ([], []), ([1, 2], [1, 2]), ([3], [3]), ([], []), ([], []), ([6], [6]), ([5, 7], [5, 7]), ([8], [8]), ([0, 4, 9], [0, 4, 9])])
theorem compact.tab6 : rtab .any (opsOf Try.f15 6) = compact.T6 := by kernel_rfl
def compact.B6 : List Nat := [0, 0, 0, 6, 14, 0, 0, 64, 224, 480, 1023]
theorem compact.bits6 : waitsOk compact.T6.2 compact.B6 = true := by kernel_rfl
def compact.T11 : Bool × List (List Nat × List Nat) := (true, [([], []), ([], []), ([], []), ([1, 2], [1, 2]), ([3], [3]), ([], []), ([], []), ([6], [6]), ([5, 7], [5, 7]), ([8], [8]), ([0, 4, 9], [0, 4, 9]), ([10], [10])])
theorem compact.tab11 : rtab .any (opsOf Try.f15 11) = compact.T11 := by kernel_rfl
def compact.B11 : List Nat := [0, 0, 0, 6, 14, 0, 0, 64, 224, 480, 1023, 2047]
theorem compact.bits11 : waitsOk compact.T11.2 compact.B11 = true := by kernel_rfl
set_option maxHeartbeats 8000000 in
set_option maxRecDepth 100000 in
theorem compact.walk (w0 : World) (base blk c : Nat) (l : List S28) (w : World) (hl : 2 ≤ l.length) (hc : l.length ≤ 1000000) (hcut : Cut w0 base blk c l 0 w) :
  Calls Try.prog 15 #[.slice (some ⟨blk, 0, none⟩) l.length c, .func (.func 16) #[] #[]] w fun e w' => (∃ A c', e = .returned (.slice A (dcount l) c')) ∧ Below base w0 w' := by
 have HC := Aside0.mk hcut
 have HL := Aside0.mk hl; have HM := Aside0.mk hc
 have d1 : decide ((l.length : Int) < 2) = false := decide_eq_false (by omega)
 have d2 : decide (l.length < 2) = false := decide_eq_false (by omega)
 clear hcut hl hc
 go_enter Try.func15, Try.ntmps15
 go_wp2
 clear d1 d2
 go_loopg [5] (l.length - 1) (fun gq s5 wx => ∃ i : Nat, 1 ≤ i ∧ i ≤ l.length ∧ gq = l.length - i ∧ s5 = .int .i64 (i : Int) ∧ dcount (l.take i) = i ∧ Aside0 (Cut w0 base blk c l 0 wx))
 case atStart => exact ⟨1, by omega, by have := HL.out; omega, rfl, rfl, by have := HL.out; cases l with | nil => simp at this | cons x t => rfl, HC⟩
 case round =>
  clear HC
  obtain ⟨i, hi1, hi2, rfl, rfl, hd, HC⟩ := hrel
  by_cases hlt : i < l.length
  ·obtain ⟨j, hj⟩ : ∃ j, j + 1 = i := ⟨i - 1, by omega⟩
   obtain ⟨eqb, heq⟩ : ∃ b, decide (cls (l.getD i z28) = cls (l.getD j z28)) = b := ⟨_, rfl⟩
   have HEQ := Aside0.mk heq; have HI := Aside0.mk hlt; have HJ := Aside0.mk hj; have HD := Aside0.mk hd
   have k1 : decide ((i : Int) < (l.length : Int)) = true := decide_eq_true (by omega)
   have k2 : decide (i < l.length) = true := decide_eq_true hlt
   have b0 : (0 : Int) ≤ (i : Int) := by omega
   have b1 : (i : Int) < (l.length : Int) := by omega
   have b2 : (0 : Int) ≤ (j : Int) := by omega
   have b3 : (j : Int) < (l.length : Int) := by omega
   have hw : wrap64 ((i : Int) - 1) = (j : Int) := by have := HM.out; rw [w64 (by omega) (by omega)]; omega
   clear heq hlt hj hd hi1 hi2
   go_wp2_with fail
   refine start_ (n := 11) (S := fun w' => Aside0 (Cut w0 base blk c l 0 w')) (ds := []) #[false, false, false, false, false, false, false, false, false, false, false] (by kernel_rfl) rfl rfl ⟨HC.out.drew⟩ (fun hHeld => ?_)
   refine with_tabW compact.tab6 compact.bits6 (fun HT_ HW_ => ?_)
   replace HC := Aside0.mk HC.out.drew
   generalize World.drew _ = wr at HC hHeld ⊢
   refine pure_ (i := 0) (N := (some 18)) (v := ?_) (a' := ?_) #[true, false, false, false, false, false, false, false, false, false, false] rfl rfl (any_of HT_.out (by kernel_rfl)) (fun _ _ _ h => h) (Or.inl ⟨by rfl, ?_⟩) ?_ ?_
   rotate_left
   ·intro w'
    go_simp
    with_reducible rfl
   rotate_left
   ·simp only [Act.put, List.setIfInBounds_toArray, List.set_cons_zero, List.set_cons_succ, i64_w, i32_w]
    rfl
   refine pure_ (i := 1) (N := (some 19)) (v := ?_) (a' := ?_) #[true, true, false, false, false, false, false, false, false, false, false] rfl rfl (any_of HT_.out (by kernel_rfl)) (fun _ _ _ h => h) (Or.inl ⟨by rfl, ?_⟩) ?_ ?_
   rotate_left
   ·intro w'
    go_simp
    with_reducible rfl
   rotate_left
   ·simp only [Act.put, List.setIfInBounds_toArray, List.set_cons_zero, List.set_cons_succ, i64_w, i32_w]
    rfl
   refine pure_ (i := 2) (N := (some 20)) (v := ?_) (a' := ?_) #[true, true, true, false, false, false, false, false, false, false, false] rfl rfl (any_of HT_.out (by kernel_rfl)) (fun _ _ _ h => h) (Or.inl ⟨by rfl, ?_⟩) ?_ ?_
   rotate_left
   ·intro w'
    go_simp
    with_reducible rfl
   rotate_left
   ·simp only [Act.put, List.setIfInBounds_toArray, List.set_cons_zero, List.set_cons_succ, i64_w, i32_w]
    rfl
   refine pure_ (i := 3) (N := (some 21)) (v := ?_) (a' := ?_) #[true, true, true, true, false, false, false, false, false, false, false] rfl rfl (any_of HT_.out (by kernel_rfl)) (fun _ _ _ h => h) (Or.inl ⟨by rfl, ?_⟩) ?_ ?_
   rotate_left
   ·intro w'
    go_simp
    with_reducible rfl
   rotate_left
   ·simp only [Act.put, List.setIfInBounds_toArray, List.set_cons_zero, List.set_cons_succ, i64_w, i32_w]
    rfl
   refine pure_ (i := 5) (N := (some 23)) (v := ?_) (a' := ?_) #[true, true, true, true, false, true, false, false, false, false, false] rfl rfl (any_of HT_.out (by kernel_rfl)) (fun _ _ _ h => h) (Or.inl ⟨by rfl, ?_⟩) ?_ ?_
   rotate_left
   ·intro w'
    go_simp
    with_reducible rfl
   rotate_left
   ·simp only [Act.put, List.setIfInBounds_toArray, List.set_cons_zero, List.set_cons_succ, i64_w, i32_w]
    rfl
   refine pure_ (i := 6) (N := (some 24)) (v := ?_) (a' := ?_) #[true, true, true, true, false, true, true, false, false, false, false] rfl rfl (any_of HT_.out (by kernel_rfl)) (fun _ _ _ h => h) (Or.inl ⟨by rfl, ?_⟩) ?_ ?_
   rotate_left
   ·intro w'
    go_simp
    with_reducible rfl
   rotate_left
   ·simp only [Act.put, List.setIfInBounds_toArray, List.set_cons_zero, List.set_cons_succ, i64_w, i32_w]
    rfl
   refine pure_ (i := 7) (N := (some 25)) (v := ?_) (a' := ?_) #[true, true, true, true, false, true, true, true, false, false, false] rfl rfl (any_of HT_.out (by kernel_rfl)) (fun _ _ _ h => h) (Or.inl ⟨by rfl, ?_⟩) ?_ ?_
   rotate_left
   ·intro w'
    go_simp
    with_reducible rfl
   rotate_left
   ·simp only [Act.put, List.setIfInBounds_toArray, List.set_cons_zero, List.set_cons_succ, i64_w, i32_w]
    rfl
   refine pure_ (i := 8) (N := (some 26)) (v := ?_) (a' := ?_) #[true, true, true, true, false, true, true, true, true, false, false] rfl rfl (any_of HT_.out (by kernel_rfl)) (fun _ _ _ h => h) (Or.inl ⟨by rfl, ?_⟩) ?_ ?_
   rotate_left
   ·intro w'
    go_simp
    with_reducible rfl
   rotate_left
   ·simp only [Act.put, List.setIfInBounds_toArray, List.set_cons_zero, List.set_cons_succ, i64_w, i32_w]
    rfl
   refine take_ (i := 4) (N := (some 22)) (v := ?_) (a' := ?_) #[true, true, true, true, true, true, true, true, true, false, false] rfl rfl (take_ofW HT_.out HW_.out (by kernel_rfl)) (fun _ _ _ h => h) (Or.inl ⟨by rfl, ?_⟩) hHeld ?_ ?_
   rotate_left
   ·intro w' hS
    have q0 := (hS.out.at (i) (Nat.zero_le _) HI.out).1
    have q1 := (hS.out.at (i) (Nat.zero_le _) HI.out).2.1
    have q2 := (hS.out.at (i) (Nat.zero_le _) HI.out).2.2
    clear hS
    go_simp
    with_reducible rfl
   rotate_left
   ·simp only [Act.put, List.setIfInBounds_toArray, List.set_cons_zero, List.set_cons_succ, i64_w, i32_w]
    rfl
   refine take_ (i := 9) (N := (some 27)) (v := ?_) (a' := ?_) #[true, true, true, true, true, true, true, true, true, true, false] rfl rfl (take_ofW HT_.out HW_.out (by kernel_rfl)) (fun _ _ _ h => h) (Or.inl ⟨by rfl, ?_⟩) hHeld ?_ ?_
   rotate_left
   ·intro w' hS
    have q0 := (hS.out.at (j) (Nat.zero_le _) (by have := HI.out; have := HJ.out; omega)).1
    have q1 := (hS.out.at (j) (Nat.zero_le _) (by have := HI.out; have := HJ.out; omega)).2.1
    have q2 := (hS.out.at (j) (Nat.zero_le _) (by have := HI.out; have := HJ.out; omega)).2.2
    clear hS
    go_simp
    with_reducible rfl
   rotate_left
   ·simp only [Act.put, List.setIfInBounds_toArray, List.set_cons_zero, List.set_cons_succ, i64_w, i32_w]
    rfl
   refine one_ (i := 10) (N := (some 28)) #[true, true, true, true, true, true, true, true, true, true, true] rfl rfl (one_of HT_.out (by kernel_rfl)) (by decide) (fun K hK => ?_)
   refine goesE_ Try.func16 (by kernel_rfl) rfl #[.agg #[.bool (l.getD (i) z28).f0, .int .i64 (l.getD (i) z28).f1, .string (l.getD (i) z28).f2], .agg #[.bool (l.getD (j) z28).f0, .int .i64 (l.getD (j) z28).f1, .string (l.getD (j) z28).f2]] (by rfl) rfl rfl (by rfl) (by first | rfl | (simp only [List.map_toArray, List.map_cons, List.map_nil]; rfl)) ?_
   refine (eqv_calls (l.getD (i) z28) (l.getD (j) z28) eqb HEQ.out _).mono ?_
   rintro e wz ⟨rfl, hb⟩
   refine ⟨_, rfl, ?_⟩
   replace HC := Aside0.mk (HC.out.grow hb)
   clear hb
   refine hK.out _ _ ⟨HC.out⟩ (fun hHeld => ?_)
   clear hK K
   refine norm_ (a' := ?_) ?_ ?_
   rotate_left
   ·show Act.put _ (some 28) _ = _
    simp only [Act.put, List.setIfInBounds_toArray, List.set_cons_zero, List.set_cons_succ, i64_w, i32_w]
    rfl
   refine done_ (done_of HT_.out (by kernel_rfl)) ?_
   clear k1 k2 hw
   have hw1 : wrap64 ((i : Int) + 1) = ((i + 1 : Nat) : Int) := by have := HI.out; have := HM.out; rw [w64 (by omega) (by omega)]; omega
   cases eqb
   ·go_wp2
    go_roundg (l.length - (i + 1))
    case measure => have := HI.out; omega
    case rel => exact ⟨i + 1, by omega, by have := HI.out; omega, rfl, by rw [hw1], by have h := dcount_take l i (by have := HJ.out; omega) HI.out; rw [show i - 1 = j by have := HJ.out; omega, HD.out, if_neg (of_decide_eq_false HEQ.out)] at h; exact h, HC⟩
   ·clear hw1
    have c1 : decide ((i : Int) < 0) = false := decide_eq_false (by omega)
    have c2 : decide ((c : Int) < (l.length : Int)) = false := decide_eq_false (by have := HC.out.cap; omega)
    have c3 : decide (c < l.length) = false := decide_eq_false (by have := HC.out.cap; omega)
    have c4 : decide ((l.length : Int) < (i : Int)) = false := decide_eq_false (by omega)
    have c5 : decide (l.length < i) = false := decide_eq_false (by omega)
    have b4 : (i : Int) ≤ (l.length : Int) := by omega
    have b5 : (l.length : Int) ≤ (c : Int) := by have := HC.out.cap; omega
    have b6 : i ≤ l.length := by omega
    have b7 : l.length ≤ c := by omega
    go_wp2
    clear c1 c2 c3 c4 c5 b0 b1 b2 b3 b4
    obtain ⟨q, hq⟩ : ∃ q, q = l.length - i := ⟨_, rfl⟩
    rw [← hq]
    have HQ : Aside0 (i + q = l.length) := Aside0.mk (by omega)
    have HD1 : Aside0 (dcount (l.take (i + 1)) = i) := Aside0.mk (by have h := dcount_take l i (by have := HJ.out; omega) HI.out; rw [show i - 1 = j by have := HJ.out; omega, HD.out, if_pos (of_decide_eq_true HEQ.out)] at h; exact h)
    have HI1 : Aside0 (1 ≤ i) := Aside0.mk (by have := HJ.out; omega)
    clear hq HEQ HD HJ hHeld
    go_loopg [5, 7] (q - 1) (fun gq s5 s7 wx => ∃ k m : Nat, 1 ≤ k ∧ k ≤ q ∧ gq = q - k ∧ s5 = .int .i64 (m : Int) ∧ s7 = .int .i64 (k : Int) ∧ m + 1 ≤ i + k ∧ 1 ≤ m ∧ dcount (l.take (i + k)) = m ∧ Aside0 (Cut w0 base blk c l (i + k - 1) wx))
    case atStart => exact ⟨1, i, by omega, by have := HI.out; have := HQ.out; omega, rfl, rfl, rfl, by omega, HI1.out, HD1.out, ⟨HC.out.shift (Nat.zero_le _)⟩⟩
    case round =>
     clear HC HD1
     obtain ⟨k, m, hk1, hk2, rfl, rfl, rfl, hm1, hm2, hd, HC⟩ := hrel
     have HK1 := Aside0.mk hk1; have HMm := Aside0.mk hm1; have HM1 := Aside0.mk hm2; have HD := Aside0.mk hd
     clear hd
     by_cases hlt : k < q
     ·obtain ⟨z, hz⟩ : ∃ z, z + 1 = k := ⟨k - 1, by omega⟩
      rw [show i + k - 1 = i + z by omega] at HC
      obtain ⟨eqb, heq⟩ : ∃ b, decide (cls (l.getD (i + k) z28) = cls (l.getD (i + z) z28)) = b := ⟨_, rfl⟩
      have HEQ := Aside0.mk heq; have HK := Aside0.mk hlt; have HZ := Aside0.mk hz
      have hiq := HQ.out; have hlm := HM.out; have hcap := HC.out.cap
      have k1 : decide ((k : Int) < (q : Int)) = true := decide_eq_true (by omega)
      have k2 : decide (k < q) = true := decide_eq_true hlt
      have b0 : (0 : Int) ≤ (k : Int) := by omega
      have b1 : (k : Int) < (q : Int) := by omega
      have b2 : (0 : Int) ≤ (z : Int) := by omega
      have b3 : (z : Int) < (q : Int) := by omega
      have b4 : (0 : Int) ≤ (m : Int) := by omega
      have b5 : (m : Int) < (l.length : Int) := by omega
      have hw : wrap64 ((k : Int) - 1) = (z : Int) := by rw [w64 (by omega) (by omega)]; omega
      have hw1 : wrap64 ((k : Int) + 1) = ((k + 1 : Nat) : Int) := by rw [w64 (by omega) (by omega)]; omega
      have hw2 : wrap64 ((m : Int) + 1) = ((m + 1 : Nat) : Int) := by rw [w64 (by omega) (by omega)]; omega
      have HW1 := Aside0.mk hw1; have HW2 := Aside0.mk hw2
      clear heq hlt hz hk1 hk2 hm1 hm2 hiq hlm hcap hw1 hw2
      go_wp2_with fail
      refine start_ (n := 12) (S := fun w' => Aside0 (Cut w0 base blk c l (i + z) w')) (ds := []) #[false, false, false, false, false, false, false, false, false, false, false, false] (by kernel_rfl) rfl rfl ⟨HC.out.drew⟩ (fun hHeld => ?_)
      refine with_tabW compact.tab11 compact.bits11 (fun HT_ HW_ => ?_)
      replace HC := Aside0.mk HC.out.drew
      generalize World.drew _ = wr at HC hHeld ⊢
      refine pure_ (i := 0) (N := (some 38)) (v := ?_) (a' := ?_) #[true, false, false, false, false, false, false, false, false, false, false, false] rfl rfl (any_of HT_.out (by kernel_rfl)) (fun _ _ _ h => h) (Or.inl ⟨by rfl, ?_⟩) ?_ ?_
      rotate_left
      ·intro w'
       go_simp
       with_reducible rfl
      rotate_left
      ·simp only [Act.put, List.setIfInBounds_toArray, List.set_cons_zero, List.set_cons_succ, i64_w, i32_w]
       rfl
      refine pure_ (i := 1) (N := (some 39)) (v := ?_) (a' := ?_) #[true, true, false, false, false, false, false, false, false, false, false, false] rfl rfl (any_of HT_.out (by kernel_rfl)) (fun _ _ _ h => h) (Or.inl ⟨by rfl, ?_⟩) ?_ ?_
      rotate_left
      ·intro w'
       go_simp
       with_reducible rfl
      rotate_left
      ·simp only [Act.put, List.setIfInBounds_toArray, List.set_cons_zero, List.set_cons_succ, i64_w, i32_w]
       rfl
      refine pure_ (i := 2) (N := (some 40)) (v := ?_) (a' := ?_) #[true, true, true, false, false, false, false, false, false, false, false, false] rfl rfl (any_of HT_.out (by kernel_rfl)) (fun _ _ _ h => h) (Or.inl ⟨by rfl, ?_⟩) ?_ ?_
      rotate_left
      ·intro w'
       go_simp
       with_reducible rfl
      rotate_left
      ·simp only [Act.put, List.setIfInBounds_toArray, List.set_cons_zero, List.set_cons_succ, i64_w, i32_w]
       rfl
      refine pure_ (i := 3) (N := (some 41)) (v := ?_) (a' := ?_) #[true, true, true, true, false, false, false, false, false, false, false, false] rfl rfl (any_of HT_.out (by kernel_rfl)) (fun _ _ _ h => h) (Or.inl ⟨by rfl, ?_⟩) ?_ ?_
      rotate_left
      ·intro w'
       go_simp
       with_reducible rfl
      rotate_left
      ·simp only [Act.put, List.setIfInBounds_toArray, List.set_cons_zero, List.set_cons_succ, i64_w, i32_w]
       rfl
      refine pure_ (i := 5) (N := (some 43)) (v := ?_) (a' := ?_) #[true, true, true, true, false, true, false, false, false, false, false, false] rfl rfl (any_of HT_.out (by kernel_rfl)) (fun _ _ _ h => h) (Or.inl ⟨by rfl, ?_⟩) ?_ ?_
      rotate_left
      ·intro w'
       go_simp
       with_reducible rfl
      rotate_left
      ·simp only [Act.put, List.setIfInBounds_toArray, List.set_cons_zero, List.set_cons_succ, i64_w, i32_w]
       rfl
      refine pure_ (i := 6) (N := (some 44)) (v := ?_) (a' := ?_) #[true, true, true, true, false, true, true, false, false, false, false, false] rfl rfl (any_of HT_.out (by kernel_rfl)) (fun _ _ _ h => h) (Or.inl ⟨by rfl, ?_⟩) ?_ ?_
      rotate_left
      ·intro w'
       go_simp
       with_reducible rfl
      rotate_left
      ·simp only [Act.put, List.setIfInBounds_toArray, List.set_cons_zero, List.set_cons_succ, i64_w, i32_w]
       rfl
      refine pure_ (i := 7) (N := (some 45)) (v := ?_) (a' := ?_) #[true, true, true, true, false, true, true, true, false, false, false, false] rfl rfl (any_of HT_.out (by kernel_rfl)) (fun _ _ _ h => h) (Or.inl ⟨by rfl, ?_⟩) ?_ ?_
      rotate_left
      ·intro w'
       go_simp
       with_reducible rfl
      rotate_left
      ·simp only [Act.put, List.setIfInBounds_toArray, List.set_cons_zero, List.set_cons_succ, i64_w, i32_w]
       rfl
      refine pure_ (i := 8) (N := (some 46)) (v := ?_) (a' := ?_) #[true, true, true, true, false, true, true, true, true, false, false, false] rfl rfl (any_of HT_.out (by kernel_rfl)) (fun _ _ _ h => h) (Or.inl ⟨by rfl, ?_⟩) ?_ ?_
      rotate_left
      ·intro w'
       go_simp
       with_reducible rfl
      rotate_left
      ·simp only [Act.put, List.setIfInBounds_toArray, List.set_cons_zero, List.set_cons_succ, i64_w, i32_w]
       rfl
      refine take_ (i := 4) (N := (some 42)) (v := ?_) (a' := ?_) #[true, true, true, true, true, true, true, true, true, false, false, false] rfl rfl (take_ofW HT_.out HW_.out (by kernel_rfl)) (fun _ _ _ h => h) (Or.inl ⟨by rfl, ?_⟩) hHeld ?_ ?_
      rotate_left
      ·intro w' hS
       have q0 := (hS.out.at2 i k (by have := HZ.out; omega) (by have := HK.out; have := HQ.out; omega)).1
       have q1 := (hS.out.at2 i k (by have := HZ.out; omega) (by have := HK.out; have := HQ.out; omega)).2.1
       have q2 := (hS.out.at2 i k (by have := HZ.out; omega) (by have := HK.out; have := HQ.out; omega)).2.2
       clear hS
       go_simp
       with_reducible rfl
      rotate_left
      ·simp only [Act.put, List.setIfInBounds_toArray, List.set_cons_zero, List.set_cons_succ, i64_w, i32_w]
       rfl
      refine take_ (i := 9) (N := (some 47)) (v := ?_) (a' := ?_) #[true, true, true, true, true, true, true, true, true, true, false, false] rfl rfl (take_ofW HT_.out HW_.out (by kernel_rfl)) (fun _ _ _ h => h) (Or.inl ⟨by rfl, ?_⟩) hHeld ?_ ?_
      rotate_left
      ·intro w' hS
       have q0 := (hS.out.at2 i z (Nat.le_refl _) (by have := HK.out; have := HQ.out; have := HZ.out; omega)).1
       have q1 := (hS.out.at2 i z (Nat.le_refl _) (by have := HK.out; have := HQ.out; have := HZ.out; omega)).2.1
       have q2 := (hS.out.at2 i z (Nat.le_refl _) (by have := HK.out; have := HQ.out; have := HZ.out; omega)).2.2
       clear hS
       go_simp
       with_reducible rfl
      rotate_left
      ·simp only [Act.put, List.setIfInBounds_toArray, List.set_cons_zero, List.set_cons_succ, i64_w, i32_w]
       rfl
      refine one_ (i := 10) (N := (some 48)) #[true, true, true, true, true, true, true, true, true, true, true, false] rfl rfl (one_of HT_.out (by kernel_rfl)) (by decide) (fun K hK => ?_)
      refine goesE_ Try.func16 (by kernel_rfl) rfl #[.agg #[.bool (l.getD (i + k) z28).f0, .int .i64 (l.getD (i + k) z28).f1, .string (l.getD (i + k) z28).f2], .agg #[.bool (l.getD (i + z) z28).f0, .int .i64 (l.getD (i + z) z28).f1, .string (l.getD (i + z) z28).f2]] (by rfl) rfl rfl (by rfl) (by first | rfl | (simp only [List.map_toArray, List.map_cons, List.map_nil]; rfl)) ?_
      refine (eqv_calls (l.getD (i + k) z28) (l.getD (i + z) z28) eqb HEQ.out _).mono ?_
      rintro e wz ⟨rfl, hb⟩
      refine ⟨_, rfl, ?_⟩
      replace HC := Aside0.mk (HC.out.grow hb)
      clear hb
      refine hK.out _ _ ⟨HC.out⟩ (fun hHeld => ?_)
      clear hK K
      refine norm_ (a' := ?_) ?_ ?_
      rotate_left
      ·show Act.put _ (some 48) _ = _
       simp only [Act.put, List.setIfInBounds_toArray, List.set_cons_zero, List.set_cons_succ, i64_w, i32_w]
       rfl
      refine pure_ (i := 11) (N := (some 49)) (v := ?_) (a' := ?_) #[true, true, true, true, true, true, true, true, true, true, true, true] rfl rfl (any_of HT_.out (by kernel_rfl)) (fun _ _ _ h => h) (Or.inl ⟨by rfl, ?_⟩) ?_ ?_
      rotate_left
      ·intro w'
       go_simp
       with_reducible rfl
      rotate_left
      ·simp only [Act.put, List.setIfInBounds_toArray, List.set_cons_zero, List.set_cons_succ, i64_w, i32_w]
       rfl
      refine done_ (done_of HT_.out (by kernel_rfl)) ?_
      clear k1 k2 hw hHeld
      have hw1 := HW1.out
      have hdt := dcount_take l (i + k) (by have := HK1.out; omega) (by have := HK.out; have := HQ.out; omega)
      rw [show i + k - 1 = i + z by have := HZ.out; omega, HD.out] at hdt
      have HDT := Aside0.mk hdt; clear hdt
      cases eqb
      ·have q0 := (HC.out.at2 i k (by have := HZ.out; omega) (by have := HK.out; have := HQ.out; omega)).1
       have q1 := (HC.out.at2 i k (by have := HZ.out; omega) (by have := HK.out; have := HQ.out; omega)).2.1
       have q2 := (HC.out.at2 i k (by have := HZ.out; omega) (by have := HK.out; have := HQ.out; omega)).2.2
       obtain ⟨p0, hp0⟩ := HC.out.has (m * 3) (by have := HC.out.cap; have := HK.out; have := HQ.out; have := HMm.out; omega)
       obtain ⟨p1, hp1⟩ := HC.out.has (m * 3 + 1) (by have := HC.out.cap; have := HK.out; have := HQ.out; have := HMm.out; omega)
       obtain ⟨p2, hp2⟩ := HC.out.has (m * 3 + 2) (by have := HC.out.cap; have := HK.out; have := HQ.out; have := HMm.out; omega)
       have f0 := HC.out.frozen (m * 3)
       have f1 := HC.out.frozen (m * 3 + 1)
       have f2 := HC.out.frozen (m * 3 + 2)
       have hw2 := HW2.out
       go_wp2
       go_roundg (q - (k + 1))
       case measure => have := HK.out; omega
       case rel => exact ⟨k + 1, m + 1, by omega, by have := HK.out; omega, rfl, by rw [HW2.out], by rw [HW1.out], by have := HMm.out; omega, by omega, by have h := HDT.out; rw [if_neg (of_decide_eq_false HEQ.out)] at h; exact h, ⟨(((HC.out.shift (m' := i + (k + 1) - 1) (by have := HZ.out; omega)).set _ (by have := HMm.out; omega) _).set _ (by have := HMm.out; omega) _).set _ (by have := HMm.out; omega) _⟩⟩
      ·go_wp2
       go_roundg (q - (k + 1))
       case measure => have := HK.out; omega
       case rel => exact ⟨k + 1, m, by omega, by have := HK.out; omega, rfl, rfl, by rw [hw1], by have := HMm.out; omega, HM1.out, by have h := HDT.out; rw [if_pos (of_decide_eq_true HEQ.out)] at h; exact h, ⟨HC.out.shift (by have := HZ.out; omega)⟩⟩
     ·have hkq : k = q := by omega
      subst hkq
      have hml : dcount l = m := by have h := HD.out; rw [HQ.out, List.take_length] at h; exact h
      have HML := Aside0.mk hml
      have hcap := HC.out.cap; have hiq := HQ.out
      obtain ⟨W', hcl, hbW⟩ := HC.out.cleared m (l.length - m) (by omega) (by omega) 0 (c - m)
      have HBW := Aside0.mk hbW
      have k1 : decide ((k : Int) < (k : Int)) = false := decide_eq_false (by omega)
      have k2 : decide (k < k) = false := decide_eq_false (by omega)
      have c1 : decide ((m : Int) < 0) = false := decide_eq_false (by omega)
      have c2 : decide ((c : Int) < (l.length : Int)) = false := decide_eq_false (by omega)
      have c3 : decide (c < l.length) = false := decide_eq_false (by omega)
      have c4 : decide ((l.length : Int) < (m : Int)) = false := decide_eq_false (by omega)
      have c5 : decide (l.length < m) = false := decide_eq_false (by omega)
      have c6 : decide ((c : Int) < (m : Int)) = false := decide_eq_false (by omega)
      have c7 : decide (c < m) = false := decide_eq_false (by omega)
      have b4 : (m : Int) ≤ (l.length : Int) := by omega
      have b5 : (l.length : Int) ≤ (c : Int) := by omega
      have b6 : m ≤ l.length := by omega
      have b7 : l.length ≤ c := by omega
      have b8 : (0 : Int) ≤ (m : Int) := by omega
      have b9 : (m : Int) ≤ (c : Int) := by omega
      have b10 : m ≤ c := by omega
      have hne : ¬ c = m := by have := HMm.out; omega
      clear hlt hk1 hk2 hm1 hm2 hbW hcap hiq hml
      go_wp2
      go_ret
      exact ⟨⟨some ⟨blk, 0, none⟩, c, by rw [HML.out]; rfl⟩, HBW.out⟩
  ·have hil : i = l.length := by omega
   subst hil
   have k1 : decide ((l.length : Int) < (l.length : Int)) = false := decide_eq_false (by omega)
   have k2 : decide (l.length < l.length) = false := decide_eq_false (by omega)
   rw [List.take_length] at hd
   have HD := Aside0.mk hd
   clear hd hi1 hi2 hlt
   go_wp2
   go_ret
   exact ⟨⟨some ⟨blk, 0, none⟩, c, by rw [HD.out]; rfl⟩, HC.out.below⟩
theorem cut_of_R {w0 w : World} {base : Nat} {ok : Nat → Prop} {v : Value} {l : List S28} (hB : Below base w0 w) (h : Kd.R k28 28 w base ok v l) (hne : 0 < l.length) : ∃ blk c, v = .slice (some ⟨blk, 0, none⟩) l.length c ∧ Cut w0 base blk c l 0 w := by
 obtain ⟨blk, c, hv, hc, hb, hlt, hH⟩ := holds_of_R h hne
 obtain ⟨_, inner, ho, hr⟩ := h
 obtain ⟨hlen, hx⟩ := ho
 rcases hx with ⟨_, h0⟩ | ⟨g, cap, cur, hv2, hg, hh, hcc, hm, hs, ht⟩
 ·omega
 ·rw [hv] at hv2
  injection hv2 with e1 e2 e3
  injection e1 with e1
  injection e1 with e1
  subst e1; subst e3
  refine ⟨blk, c, hv, ⟨⟨cur, hh, hs, fun j _ hj => ?_⟩, hB, hb, hc⟩⟩
  have hd : j < l.toArray.size := by simpa using hj
  have he : l.toArray[j]! = l.getD j z28 := by
   rw [getElem!_pos l.toArray j hd]
   simp [List.getD_eq_getElem?_getD, hj]
  have q0 := (Go.Sort.HoldsK.cell hH (i := j) (c := 0) hd (by omega)).1
  have q1 := (Go.Sort.HoldsK.cell hH (i := j) (c := 1) hd (by omega)).1
  have q2 := (Go.Sort.HoldsK.cell hH (i := j) (c := 2) hd (by omega)).1
  rw [blk_cell hh, he] at q0 q1 q2
  rw [show 0 + j * 3 + 0 = j * 3 by omega] at q0
  rw [show 0 + j * 3 + 1 = j * 3 + 1 by omega] at q1
  rw [show 0 + j * 3 + 2 = j * 3 + 2 by omega] at q2
  exact ⟨q0, q1, q2⟩
set_option maxHeartbeats 1000000 in
set_option maxRecDepth 100000 in
theorem compact.few (A : Option Addr) (n c : Nat) (hn : n < 2) (w : World) :
  Calls Try.prog 15 #[.slice A n c, .func (.func 16) #[] #[]] w fun e w' => (∃ A c', e = .returned (.slice A n c')) ∧ w' = w := by
 have d1 : decide ((n : Int) < 2) = true := decide_eq_true (by omega)
 have d2 : decide (n < 2) = true := decide_eq_true (by omega)
 go_enter Try.func15, Try.ntmps15
 go_wp2
 go_ret
 exact ⟨⟨A, c, rfl⟩, rfl⟩
theorem compact_calls (base : Nat) (ok : Nat → Prop) (v : Value) (l : List S28) (w0 w : World) (hB : Below base w0 w) (hR : Kd.R k28 28 w base ok v l) (hl : l.length ≤ 1000000) :
  Calls Try.prog 15 #[v, .func (.func 16) #[] #[]] w fun e w' => (∃ A c', e = .returned (.slice A (dcount l) c')) ∧ Below base w0 w' := by
 by_cases h2 : 2 ≤ l.length
 ·obtain ⟨blk, c, rfl, hcut⟩ := cut_of_R hB hR (by omega)
  exact compact.walk w0 base blk c l w h2 hl hcut
 ·obtain ⟨A, c, rfl, hc, hC⟩ := Kd.R_reads hR
  refine (compact.few A l.length c (by omega) w).mono ?_
  rintro e w' ⟨⟨A', c', rfl⟩, rfl⟩
  refine ⟨⟨A', c', ?_⟩, hB⟩
  have : dcount l = l.length := by
   match l, h2 with
   | [], _ => rfl
   | [_], _ => rfl
   | _ :: _ :: _, h => simp at h
  rw [this]
theorem cloneV.eqIn (w : World) (d : Nat) (a : Option Addr) (n c : Nat) : (Op.equalIn (d + 1) 22 (.slice a n c) (.slice none 0 0)).run Try.prog w = .ok a.isNone w := by
 cases a <;> simp [Op.equalIn, run_underlying Try.underlying22]
theorem cloneV.eq_nil (w : World) (a : Option Addr) (n c : Nat) : (binOp .eql 22 (.slice a n c) (.slice none 0 0)).run Try.prog w = .ok (.bool a.isNone) w := by
 simp only [binOp]
 simp [Op.equal, Op.maxDepth, cloneV.eqIn w 9999 a n c]
set_option maxHeartbeats 1000000 in
set_option maxRecDepth 100000 in
theorem cloneV.calls (A0 : Option Addr) (c0 : Nat) (l0 : List S28) (w : World) (hl : l0.length ≤ 1000000000) (hr0 : Kd.C k28 w A0 l0.length l0) (hc0 : l0.length ≤ c0) :
  Calls Try.prog 12 #[.slice A0 l0.length c0] w fun e w' => ∃ v0_ : Value, e = .returned (v0_) ∧ Kd.R k28 28 w' w.heap.size (fun _ => True) v0_ l0 ∧ Below w.heap.size w w' := by
 have heq := fun (W : World) (n c : Nat) => cloneV.eq_nil W A0 n c
 have HL := Aside0.mk hl; have HR := Aside0.mk hr0; have HC := Aside0.mk hc0
 cases A0 with
 | none =>
  have h0 : l0 = [] := by
   by_cases hp : 0 < l0.length
   ·obtain ⟨ad, hA, _⟩ := at_T28 hr0 0 (by omega) (by omega)
    cases hA
   ·exact List.length_eq_zero_iff.mp (by omega)
  subst h0
  clear hl hr0 hc0
  simp only [Option.isNone] at heq
  go_enter Try.func12, Try.ntmps12
  go_wp2
  go_ret
  exact ⟨_, rfl, Kd.R_nil _ _ _ _ _, Below.refl _ _⟩
 | some ad =>
  clear hl hr0 hc0
  simp only [Option.isNone] at heq
  go_enter Try.func12, Try.ntmps12
  go_wp2_with (first
   | ((with_reducible refine gate_dst (N := 5) rfl ?_); refine Kd.R_lit k28 w.heap.size 28 ?hg (N := 5) ?hd (xs := ([] : List S28)) (inner := []) (ok := fun _ => True) (okp := fun _ => True) ?hr ?hp (fun _ hk => hk) trivial (Below.refl _ _) (Nat.le_refl _) (by simp) ?_; (case hd => rfl); (case hg => rfl); (case hr => first | (go_simp; done) | (go_simp; rfl)); (case hp => exact Reps.none _ _); intro v1 w1 hv1 hb1 _ _; have HV1 := Aside0.mk hv1; have HB1 := Aside0.mk hb1; clear hv1 hb1)
   | (at_builtin; refine Kd.R_append_rows k28 (w0 := w) w.heap.size rfl (.tmp 5) (.tmp 6) 22 28 (.agg #[(.bool false), (.int .i64 0), (.string ⟨#[]⟩)]) 32 rfl Try.underlying22 info28 rfl (by decide) (by omega) v1 ([] : List S28) l0 _ _ _ (fun _ => True) (fun _ => False) rfl rfl HV1.out (Kd.C_below HR.out HB1.out) (fun _ _ h => h) (fun _ h => h.elim) (fun _ _ => trivial) HB1.out HB1.out.size (by have := HL.out; rw [List.length_nil]; omega) ?_; intro v2 w2 hv2 hb2 _ _; have HV2 := Aside0.mk hv2; have HB2 := Aside0.mk hb2; clear hv2 hb2))
  go_ret
  exact ⟨_, rfl, HV2.out, HB2.out⟩
structure AtS (w : World) (x : S28) (W : World) : Prop where mk ::
 b3 : W.heap[w.heap.size]? = some (.cells #[.bool x.f0, .int .i64 x.f1, .string x.f2] 28 (0, 0))
 b4 : W.heap[w.heap.size + 1]? = some (.cells #[.int .i64 0, .int .i64 0, .int .i64 0, .int .i64 0] 40 (0, 0))
 below : Below w.heap.size w W
 size : w.heap.size + 2 ≤ W.heap.size
theorem AtS.drew {w x W} (h : AtS w x W) : AtS w x W.drew := ⟨h.b3, h.b4, below_drew h.below, h.size⟩
theorem AtS.kept {w x W W'} (h : AtS w x W) (hb : Below w.heap.size w W') {S : Nat → Prop} (hk : Kept W W' S) (hS : ∀ k, S k → w.heap.size + 2 ≤ k) : AtS w x W' :=
 ⟨(hk.2 _ (blk_lt h.b3) (fun q => by have := hS _ q; omega)).trans h.b3, (hk.2 _ (blk_lt h.b4) (fun q => by have := hS _ q; omega)).trans h.b4, hb, Nat.le_trans h.size hk.1⟩
theorem AtS.grow {w x W W'} (h : AtS w x W) (hb : Below W.heap.size W W') : AtS w x W' := ⟨blk_below h.b3 hb, blk_below h.b4 hb, below_then h.below (by have := h.size; omega) hb, Nat.le_trans h.size hb.size⟩
theorem AtS.grown {w x W W'} (h : AtS w x W) (hb : Below w.heap.size w W') {row : Option Nat} (hg : W.grownBy W' row) (hr : ∀ k, row = some k → w.heap.size + 2 ≤ k) : AtS w x W' :=
 ⟨(hg.block _ (blk_lt h.b3) (fun e => by have := hr _ e.symm; omega)).trans h.b3, (hg.block _ (blk_lt h.b4) (fun e => by have := hr _ e.symm; omega)).trans h.b4, hb, Nat.le_trans h.size hg.size⟩
theorem AtS.set {w x W} (h : AtS w x W) (g i : Nat) (hg : w.heap.size + 2 ≤ g) (v : Value) : AtS w x (W.setCell ⟨g, i, none⟩ v) :=
 ⟨(Below.heap_setCell W ⟨g, i, none⟩ v _ (by show _ ≠ g; omega)).trans h.b3, (Below.heap_setCell W ⟨g, i, none⟩ v _ (by show _ ≠ g; omega)).trans h.b4, h.below.trans ⟨rfl, rfl, rfl, by simp [World.setCell], fun k hk => Below.heap_setCell W ⟨g, i, none⟩ v k (by show k ≠ g; omega)⟩, by simpa [World.setCell] using h.size⟩
def atArr (p : Nat → Int) (i : Nat) : Array Value := #[.int .i64 (if 0 < i then p 0 else 0), .int .i64 (if 1 < i then p 1 else 0), .int .i64 (if 2 < i then p 2 else 0), .int .i64 (if 3 < i then p 3 else 0)]
theorem atArr_set (p : Nat → Int) (i : Nat) (hi : i < 4) : (atArr p i).setIfInBounds i (.int .i64 (p i)) = atArr p (i + 1) := by
 rcases (by omega : i = 0 ∨ i = 1 ∨ i = 2 ∨ i = 3) with rfl | rfl | rfl | rfl <;> simp [atArr]
def filter_at.T1 : Bool × List (List Nat × List Nat) := (true, [([], []), ([0], [0]), ([1], [1]), ([], []), ([3], [3]), ([2, 4, 2], [2, 4]), ([5, 5, 0, 1, 2, 3, 4, 5], [5])])
theorem filter_at.tab1 : rtab .any (opsOf Try.f17 1) = filter_at.T1 := by kernel_rfl
def filter_at.B1 : List Nat := [0, 1, 3, 0, 8, 31, 63]
theorem filter_at.bits1 : waitsOk filter_at.T1.2 filter_at.B1 = true := by kernel_rfl
set_option maxHeartbeats 8000000 in
set_option maxRecDepth 100000 in
theorem at.walk (k : Nat) (x : S28) (A0 : Option Addr) (n c0 : Nat) (T1 T2 : List Int) (s p : Nat → Int) (hn : 0 < n) (hn2 : n ≤ 1000000) (hi : tally_Int.f k [] x.f1 = some T1) (ht : tally_Text.f k T1 x.f2 = some T2) (hz : T2.length ≤ 140737488355320)
  (hs : ∀ i : Nat, i < 4 → frame_Sum.f (strOfNums [(i : Int)] ++ strOfNums (T2 ++ [if x.f0 = true then 1 else 0])) = some (s i)) (hs0 : ∀ i : Nat, i < 4 → 0 ≤ s i ∧ s i < 4294967296) (hp : ∀ i : Nat, i < 4 → p i = s i % (8 * n : Nat)) (w : World) :
  Calls Try.prog 17 #[.slice A0 n c0, .agg #[.bool x.f0, .int .i64 x.f1, .string x.f2]] w fun e w' => e = .returned (.agg #[.int .i64 (p 0), .int .i64 (p 1), .int .i64 (p 2), .int .i64 (p 3)]) ∧ Below w.heap.size w w' := by
 have HN := Aside0.mk hn; have HN2 := Aside0.mk hn2; have HI := Aside0.mk hi; have HT := Aside0.mk ht; have HZ := Aside0.mk hz; have HS := Aside0.mk hs; have HS0 := Aside0.mk hs0; have HP := Aside0.mk hp
 clear hn hn2 hi ht hz hs hs0 hp
 go_enter Try.func17, Try.ntmps17
 go_wp2
 have HA : Aside0 (AtS w x ((w.alloc (.cells #[.bool x.f0, .int .i64 x.f1, .string x.f2] 28 (0, 0))).alloc (.cells #[.int .i64 0, .int .i64 0, .int .i64 0, .int .i64 0] 40 (0, 0)))) := Aside0.mk ⟨blk_alloc (blk_new w _) _, blk_new2 w _ _, below_alloc (below_alloc (Below.refl _ _) _) _, by simp only [World.alloc, Array.size_push]; omega⟩
 generalize (w.alloc (.cells #[.bool x.f0, .int .i64 x.f1, .string x.f2] 28 (0, 0))).alloc (.cells #[.int .i64 0, .int .i64 0, .int .i64 0, .int .i64 0] 40 (0, 0)) = wc at HA ⊢
 refine start_ (n := 7) (S := fun w' => Aside0 (AtS w x w')) (ds := []) #[false, false, false, false, false, false, false] (by kernel_rfl) rfl rfl ⟨HA.out.drew⟩ (fun hHeld => ?_)
 refine with_tabW filter_at.tab1 filter_at.bits1 (fun HT_ HW_ => ?_)
 replace HA := Aside0.mk HA.out.drew
 generalize World.drew _ = wr at HA hHeld ⊢
 refine pure_ (i := 0) (N := (some 9)) (v := ?_) (a' := ?_) #[true, false, false, false, false, false, false] rfl rfl (any_of HT_.out (by kernel_rfl)) (fun _ _ _ h => h) (Or.inl ⟨by rfl, ?_⟩) ?_ ?_
 rotate_left
 ·intro w'
  go_simp
  with_reducible rfl
 rotate_left
 ·simp only [Act.put, List.setIfInBounds_toArray, List.set_cons_zero, List.set_cons_succ, i64_w, i32_w]
  rfl
 refine pure_ (i := 3) (N := (some 12)) (v := ?_) (a' := ?_) #[true, false, false, true, false, false, false] rfl rfl (any_of HT_.out (by kernel_rfl)) (fun _ _ _ h => h) (Or.inl ⟨by rfl, ?_⟩) ?_ ?_
 rotate_left
 ·intro w'
  go_simp
  with_reducible rfl
 rotate_left
 ·simp only [Act.put, List.setIfInBounds_toArray, List.set_cons_zero, List.set_cons_succ, i64_w, i32_w]
  rfl
 refine take_ (i := 1) (N := (some 10)) (v := ?_) (a' := ?_) #[true, true, false, true, false, false, false] rfl rfl (take_ofW HT_.out HW_.out (by kernel_rfl)) (fun _ _ _ h => h) (Or.inl ⟨by rfl, ?_⟩) hHeld ?_ ?_
 rotate_left
 ·intro w' hS
  have q1 : World.cell? w' ⟨w.heap.size, 1, none⟩ = some (.int .i64 x.f1) := (blk_cell hS.out.b3 1).trans rfl
  clear hS
  go_simp
  with_reducible rfl
 rotate_left
 ·simp only [Act.put, List.setIfInBounds_toArray, List.set_cons_zero, List.set_cons_succ, i64_w, i32_w]
  rfl
 refine take_ (i := 4) (N := (some 13)) (v := ?_) (a' := ?_) #[true, true, false, true, true, false, false] rfl rfl (take_ofW HT_.out HW_.out (by kernel_rfl)) (fun _ _ _ h => h) (Or.inl ⟨by rfl, ?_⟩) hHeld ?_ ?_
 rotate_left
 ·intro w' hS
  have q1 : World.cell? w' ⟨w.heap.size, 2, none⟩ = some (.string x.f2) := (blk_cell hS.out.b3 2).trans rfl
  clear hS
  go_simp
  with_reducible rfl
 rotate_left
 ·simp only [Act.put, List.setIfInBounds_toArray, List.set_cons_zero, List.set_cons_succ, i64_w, i32_w]
  rfl
 refine one_ (i := 2) (N := (some 11)) #[true, true, true, true, true, false, false] rfl rfl (one_of HT_.out (by kernel_rfl)) (by decide) (fun K hK => ?_)
 refine goes_ Try.func33 (by kernel_rfl) rfl #[.slice none 0 0, .int .i64 x.f1] (by rfl) rfl rfl (by first | rfl | (simp only [List.map_toArray, List.map_cons, List.map_nil]; rfl)) ?_
 refine (tally_Int.calls k (fun q => w.heap.size + 2 ≤ q) (.slice none 0 0) [] x.f1 T1 w _ HA.out.below (Kd.R_nil _ _ _ _ _) HI.out).mono ?_
 rintro e wz ⟨v1, rfl, ho, hb, hk⟩
 refine ⟨_, rfl, ?_⟩
 have HO := Aside0.mk (Kd.R_mono ho (ok' := fun q => w.heap.size + 2 ≤ q) (fun q hq => Or.elim hq id (fun h => Nat.le_trans HA.out.size h)))
 replace HA := Aside0.mk (HA.out.kept hb hk (fun q hq => hq))
 clear ho hb hk
 refine hK.out _ _ HA (fun hHeld => ?_)
 clear hK K
 refine norm_ (a' := ?_) ?_ ?_
 rotate_left
 ·show Act.put _ (some 11) _ = _
  simp only [Act.put, List.setIfInBounds_toArray, List.set_cons_zero, List.set_cons_succ, i64_w, i32_w]
  rfl
 refine one_ (i := 5) (N := (some 14)) #[true, true, true, true, true, true, false] rfl rfl (one_of HT_.out (by kernel_rfl)) (by decide) (fun K hK => ?_)
 refine goes_ Try.func32 (by kernel_rfl) rfl #[v1, .string x.f2] (by rfl) rfl rfl (by first | rfl | (simp only [List.map_toArray, List.map_cons, List.map_nil]; rfl)) ?_
 refine (tally_Text.calls k (fun q => w.heap.size + 2 ≤ q) v1 T1 x.f2 T2 w _ HA.out.below HO.out HT.out).mono ?_
 rintro e wz2 ⟨v2, rfl, ho, hb, hk⟩
 refine ⟨_, rfl, ?_⟩
 replace HO := Aside0.mk (Kd.R_mono ho (ok' := fun q => w.heap.size + 2 ≤ q) (fun q hq => Or.elim hq id (fun h => Nat.le_trans HA.out.size h)))
 replace HA := Aside0.mk (HA.out.kept hb hk (fun q hq => hq))
 clear ho hb hk
 refine hK.out _ _ HA (fun hHeld => ?_)
 clear hK K
 refine norm_ (a' := ?_) ?_ ?_
 rotate_left
 ·show Act.put _ (some 14) _ = _
  simp only [Act.put, List.setIfInBounds_toArray, List.set_cons_zero, List.set_cons_succ, i64_w, i32_w]
  rfl
 refine pure_ (i := 6) (N := (some 5)) (v := ?_) (a' := ?_) #[true, true, true, true, true, true, true] rfl rfl (any_of HT_.out (by kernel_rfl)) (fun _ _ _ h => h) (Or.inl ⟨by rfl, ?_⟩) ?_ ?_
 rotate_left
 ·intro w'
  go_simp
  with_reducible rfl
 rotate_left
 ·simp only [Act.put, List.setIfInBounds_toArray, List.set_cons_zero, List.set_cons_succ, i64_w, i32_w]
  rfl
 refine done_ (done_of HT_.out (by kernel_rfl)) ?_
 clear hHeld
 obtain ⟨b, hb⟩ : ∃ b, b = x.f0 := ⟨_, rfl⟩
 have q1 : World.cell? wz2 ⟨w.heap.size, 0, none⟩ = some (.bool b) := (blk_cell HA.out.b3 0).trans (by rw [hb]; rfl)
 have HBx := Aside0.mk hb; clear hb
 go_upto_if 16 with fail
 clear q1
 go_cut [5] (fun v5 wc => Aside0 (AtS w x wc) ∧ Aside0 (Kd.R (Kd.int .u8) 5 wc w.heap.size (fun q => w.heap.size + 2 ≤ q) v5 (T2 ++ [if x.f0 = true then 1 else 0])))
 case first =>
  cases b
  ·go_wp2_with ((with_reducible refine gate_builtin (b := .append) (xs := #[.tmp 20, .tmp 21]) rfl ?_); at_builtin; refine Kd.R_append (Kd.int .u8) (w0 := w) w.heap.size rfl (.tmp 20) (.tmp 21) 38 5 (.int .u8 0) 1 rfl Try.underlying38 info5 rfl (by decide) (by omega) v2 T2 0 [.int .u8 0] (fun q => w.heap.size + 2 ≤ q) (fun _ => False) rfl rfl ?aP (fun _ hk => hk.elim) ?aF ?aO ?aB ?aS ?aL ?_; (case aP => exact rfl); (case aB => exact HA.out.below); (case aF => exact fun q hq => Nat.le_trans HA.out.size hq); (case aO => exact HO.out); (case aS => have := HA.out.size; omega); (case aL => have := HZ.out; omega); intro v3 w3 ho hb hg hat; have HA3 := Aside0.mk (HA.out.grown hb hg (fun q e => HO.out.1 q e)); have HO3 := Aside0.mk ho; clear ho hb hg hat HA HO)
   go_meet
   case rel => exact ⟨HA3, ⟨by rw [← HBx.out, if_neg (by simp)]; exact HO3.out⟩⟩
  ·go_wp2_with ((with_reducible refine gate_builtin (b := .append) (xs := #[.tmp 17, .tmp 18]) rfl ?_); at_builtin; refine Kd.R_append (Kd.int .u8) (w0 := w) w.heap.size rfl (.tmp 17) (.tmp 18) 38 5 (.int .u8 0) 1 rfl Try.underlying38 info5 rfl (by decide) (by omega) v2 T2 1 [.int .u8 1] (fun q => w.heap.size + 2 ≤ q) (fun _ => False) rfl rfl ?aP (fun _ hk => hk.elim) ?aF ?aO ?aB ?aS ?aL ?_; (case aP => exact rfl); (case aB => exact HA.out.below); (case aF => exact fun q hq => Nat.le_trans HA.out.size hq); (case aO => exact HO.out); (case aS => have := HA.out.size; omega); (case aL => have := HZ.out; omega); intro v3 w3 ho hb hg hat; have HA3 := Aside0.mk (HA.out.grown hb hg (fun q e => HO.out.1 q e)); have HO3 := Aside0.mk ho; clear ho hb hg hat HA HO)
   go_meet
   case rel => exact ⟨HA3, ⟨by rw [← HBx.out, if_pos rfl]; exact HO3.out⟩⟩
 case rest =>
  clear HA HO HI HT
  obtain ⟨HA, HO⟩ := hcut
  obtain ⟨TT, hTT⟩ : ∃ T, T = T2 ++ [if x.f0 = true then 1 else 0] := ⟨_, rfl⟩
  replace HO : Aside0 (Kd.R (Kd.int .u8) 5 wc w.heap.size (fun q => w.heap.size + 2 ≤ q) u5 TT) := ⟨by rw [hTT]; exact HO.out⟩
  replace HS : Aside0 (∀ i : Nat, i < 4 → frame_Sum.f (strOfNums [(i : Int)] ++ strOfNums TT) = some (s i)) := ⟨by rw [hTT]; exact HS.out⟩
  replace HZ : Aside0 (TT.length ≤ 140737488355321) := ⟨by rw [hTT, List.length_append, List.length_singleton]; have := HZ.out; omega⟩
  clear hTT HBx
  go_wp2
  obtain ⟨g6, hg6⟩ : ∃ g, g = wc.heap.size := ⟨_, rfl⟩
  have B6 : Aside0 ((wc.alloc (.cells #[.int .i64 0, .int .i64 0, .int .i64 0, .int .i64 0] 40 (0, 0))).heap[g6]? = some (.cells (atArr p 0) 40 (0, 0))) := ⟨by rw [hg6]; exact blk_new wc _⟩
  have HG6 : Aside0 (w.heap.size + 2 ≤ g6) := ⟨by have := HA.out.size; omega⟩
  replace HA := Aside0.mk (HA.out.grow (below_alloc (Below.refl _ _) (.cells #[.int .i64 0, .int .i64 0, .int .i64 0, .int .i64 0] 40 (0, 0))))
  replace HO := Aside0.mk (Kd.R_alloc HO.out (.cells #[.int .i64 0, .int .i64 0, .int .i64 0, .int .i64 0] 40 (0, 0)))
  rw [← hg6]
  clear hg6
  generalize wc.alloc (.cells #[.int .i64 0, .int .i64 0, .int .i64 0, .int .i64 0] 40 (0, 0)) = w6 at B6 HA HO ⊢
  go_loopg [23] 4 (fun gq s23 wx => ∃ i : Nat, i ≤ 4 ∧ gq = 4 - i ∧ s23 = .int .i64 (i : Int) ∧ Aside0 (AtS w x wx) ∧ Aside0 (Kd.R (Kd.int .u8) 5 wx w.heap.size (fun q => w.heap.size + 2 ≤ q) u5 TT) ∧ Aside0 (wx.heap[g6]? = some (.cells (atArr p i) 40 (0, 0))))
  case atStart => exact ⟨0, by omega, rfl, rfl, HA, HO, B6⟩
  case round =>
   clear HA HO B6
   obtain ⟨i, hi4, rfl, rfl, HA, HO, B6⟩ := hrel
   by_cases hlt : i < 4
   ·have HLT := Aside0.mk hlt
    obtain ⟨d, hd⟩ : ∃ d : Int, d = ((8 * n : Nat) : Int) := ⟨_, rfl⟩
    obtain ⟨si, hsi⟩ : ∃ z, z = s i := ⟨_, rfl⟩
    obtain ⟨pi, hpi⟩ : ∃ z, z = p i := ⟨_, rfl⟩
    have hb1 := HS0.out i hlt
    have hb2 := HP.out i hlt
    have hb3 := HS.out i hlt
    have hn1 := HN.out; have hn2 := HN2.out
    rw [← hsi] at hb1 hb2 hb3
    rw [← hpi, ← hd] at hb2
    have d0 : 0 < d := by omega
    have hm1 : 0 ≤ pi := by rw [hb2]; exact Int.emod_nonneg _ (by omega)
    have hm2 : pi < d := by rw [hb2]; exact Int.emod_lt_of_pos _ d0
    have HSI := Aside0.mk hb3; have HPI := Aside0.mk hpi
    have k1 : decide ((i : Int) < 4) = true := decide_eq_true (by omega)
    have k2 : decide (i < 4) = true := decide_eq_true hlt
    have b0 : (0 : Int) ≤ (i : Int) := by omega
    have b1 : (i : Int) < 4 := by omega
    have hw8 : IntKind.u8.wrap (i : Int) = (i : Int) := by simp [IntKind.wrap, IntKind.bits, IntKind.signed]; omega
    have hw1 : wrap64 (8 * (n : Int)) = d := by rw [w64 (by omega) (by omega)]; omega
    have hw2 : IntKind.u64.wrap d = d := by simp [IntKind.wrap, IntKind.bits, IntKind.signed]; omega
    have hw3 : IntKind.u64.wrap si = si := by simp [IntKind.wrap, IntKind.bits, IntKind.signed]; omega
    have hw4 : wrap64 pi = pi := w64 (by omega) (by omega)
    have hw5 : wrap64 ((i : Int) + 1) = ((i + 1 : Nat) : Int) := by rw [w64 (by omega) (by omega)]; omega
    have ht : Int.tmod si d = pi := by rw [hb2]; exact Int.tmod_eq_emod_of_nonneg (by omega)
    have d1 : (d == 0) = false := beq_eq_false_iff_ne.mpr (by omega)
    have d2 : decide (d = 0) = false := decide_eq_false (by omega)
    have d3 : ¬ d = 0 := by omega
    have hcc : (strOfNums [(i : Int)]).size + (strOfNums TT).size ≤ 9223372036854775807 := by have := HZ.out; simp only [size_strOfNums, List.length_singleton]; omega
    clear hlt hd hsi hpi hb1 hb2 hb3 hn1 hn2 hi4 hm1 hm2 d0
    go_wp2_with ((with_reducible refine gate_dst (N := 28) rfl ?_); refine Kd.R_lit (Kd.int .u8) (w0 := w) w.heap.size 5 ?hg (N := 28) ?hd (xs := [(i : Int)]) (inner := [.int .u8 (i : Int)]) (ok := fun q => w.heap.size + 2 ≤ q) (okp := fun q => w.heap.size + 2 ≤ q) ?hr ?hp (fun _ hk => hk) HA.out.size HA.out.below (by have := HA.out.size; omega) (by simp) ?_; (case hd => rfl); (case hg => rfl); (case hr => first | (go_simp; done) | (go_simp; rfl)); (case hp => exact (Reps.one (show Kd.M (Kd.int .u8) _ _ _ (i : Int) [.int .u8 (i : Int)] from rfl) (Reps.none _ _))); intro v28 w28 ho hb hg hnew; have HA2 := Aside0.mk (HA.out.grown hb hg (fun q e => by cases e)); have HO2 := Aside0.mk (Kd.R_grown HO.out hg (fun q _ e => by cases e)); have B62 := Aside0.mk (blk_grown B6.out hg (fun e => by cases e)); have hcv1 := own_string (P := Try.prog) Try.underlying38 Try.underlying5 Try.underlying9 (Kd.own_of_R ho); have hcv2 := own_string (P := Try.prog) Try.underlying38 Try.underlying5 Try.underlying9 (Kd.own_of_R HO2.out); clear ho hb hg hnew HA HO B6)
    refine (frame_Sum.calls _ si w28 HSI.out).mono ?_; rintro e w9 ⟨rfl, hb⟩
    have HA3 := Aside0.mk (HA2.out.grow hb)
    have HO3 := Aside0.mk (Kd.R_below HO2.out hb)
    have B63 := Aside0.mk (blk_below B62.out hb)
    clear hb hcv1 hcv2 HA2 HO2 B62 hw8
    obtain ⟨y, hy⟩ : ∃ y, (atArr p i)[i]? = some y := ⟨_, Array.getElem?_eq_getElem (by simp [atArr]; have := HLT.out; omega)⟩
    have q0 : w9.cell? ⟨g6, i, none⟩ = some y := (blk_cell B63.out i).trans hy
    have f0 := blk_frozen B63.out i
    clear hy
    go_wp2
    go_roundg (4 - (i + 1))
    case measure => have := HLT.out; omega
    case rel => exact ⟨i + 1, by have := HLT.out; omega, rfl, by go_num, ⟨HA3.out.set g6 i HG6.out _⟩, ⟨Kd.R_set HO3.out B63.out (by decide) i _⟩, ⟨by rw [heap_setCell_same w9 g6 i _ 40 _ B63.out, HPI.out, atArr_set p i HLT.out]⟩⟩
   ·have hi : i = 4 := by omega
    subst hi
    clear hlt hi4
    have q0 : wr.cell? ⟨g6, 0, none⟩ = some (.int .i64 (p 0)) := (blk_cell B6.out 0).trans rfl
    have q1 : wr.cell? ⟨g6, 1, none⟩ = some (.int .i64 (p 1)) := (blk_cell B6.out 1).trans rfl
    have q2 : wr.cell? ⟨g6, 2, none⟩ = some (.int .i64 (p 2)) := (blk_cell B6.out 2).trans rfl
    have q3 : wr.cell? ⟨g6, 3, none⟩ = some (.int .i64 (p 3)) := (blk_cell B6.out 3).trans rfl
    have c0_ : wr.cell? ⟨w.heap.size + 1, 0, none⟩ = some (.int .i64 0) := (blk_cell HA.out.b4 0).trans rfl
    have c1_ : wr.cell? ⟨w.heap.size + 1, 1, none⟩ = some (.int .i64 0) := (blk_cell HA.out.b4 1).trans rfl
    have c2_ : wr.cell? ⟨w.heap.size + 1, 2, none⟩ = some (.int .i64 0) := (blk_cell HA.out.b4 2).trans rfl
    have c3_ : wr.cell? ⟨w.heap.size + 1, 3, none⟩ = some (.int .i64 0) := (blk_cell HA.out.b4 3).trans rfl
    have z0 := blk_frozen HA.out.b4 0
    have z1 := blk_frozen HA.out.b4 1
    have z2 := blk_frozen HA.out.b4 2
    have z3 := blk_frozen HA.out.b4 3
    go_wp2
    have HB4 := Aside0.mk HA.out.b4
    clear q0 q1 q2 q3 c0_ c1_ c2_ c3_ z0 z1 z2 z3
    have hb4 := heap_setCell_same _ _ 3 _ 40 (Value.int .i64 (p 3)) (heap_setCell_same _ _ 2 _ 40 (Value.int .i64 (p 2)) (heap_setCell_same _ _ 1 _ 40 (Value.int .i64 (p 1)) (heap_setCell_same wr (w.heap.size + 1) 0 _ 40 (Value.int .i64 (p 0)) HB4.out)))
    have hbw : Below w.heap.size w ((((wr.setCell ⟨w.heap.size + 1, 0, none⟩ (.int .i64 (p 0))).setCell ⟨w.heap.size + 1, 1, none⟩ (.int .i64 (p 1))).setCell ⟨w.heap.size + 1, 2, none⟩ (.int .i64 (p 2))).setCell ⟨w.heap.size + 1, 3, none⟩ (.int .i64 (p 3))) :=
     below_set (below_set (below_set (below_set HA.out.below (by show w.heap.size ≤ w.heap.size + 1; omega)) (by show w.heap.size ≤ w.heap.size + 1; omega)) (by show w.heap.size ≤ w.heap.size + 1; omega)) (by show w.heap.size ≤ w.heap.size + 1; omega)
    have HBW := Aside0.mk hbw; clear hbw
    have q0 := (blk_cell hb4 0).trans rfl
    have q1 := (blk_cell hb4 1).trans rfl
    have q2 := (blk_cell hb4 2).trans rfl
    have q3 := (blk_cell hb4 3).trans rfl
    clear hb4
    generalize (((wr.setCell ⟨w.heap.size + 1, 0, none⟩ (.int .i64 (p 0))).setCell ⟨w.heap.size + 1, 1, none⟩ (.int .i64 (p 1))).setCell ⟨w.heap.size + 1, 2, none⟩ (.int .i64 (p 2))).setCell ⟨w.heap.size + 1, 3, none⟩ (.int .i64 (p 3)) = w9 at q0 q1 q2 q3 HBW ⊢
    refine bodyPost_ret (v := .agg #[.int .i64 (p 0), .int .i64 (p 1), .int .i64 (p 2), .int .i64 (p 3)]) ?_ rfl ⟨rfl, HBW.out⟩
    simp [results, Try.results17, go_sem, *]
theorem bm_ints_len (l : List Nat) : (ints l).length = l.length := by simp [ints]
theorem bm_rd {l : List Nat} {i : Nat} (h : i < l.length) : rd (ints l) (i : Int) = ((l[i] : Nat) : Int) := by
 unfold rd ints
 rw [Int.toNat_natCast, List.getD_eq_getElem?_getD, List.getElem?_map, List.getElem?_eq_getElem h]; rfl
theorem bm_shl (a : Nat) (ha : a ≤ 7) : shl .u8 1 (a : Int) = ((2 ^ a : Nat) : Int) := by
 unfold shl
 have h : 2 ^ a ≤ 2 ^ 7 := Nat.pow_le_pow_right (by omega) ha
 have e : (1 : Int) * 2 ^ a = ((2 ^ a : Nat) : Int) := by simp
 rw [Int.toNat_natCast, Nat.min_eq_left (show a ≤ IntKind.u8.bits from Nat.le_trans ha (by decide)), e, u8_nat (by omega)]
theorem bset_f {N p n : Nat} (hp : p < 8 * n) (hn : n ≤ 1000000) : filter_bitmap_set.f (ints (dig 256 n N)) (p : Int) = some (ints (dig 256 n (N ||| 2 ^ p))) := by
 have e1 : wrap64 (Int.tdiv (p : Int) 8) = ((p / 8 : Nat) : Int) := by rw [Int.tdiv_eq_ediv_of_nonneg (by omega), w64 (by omega) (by omega)]; omega
 have e2 : Int.tmod (p : Int) 8 = ((p % 8 : Nat) : Int) := by rw [Int.tmod_eq_emod_of_nonneg (by omega)]; omega
 have hl : p / 8 < (dig 256 n N).length := by rw [dig_len]; omega
 have hd : (dig 256 n N)[p / 8] = N / 256 ^ (p / 8) % 256 := by
  have g := dig_get 256 n N (p / 8) (by omega)
  rwa [List.getD_eq_getElem?_getD, List.getElem?_eq_getElem hl, Option.getD_some] at g
 have hlt : N / 256 ^ (p / 8) % 256 < 256 := Nat.mod_lt _ (by omega)
 have h2 : 2 ^ (p % 8) ≤ 2 ^ 7 := Nat.pow_le_pow_right (by omega) (by omega)
 unfold filter_bitmap_set.f
 rw [e1, e2, if_pos (by omega), if_pos (by rw [bm_ints_len, dig_len]; omega), if_pos (by omega), Int.toNat_natCast, bm_rd hl, bm_shl _ (by omega), hd, Go.u8_or_nat _ _ (by omega) (by omega), bm_set hp]
 unfold ints
 rw [List.map_set]
theorem dcount_nd : ∀ l : List S28, l.Pairwise (fun a b => ¬ ltC (cls b) (cls a)) → dcount l = nd (l.map cls)
 | [], _ => rfl
 | [x], _ => by simp [dcount, nd]
 | x :: y :: t, h => by
  have ih := dcount_nd (y :: t) (List.pairwise_cons.1 h).2
  rw [dcount, ih, List.map_cons, nd]
  congr 1
  have hiff : cls y = cls x ↔ cls x ∈ (y :: t).map cls := by
   constructor
   ·intro e; rw [← e]; simp
   ·intro hm
    obtain ⟨z, hz, e⟩ := List.mem_map.1 hm
    rcases List.mem_cons.1 hz with rfl | hz
    ·exact e
    ·have h1 := (List.pairwise_cons.1 h).1 y (by simp)
     have h2 := (List.pairwise_cons.1 (List.pairwise_cons.1 h).2).1 z hz
     rw [e] at h2
     exact ltC_tri _ _ h1 h2
  by_cases c : cls y = cls x
  ·rw [if_pos c, if_pos (hiff.1 c)]
  ·rw [if_neg c, if_neg (fun q => c (hiff.2 q))]
def tailOf (k : Nat) (x : S28) : Option (List Int) := (tally_Int.f k [] x.f1).bind fun T1 => (tally_Text.f k T1 x.f2).bind fun T2 => if T2.length ≤ 140737488355320 then some (T2 ++ [if x.f0 = true then 1 else 0]) else none
theorem tailOf_mono (k : Nat) (x : S28) : LeO (tailOf k x) (tailOf (k + 1) x) := by
 unfold tailOf
 exact LeO.bind (tally_Int.mono _ _ k) (fun _ => LeO.bind (tally_Text.mono _ _ k) (fun _ => LeO.refl _))
def placeAt (n : Nat) (T : List Int) (i : Nat) : Nat := crc (bytesOf (strOfNums [(i : Int)] ++ strOfNums T)) % (8 * n)
def places (n : Nat) (T : List Int) : List Nat := [placeAt n T 0, placeAt n T 1, placeAt n T 2, placeAt n T 3]
def keyPl (k n : Nat) (x : S28) : List Nat := places n ((tailOf k x).getD [])
def blen22 (l : List S28) : Nat := nd (l.map cls) * 10 / 8 + 1
def mkBits (k n : Nat) (l : List S28) : List Int := ints (dig 256 n (mask (l.flatMap (keyPl k n))))
def mkF (k : Nat) (l : List S28) : Option ByteArray := if l.length ≤ 1000 ∧ (l.all fun x => (tailOf k x).isSome) = true then (tally_Uint.f k [] (blen22 l : Int)).bind fun u => if u.length ≤ 1000 then some (strOfNums (u ++ mkBits k (blen22 l) l)) else none else none
theorem keyPl_eq {k n : Nat} {x : S28} (h : (tailOf k x).isSome = true) : keyPl (k + 1) n x = keyPl k n x := by
 obtain ⟨T, hT⟩ := Option.isSome_iff_exists.1 h
 unfold keyPl
 rw [hT, tailOf_mono k x T hT]
theorem flatMap_cong {α β : Type} {f g : α → List β} : ∀ {l : List α}, (∀ x ∈ l, f x = g x) → l.flatMap f = l.flatMap g
 | [], _ => rfl
 | x :: t, h => by rw [List.flatMap_cons, List.flatMap_cons, h x (by simp), flatMap_cong (fun y hy => h y (by simp [hy]))]
theorem mkF_mono : ∀ a0 k, LeO (mkF k a0) (mkF (k + 1) a0) := by
 intro l k r h
 unfold mkF at h ⊢
 split at h
 ·rename_i hc
  obtain ⟨h1, h2⟩ := hc
  obtain ⟨u, hu, h⟩ := Option.bind_eq_some_iff.1 h
  have h3 : (l.all fun x => (tailOf (k + 1) x).isSome) = true := by
   rw [List.all_eq_true] at h2 ⊢
   intro x hx
   obtain ⟨T, hT⟩ := Option.isSome_iff_exists.1 (h2 x hx)
   rw [tailOf_mono k x T hT]; rfl
  have h4 : mkBits (k + 1) (blen22 l) l = mkBits k (blen22 l) l := by
   unfold mkBits
   congr 3
   refine flatMap_cong fun x hx => keyPl_eq ?_
   exact List.all_eq_true.1 h2 x hx
  rw [if_pos ⟨h1, h3⟩, tally_Uint.mono _ _ k u hu, Option.bind_some, h4]
  exact h
 ·exact absurd h (by simp)
theorem crc_lt (l : List Int) : crc l < 4294967296 := by unfold crc; omega
theorem at_calls (k n : Nat) (x : S28) (T : List Int) (hT : tailOf k x = some T) (A0 : Option Addr) (c0 : Nat) (hn : 0 < n) (hn2 : n ≤ 1000000) (w : World) :
  Calls Try.prog 17 #[.slice A0 n c0, .agg #[.bool x.f0, .int .i64 x.f1, .string x.f2]] w fun e w' => e = .returned (.agg #[.int .i64 (placeAt n T 0 : Int), .int .i64 (placeAt n T 1 : Int), .int .i64 (placeAt n T 2 : Int), .int .i64 (placeAt n T 3 : Int)]) ∧ Below w.heap.size w w' := by
 unfold tailOf at hT
 obtain ⟨T1, h1, hT⟩ := Option.bind_eq_some_iff.1 hT
 obtain ⟨T2, h2, hT⟩ := Option.bind_eq_some_iff.1 hT
 split at hT
 ·rename_i hz
  obtain rfl := Option.some.inj hT
  refine at.walk k x A0 n c0 T1 T2 (fun i => ((crc (bytesOf (strOfNums [(i : Int)] ++ strOfNums (T2 ++ [if x.f0 = true then 1 else 0]))) : Nat) : Int)) (fun i => ((placeAt n (T2 ++ [if x.f0 = true then 1 else 0]) i : Nat) : Int)) hn hn2 h1 h2 hz (fun i hi => ?_) (fun i hi => ?_) (fun i hi => ?_) w
  ·unfold frame_Sum.f
   rw [if_pos (by rw [ByteArray.size_append, size_strOfNums, size_strOfNums, List.length_append]; simp only [List.length_singleton]; omega)]
  ·have := crc_lt (bytesOf (strOfNums [(i : Int)] ++ strOfNums (T2 ++ [if x.f0 = true then 1 else 0])))
   exact ⟨by omega, by omega⟩
  ·show ((placeAt n _ i : Nat) : Int) = _
   unfold placeAt
   omega
 ·exact absurd hT (by simp)
theorem placeAt_lt {n : Nat} (hn : 0 < n) (T : List Int) (i : Nat) : placeAt n T i < 8 * n := Nat.mod_lt _ (by omega)
theorem append_two (ty : TypeId) (args : Array Value) (W : World) : (Builtin.append_ #[38, 39] ty args).run Try.prog W = (Builtin.append_ #[38, 38] ty args).run Try.prog W := by
 have h1 := run_underlying Try.underlying38
 have h2 := run_underlying Try.underlying39
 unfold Builtin.append_
 simp only [List.getElem?_toArray, List.getElem?_cons_zero, List.getElem?_cons_succ]
 cases args[0]? with
 | none => rfl
 | some s =>
  cases args[1]? with
  | none => rfl
  | some x =>
   cases s <;> simp only [Sem.run_bind, h1, h2, Result.andThen_ok, Sem.run_pure]
set_option maxRecDepth 100000 in
theorem append_run (ty : TypeId) {w0 W : World} (base : Nat) (v : Value) (xs ys : List Int) (A : Option Addr) (m c : Nat) (ok : Nat → Prop) (hfresh : ∀ k, W.heap.size ≤ k → ok k)
  (HO : Kd.R (Kd.int .u8) 5 W base ok v xs) (HC : Kd.C (Kd.int .u8) W A m ys) (HB : Below base w0 W) (hbase : base ≤ W.heap.size) (hl : xs.length + m ≤ 140737488355328) :
  ∃ v1 w1, (Builtin.append_ #[38, 38] ty #[v, .slice A m c]).run Try.prog W = .ok v1 w1 ∧ Kd.R (Kd.int .u8) 5 w1 base ok v1 (xs ++ ys) ∧ Below base w0 w1 := by
 have hown := Kd.own_of_R HO
 have HR : ReadsOf (Value.int .u8) 0 W A m ys := Kd.reads_of_C (d := 0) HC
 obtain ⟨i0, hi, hzz⟩ := Option.map_eq_some_iff.1 info5
 simp only [Prod.mk.injEq] at hzz
 obtain ⟨hz0, hz1, hz2⟩ := hzz
 have ht := Try.underlying38
 have hm : ys.length = m := HR.1
 have hrun : ∃ v1 w1, (Builtin.append_ #[38, 38] ty #[v, .slice A m c]).run Try.prog W = .ok v1 w1 ∧ w1.ownsRow base 5 1 v1 (xs ++ ys).length (encs (Value.int .u8) (xs ++ ys)) ∧ W.grownBy w1 v.ownBlock ∧ (v1.ownBlock = v.ownBlock ∨ v1.ownBlock = some W.heap.size) := by
  rcases A with _ | ad
  ·have h0 : m = 0 := by
    rcases Nat.eq_zero_or_pos m with h0 | h0
    ·exact h0
    ·obtain ⟨ad, h, _⟩ := HR.2.2 h0
     cases h
   subst h0
   obtain rfl : ys = [] := List.eq_nil_of_length_eq_zero hm
   refine ⟨v, W, ?_, by simpa using hown, World.grownBy.refl W _, .inl rfl⟩
   rcases hown.2 with ⟨rfl, hn⟩ | ⟨g, cap, cur, rfl, _, _, hnc, _⟩
   ·simp [Builtin.append_, run_underlying ht, sizeOf, typeInfo, hi, Builtin.lenOf, Builtin.firstCells]
   ·simp [Builtin.append_, run_underlying ht, sizeOf, typeInfo, hi, Builtin.lenOf, Builtin.firstCells, hnc, storeCells]
  ·have hcells : ∀ j u, (encs (Value.int .u8) ys)[j]? = some u → W.cell? (ad.add j) = some u := by
    intro j u hu
    have hj : j < ys.length := by
     rcases Nat.lt_or_ge j ys.length with h | h
     ·exact h
     ·simp [encs, List.getElem?_eq_none h] at hu
    obtain ⟨ad', h', hc⟩ := HR.2.2 (by omega)
    injection h' with h'
    subst h'
    rw [encs_get (d := 0) ys j hj] at hu
    rw [← hu]
    exact hc j (by omega)
   obtain ⟨v1, w1, hr, h2, h3, _, h5⟩ := run_append_own_at (P := Try.prog) W base 38 ty 5 i0 (.int .u8 0) 1 1 ht hi hz0 hz1 hz2 rfl (by omega) v xs.length (encs (Value.int .u8) xs) hown ad m c (encs (Value.int .u8) ys) (by simp [encs, hm]) hcells
    (by intro u hu; simp only [encs, List.mem_map] at hu; obtain ⟨q, _, rfl⟩ := hu; rfl) (by simp only [maxLen]; omega) (by omega) hbase
   exact ⟨v1, w1, hr, by simpa [encs, hm] using h2, h3, h5⟩
 obtain ⟨v1, w1, hr, h2, hg, hat⟩ := hrun
 refine ⟨v1, w1, hr, Kd.R_of_own h2 (fun k hk => ?_), HB.grown hg hbase (own_base hown)⟩
 rcases hat with e1 | e1
 ·exact HO.1 k (by rw [← e1]; exact hk)
 ·rw [e1] at hk
  injection hk with hk
  exact hfresh k (by omega)
theorem append_bytes {o : Oper} {ops : Array Oper} {rest : List Oper} {a : Act} {Q : Exit → Act → World → Prop} {w0 W : World} (base : Nat) (hgd : o.guard = none) (s x : Operand)
  (ho : o.op = .call { callee := .builtin .append, args := #[s, x], argTypes := #[38, 39] })
  (v : Value) (xs ys : List Int) (A : Option Addr) (m c : Nat) (ok : Nat → Prop) (hs : a.eval s = v) (hx : a.eval x = .slice A m c) (hfresh : ∀ k, W.heap.size ≤ k → ok k)
  (HO : Kd.R (Kd.int .u8) 5 W base ok v xs) (HR : Kd.C (Kd.int .u8) W A m ys) (HB : Below base w0 W) (hbase : base ≤ W.heap.size) (hl : xs.length + m ≤ 140737488355328)
  (h : ∀ v1 w1, Kd.R (Kd.int .u8) 5 w1 base ok v1 (xs ++ ys) → Below base w0 w1 → wpList Try.prog ops Q rest (a.put o.dst v1) w1) :
  wpList Try.prog ops Q (o :: rest) a W := by
 obtain ⟨v1, w1, hr, h1, h2⟩ := append_run o.type base v xs ys A m c ok hfresh HO HR HB hbase hl
 rw [← append_two] at hr
 refine wpList_plain hgd fun K hK => ?_
 unfold Oper.wp execOp
 simp only [ho, resolve, invoke, builtin, Sem.run_bind, Sem.run_pure, Result.andThen_ok, List.map_toArray, List.map_cons, List.map_nil, hs, hx, hr]
 exact hK _ _ (h v1 w1 h1 h2)
def mkSt (k n : Nat) (l : List S28) (i : Nat) (ps : List Nat) : List Int := ints (dig 256 n (mask ((l.take i).flatMap (keyPl k n) ++ ps)))
theorem mkSt_zero (k n : Nat) (l : List S28) : List.replicate n (0 : Int) = mkSt k n l 0 [] := by
 unfold mkSt mask ints
 apply List.ext_getElem
 ·simp [dig_len]
 ·intro i h1 h2
  have hi : i < n := by simpa using h1
  have g := dig_get 256 n 0 i hi
  rw [List.getD_eq_getElem?_getD, List.getElem?_eq_getElem (by rw [dig_len]; exact hi), Option.getD_some] at g
  simp [g]
theorem mkSt_set {k n : Nat} {l : List S28} {i : Nat} {ps : List Nat} {p : Nat} (hp : p < 8 * n) (hn : n ≤ 1000000) : filter_bitmap_set.f (mkSt k n l i ps) (p : Int) = some (mkSt k n l i (ps ++ [p])) := by
 unfold mkSt
 rw [bset_f hp hn, ← mask_snoc, List.append_assoc]
theorem mkSt_next {k n : Nat} {l : List S28} {i : Nat} (hi : i < l.length) : mkSt k n l i (keyPl k n (l.getD i z28)) = mkSt k n l (i + 1) [] := by
 unfold mkSt
 have e : l.take (i + 1) = l.take i ++ [l.getD i z28] := by
  rw [List.take_add_one, List.getElem?_eq_getElem hi]
  simp [List.getD_eq_getElem?_getD, List.getElem?_eq_getElem hi]
 rw [e, List.flatMap_append, List.append_nil]
 simp
theorem mkSt_len (k n : Nat) (l : List S28) (i : Nat) (ps : List Nat) : (mkSt k n l i ps).length = n := by unfold mkSt; rw [bm_ints_len, dig_len]
theorem mkSt_end {k n : Nat} {l l' : List S28} (h : l'.Perm l) : mkSt k n l' l'.length [] = mkBits k n l := by
 unfold mkSt mkBits
 rw [List.take_length, List.append_nil]
 congr 2
 refine mask_congr fun i => ?_
 exact (h.flatMap_right _).mem_iff
theorem idx4 (n : Nat) (T : List Int) (j : Nat) (hj : j < 4) (W : World) : (Instr.index 40 (.agg #[.int .i64 (placeAt n T 0 : Int), .int .i64 (placeAt n T 1 : Int), .int .i64 (placeAt n T 2 : Int), .int .i64 (placeAt n T 3 : Int)]) (.int .i64 (j : Int))).run Try.prog W = .ok (.int .i64 ((placeAt n T j : Nat) : Int)) W := by
 have h1 := run_underlying Try.underlying40
 have h2 := Try.sizeOf3
 have h3 := Try.isAgg3
 unfold Instr.index
 rcases (by omega : j = 0 ∨ j = 1 ∨ j = 2 ∨ j = 3) with rfl | rfl | rfl | rfl <;> simp [h1, h2, h3, asIntOf, part]
theorem places_take (n : Nat) (T : List Int) (j : Nat) (hj : j < 4) : (places n T).take (j + 1) = (places n T).take j ++ [placeAt n T j] := by
 rcases (by omega : j = 0 ∨ j = 1 ∨ j = 2 ∨ j = 3) with rfl | rfl | rfl | rfl <;> rfl
set_option maxHeartbeats 8000000 in
set_option maxRecDepth 100000 in
theorem make.walk (k : Nat) (l : List S28) (A0 : Option Addr) (c0 n : Nat) (u : List Int) (w : World) (hl : l.length ≤ 1000) (hall : ∀ x ∈ l, ∃ T, tailOf k x = some T) (hn : blen22 l = n) (hu : tally_Uint.f k [] (n : Int) = some u) (hul : u.length ≤ 1000)
  (hr0 : Kd.C k28 w A0 l.length l) (hc0 : l.length ≤ c0) :
  Calls Try.prog 7 #[.slice A0 l.length c0] w fun e w' => e = .returned (.string (strOfNums (u ++ mkBits k n l))) ∧ Below w.heap.size w w' := by
 have HL := Aside0.mk hl; have HALL := Aside0.mk hall; have HN := Aside0.mk hn; have HU := Aside0.mk hu; have HUL := Aside0.mk hul; have HR := Aside0.mk hr0; have HC := Aside0.mk hc0
 clear hl hall hn hu hul hr0 hc0
 go_enter Try.func7, Try.ntmps7
 go_wp2_with fail
 refine (cloneV.calls A0 c0 l w (by have := HL.out; omega) HR.out HC.out).mono ?_; rintro e w1 ⟨v1, rfl, hv1, hb1⟩
 have HV1 := Aside0.mk hv1; have HB1 := Aside0.mk hb1; clear hv1 hb1
 go_wp2_with fail
 refine (sort_calls w.heap.size _ v1 l w w1 HB1.out HV1.out (by have := HL.out; omega)).mono ?_; rintro e w2 ⟨rfl, l', A, c, hperm, hsort, hv, hlc, hC2, hB2⟩
 clear HV1 HB1
 subst hv
 have HP := Aside0.mk hperm; have HS := Aside0.mk hsort; have HLC := Aside0.mk hlc; have HC2 := Aside0.mk hC2; have HB2 := Aside0.mk hB2
 have HL' : Aside0 (l'.length ≤ 1000) := ⟨by have := HL.out; rw [hperm.length_eq]; exact this⟩
 clear hperm hsort hlc hC2 hB2 HR HC
 go_wp2_with fail
 refine (cloneV.calls A c l' w2 (by have := HL'.out; omega) HC2.out HLC.out).mono ?_; rintro e w3 ⟨v3, rfl, hv3, hb3⟩
 have HV3 := Aside0.mk hv3; have HB3 := Aside0.mk hb3; clear hv3 hb3
 go_wp2_with fail
 refine (compact_calls w2.heap.size _ v3 l' w2 w3 HB3.out HV3.out (by have := HL'.out; omega)).mono ?_; rintro e w4 ⟨⟨A', c', rfl⟩, hb4⟩
 have HC4 := Aside0.mk (Kd.C_below HC2.out hb4)
 have HB4 := Aside0.mk (below_then HB2.out HB2.out.size hb4)
 clear hb4 HV3 HB3 HB2 HC2
 obtain ⟨D, hD⟩ : ∃ D, D = dcount l' := ⟨_, rfl⟩
 rw [← hD]
 have hDn : D = nd (l.map cls) := by rw [hD, dcount_nd l' HS.out]; exact nd_perm (HP.out.map cls)
 have hDl : D ≤ 1000 := by rw [hDn]; have := nd_le (l.map cls); rw [List.length_map] at this; have := HL.out; omega
 have hnD : n = D * 10 / 8 + 1 := by rw [← HN.out, hDn]; rfl
 have HN0 : Aside0 (0 < n) := ⟨by omega⟩
 have HN1 : Aside0 (n ≤ 2000) := ⟨by omega⟩
 obtain ⟨a1, ha1⟩ : ∃ a : Int, a = ((D * 10 : Nat) : Int) := ⟨_, rfl⟩
 obtain ⟨a2, ha2⟩ : ∃ a : Int, a = ((D * 10 / 8 : Nat) : Int) := ⟨_, rfl⟩
 have e1 : wrap64 ((D : Int) * 10) = a1 := by rw [w64 (by omega) (by omega)]; omega
 have e2 : wrap64 (Int.tdiv a1 8) = a2 := by rw [ha1, Int.tdiv_eq_ediv_of_nonneg (by omega), w64 (by omega) (by omega)]; omega
 have e3 : wrap64 (a2 + 1) = (n : Int) := by rw [w64 (by omega) (by omega)]; omega
 have b0 : (0 : Int) ≤ (n : Int) := by omega
 clear hD hDn hDl hnD ha1 ha2 HN HS
 go_wp2_with ((with_reducible refine gate_dst (N := 21) rfl ?_); refine Kd.R_make (Kd.int .u8) (w0 := w4) w4.heap.size 5 rfl (N := 21) rfl 39 _ _ rfl (wrap64 (a2 + 1)) rfl rfl Try.underlying39 (.int .u8 0) 1 info5 rfl (by decide) (by omega) 0 (ok := fun _ => True) (okp := fun _ => True) rfl (fun _ hk => hk) trivial (by rw [e3]; omega) (by have := HN1.out; rw [e3, Int.toNat_natCast]; omega) (Below.refl _ _) (Nat.le_refl _) ?_; intro v5 w5 ho hb hg_ hnew_; rw [e3, Int.toNat_natCast, mkSt_zero k n l'] at ho; obtain ⟨Ab, cb, rfl⟩ := Kd.R_slice ho; rw [mkSt_len] at ho; have HO := Aside0.mk ho; have HB := Aside0.mk hb; clear ho hb hg_ hnew_)
 rw [mkSt_len]
 clear e1 e2 e3 b0
 go_loopg [24] l'.length (fun gq s24 wx => ∃ i : Nat, i ≤ l'.length ∧ gq = l'.length - i ∧ s24 = .int .i64 (i : Int) ∧ Aside0 (Below w4.heap.size w4 wx) ∧ Aside0 (Kd.R (Kd.int .u8) 5 wx w4.heap.size (fun _ => True) (.slice Ab n cb) (mkSt k n l' i [])))
 case atStart => exact ⟨0, by omega, rfl, rfl, HB, HO⟩
 case round =>
  clear HB HO
  obtain ⟨i, hi, rfl, rfl, HB, HO⟩ := hrel
  by_cases hlt : i < l'.length
  ·have HLT := Aside0.mk hlt
   obtain ⟨ad, hA, q0, q1, q2⟩ := at_T28 (Kd.C_below HC4.out HB.out) (i : Int) (by omega) (by omega)
   cases hA
   rw [Int.toNat_natCast] at q0 q1 q2
   have k1 : decide ((i : Int) < (l'.length : Int)) = true := decide_eq_true (by omega)
   have k2 : decide (i < l'.length) = true := decide_eq_true hlt
   have b0 : (0 : Int) ≤ (i : Int) := by omega
   have b1 : (i : Int) < (l'.length : Int) := by omega
   obtain ⟨x, hx⟩ : ∃ x, x = rd_T28 l' (i : Int) := ⟨_, rfl⟩
   rw [← hx] at q0 q1 q2
   have hxm : x = l'.getD i z28 := by rw [hx]; unfold rd_T28; rw [Int.toNat_natCast]
   have hxl : x ∈ l := HP.out.mem_iff.1 (by rw [hxm, List.getD_eq_getElem?_getD, List.getElem?_eq_getElem hlt, Option.getD_some]; exact List.getElem_mem hlt)
   obtain ⟨T, hT⟩ := HALL.out x hxl
   have HT := Aside0.mk hT; have HXM := Aside0.mk hxm
   clear hT hxl hxm hx hlt hi
   go_wp2_with fail
   have HB1 := Aside0.mk (below_alloc HB.out (.cells #[.bool x.f0, .int .i64 x.f1, .string x.f2] 28 (0, 0)))
   have HO1 := Aside0.mk (Kd.R_alloc HO.out (.cells #[.bool x.f0, .int .i64 x.f1, .string x.f2] 28 (0, 0)))
   refine (at_calls k n x T HT.out Ab cb HN0.out (by have := HN1.out; omega) _).mono ?_; rintro e w7 ⟨rfl, hb⟩
   have HB2 := Aside0.mk (below_then HB1.out HB1.out.size hb); have HO2 := Aside0.mk (Kd.R_below HO1.out hb)
   clear hb HB1 HO1 HB HO q0 q1 q2 k1 k2 b0 b1
   go_wp2
   go_loopg [31] 4 (fun gq s31 wy => ∃ j : Nat, j ≤ 4 ∧ gq = 4 - j ∧ s31 = .int .i64 (j : Int) ∧ Aside0 (Below w4.heap.size w4 wy) ∧ Aside0 (Kd.R (Kd.int .u8) 5 wy w4.heap.size (fun _ => True) (.slice Ab n cb) (mkSt k n l' i ((places n T).take j))))
   case atStart => exact ⟨0, by omega, rfl, rfl, HB2, HO2⟩
   case round =>
    clear HB2 HO2
    obtain ⟨j, hj, rfl, rfl, HB, HO⟩ := hrel
    by_cases hjl : j < 4
    ·have HJ := Aside0.mk hjl
     have hix := idx4 n T j hjl
     have k1 : decide ((j : Int) < 4) = true := decide_eq_true (by omega)
     have k2 : decide (j < 4) = true := decide_eq_true hjl
     have hw5 : wrap64 ((j : Int) + 1) = ((j + 1 : Nat) : Int) := by rw [w64 (by omega) (by omega)]; omega
     clear hj hjl
     go_wp2_with fail
     refine (filter_bitmap_set.calls (fun _ => True) (.slice Ab n cb) _ _ _ w4 _ HB.out HO.out (mkSt_set (placeAt_lt HN0.out T j) (by have := HN1.out; omega))).mono ?_
     rintro e w8 ⟨rfl, ho, hb, _⟩
     have HB3 := Aside0.mk hb
     have HO3 := Aside0.mk (Kd.R_mono ho (ok' := fun _ => True) (fun _ _ => trivial))
     clear ho hb HB HO hix
     go_wp2
     go_roundg (4 - (j + 1))
     case measure => have := HJ.out; omega
     case rel => exact ⟨j + 1, by have := HJ.out; omega, rfl, by go_num, HB3, ⟨by rw [places_take n T j HJ.out]; exact HO3.out⟩⟩
    ·have hj4 : j = 4 := by omega
     subst hj4
     clear hj hjl
     have hw5 : wrap64 ((i : Int) + 1) = ((i + 1 : Nat) : Int) := by have := HLT.out; have := HL'.out; rw [w64 (by omega) (by omega)]; omega
     have HW5 := Aside0.mk hw5
     go_wp2
     go_roundg (l'.length - (i + 1))
     case measure => have := HLT.out; omega
     case rel => exact ⟨i + 1, by have := HLT.out; omega, rfl, by go_num, HB, ⟨by have h := HO.out; rw [← mkSt_next HLT.out]; unfold keyPl; rw [← HXM.out, HT.out]; exact h⟩⟩
  ·have hil : i = l'.length := by omega
   subst hil
   clear hlt hi
   have hw6 : IntKind.u64.wrap (n : Int) = (n : Int) := by have := HN1.out; exact u64_nat (by omega)
   go_wp2_with fail
   refine (tally_Uint.calls k (fun _ => False) (.slice none 0 0) [] (n : Int) u w4 _ HB.out (Kd.R_nil _ _ _ _ _) HU.out).mono ?_
   rintro e w8 ⟨v8, rfl, ho, hb, hk⟩
   have HO8 := Aside0.mk (Kd.R_mono ho (ok' := fun _ => True) (fun _ _ => trivial))
   have HB8 := Aside0.mk hb
   have hob := Kd.R_step HO.out (w1 := w8) (fun q _ hq => hk.2 q hq (fun f => f))
   have hcb := (Kd.R_reads' hob).2.2
   rw [mkSt_len] at hcb
   have HCB := Aside0.mk hcb
   clear ho hb hk hob hcb HB HO hw6
   go_wp2_with ((with_reducible refine gate_builtin (b := .append) (xs := #[.tmp 42, .tmp 43]) rfl ?_); at_builtin; refine append_bytes (w0 := w4) w4.heap.size rfl (.tmp 42) (.tmp 43) rfl v8 u (mkSt k n l' l'.length []) Ab n cb (fun _ => True) rfl rfl (fun _ _ => trivial) HO8.out HCB.out HB8.out (below_size HB8.out) (by have := HUL.out; have := HN1.out; omega) ?_; intro v9 w9 ho hb; have hcv := own_string (P := Try.prog) Try.underlying38 Try.underlying5 Try.underlying9 (Kd.own_of_R ho); have HB9 := Aside0.mk hb; clear ho hb)
   go_ret
   exact ⟨by rw [← mkSt_end HP.out]; rfl, below_then HB4.out HB4.out.size HB9.out⟩
def filter_Make.f (k : Nat) (l0 : List S28) : Option ByteArray := mkF k l0
theorem filter_Make.mono : ∀ a0 k, LeO (filter_Make.f k a0) (filter_Make.f (k + 1) a0) := mkF_mono
theorem filter_Make.calls (k : Nat) (A0 : Option Addr) (c0 : Nat) (l0 : List S28) (r : ByteArray) (w : World) (hr0 : Kd.C k28 w A0 l0.length l0) (hc0 : l0.length ≤ c0) (h : filter_Make.f k l0 = some r) :
  Calls Try.prog 7 #[.slice A0 l0.length c0] w fun e w' => e = .returned (.string r) ∧ Below w.heap.size w w' := by
 unfold filter_Make.f mkF at h
 split at h
 ·rename_i hc
  obtain ⟨h1, h2⟩ := hc
  obtain ⟨u, hu, h⟩ := Option.bind_eq_some_iff.1 h
  split at h
  ·rename_i hul
   obtain rfl := Option.some.inj h
   exact make.walk k l0 A0 c0 _ u w h1 (fun x hx => Option.isSome_iff_exists.1 (List.all_eq_true.1 h2 x hx)) rfl hu hul hr0 hc0
  ·exact absurd h (by simp)
 ·exact absurd h (by simp)
end Go.Proofs.Ytlbcpigjbjolaaa.G
namespace Go.Proofs.Ytlbcpigjbjolaaa.G
open Go.RowKit Go.Proofs.YtlbcpigjbjolaaaQ Go.Proofs.YtlbcpigjbjolaaaW.PrintWords Go.Proofs.YtlbcpigjbjolaaaW.PrintLast Go.Proofs.YtlbcpigjbjolaaaW.PrintMore
attribute [local go_sem] max2_int min2_int max_two min_two max_three min_three max_four min_four   -- for this text's walks alone
set_option linter.unusedVariables false
set_option linter.unusedSimpArgs false
def IsS89 (w0 W : World) (g : Nat) (f0 : ByteArray) (f1 : Int) : Prop := W.heap[g]? = some (.cells #[.string f0, .int .i64 f1] 89 (0, 0)) ∧ w0.heap.size ≤ g
theorem IsS89.grown {w0 W : World} {g : Nat} {f0 : ByteArray} {f1 : Int} {W1 : World} {row : Option Nat} (h : IsS89 w0 W g f0 f1) (hw : W.grownBy W1 row) (hne : some g ≠ row) : IsS89 w0 W1 g f0 f1 := by
 obtain ⟨hb, hg⟩ := h
 exact ⟨blk_grown hb hw hne, hg⟩
theorem IsS89.kept {w0 W : World} {g : Nat} {f0 : ByteArray} {f1 : Int} {W1 : World} {S : Nat → Prop} (h : IsS89 w0 W g f0 f1) (hk : Kept W W1 S) (hne : ¬ S g) : IsS89 w0 W1 g f0 f1 := by
 obtain ⟨hb, hg⟩ := h
 exact ⟨blk_kept hb hk hne, hg⟩
theorem IsS89.below {w0 W : World} {g : Nat} {f0 : ByteArray} {f1 : Int} {W1 : World} (h : IsS89 w0 W g f0 f1) (hw : Below W.heap.size W W1) : IsS89 w0 W1 g f0 f1 := h.grown (grown_of_below hw none) (by simp)
theorem IsS89.alloc {w0 W : World} {g : Nat} {f0 : ByteArray} {f1 : Int} (h : IsS89 w0 W g f0 f1) (o : Obj) : IsS89 w0 (W.alloc o) g f0 f1 := h.below (below_alloc (Below.refl _ _) o)
theorem IsS89.drewN {w0 W : World} {g : Nat} {f0 : ByteArray} {f1 : Int} (h : IsS89 w0 W g f0 f1) (m : Nat) : IsS89 w0 (W.drewN m) g f0 f1 := h
theorem IsS89.drew {w0 W : World} {g : Nat} {f0 : ByteArray} {f1 : Int} (h : IsS89 w0 W g f0 f1) : IsS89 w0 W.drew g f0 f1 := h
theorem IsS89.at_ {w0 W : World} {g : Nat} {f0 : ByteArray} {f1 : Int} {w' : World} {m : Nat} (hq : W.drewN m = w') (h : IsS89 w0 W g f0 f1) : IsS89 w0 w' g f0 f1 := by subst hq; exact IsS89.drewN h m
theorem IsS89.apart {w0 W : World} {g : Nat} {f0 : ByteArray} {f1 : Int} {α : Type} {d : Kd α} {e : Nat} {base : Nat} {ok : Nat → Prop} {v : Value} {xs : List α} (h : IsS89 w0 W g f0 f1) (ho : d.R e W base ok v xs) (ht : ∀ q, q ∈ e :: d.E → q ≠ 89) : d.R e W base (fun k => ok k ∧ k ≠ g) v xs := by
 obtain ⟨hb, hg⟩ := h
 exact Kd.R_types ho hb ht
theorem IsS89.own_ne {w0 W : World} {g : Nat} {f0 : ByteArray} {f1 : Int} {α : Type} {d : Kd α} {e : Nat} {base : Nat} {ok : Nat → Prop} {v : Value} {xs : List α} (h : IsS89 w0 W g f0 f1) (ho : d.R e W base ok v xs) (ht : e ≠ 89) : some g ≠ v.ownBlock := by
 obtain ⟨hb, hg⟩ := h
 exact Kd.R_ne ho hb ht
theorem IsS89.ge {w0 W : World} {g : Nat} {f0 : ByteArray} {f1 : Int} (h : IsS89 w0 W g f0 f1) : w0.heap.size ≤ g := by
 obtain ⟨hb, hg⟩ := h
 exact hg
theorem cellS89_0 {W : World} {g : Nat} {f0 : ByteArray} {f1 : Int} (h : W.heap[g]? = some (.cells #[.string f0, .int .i64 f1] 89 (0, 0))) : W.cell? ⟨g, 0, none⟩ = some (.string f0) := (blk_cell h 0).trans rfl
theorem IsS89.set_0 {w0 W : World} {g : Nat} {f0 : ByteArray} {f1 : Int} (h : IsS89 w0 W g f0 f1) (x : ByteArray) : IsS89 w0 (W.setCell ⟨g, 0, none⟩ (.string x)) g x f1 := by
 obtain ⟨hb, hg⟩ := h
 exact ⟨by simpa using blk_set hb 0 (.string x), hg⟩
theorem cellS89_1 {W : World} {g : Nat} {f0 : ByteArray} {f1 : Int} (h : W.heap[g]? = some (.cells #[.string f0, .int .i64 f1] 89 (0, 0))) : W.cell? ⟨g, 1, none⟩ = some (.int .i64 f1) := (blk_cell h 1).trans rfl
theorem IsS89.set_1 {w0 W : World} {g : Nat} {f0 : ByteArray} {f1 : Int} (h : IsS89 w0 W g f0 f1) (x : Int) : IsS89 w0 (W.setCell ⟨g, 1, none⟩ (.int .i64 x)) g f0 x := by
 obtain ⟨hb, hg⟩ := h
 exact ⟨by simpa using blk_set hb 1 (.int .i64 x), hg⟩
def tally_From.f (a0 : ByteArray) : Option (ByteArray × Int) := some (a0, 0)
set_option maxHeartbeats 8000000 in
set_option maxRecDepth 100000 in
theorem tally_From.calls (a0 : ByteArray) (r1 : ByteArray) (r2 : Int) (w0 w : World) (hB : Below w0.heap.size w0 w) (h : tally_From.f a0 = some (r1, r2)) :
  Calls Try.prog 40 #[.string a0] w fun e w' => ∃ g_ : Nat, e = .returned (.pointer (some ⟨g_, 0, none⟩)) ∧ IsS89 w0 w' g_ r1 r2 ∧ Below w0.heap.size w0 w' ∧ Below w.heap.size w w' := by
 have hu89 := Try.underlying89
 have HBW := Aside0.mk (Below.refl w.heap.size w)
 have HW0 := Aside0.mk hB.size
 have HB := Aside0.mk hB
 clear hB
 have H : (some (a0, 0)) = some (r1, r2) := h
 clear h
 simp only [Option.some.injEq, Prod.mk.injEq] at H
 obtain ⟨rfl, rfl⟩ := H
 go_enter Try.func40, Try.ntmps40
 go_wp2_with (first | ((with_reducible refine gate_dst (N := 5) rfl ?_); refine box_event ?hg (N := 5) ?hd (cs := #[.string a0, .int .i64 0]) (t := 89) ?hr ?_; (case hd => rfl); (case hg => rfl); (case hr => first | (go_simp; done) | (go_simp; rfl)); intro gb141 hg w2 hbox hb; have n0_ := Aside0.mk (below_step HBW.out hb); have n1_ := Aside0.mk (below_step (by repeat (first | (with_reducible first | exact HB.out | apply below_alloc | apply pw_below_drewN | apply below_drew1) | exact HB.out)) hb); have n2_ := Aside0.mk (hbox); have n3_ := Aside0.mk ((by rw [hg]; exact (below_size (by repeat (first | (with_reducible first | exact HBW.out | apply below_alloc | apply pw_below_drewN | apply below_drew1) | exact HBW.out))) : w.heap.size ≤ gb141)); have n4_ := Aside0.mk ((Nat.le_trans HW0.out (by rw [hg]; exact (below_size (by repeat (first | (with_reducible first | exact HBW.out | apply below_alloc | apply pw_below_drewN | apply below_drew1) | exact HBW.out))) : w.heap.size ≤ gb141) : w0.heap.size ≤ gb141)); clear HBW; clear HB; have HBW := n0_; have HB := n1_; have BK141 := n2_; have GW141 := n3_; have GE141 := n4_; clear n0_ n1_ n2_ n3_ n4_; clear hb hbox hg))
 go_ret
 exact ⟨_, rfl, (show IsS89 w0 _ gb141 a0 0 from ⟨by (with_reducible repeat (first | refine blk_drewN ?_ _ | refine blk_drew ?_ | refine blk_alloc ?_ _)); exact BK141.out, GE141.out⟩), by repeat (first | (with_reducible first | exact HB.out | apply below_alloc | apply pw_below_drewN | apply below_drew1 | refine below_set ?_ GE141.out) | exact HB.out), by repeat (first | (with_reducible first | exact HBW.out | apply below_alloc | apply pw_below_drewN | apply below_drew1 | refine below_set ?_ GW141.out) | exact HBW.out)⟩
def tally_Cursor_ok.f (s0_0 : ByteArray) (s0_1 : Int) : Option (Bool × ByteArray × Int) := some ((s0_1 == 0), s0_0, s0_1)
set_option maxHeartbeats 8000000 in
set_option maxRecDepth 100000 in
theorem tally_Cursor_ok.calls (g : Nat) (s0_0 : ByteArray) (s0_1 : Int) (r1 : Bool) (r2 : ByteArray) (r3 : Int) (w0 w : World) (hI : IsS89 w0 w g s0_0 s0_1) (hB : Below w0.heap.size w0 w) (h : tally_Cursor_ok.f s0_0 s0_1 = some (r1, r2, r3)) :
  Calls Try.prog 59 #[.pointer (some ⟨g, 0, none⟩)] w fun e w' => e = .returned (.bool r1) ∧ IsS89 w0 w' g r2 r3 ∧ Below w0.heap.size w0 w' ∧ KeepBut w w' g none := by
 have HI0 := Aside0.mk hI
 have HK := Aside0.mk (KeepBut.refl w g none)
 have HL := Aside0.mk hB.size
 clear hI
 have HW0 := Aside0.mk hB.size
 have HB := Aside0.mk hB
 clear hB
 have H : (some ((s0_1 == 0), s0_0, s0_1)) = some (r1, r2, r3) := h
 clear h
 simp only [Option.some.injEq, Prod.mk.injEq] at H
 obtain ⟨rfl, rfl, rfl⟩ := H
 obtain ⟨HGz2, hgz2⟩ := HI0.out
 have hcz2_0 := cellS89_0 HGz2
 have hcz2_1 := cellS89_1 HGz2
 have hfz2_0 := blk_frozen HGz2 0
 have hfz2_1 := blk_frozen HGz2 1
 clear HGz2 hgz2
 go_enter Try.func59, Try.ntmps59
 go_wp2
 go_ret
 exact ⟨by first | rfl | (simp [errW_none, errW_some] <;> rfl) | (simp [*, errW_none, errW_some] <;> rfl), by repeat (first | (with_reducible first | exact HI0.out | apply IsS89.alloc | apply IsS89.drewN | apply IsS89.drew | apply IsS89.set_0 | apply IsS89.set_1) | exact HI0.out), by repeat (first | (with_reducible first | exact HB.out | apply below_alloc | apply pw_below_drewN | apply below_drew1 | refine below_set ?_ (IsS89.ge HI0.out)) | exact HB.out), by repeat (first | (with_reducible first | exact HK.out | apply KeepBut.set_ | apply keep_drewN | apply keep_drew | apply keep_alloc) | exact HK.out)⟩
def tally_next.f (a0 : ByteArray) : Option (Int × ByteArray × Int) := some ((decU (bytesOf a0)).1, a0.extract (decU (bytesOf a0)).2.1 a0.size, (decU (bytesOf a0)).2.2)
theorem tally_next.bt0 (s : ByteArray) : ∀ h : 0 < s.size, (((s[0]'h).toNat : Nat) : Int) = bt s 0 := fun h => bt_at s 0 h
theorem tally_next.whole (s : ByteArray) : s.extract 0 s.size = s := bytesOf_inj (by rw [bytesOf_tail]; rfl)
theorem tally_next.tl (s : ByteArray) : (s.toList.isEmpty = true ↔ bytesOf s = []) := by
 rw [ByteArray.toList_eq]; unfold bytesOf; simp
theorem tally_next.or_ (x c : Int) (h0 : 0 ≤ x) (h1 : x * 256 < 18446744073709551616) (hc : 0 ≤ c) (hc2 : c < 256) : Go.bits .or .u64 (IntKind.u64.wrap (x * 256)) (IntKind.u64.wrap c) = x * 256 + c := by
 have e1 : IntKind.u64.wrap (x * 256) = x * 256 := by simp [IntKind.wrap, IntKind.bits, IntKind.signed]; omega
 have e2 : IntKind.u64.wrap c = c := by simp [IntKind.wrap, IntKind.bits, IntKind.signed]; omega
 rw [e1, e2, Go.u64_or _ _ (by omega) h1 hc (by omega), Go.nat_join 8 _ _ (by omega) (by omega)]
 omega
set_option maxHeartbeats 400000 in
set_option maxRecDepth 100000 in
theorem tally_next.empty (s : ByteArray) (w : World) (h0 : s.toList.isEmpty = true) :
  Calls Try.prog 60 #[.string s] w fun e w' => e = .returned (.tuple #[.int .u64 0, .string s, .int .i64 2]) ∧ Below w.heap.size w w' := by
 go_enter Try.func60, Try.ntmps60
 go_wp2
 go_ret3
 exact ⟨rfl, Below.refl _ _⟩
set_option maxHeartbeats 400000 in
set_option maxRecDepth 100000 in
theorem tally_next.big (s : ByteArray) (w : World) (h0 : s.toList.isEmpty = false) (h1 : 0 < s.size) (h2 : 192 < bt s 0) :
  Calls Try.prog 60 #[.string s] w fun e w' => e = .returned (.tuple #[.int .u64 0, .string s, .int .i64 5]) ∧ Below w.heap.size w w' := by
 have hb := tally_next.bt0 s
 have hr := bt_range s 0
 have q1 : 0 ≤ bt s 0 / 64 := by omega
 have q2 : bt s 0 / 64 ≤ 64 := by omega
 have q3 : decide (192 ≤ bt s 0) = true := by simp; omega
 have q4 : decide (192 < bt s 0) = true := by simp; omega
 go_enter Try.func60, Try.ntmps60
 go_wp2
 go_ret3
 exact ⟨rfl, Below.refl _ _⟩
set_option maxHeartbeats 400000 in
set_option maxRecDepth 100000 in
theorem tally_next.short (s : ByteArray) (w : World) (n : Nat) (h0 : s.toList.isEmpty = false) (h1 : 0 < s.size) (h2 : bt s 0 < 192) (hn : IntKind.i64.wrap (2 ^ (bt s 0 / 64).toNat) = (n : Int)) (h3 : s.size < n) :
  Calls Try.prog 60 #[.string s] w fun e w' => e = .returned (.tuple #[.int .u64 0, .string s, .int .i64 2]) ∧ Below w.heap.size w w' := by
 have hb := tally_next.bt0 s
 have hr := bt_range s 0
 have q1 : 0 ≤ bt s 0 / 64 := by omega
 have q2 : bt s 0 / 64 ≤ 64 := by omega
 have q3 : decide (192 ≤ bt s 0) = false := by simp; omega
 go_enter Try.func60, Try.ntmps60
 go_wp2
 go_ret3
 exact ⟨rfl, Below.refl _ _⟩
set_option maxHeartbeats 400000 in
set_option maxRecDepth 100000 in
theorem tally_next.short9 (s : ByteArray) (w : World) (h0 : s.toList.isEmpty = false) (h1 : 0 < s.size) (h2 : bt s 0 = 192) (h3 : s.size < 9) :
  Calls Try.prog 60 #[.string s] w fun e w' => e = .returned (.tuple #[.int .u64 0, .string s, .int .i64 2]) ∧ Below w.heap.size w w' := by
 have hb : ∀ h : 0 < s.size, (((s[0]'h).toNat : Nat) : Int) = 192 := fun h => (tally_next.bt0 s h).trans h2
 clear h2
 go_enter Try.func60, Try.ntmps60
 go_wp2
 go_ret3
 exact ⟨rfl, Below.refl _ _⟩
theorem tally_next.cells (s : ByteArray) (w : World) (n : Nat) (h3 : n ≤ s.size) (L : List Int) (hL : L = ((bytesOf s).take n).drop 1) : ∀ j, j < n - 1 → (Lib.bytesWorld w 5 (s.extract 1 n)).cell? ⟨w.heap.size, j, none⟩ = some (.int .u8 (rd L j)) := by
 intro j hj
 rw [Lib.bytesWorld_cell w 5 (s.extract 1 n) j (by simp; omega), hL, ← bytesOf_extract]
 unfold bytesOf rd
 have hs : j < (s.extract 1 n).data.toList.length := by simp; omega
 simp only [List.getD_eq_getElem?_getD, List.getElem?_map, Int.toNat_natCast, List.getElem?_eq_getElem hs, Option.map_some, Option.getD_some]
set_option maxHeartbeats 1000000 in
set_option maxRecDepth 100000 in
theorem tally_next.loop_lt_bad (s : ByteArray) (w : World) (n : Nat) (x0 least : Int) (h0 : s.toList.isEmpty = false) (h1 : 0 < s.size) (h2 : bt s 0 < 192) (hn : IntKind.i64.wrap (2 ^ (bt s 0 / 64).toNat) = (n : Int)) (h3 : n ≤ s.size) (hm : 1 ≤ n) (hm2 : n < 10)
  (hx : bt s 0 % 64 = x0) (L : List Int) (hL : L = ((bytesOf s).take n).drop 1) (hbd : ∀ k, k < n - 1 → 0 ≤ numI x0 (L.take k) ∧ numI x0 (L.take k) * 256 < 18446744073709551616)
  (hleast : ∀ w, (Instr.index 98 (.agg #[.int .u64 0, .int .u64 0, .int .u64 64, .int .u64 0, .int .u64 16384, .int .u64 0, .int .u64 0, .int .u64 0, .int .u64 0, .int .u64 1073741824]) (.int .i64 n)).run Try.prog w = .ok (.int .u64 least) w)
  (hd : decide (numI x0 L < least) = true) :
  Calls Try.prog 60 #[.string s] w fun e w' => e = .returned (.tuple #[.int .u64 0, .string s, .int .i64 5]) ∧ Below w.heap.size w w' := by
 have hb := tally_next.bt0 s
 have hr := bt_range s 0
 have q1 : 0 ≤ bt s 0 / 64 := by omega
 have q2 : bt s 0 / 64 ≤ 64 := by omega
 have q3 : decide (192 ≤ bt s 0) = false := by simp; omega
 have q4 : decide (s.size < n) = false := by simp; omega
 have q5 : (1 : Int) ≤ (n : Int) := by omega
 have q6 : (n : Int) ≤ (s.size : Int) := by omega
 have hcv := fun (W : World) (t : ByteArray) => Lib.run_convert_string_bytes (P := Try.prog) W 9 38 5 t Try.underlying9 Try.underlying38 Try.underlying5
 have HLB : Bs L := by rw [hL]; exact ((Bs.bytesOf s).take _).drop _
 have hLl : L.length = n - 1 := by rw [hL]; simp [bytesOf_size]; omega
 have hcell := tally_next.cells s w n h3 L hL
 have HL := Aside0.mk hLl; have HC := Aside0.mk hcell; have HB := Aside0.mk hbd; have HBL := Aside0.mk HLB
 have HBW := Aside0.mk (bytes_below (Below.refl w.heap.size w) (Nat.le_refl _) 5 (s.extract 1 n))
 have hlo : 0 ≤ numI x0 L ∨ True := .inr trivial
 clear hL hLl hcell hbd HLB
 go_enter Try.func60, Try.ntmps60
 go_wp2
 go_loop [7, 37] (fun x i => ∃ k : Nat, k ≤ n - 1 ∧ i = .int .i64 k ∧ x = .int .u64 (numI x0 (L.take k))) (fun _ i => (n - 1) - (intOf i).toNat)
 case atStart => exact ⟨0, Nat.zero_le _, rfl, by first | rfl | (simp [numI_nil, ← hx]; done) | (simp [numI_nil, hx])⟩
 case round =>
  obtain ⟨k, hk, rfl, rfl⟩ := hrel
  by_cases hlt : k < n - 1
  ·have hc := HC.out k hlt
   have hs := numI_step x0 L k (by rw [HL.out]; exact hlt)
   have hrd : 0 ≤ rd L k ∧ rd L k < 256 := by
    have hk' : k < L.length := by rw [HL.out]; exact hlt
    have := HBL.out (rd L k) (by simp [rd, List.getD_eq_getElem?_getD, List.getElem?_eq_getElem hk'])
    exact this
   have ho := Aside0.mk ((tally_next.or_ (numI x0 (L.take k)) (rd L k) (HB.out k hlt).1 (HB.out k hlt).2 hrd.1 hrd.2).trans hs.symm)
   clear hs
   go_wp2
   go_round
   case rel => exact ⟨k + 1, by omega, by go_num, by first | (rw [← ho.out]; rfl) | (rw [← ho.out]; congr 2; simp [IntKind.wrap, IntKind.bits, IntKind.signed]; omega)⟩
   case measure => simp [intOf]; omega
  ·have he : k = n - 1 := by omega
   have ht : L.take k = L := List.take_of_length_le (by rw [HL.out]; omega)
   rw [ht]
   clear hk
   go_wp2
   try go_quiet (fail)
   try go_wp2
   go_ret3
   exact ⟨by rfl, by first | exact HBW.out | exact pw_below_drewN HBW.out _⟩
set_option maxHeartbeats 1000000 in
set_option maxRecDepth 100000 in
theorem tally_next.loop_lt_ok (s : ByteArray) (w : World) (n : Nat) (x0 least : Int) (h0 : s.toList.isEmpty = false) (h1 : 0 < s.size) (h2 : bt s 0 < 192) (hn : IntKind.i64.wrap (2 ^ (bt s 0 / 64).toNat) = (n : Int)) (h3 : n ≤ s.size) (hm : 1 ≤ n) (hm2 : n < 10)
  (hx : bt s 0 % 64 = x0) (L : List Int) (hL : L = ((bytesOf s).take n).drop 1) (hbd : ∀ k, k < n - 1 → 0 ≤ numI x0 (L.take k) ∧ numI x0 (L.take k) * 256 < 18446744073709551616)
  (hleast : ∀ w, (Instr.index 98 (.agg #[.int .u64 0, .int .u64 0, .int .u64 64, .int .u64 0, .int .u64 16384, .int .u64 0, .int .u64 0, .int .u64 0, .int .u64 0, .int .u64 1073741824]) (.int .i64 n)).run Try.prog w = .ok (.int .u64 least) w)
  (hd : decide (numI x0 L < least) = false) :
  Calls Try.prog 60 #[.string s] w fun e w' => e = .returned (.tuple #[.int .u64 (numI x0 L), .string (s.extract n s.size), .int .i64 0]) ∧ Below w.heap.size w w' := by
 have hb := tally_next.bt0 s
 have hr := bt_range s 0
 have q1 : 0 ≤ bt s 0 / 64 := by omega
 have q2 : bt s 0 / 64 ≤ 64 := by omega
 have q3 : decide (192 ≤ bt s 0) = false := by simp; omega
 have q4 : decide (s.size < n) = false := by simp; omega
 have q5 : (1 : Int) ≤ (n : Int) := by omega
 have q6 : (n : Int) ≤ (s.size : Int) := by omega
 have hcv := fun (W : World) (t : ByteArray) => Lib.run_convert_string_bytes (P := Try.prog) W 9 38 5 t Try.underlying9 Try.underlying38 Try.underlying5
 have HLB : Bs L := by rw [hL]; exact ((Bs.bytesOf s).take _).drop _
 have hLl : L.length = n - 1 := by rw [hL]; simp [bytesOf_size]; omega
 have hcell := tally_next.cells s w n h3 L hL
 have HL := Aside0.mk hLl; have HC := Aside0.mk hcell; have HB := Aside0.mk hbd; have HBL := Aside0.mk HLB
 have HBW := Aside0.mk (bytes_below (Below.refl w.heap.size w) (Nat.le_refl _) 5 (s.extract 1 n))
 have hlo : 0 ≤ numI x0 L ∨ True := .inr trivial
 clear hL hLl hcell hbd HLB
 go_enter Try.func60, Try.ntmps60
 go_wp2
 go_loop [7, 37] (fun x i => ∃ k : Nat, k ≤ n - 1 ∧ i = .int .i64 k ∧ x = .int .u64 (numI x0 (L.take k))) (fun _ i => (n - 1) - (intOf i).toNat)
 case atStart => exact ⟨0, Nat.zero_le _, rfl, by first | rfl | (simp [numI_nil, ← hx]; done) | (simp [numI_nil, hx])⟩
 case round =>
  obtain ⟨k, hk, rfl, rfl⟩ := hrel
  by_cases hlt : k < n - 1
  ·have hc := HC.out k hlt
   have hs := numI_step x0 L k (by rw [HL.out]; exact hlt)
   have hrd : 0 ≤ rd L k ∧ rd L k < 256 := by
    have hk' : k < L.length := by rw [HL.out]; exact hlt
    have := HBL.out (rd L k) (by simp [rd, List.getD_eq_getElem?_getD, List.getElem?_eq_getElem hk'])
    exact this
   have ho := Aside0.mk ((tally_next.or_ (numI x0 (L.take k)) (rd L k) (HB.out k hlt).1 (HB.out k hlt).2 hrd.1 hrd.2).trans hs.symm)
   clear hs
   go_wp2
   go_round
   case rel => exact ⟨k + 1, by omega, by go_num, by first | (rw [← ho.out]; rfl) | (rw [← ho.out]; congr 2; simp [IntKind.wrap, IntKind.bits, IntKind.signed]; omega)⟩
   case measure => simp [intOf]; omega
  ·have he : k = n - 1 := by omega
   have ht : L.take k = L := List.take_of_length_le (by rw [HL.out]; omega)
   rw [ht]
   clear hk
   go_wp2
   try go_quiet (fail)
   try go_wp2
   go_ret3
   exact ⟨by rfl, by first | exact HBW.out | exact pw_below_drewN HBW.out _⟩
set_option maxHeartbeats 1000000 in
set_option maxRecDepth 100000 in
theorem tally_next.loop_eq_bad (s : ByteArray) (w : World) (least : Int) (h0 : s.toList.isEmpty = false) (h1 : 0 < s.size) (h2 : bt s 0 = 192) (h3 : 9 ≤ s.size)
  (L : List Int) (hL : L = ((bytesOf s).take 9).drop 1) (hbd : ∀ k, k < 9 - 1 → 0 ≤ numI 0 (L.take k) ∧ numI 0 (L.take k) * 256 < 18446744073709551616)
  (hleast : ∀ w, (Instr.index 98 (.agg #[.int .u64 0, .int .u64 0, .int .u64 64, .int .u64 0, .int .u64 16384, .int .u64 0, .int .u64 0, .int .u64 0, .int .u64 0, .int .u64 1073741824]) (.int .i64 9)).run Try.prog w = .ok (.int .u64 least) w)
  (hd : decide (numI 0 L < least) = true) :
  Calls Try.prog 60 #[.string s] w fun e w' => e = .returned (.tuple #[.int .u64 0, .string s, .int .i64 5]) ∧ Below w.heap.size w w' := by
 have hb : ∀ h : 0 < s.size, (((s[0]'h).toNat : Nat) : Int) = 192 := fun h => (tally_next.bt0 s h).trans h2
 clear h2
 have q4 : decide (s.size < 9) = false := by simp; omega
 have q5 : (1 : Int) ≤ (9 : Int) := by omega
 have q6 : (9 : Int) ≤ (s.size : Int) := by omega
 have hcv := fun (W : World) (t : ByteArray) => Lib.run_convert_string_bytes (P := Try.prog) W 9 38 5 t Try.underlying9 Try.underlying38 Try.underlying5
 have HLB : Bs L := by rw [hL]; exact ((Bs.bytesOf s).take _).drop _
 have hLl : L.length = 9 - 1 := by rw [hL]; simp [bytesOf_size]; omega
 have hcell := tally_next.cells s w 9 h3 L hL
 have HL := Aside0.mk hLl; have HC := Aside0.mk hcell; have HB := Aside0.mk hbd; have HBL := Aside0.mk HLB
 have HBW := Aside0.mk (bytes_below (Below.refl w.heap.size w) (Nat.le_refl _) 5 (s.extract 1 9))
 have hlo : 0 ≤ numI 0 L ∨ True := .inr trivial
 clear hL hLl hcell hbd HLB
 go_enter Try.func60, Try.ntmps60
 go_wp2
 go_loop [7, 37] (fun x i => ∃ k : Nat, k ≤ 9 - 1 ∧ i = .int .i64 k ∧ x = .int .u64 (numI 0 (L.take k))) (fun _ i => (9 - 1) - (intOf i).toNat)
 case atStart => exact ⟨0, Nat.zero_le _, rfl, by rfl⟩
 case round =>
  obtain ⟨k, hk, rfl, rfl⟩ := hrel
  by_cases hlt : k < 9 - 1
  ·have hc := HC.out k hlt
   have hs := numI_step 0 L k (by rw [HL.out]; exact hlt)
   have hrd : 0 ≤ rd L k ∧ rd L k < 256 := by
    have hk' : k < L.length := by rw [HL.out]; exact hlt
    have := HBL.out (rd L k) (by simp [rd, List.getD_eq_getElem?_getD, List.getElem?_eq_getElem hk'])
    exact this
   have ho := Aside0.mk ((tally_next.or_ (numI 0 (L.take k)) (rd L k) (HB.out k hlt).1 (HB.out k hlt).2 hrd.1 hrd.2).trans hs.symm)
   clear hs
   go_wp2
   go_round
   case rel => exact ⟨k + 1, by omega, by go_num, by first | (rw [← ho.out]; rfl) | (rw [← ho.out]; congr 2; simp [IntKind.wrap, IntKind.bits, IntKind.signed]; omega)⟩
   case measure => simp [intOf]; omega
  ·have he : k = 9 - 1 := by omega
   have ht : L.take k = L := List.take_of_length_le (by rw [HL.out]; omega)
   rw [ht]
   clear hk
   go_wp2
   try go_quiet (fail)
   try go_wp2
   go_ret3
   exact ⟨by rfl, by first | exact HBW.out | exact pw_below_drewN HBW.out _⟩
set_option maxHeartbeats 1000000 in
set_option maxRecDepth 100000 in
theorem tally_next.loop_eq_ok (s : ByteArray) (w : World) (least : Int) (h0 : s.toList.isEmpty = false) (h1 : 0 < s.size) (h2 : bt s 0 = 192) (h3 : 9 ≤ s.size)
  (L : List Int) (hL : L = ((bytesOf s).take 9).drop 1) (hbd : ∀ k, k < 9 - 1 → 0 ≤ numI 0 (L.take k) ∧ numI 0 (L.take k) * 256 < 18446744073709551616)
  (hleast : ∀ w, (Instr.index 98 (.agg #[.int .u64 0, .int .u64 0, .int .u64 64, .int .u64 0, .int .u64 16384, .int .u64 0, .int .u64 0, .int .u64 0, .int .u64 0, .int .u64 1073741824]) (.int .i64 9)).run Try.prog w = .ok (.int .u64 least) w)
  (hd : decide (numI 0 L < least) = false) :
  Calls Try.prog 60 #[.string s] w fun e w' => e = .returned (.tuple #[.int .u64 (numI 0 L), .string (s.extract 9 s.size), .int .i64 0]) ∧ Below w.heap.size w w' := by
 have hb : ∀ h : 0 < s.size, (((s[0]'h).toNat : Nat) : Int) = 192 := fun h => (tally_next.bt0 s h).trans h2
 clear h2
 have q4 : decide (s.size < 9) = false := by simp; omega
 have q5 : (1 : Int) ≤ (9 : Int) := by omega
 have q6 : (9 : Int) ≤ (s.size : Int) := by omega
 have hcv := fun (W : World) (t : ByteArray) => Lib.run_convert_string_bytes (P := Try.prog) W 9 38 5 t Try.underlying9 Try.underlying38 Try.underlying5
 have HLB : Bs L := by rw [hL]; exact ((Bs.bytesOf s).take _).drop _
 have hLl : L.length = 9 - 1 := by rw [hL]; simp [bytesOf_size]; omega
 have hcell := tally_next.cells s w 9 h3 L hL
 have HL := Aside0.mk hLl; have HC := Aside0.mk hcell; have HB := Aside0.mk hbd; have HBL := Aside0.mk HLB
 have HBW := Aside0.mk (bytes_below (Below.refl w.heap.size w) (Nat.le_refl _) 5 (s.extract 1 9))
 have hlo : 0 ≤ numI 0 L ∨ True := .inr trivial
 clear hL hLl hcell hbd HLB
 go_enter Try.func60, Try.ntmps60
 go_wp2
 go_loop [7, 37] (fun x i => ∃ k : Nat, k ≤ 9 - 1 ∧ i = .int .i64 k ∧ x = .int .u64 (numI 0 (L.take k))) (fun _ i => (9 - 1) - (intOf i).toNat)
 case atStart => exact ⟨0, Nat.zero_le _, rfl, by rfl⟩
 case round =>
  obtain ⟨k, hk, rfl, rfl⟩ := hrel
  by_cases hlt : k < 9 - 1
  ·have hc := HC.out k hlt
   have hs := numI_step 0 L k (by rw [HL.out]; exact hlt)
   have hrd : 0 ≤ rd L k ∧ rd L k < 256 := by
    have hk' : k < L.length := by rw [HL.out]; exact hlt
    have := HBL.out (rd L k) (by simp [rd, List.getD_eq_getElem?_getD, List.getElem?_eq_getElem hk'])
    exact this
   have ho := Aside0.mk ((tally_next.or_ (numI 0 (L.take k)) (rd L k) (HB.out k hlt).1 (HB.out k hlt).2 hrd.1 hrd.2).trans hs.symm)
   clear hs
   go_wp2
   go_round
   case rel => exact ⟨k + 1, by omega, by go_num, by first | (rw [← ho.out]; rfl) | (rw [← ho.out]; congr 2; simp [IntKind.wrap, IntKind.bits, IntKind.signed]; omega)⟩
   case measure => simp [intOf]; omega
  ·have he : k = 9 - 1 := by omega
   have ht : L.take k = L := List.take_of_length_le (by rw [HL.out]; omega)
   rw [ht]
   clear hk
   go_wp2
   try go_quiet (fail)
   try go_wp2
   go_ret3
   exact ⟨by rfl, by first | exact HBW.out | exact pw_below_drewN HBW.out _⟩
set_option maxRecDepth 100000 in
theorem tally_next.at_ (n : Nat) (v : Int) (h : [(0 : Int), 0, 64, 0, 16384, 0, 0, 0, 0, 1073741824][n]? = some v) : ∀ w, (Instr.index 98 (.agg #[.int .u64 0, .int .u64 0, .int .u64 64, .int .u64 0, .int .u64 16384, .int .u64 0, .int .u64 0, .int .u64 0, .int .u64 0, .int .u64 1073741824]) (.int .i64 n)).run Try.prog w = .ok (.int .u64 v) w := by
 match n, h with
 | 0, h => simp at h; subst h; exact fun _ => by kernel_rfl
 | 1, h => simp at h; subst h; exact fun _ => by kernel_rfl
 | 2, h => simp at h; subst h; exact fun _ => by kernel_rfl
 | 3, h => simp at h; subst h; exact fun _ => by kernel_rfl
 | 4, h => simp at h; subst h; exact fun _ => by kernel_rfl
 | 5, h => simp at h; subst h; exact fun _ => by kernel_rfl
 | 6, h => simp at h; subst h; exact fun _ => by kernel_rfl
 | 7, h => simp at h; subst h; exact fun _ => by kernel_rfl
 | 8, h => simp at h; subst h; exact fun _ => by kernel_rfl
 | 9, h => simp at h; subst h; exact fun _ => by kernel_rfl
 | n + 10, h => simp at h
theorem tally_next.bd (x : Int) (m : Nat) (h0 : 0 ≤ x) (hx : (x + 1) * 256 ^ m ≤ 18446744073709551616) (L : List Int) (hB : Bs L) (hl : L.length = m) : ∀ k, k < m → 0 ≤ numI x (L.take k) ∧ numI x (L.take k) * 256 < 18446744073709551616 := by
 intro k hk
 obtain ⟨a, b⟩ := numI_bd h0 (L.take k) (hB.take k)
 refine ⟨a, ?_⟩
 rw [List.length_take, Nat.min_eq_left (by omega)] at b
 have e : (256 : Int) ^ m = 256 ^ (k + 1) * 256 ^ (m - k - 1) := by rw [← Int.pow_add]; congr 1; omega
 have p1 : (1 : Int) ≤ 256 ^ (m - k - 1) := by have : (0 : Int) < 256 ^ (m - k - 1) := Int.pow_pos (by omega); omega
 have p2 : (0 : Int) ≤ (x + 1) * 256 ^ (k + 1) := Int.mul_nonneg (by omega) (Int.pow_nonneg (by omega))
 rw [e, ← Int.mul_assoc] at hx
 have p3 : (x + 1) * 256 ^ (k + 1) ≤ (x + 1) * 256 ^ (k + 1) * 256 ^ (m - k - 1) := by
  have := Int.mul_le_mul_of_nonneg_left p1 p2
  omega
 rw [Int.pow_succ, ← Int.mul_assoc] at p3 hx
 omega
theorem tally_next.calls (a0 : ByteArray) (r1 : Int) (r2 : ByteArray) (r3 : Int) (w : World) (h : tally_next.f a0 = some (r1, r2, r3)) :
  Calls Try.prog 60 #[.string a0] w fun e w' => e = .returned (.tuple #[.int .u64 r1, .string r2, .int .i64 r3]) ∧ Below w.heap.size w w' := by
 unfold tally_next.f at h
 simp only [Option.some.injEq, Prod.mk.injEq] at h
 obtain ⟨h1, h2, h3⟩ := h
 subst h1 h2 h3
 have hsz := bytesOf_size a0
 have hB := Bs.bytesOf a0
 rcases hl : bytesOf a0 with _ | ⟨b, r⟩
 ·simp only [decU]
  rw [tally_next.whole]
  exact tally_next.empty a0 w ((tally_next.tl a0).2 hl)
 ·have ne : a0.toList.isEmpty = false := by
   cases hE : a0.toList.isEmpty with
   | false => rfl
   | true => rw [(tally_next.tl a0).1 hE] at hl; cases hl
  have pos : 0 < a0.size := by rw [← hsz, hl]; simp
  have hb0 : bt a0 0 = b := by rw [bt_rd, hl]; rfl
  rw [hl] at hB hsz
  have hb := hB.head
  have hlen : r.length + 1 = a0.size := by simpa using hsz
  simp only [decU]
  by_cases c1 : 192 < b
  ·rw [if_pos c1]
   simp only [tally_next.whole]
   exact tally_next.big a0 w ne pos (by rw [hb0]; exact c1)
  ·rw [if_neg c1]
   have hL : r.take (szU b) = ((bytesOf a0).take (szU b + 1)).drop 1 := by rw [hl]; rfl
   have hLB : Bs (r.take (szU b)) := hB.tail.take _
   by_cases c2 : b = 192
   ·subst c2
    have e1 : szU 192 = 8 := by decide
    rw [e1] at hL hLB ⊢
    by_cases c3 : r.length < 8
    ·rw [if_pos c3]
     simp only [tally_next.whole]
     exact tally_next.short9 a0 w ne pos hb0 (by omega)
    ·rw [if_neg c3]
     have hbd := tally_next.bd 0 8 (by omega) (by decide) (r.take 8) hLB (by simp; omega)
     have e2 : leastU 8 = 1073741824 := by decide
     have e3 : (192 : Int) % 64 = 0 := by decide
     rw [e2, e3]
     by_cases c4 : numI 0 (r.take 8) < 1073741824
     ·rw [if_pos c4]
      simp only [tally_next.whole]
      exact tally_next.loop_eq_bad a0 w 1073741824 ne pos hb0 (by omega) (r.take 8) hL hbd (tally_next.at_ 9 _ rfl) (decide_eq_true c4)
     ·rw [if_neg c4]
      exact tally_next.loop_eq_ok a0 w 1073741824 ne pos hb0 (by omega) (r.take 8) hL hbd (tally_next.at_ 9 _ rfl) (decide_eq_false c4)
   ·have hlt : b < 192 := by omega
    have hn : IntKind.i64.wrap (2 ^ (bt a0 0 / 64).toNat) = ((szU b + 1 : Nat) : Int) ∧ (b % 64 + 1) * 256 ^ szU b ≤ 18446744073709551616 ∧ szU b + 1 < 10 ∧ [(0 : Int), 0, 64, 0, 16384, 0, 0, 0, 0, 1073741824][szU b + 1]? = some (leastU (szU b)) := by
     rw [hb0]
     have : b / 64 = 0 ∧ szU b = 0 ∨ b / 64 = 1 ∧ szU b = 1 ∨ b / 64 = 2 ∧ szU b = 3 := by
      unfold szU
      by_cases d1 : b < 64
      ·rw [if_pos d1]; omega
      ·rw [if_neg d1]
       by_cases d2 : b < 128
       ·rw [if_pos d2]; omega
       ·rw [if_neg d2, if_pos hlt]; omega
     rcases this with ⟨e, e'⟩ | ⟨e, e'⟩ | ⟨e, e'⟩ <;> rw [e, e'] <;> refine ⟨by decide, by simp; omega, by decide, by decide⟩
    obtain ⟨hn, hx, h10, hat⟩ := hn
    by_cases c3 : r.length < szU b
    ·rw [if_pos c3]
     simp only [tally_next.whole]
     exact tally_next.short a0 w (szU b + 1) ne pos (by rw [hb0]; exact hlt) hn (by omega)
    ·rw [if_neg c3]
     have hbd := tally_next.bd (b % 64) (szU b) (by omega) hx (r.take (szU b)) hLB (by simp; omega)
     by_cases c4 : numI (b % 64) (r.take (szU b)) < leastU (szU b)
     ·rw [if_pos c4]
      simp only [tally_next.whole]
      exact tally_next.loop_lt_bad a0 w (szU b + 1) (b % 64) (leastU (szU b)) ne pos (by rw [hb0]; exact hlt) hn (by omega) (by omega) h10 (by rw [hb0]) (r.take (szU b)) hL hbd (tally_next.at_ _ _ hat) (decide_eq_true c4)
     ·rw [if_neg c4]
      exact tally_next.loop_lt_ok a0 w (szU b + 1) (b % 64) (leastU (szU b)) ne pos (by rw [hb0]; exact hlt) hn (by omega) (by omega) h10 (by rw [hb0]) (r.take (szU b)) hL hbd (tally_next.at_ _ _ hat) (decide_eq_false c4)
def tally_Cursor_Uint.f (s0_0 : ByteArray) (s0_1 : Int) : Option (Int × ByteArray × Int) := (tally_Cursor_ok.f s0_0 s0_1).bind fun bt142 => (if bt142.1 = true then ((tally_next.f bt142.2.1).bind fun bt145 => (some (bt145.1, bt145.2.1, bt145.2.2))) else (some (0, bt142.2.1, bt142.2.2)))
set_option maxHeartbeats 8000000 in
set_option maxRecDepth 100000 in
theorem tally_Cursor_Uint.calls (g : Nat) (s0_0 : ByteArray) (s0_1 : Int) (r1 : Int) (r2 : ByteArray) (r3 : Int) (w0 w : World) (hI : IsS89 w0 w g s0_0 s0_1) (hB : Below w0.heap.size w0 w) (h : tally_Cursor_Uint.f s0_0 s0_1 = some (r1, r2, r3)) :
  Calls Try.prog 41 #[.pointer (some ⟨g, 0, none⟩)] w fun e w' => e = .returned (.int .u64 r1) ∧ IsS89 w0 w' g r2 r3 ∧ Below w0.heap.size w0 w' ∧ KeepBut w w' g none := by
 have HI0 := Aside0.mk hI
 have HK := Aside0.mk (KeepBut.refl w g none)
 have HL := Aside0.mk hB.size
 clear hI
 have HW0 := Aside0.mk hB.size
 have HB := Aside0.mk hB
 clear hB
 have H : ((tally_Cursor_ok.f s0_0 s0_1).bind fun bt142 => (if bt142.1 = true then ((tally_next.f bt142.2.1).bind fun bt145 => (some (bt145.1, bt145.2.1, bt145.2.2))) else (some (0, bt142.2.1, bt142.2.2)))) = some (r1, r2, r3) := h
 clear h
 replace H := Option.bind_eq_some_iff.mp H
 obtain ⟨⟨t142, t143, t144⟩, A20, H⟩ := H
 replace H : (if t142 = true then ((tally_next.f t143).bind fun bt145 => (some (bt145.1, bt145.2.1, bt145.2.2))) else (some (0, t143, t144))) = some (r1, r2, r3) := H
 have A2 := Aside0.mk A20
 clear A20
 by_cases c3 : t142 = true
 ·subst c3
  have H1 : ((tally_next.f t143).bind fun bt145 => (some (bt145.1, bt145.2.1, bt145.2.2))) = some (r1, r2, r3) := by rw [if_pos rfl] at H; exact H
  clear H
  have H := H1
  clear H1
  replace H := Option.bind_eq_some_iff.mp H
  obtain ⟨⟨t145, t146, t147⟩, A40, H⟩ := H
  replace H : (some (t145, t146, t147)) = some (r1, r2, r3) := H
  have A4 := Aside0.mk A40
  clear A40
  simp only [Option.some.injEq, Prod.mk.injEq] at H
  obtain ⟨rfl, rfl, rfl⟩ := H
  go_enter Try.func41, Try.ntmps41
  go_wp2_with (first | ((with_reducible refine gate_callee (f := 59) rfl ?_); refine goesL_ (some 7) rfl rfl Try.func59 (by kernel_rfl) rfl #[.pointer (some ⟨g, 0, none⟩)] rfl (by (try simp only [List.map_toArray, List.map_cons, List.map_nil]); first | done | rfl | (simp only [List.length_drop, List.length_take]; rfl) | (go_simp; simp [IntKind.wrap, IntKind.bits, IntKind.signed]; omega)) ?_; (with_reducible refine (tally_Cursor_ok.calls g s0_0 s0_1 true t143 t144 w0 _ ?side1 ?side2 A2.out).mono ?_); (case side1 => repeat (first | (with_reducible first | exact HI0.out | apply IsS89.alloc | apply IsS89.drewN | apply IsS89.drew | apply IsS89.set_0 | apply IsS89.set_1) | exact HI0.out)); (case side2 => repeat (first | (with_reducible first | exact HB.out | apply below_alloc | apply pw_below_drewN | apply below_drew1 | refine below_set ?_ (IsS89.ge HI0.out)) | exact HB.out)); rintro e w5 ⟨rfl, hi, hb, hk⟩; refine ⟨_, rfl, ?_⟩; have n0_ := Aside0.mk (KeepBut.trans (by repeat (first | (with_reducible first | exact HK.out | apply KeepBut.set_ | apply keep_drewN | apply keep_drew | apply keep_alloc) | exact HK.out)) hk (.inl rfl)); have n1_ := Aside0.mk (hb); have n2_ := Aside0.mk (hi); clear HK; clear HB; clear HI0; have HK := n0_; have HB := n1_; have HI0 := n2_; clear n0_ n1_ n2_; (try clear hb); (try clear hb2); (try clear hk); (try clear hi); obtain ⟨HGz6, hgz6⟩ := HI0.out; have hcz6_0 := cellS89_0 HGz6; have hcz6_1 := cellS89_1 HGz6; have hfz6_0 := blk_frozen HGz6 0; have hfz6_1 := blk_frozen HGz6 1; clear HGz6 hgz6) | ((with_reducible refine gate_callee (f := 60) rfl ?_); refine goesL_ (some 14) rfl rfl Try.func60 (by kernel_rfl) rfl #[.string t143] rfl (by (try simp only [List.map_toArray, List.map_cons, List.map_nil]); first | done | rfl | (simp only [List.length_drop, List.length_take]; rfl) | (go_simp; simp [IntKind.wrap, IntKind.bits, IntKind.signed]; omega)) ?_; (with_reducible refine (tally_next.calls t143 t145 t146 t147 _ A4.out).mono ?_); rintro e w7 ⟨rfl, hb⟩; refine ⟨_, rfl, ?_⟩; have n0_ := Aside0.mk (IsS89.below (by repeat (first | (with_reducible first | exact HI0.out | apply IsS89.alloc | apply IsS89.drewN | apply IsS89.drew | apply IsS89.set_0 | apply IsS89.set_1) | exact HI0.out)) hb); have n1_ := Aside0.mk (KeepBut.trans (by repeat (first | (with_reducible first | exact HK.out | apply KeepBut.set_ | apply keep_drewN | apply keep_drew | apply keep_alloc) | exact HK.out)) (KeepBut.of_below hb g none) (.inl rfl)); have n2_ := Aside0.mk (below_step (by repeat (first | (with_reducible first | exact HB.out | apply below_alloc | apply pw_below_drewN | apply below_drew1 | refine below_set ?_ (IsS89.ge HI0.out)) | exact HB.out)) hb); clear HI0; clear HK; clear HB; have HI0 := n0_; have HK := n1_; have HB := n2_; clear n0_ n1_ n2_; (try clear hb); (try clear hb2); (try clear hk); (try clear hi); obtain ⟨HGz8, hgz8⟩ := HI0.out; have hcz8_0 := cellS89_0 HGz8; have hcz8_1 := cellS89_1 HGz8; have hfz8_0 := blk_frozen HGz8 0; have hfz8_1 := blk_frozen HGz8 1; clear HGz8 hgz8))
  go_ret
  exact ⟨by first | rfl | (simp [errW_none, errW_some] <;> rfl) | (simp [*, errW_none, errW_some] <;> rfl), by repeat (first | (with_reducible first | exact HI0.out | apply IsS89.alloc | apply IsS89.drewN | apply IsS89.drew | apply IsS89.set_0 | apply IsS89.set_1) | exact HI0.out), by repeat (first | (with_reducible first | exact HB.out | apply below_alloc | apply pw_below_drewN | apply below_drew1 | refine below_set ?_ (IsS89.ge HI0.out)) | exact HB.out), by repeat (first | (with_reducible first | exact HK.out | apply KeepBut.set_ | apply keep_drewN | apply keep_drew | apply keep_alloc) | exact HK.out)⟩
 ·replace c3 := Bool.eq_false_iff.mpr c3
  subst c3
  have H1 : (some (0, t143, t144)) = some (r1, r2, r3) := by rw [if_neg (show ¬ (false = true) by decide)] at H; exact H
  clear H
  have H := H1
  clear H1
  simp only [Option.some.injEq, Prod.mk.injEq] at H
  obtain ⟨rfl, rfl, rfl⟩ := H
  go_enter Try.func41, Try.ntmps41
  go_wp2_with (first | ((with_reducible refine gate_callee (f := 59) rfl ?_); refine goesL_ (some 7) rfl rfl Try.func59 (by kernel_rfl) rfl #[.pointer (some ⟨g, 0, none⟩)] rfl (by (try simp only [List.map_toArray, List.map_cons, List.map_nil]); first | done | rfl | (simp only [List.length_drop, List.length_take]; rfl) | (go_simp; simp [IntKind.wrap, IntKind.bits, IntKind.signed]; omega)) ?_; (with_reducible refine (tally_Cursor_ok.calls g s0_0 s0_1 false t143 t144 w0 _ ?side1 ?side2 A2.out).mono ?_); (case side1 => repeat (first | (with_reducible first | exact HI0.out | apply IsS89.alloc | apply IsS89.drewN | apply IsS89.drew | apply IsS89.set_0 | apply IsS89.set_1) | exact HI0.out)); (case side2 => repeat (first | (with_reducible first | exact HB.out | apply below_alloc | apply pw_below_drewN | apply below_drew1 | refine below_set ?_ (IsS89.ge HI0.out)) | exact HB.out)); rintro e w9 ⟨rfl, hi, hb, hk⟩; refine ⟨_, rfl, ?_⟩; have n0_ := Aside0.mk (KeepBut.trans (by repeat (first | (with_reducible first | exact HK.out | apply KeepBut.set_ | apply keep_drewN | apply keep_drew | apply keep_alloc) | exact HK.out)) hk (.inl rfl)); have n1_ := Aside0.mk (hb); have n2_ := Aside0.mk (hi); clear HK; clear HB; clear HI0; have HK := n0_; have HB := n1_; have HI0 := n2_; clear n0_ n1_ n2_; (try clear hb); (try clear hb2); (try clear hk); (try clear hi)))
  go_ret
  exact ⟨by first | rfl | (simp [errW_none, errW_some] <;> rfl) | (simp [*, errW_none, errW_some] <;> rfl), by repeat (first | (with_reducible first | exact HI0.out | apply IsS89.alloc | apply IsS89.drewN | apply IsS89.drew | apply IsS89.set_0 | apply IsS89.set_1) | exact HI0.out), by repeat (first | (with_reducible first | exact HB.out | apply below_alloc | apply pw_below_drewN | apply below_drew1 | refine below_set ?_ (IsS89.ge HI0.out)) | exact HB.out), by repeat (first | (with_reducible first | exact HK.out | apply KeepBut.set_ | apply keep_drewN | apply keep_drew | apply keep_alloc) | exact HK.out)⟩
def tally_Cursor_Err.f (s0_0 : ByteArray) (s0_1 : Int) : Option (Int × ByteArray × Int) := some (s0_1, s0_0, s0_1)
set_option maxHeartbeats 8000000 in
set_option maxRecDepth 100000 in
theorem tally_Cursor_Err.calls (g : Nat) (s0_0 : ByteArray) (s0_1 : Int) (r1 : Int) (r2 : ByteArray) (r3 : Int) (w0 w : World) (hI : IsS89 w0 w g s0_0 s0_1) (hB : Below w0.heap.size w0 w) (h : tally_Cursor_Err.f s0_0 s0_1 = some (r1, r2, r3)) :
  Calls Try.prog 42 #[.pointer (some ⟨g, 0, none⟩)] w fun e w' => e = .returned (.int .i64 r1) ∧ IsS89 w0 w' g r2 r3 ∧ Below w0.heap.size w0 w' ∧ KeepBut w w' g none := by
 have HI0 := Aside0.mk hI
 have HK := Aside0.mk (KeepBut.refl w g none)
 have HL := Aside0.mk hB.size
 clear hI
 have HW0 := Aside0.mk hB.size
 have HB := Aside0.mk hB
 clear hB
 have H : (some (s0_1, s0_0, s0_1)) = some (r1, r2, r3) := h
 clear h
 simp only [Option.some.injEq, Prod.mk.injEq] at H
 obtain ⟨rfl, rfl, rfl⟩ := H
 obtain ⟨HGz2, hgz2⟩ := HI0.out
 have hcz2_0 := cellS89_0 HGz2
 have hcz2_1 := cellS89_1 HGz2
 have hfz2_0 := blk_frozen HGz2 0
 have hfz2_1 := blk_frozen HGz2 1
 clear HGz2 hgz2
 go_enter Try.func42, Try.ntmps42
 go_wp2
 go_ret
 exact ⟨by first | rfl | (simp [errW_none, errW_some] <;> rfl) | (simp [*, errW_none, errW_some] <;> rfl), by repeat (first | (with_reducible first | exact HI0.out | apply IsS89.alloc | apply IsS89.drewN | apply IsS89.drew | apply IsS89.set_0 | apply IsS89.set_1) | exact HI0.out), by repeat (first | (with_reducible first | exact HB.out | apply below_alloc | apply pw_below_drewN | apply below_drew1 | refine below_set ?_ (IsS89.ge HI0.out)) | exact HB.out), by repeat (first | (with_reducible first | exact HK.out | apply KeepBut.set_ | apply keep_drewN | apply keep_drew | apply keep_alloc) | exact HK.out)⟩
def tally_Cursor_Left.f (s0_0 : ByteArray) (s0_1 : Int) : Option (Int × ByteArray × Int) := some ((s0_0.size : Int), s0_0, s0_1)
set_option maxHeartbeats 8000000 in
set_option maxRecDepth 100000 in
theorem tally_Cursor_Left.calls (g : Nat) (s0_0 : ByteArray) (s0_1 : Int) (r1 : Int) (r2 : ByteArray) (r3 : Int) (w0 w : World) (hI : IsS89 w0 w g s0_0 s0_1) (hB : Below w0.heap.size w0 w) (h : tally_Cursor_Left.f s0_0 s0_1 = some (r1, r2, r3)) :
  Calls Try.prog 43 #[.pointer (some ⟨g, 0, none⟩)] w fun e w' => e = .returned (.int .i64 r1) ∧ IsS89 w0 w' g r2 r3 ∧ Below w0.heap.size w0 w' ∧ KeepBut w w' g none := by
 have HI0 := Aside0.mk hI
 have HK := Aside0.mk (KeepBut.refl w g none)
 have HL := Aside0.mk hB.size
 clear hI
 have HW0 := Aside0.mk hB.size
 have HB := Aside0.mk hB
 clear hB
 have H : (some ((s0_0.size : Int), s0_0, s0_1)) = some (r1, r2, r3) := h
 clear h
 simp only [Option.some.injEq, Prod.mk.injEq] at H
 obtain ⟨rfl, rfl, rfl⟩ := H
 obtain ⟨HGz2, hgz2⟩ := HI0.out
 have hcz2_0 := cellS89_0 HGz2
 have hcz2_1 := cellS89_1 HGz2
 have hfz2_0 := blk_frozen HGz2 0
 have hfz2_1 := blk_frozen HGz2 1
 clear HGz2 hgz2
 go_enter Try.func43, Try.ntmps43
 go_wp2
 go_ret
 exact ⟨by first | rfl | (simp [errW_none, errW_some] <;> rfl) | (simp [*, errW_none, errW_some] <;> rfl), by repeat (first | (with_reducible first | exact HI0.out | apply IsS89.alloc | apply IsS89.drewN | apply IsS89.drew | apply IsS89.set_0 | apply IsS89.set_1) | exact HI0.out), by repeat (first | (with_reducible first | exact HB.out | apply below_alloc | apply pw_below_drewN | apply below_drew1 | refine below_set ?_ (IsS89.ge HI0.out)) | exact HB.out), by repeat (first | (with_reducible first | exact HK.out | apply KeepBut.set_ | apply keep_drewN | apply keep_drew | apply keep_alloc) | exact HK.out)⟩
def filter_bitmap_is.f (l0 : List Int) (a1 : Int) : Option (Bool) := if 0 ≤ (wrap64 (Int.tdiv a1 8)) then (if (wrap64 (Int.tdiv a1 8)) < (l0.length : Int) then (if 0 ≤ (Int.tmod a1 8) then (some ((Go.bits .and .u8 (rd l0 (wrap64 (Int.tdiv a1 8))) (shl .u8 1 (Int.tmod a1 8))) != 0)) else (none)) else (none)) else (none)
set_option maxHeartbeats 8000000 in
set_option maxRecDepth 100000 in
theorem filter_bitmap_is.calls (A0 : Option Addr) (c0 : Nat) (l0 : List Int) (a1 : Int) (r : Bool) (w : World) (hr0 : Kd.C (Kd.int .u8) w A0 l0.length l0) (hc0 : l0.length ≤ c0) (h : filter_bitmap_is.f l0 a1 = some r) :
  Calls Try.prog 25 #[.slice A0 l0.length c0, .int .i64 a1] w fun e w' => e = .returned (.bool r) ∧ Drawn0 w w' := by
 have HR0 := Aside0.mk hr0
 have HC0 := Aside0.mk hc0
 clear hr0 hc0
 have H : (if 0 ≤ (wrap64 (Int.tdiv a1 8)) then (if (wrap64 (Int.tdiv a1 8)) < (l0.length : Int) then (if 0 ≤ (Int.tmod a1 8) then (some ((Go.bits .and .u8 (rd l0 (wrap64 (Int.tdiv a1 8))) (shl .u8 1 (Int.tmod a1 8))) != 0)) else (none)) else (none)) else (none)) = some r := h
 clear h
 obtain ⟨ji3, hji3⟩ : ∃ j_ : Int, (wrap64 (Int.tdiv a1 8)) = j_ := ⟨_, rfl⟩
 replace H : (if 0 ≤ (ji3) then (if (ji3) < (l0.length : Int) then (if 0 ≤ (Int.tmod a1 8) then (some ((Go.bits .and .u8 (rd l0 (ji3)) (shl .u8 1 (Int.tmod a1 8))) != 0)) else (none)) else (none)) else (none)) = some r := by first | (rw [hji3] at H; exact H) | (simp only [hji3] at H ⊢; exact H)
 have hji3w : (IntKind.i64.wrap (Int.tdiv a1 8)) = ji3 := (i64_w _).trans hji3
 by_cases c4 : 0 ≤ (ji3)
 ·rw [if_pos c4] at H
  have c4b0 : decide (0 ≤ (ji3)) = true := decide_eq_true c4
  clear c4
  by_cases c5 : (ji3) < (l0.length : Int)
  ·rw [if_pos c5] at H
   have c5b0 : decide ((ji3) < (l0.length : Int)) = true := decide_eq_true c5
   clear c5
   obtain ⟨ji6, hji6⟩ : ∃ j_ : Int, (Int.tmod a1 8) = j_ := ⟨_, rfl⟩
   replace H : (if 0 ≤ (ji6) then (some ((Go.bits .and .u8 (rd l0 (ji3)) (shl .u8 1 (ji6))) != 0)) else (none)) = some r := by first | (rw [hji6] at H; exact H) | (simp only [hji6] at H ⊢; exact H)
   by_cases c7 : 0 ≤ (ji6)
   ·rw [if_pos c7] at H
    have c7b0 := eq_true c7
    have c7b1 : decide (0 ≤ (ji6)) = true := decide_eq_true c7
    clear c7
    obtain ⟨ji8, hji8⟩ : ∃ j_ : Int, (shl .u8 1 (ji6)) = j_ := ⟨_, rfl⟩
    replace H : (some ((Go.bits .and .u8 (rd l0 (ji3)) (ji8)) != 0)) = some r := by first | (rw [hji8] at H; exact H) | (simp only [hji8] at H ⊢; exact H)
    have hji8_ : (IntKind.u8.wrap (1 * 2 ^ min (ji6).toNat 8)) = ji8 := hji8
    have hji8z : (ji6) ≤ 8 → (IntKind.u8.wrap (1 * 2 ^ (ji6).toNat)) = ji8 := shl_small hji8
    have hji8u : (IntKind.u8.wrap (2 ^ min (ji6).toNat 8)) = ji8 := by have h_ := hji8_; rw [Int.one_mul] at h_; exact h_
    have hji8v : (ji6) ≤ 8 → (IntKind.u8.wrap (2 ^ (ji6).toNat)) = ji8 := fun hle_ => by have h_ := hji8z hle_; rw [Int.one_mul] at h_; exact h_
    obtain rfl := Option.some.inj H
    have p148 : 0 ≤ ((ji3) : Int) := of_decide_eq_true (by first | (with_reducible assumption) | assumption)
    have q148 : (ji3) < (l0.length : Int) := of_decide_eq_true (by first | (with_reducible assumption) | assumption)
    obtain ⟨ad148, e148, hx148_0⟩ := Kd.at_int HR0.out (ji3) p148 q148
    cases e148
    replace p148 := eq_true p148
    replace q148 := eq_true q148
    go_enter Try.func25, Try.ntmps25
    go_wp2
    repeat (go_quiet (fail); try go_wp2)
    go_ret
    exact ⟨by first | rfl | (simp; done) | (simp only [← hji3, ← hji6, ← hji8] <;> (first | rfl | simp)) | (simp [*]; done), by repeat (first | exact Drawn0.refl _ | apply Drawn0.step)⟩
   ·rw [if_neg c7] at H
    exact absurd H (by simp)
  ·rw [if_neg c5] at H
   exact absurd H (by simp)
 ·rw [if_neg c4] at H
  exact absurd H (by simp)
end Go.Proofs.Ytlbcpigjbjolaaa.G
