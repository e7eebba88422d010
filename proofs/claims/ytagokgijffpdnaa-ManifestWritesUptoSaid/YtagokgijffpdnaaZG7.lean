import Derived.Test.YtagokgijffpdnaaZG0
import Derived.Test.YtagokgijffpdnaaZG1
namespace Go.Proofs.Ytagokgijffpdnaa.G
open Go.RowKit Go.Proofs.YtagokgijffpdnaaQ Go.Proofs.YtagokgijffpdnaaW.PrintWords Go.Proofs.YtagokgijffpdnaaW.PrintLast Go.Proofs.YtagokgijffpdnaaW.PrintMore
attribute [local go_sem] max2_int min2_int max_two min_two max_three min_three max_four min_four   -- for this text's walks alone
set_option linter.unusedVariables false
set_option linter.unusedSimpArgs false
attribute [local go_sem high] eqA36
def api_Part_19.f (l : List S36) : Option (List S36) := if l.length ≤ 1000000000 then some l else none
theorem api_Part_19.eqIn (w : World) (d : Nat) (a : Option Addr) (n c : Nat) : (Op.equalIn (d + 1) 24 (.slice a n c) (.slice none 0 0)).run Try.prog w = .ok a.isNone w := by
  cases a <;> simp [Op.equalIn, run_underlying Try.underlying24]
theorem api_Part_19.eq_nil (w : World) (a : Option Addr) (n c : Nat) : (binOp .eql 24 (.slice a n c) (.slice none 0 0)).run Try.prog w = .ok (.bool a.isNone) w := by
  simp only [binOp]
  simp [Op.equal, Op.maxDepth, api_Part_19.eqIn w 9999 a n c]
set_option maxHeartbeats 1000000 in
set_option maxRecDepth 100000 in
theorem api_Part_19.calls (A0 : Option Addr) (c0 : Nat) (l0 : List S36) (r : List S36) (w : World) (hr0 : Kd.C k36 w A0 l0.length l0) (hc0 : l0.length ≤ c0) (h : api_Part_19.f l0 = some r) :
    Calls Try.prog 19 #[.slice A0 l0.length c0] w fun e w' => ∃ v0_ : Value, e = .returned (v0_) ∧ Kd.R k36 36 w' w.heap.size (fun _ => True) v0_ r ∧ Below w.heap.size w w' := by
  unfold api_Part_19.f at h
  split at h
  · rename_i hl
    obtain rfl := Option.some.inj h
    clear h
    have heq := fun (W : World) (n c : Nat) => api_Part_19.eq_nil W A0 n c
    have HL := Aside0.mk hl; have HR := Aside0.mk hr0; have HC := Aside0.mk hc0
    cases A0 with
    | none =>
      have h0 : l0 = [] := by
        by_cases hp : 0 < l0.length
        · obtain ⟨ad, hA, _⟩ := at_T36 hr0 0 (by omega) (by omega)
          cases hA
        · exact List.length_eq_zero_iff.mp (by omega)
      subst h0
      clear hl hr0 hc0
      simp only [Option.isNone] at heq
      go_enter Try.func19, Try.ntmps19
      go_wp2
      go_ret
      exact ⟨_, rfl, Kd.R_nil _ _ _ _ _, Below.refl _ _⟩
    | some ad =>
      clear hl hr0 hc0
      simp only [Option.isNone] at heq
      go_enter Try.func19, Try.ntmps19
      go_wp2_with (first
        | ((with_reducible refine gate_dst (N := 5) rfl ?_); refine Kd.R_lit k36 w.heap.size 36 ?hg (N := 5) ?hd (xs := ([] : List S36)) (inner := []) (ok := fun _ => True) (okp := fun _ => True) ?hr ?hp (fun _ hk => hk) trivial (Below.refl _ _) (Nat.le_refl _) (by simp) ?_; (case hd => rfl); (case hg => rfl); (case hr => first | (go_simp; done) | (go_simp; rfl)); (case hp => exact Reps.none _ _); intro v1 w1 hv1 hb1 _ _; have HV1 := Aside0.mk hv1; have HB1 := Aside0.mk hb1; clear hv1 hb1)
        | (at_builtin; refine Kd.R_append_rows k36 (w0 := w) w.heap.size rfl (.tmp 5) (.tmp 6) 24 36 (.agg #[(.int .i64 0), (.int .i64 0), (.bool false), (.int .i64 0), (.string ⟨#[]⟩), (.bool false), (.int .i64 0), (.string ⟨#[]⟩)]) 80 rfl Try.underlying24 info36 rfl (by decide) (by omega) v1 ([] : List S36) l0 _ _ _ (fun _ => True) (fun _ => False) rfl rfl HV1.out (Kd.C_below HR.out HB1.out) (fun _ _ h => h) (fun _ h => h.elim) (fun _ _ => trivial) HB1.out HB1.out.size (by have := HL.out; rw [List.length_nil]; omega) ?_; intro v2 w2 hv2 hb2 _ _; have HV2 := Aside0.mk hv2; have HB2 := Aside0.mk hb2; clear hv2 hb2))
      go_ret
      exact ⟨_, rfl, HV2.out, HB2.out⟩
  · exact absurd h (by simp)
def manifest_Snapshot.f (l0_0 : List (S36)) (a0_1 : Int) (a0_2 : Int) : Option (List Int × (List (S36)) × Int × Int) := (api_Part_19.f l0_0).bind fun t159 => (some (([] : List Int), t159, a0_1, a0_2))
def manifest_Snapshot.T1 : Bool × List (List Nat × List Nat) := (true, [([], []), ([0], [0]), ([1], [1]), ([], []), ([3], [3]), ([], []), ([5], [5]), ([2, 4, 6], [2, 4, 6]), ([7, 2, 0, 1, 2, 3, 4, 5, 6, 7], [7])])
def manifest_Snapshot.B1 : List Nat := [0, 1, 3, 0, 8, 0, 32, 127, 255]
theorem manifest_Snapshot.tab1 : rtab .any (opsOf Try.f10 1) = manifest_Snapshot.T1 := by kernel_rfl
theorem manifest_Snapshot.bits1 : waitsOk manifest_Snapshot.T1.2 manifest_Snapshot.B1 = true := by kernel_rfl
set_option maxHeartbeats 8000000 in
set_option maxRecDepth 100000 in
theorem manifest_Snapshot.calls (A0_0 : Option Addr) (c0_0 : Nat) (l0_0 : List (S36)) (a0_1 : Int) (a0_2 : Int) (r1 : List Int) (r2 : List (S36)) (r3 : Int) (r4 : Int) (w : World) (hr0_0 : Kd.C k36 w A0_0 l0_0.length l0_0) (hc0_0 : l0_0.length ≤ c0_0) (h : manifest_Snapshot.f l0_0 a0_1 a0_2 = some (r1, r2, r3, r4)) :
    Calls Try.prog 10 #[.agg #[.slice A0_0 l0_0.length c0_0, .int .i64 a0_1, .int .i64 a0_2]] w fun e w' => ∃ v0_ v1_ : Value, e = .returned (.agg #[v0_, v1_, .int .i64 r3, .int .i64 r4]) ∧ Kd.R (Kd.int .i64) 3 w' w.heap.size (fun _ => True) v0_ r1 ∧ Kd.R k36 36 w' w.heap.size (fun _ => True) v1_ r2 ∧ Below w.heap.size w w' := by
  have hu26 := Try.underlying26
  have hu32 := Try.underlying32
  have HR0_0 := Aside0.mk hr0_0
  have HC0_0 := Aside0.mk hc0_0
  clear hr0_0 hc0_0
  have HB := Aside0.mk (Below.refl w.heap.size w)
  have H : ((api_Part_19.f l0_0).bind fun t159 => (some (([] : List Int), t159, a0_1, a0_2))) = some (r1, r2, r3, r4) := h
  clear h
  replace H := Option.bind_eq_some_iff.mp H
  obtain ⟨t159, A20, H⟩ := H
  replace H : (some (([] : List Int), t159, a0_1, a0_2)) = some (r1, r2, r3, r4) := H
  have A2 := Aside0.mk A20
  clear A20
  simp only [Option.some.injEq, Prod.mk.injEq] at H
  obtain ⟨rfl, rfl, rfl, rfl⟩ := H
  go_enter Try.func10, Try.ntmps10
  try go_wp2_with (first | ((with_reducible refine gate_dst (N := 1) rfl ?_); refine box_event ?hg (N := 1) ?hd (cs := #[.slice A0_0 l0_0.length c0_0, .int .i64 a0_1, .int .i64 a0_2]) (t := 26) ?hr ?_; (case hd => rfl); (case hg => rfl); (case hr => first | (go_simp; done) | (go_simp; rfl)); intro gb157 hg w3 hbox hb; have n0_ := Aside0.mk (below_step (by repeat (first | (with_reducible first | exact HB.out | apply below_alloc | apply pw_below_drewN | apply below_drew1) | exact HB.out)) hb); have n1_ := Aside0.mk (hbox); have n2_ := Aside0.mk ((by rw [hg]; exact (below_size (by repeat (first | (with_reducible first | exact HB.out | apply below_alloc | apply pw_below_drewN | apply below_drew1) | exact HB.out))) : w.heap.size ≤ gb157)); have n3_ := Aside0.mk ((by rw [hg]; exact (below_size (by repeat (first | (with_reducible first | exact HB.out | apply below_alloc | apply pw_below_drewN | apply below_drew1) | exact HB.out))) : w.heap.size ≤ gb157)); clear HB; have HB := n0_; have BK157 := n1_; have GW157 := n2_; have GE157 := n3_; clear n0_ n1_ n2_ n3_; clear hb hbox hg) | ((with_reducible refine gate_dst (N := 2) rfl ?_); refine box_event ?hg (N := 2) ?hd (cs := #[.slice none 0 0, .slice none 0 0, .int .i64 0, .int .i64 0]) (t := 32) ?hr ?_; (case hd => rfl); (case hg => rfl); (case hr => first | (go_simp; done) | (go_simp; rfl)); intro gb158 hg w4 hbox hb; have n0_ := Aside0.mk (blk_below (g := gb157) (o := .cells #[.slice A0_0 l0_0.length c0_0, .int .i64 a0_1, .int .i64 a0_2] 26 (0, 0)) (by (with_reducible repeat (first | refine blk_drewN ?_ _ | refine blk_drew ?_ | refine blk_alloc ?_ _)); exact BK157.out) hb); have n1_ := Aside0.mk (below_step (by repeat (first | (with_reducible first | exact HB.out | apply below_alloc | apply pw_below_drewN | apply below_drew1 | refine below_set ?_ GE157.out) | exact HB.out)) hb); have n2_ := Aside0.mk (hbox); have n3_ := Aside0.mk ((by rw [hg]; exact (below_size (by repeat (first | (with_reducible first | exact HB.out | apply below_alloc | apply pw_below_drewN | apply below_drew1 | refine below_set ?_ GE157.out) | exact HB.out))) : w.heap.size ≤ gb158)); have n4_ := Aside0.mk ((by rw [hg]; exact (below_size (by repeat (first | (with_reducible first | exact HB.out | apply below_alloc | apply pw_below_drewN | apply below_drew1 | refine below_set ?_ GE157.out) | exact HB.out))) : w.heap.size ≤ gb158)); have n5_ := Aside0.mk ((by rw [hg]; exact Nat.ne_of_lt (blk_lt (g := gb157) (o := .cells #[.slice A0_0 l0_0.length c0_0, .int .i64 a0_1, .int .i64 a0_2] 26 (0, 0)) (by (with_reducible repeat (first | refine blk_drewN ?_ _ | refine blk_drew ?_ | refine blk_alloc ?_ _)); exact BK157.out)) : gb157 ≠ gb158)); have n6_ := Aside0.mk ((by rw [hg]; exact Nat.ne_of_gt (blk_lt (g := gb157) (o := .cells #[.slice A0_0 l0_0.length c0_0, .int .i64 a0_1, .int .i64 a0_2] 26 (0, 0)) (by (with_reducible repeat (first | refine blk_drewN ?_ _ | refine blk_drew ?_ | refine blk_alloc ?_ _)); exact BK157.out)) : gb158 ≠ gb157)); clear BK157; clear HB; have BK157 := n0_; have HB := n1_; have BK158 := n2_; have GW158 := n3_; have GE158 := n4_; have NB157_158 := n5_; have NB158_157 := n6_; clear n0_ n1_ n2_ n3_ n4_ n5_ n6_; clear hb hbox hg))
  have n0_ := Aside0.mk (blk_drew BK157.out)
  have n1_ := Aside0.mk (blk_drew BK158.out)
  have n2_ := Aside0.mk (below_drew1 HB.out)
  clear BK157
  clear BK158
  clear HB
  have BK157 := n0_
  have BK158 := n1_
  have HB := n2_
  clear n0_ n1_ n2_
  refine start_ (n := 9) (S := fun w' => w'.cell? ⟨gb157, 0, none⟩ = some (.slice A0_0 l0_0.length c0_0) ∧ w'.cell? ⟨gb157, 1, none⟩ = some (.int .i64 a0_1) ∧ w'.cell? ⟨gb157, 2, none⟩ = some (.int .i64 a0_2)) (ds := []) #[false, false, false, false, false, false, false, false, false] (by kernel_rfl) rfl rfl ⟨(blk_cell BK157.out 0).trans rfl, (blk_cell BK157.out 1).trans rfl, (blk_cell BK157.out 2).trans rfl⟩ (fun hHeld => ?_); refine with_tabW manifest_Snapshot.tab1 manifest_Snapshot.bits1 (fun HT_ HW_ => ?_)
  generalize w4.drew = w5 at BK157 BK158 HB hHeld ⊢
  refine pure_ (i := 0) (N := some 3) (v := ?_) (a' := ?_) #[true, false, false, false, false, false, false, false, false] rfl rfl (any_of HT_.out (by kernel_rfl)) (fun _ _ _ h => h) (Or.inl ⟨by rfl, ?_⟩) ?_ ?_
  rotate_left
  · intro w'
    go_simp
    with_reducible rfl
  rotate_left
  · simp only [Act.put, List.setIfInBounds_toArray, List.set_cons_zero, List.set_cons_succ, i64_w, i32_w]
    rfl
  refine pure_ (i := 3) (N := some 6) (v := ?_) (a' := ?_) #[true, false, false, true, false, false, false, false, false] rfl rfl (any_of HT_.out (by kernel_rfl)) (fun _ _ _ h => h) (Or.inl ⟨by rfl, ?_⟩) ?_ ?_
  rotate_left
  · intro w'
    go_simp
    with_reducible rfl
  rotate_left
  · simp only [Act.put, List.setIfInBounds_toArray, List.set_cons_zero, List.set_cons_succ, i64_w, i32_w]
    rfl
  refine pure_ (i := 5) (N := some 8) (v := ?_) (a' := ?_) #[true, false, false, true, false, true, false, false, false] rfl rfl (any_of HT_.out (by kernel_rfl)) (fun _ _ _ h => h) (Or.inl ⟨by rfl, ?_⟩) ?_ ?_
  rotate_left
  · intro w'
    go_simp
    with_reducible rfl
  rotate_left
  · simp only [Act.put, List.setIfInBounds_toArray, List.set_cons_zero, List.set_cons_succ, i64_w, i32_w]
    rfl
  refine take_ (i := 1) (N := some 4) (v := ?_) (a' := ?_) #[true, true, false, true, false, true, false, false, false] rfl rfl (take_ofW HT_.out HW_.out (by kernel_rfl)) (fun _ _ _ h => h) (Or.inl ⟨by rfl, ?_⟩) hHeld ?_ ?_
  rotate_left
  · rintro w' ⟨s0, s1, s2⟩
    go_simp
    with_reducible rfl
  rotate_left
  · simp only [Act.put, List.setIfInBounds_toArray, List.set_cons_zero, List.set_cons_succ, i64_w, i32_w]
    rfl
  refine take_ (i := 4) (N := some 7) (v := ?_) (a' := ?_) #[true, true, false, true, true, true, false, false, false] rfl rfl (take_ofW HT_.out HW_.out (by kernel_rfl)) (fun _ _ _ h => h) (Or.inl ⟨by rfl, ?_⟩) hHeld ?_ ?_
  rotate_left
  · rintro w' ⟨s0, s1, s2⟩
    go_simp
    with_reducible rfl
  rotate_left
  · simp only [Act.put, List.setIfInBounds_toArray, List.set_cons_zero, List.set_cons_succ, i64_w, i32_w]
    rfl
  refine take_ (i := 6) (N := some 9) (v := ?_) (a' := ?_) #[true, true, false, true, true, true, true, false, false] rfl rfl (take_ofW HT_.out HW_.out (by kernel_rfl)) (fun _ _ _ h => h) (Or.inl ⟨by rfl, ?_⟩) hHeld ?_ ?_
  rotate_left
  · rintro w' ⟨s0, s1, s2⟩
    go_simp
    with_reducible rfl
  rotate_left
  · simp only [Act.put, List.setIfInBounds_toArray, List.set_cons_zero, List.set_cons_succ, i64_w, i32_w]
    rfl
  refine one_ (i := 2) (N := some 5) #[true, true, true, true, true, true, true, false, false] rfl rfl (one_of HT_.out (by kernel_rfl)) (by decide) (fun K hK => ?_)
  refine goes_ Try.func19 (by kernel_rfl) rfl #[.slice A0_0 l0_0.length c0_0] (by rfl) rfl rfl (by (try simp only [List.map_toArray, List.map_cons, List.map_nil]); first | done | rfl | (simp only [List.length_drop, List.length_take]; rfl)) ?_
  with_reducible refine (api_Part_19.calls _ _ l0_0 t159 _ ?side1 ?side2 A2.out).mono ?_
  (case side1 => repeat (first | exact (Kd.C_below HR0_0.out HB.out) | (with_reducible refine Kd.C_alloc ?_ _) | (with_reducible refine Kd.C_drewN ?_ _) | (with_reducible refine Kd.C_drew ?_)))
  (case side2 => exact HC0_0.out)
  rintro e w6 ⟨v160, rfl, ho0, hb⟩
  refine ⟨_, rfl, ?_⟩
  have n0_ := Aside0.mk (Kd.R_lower ho0 (below_size (by repeat (first | (with_reducible first | exact HB.out | apply below_alloc | apply pw_below_drewN | apply below_drew1 | refine below_set ?_ GE157.out | refine below_set ?_ GE158.out) | exact HB.out))))
  have n1_ := Aside0.mk (blk_below (g := gb157) (o := .cells #[.slice A0_0 l0_0.length c0_0, .int .i64 a0_1, .int .i64 a0_2] 26 (0, 0)) (by (with_reducible repeat (first | refine blk_drewN ?_ _ | refine blk_drew ?_ | refine blk_alloc ?_ _)); exact BK157.out) hb)
  have n2_ := Aside0.mk (blk_below (g := gb158) (o := .cells #[.slice none 0 0, .slice none 0 0, .int .i64 0, .int .i64 0] 32 (0, 0)) (by (with_reducible repeat (first | refine blk_drewN ?_ _ | refine blk_drew ?_ | refine blk_alloc ?_ _)); exact BK158.out) hb)
  have n3_ := Aside0.mk (below_step (by repeat (first | (with_reducible first | exact HB.out | apply below_alloc | apply pw_below_drewN | apply below_drew1 | refine below_set ?_ GE157.out | refine below_set ?_ GE158.out) | exact HB.out)) hb)
  clear BK157
  clear BK158
  clear HB
  have HO161 := n0_
  have BK157 := n1_
  have BK158 := n2_
  have HB := n3_
  clear n0_ n1_ n2_ n3_
  (try clear hb)
  (try clear hb2)
  (try clear hk)
  (try clear hi)
  (try clear ho0)
  obtain ⟨Ao7, co7, eo7⟩ := Kd.R_slice HO161.out
  (first | subst eo7 | (injection eo7 with f1_ f2_ f3_; have f4_ := f1_.symm; have f5_ := f3_.symm; clear f1_ f2_ f3_; subst f4_; subst f5_))
  refine hK.out _ _ ⟨(blk_cell BK157.out 0).trans rfl, (blk_cell BK157.out 1).trans rfl, (blk_cell BK157.out 2).trans rfl⟩ (fun hHeld => ?_)
  clear hK K
  refine norm_ (a' := ?_) ?_ ?_
  rotate_left
  · show Act.put _ (some 5) _ = _
    simp only [Act.put, List.setIfInBounds_toArray, List.set_cons_zero, List.set_cons_succ, i64_w, i32_w]
    rfl
  refine pure_ (i := 7) (N := some 10) (v := ?_) (a' := ?_) #[true, true, true, true, true, true, true, true, false] rfl rfl (any_of HT_.out (by kernel_rfl)) (fun _ _ _ h => h) (Or.inl ⟨by rfl, ?_⟩) ?_ ?_
  rotate_left
  · intro w'
    go_simp
    with_reducible rfl
  rotate_left
  · simp only [Act.put, List.setIfInBounds_toArray, List.set_cons_zero, List.set_cons_succ, i64_w, i32_w]
    rfl
  refine one_ (i := 8) (N := none) #[true, true, true, true, true, true, true, true, true] rfl rfl (one_of HT_.out (by kernel_rfl)) (by decide) (fun K hK => ?_)
  have hs8 : w6.cell? ⟨gb158, 0, none⟩ = some (.slice none 0 0) := (blk_cell BK158.out 0).trans rfl
  have hfs8 := blk_frozen BK158.out 0
  have hns8_0 := NB157_158.out
  have hms8_0 := NB158_157.out
  have hs9 : w6.cell? ⟨gb158, 1, none⟩ = some (.slice none 0 0) := (blk_cell BK158.out 1).trans rfl
  have hfs9 := blk_frozen BK158.out 1
  have hns9_0 := NB157_158.out
  have hms9_0 := NB158_157.out
  have hs10 : w6.cell? ⟨gb158, 2, none⟩ = some (.int .i64 0) := (blk_cell BK158.out 2).trans rfl
  have hfs10 := blk_frozen BK158.out 2
  have hns10_0 := NB157_158.out
  have hms10_0 := NB158_157.out
  have hs11 : w6.cell? ⟨gb158, 3, none⟩ = some (.int .i64 0) := (blk_cell BK158.out 3).trans rfl
  have hfs11 := blk_frozen BK158.out 3
  have hns11_0 := NB157_158.out
  have hms11_0 := NB158_157.out
  refine skip_ (w1 := ?_) (by rfl) rfl ?_ ?_
  rotate_left
  · go_simp
    rfl
  refine hK.out _ _ ⟨((cell_far (p := ⟨gb158, _, none⟩) NB157_158.out _).trans (((cell_far (p := ⟨gb158, _, none⟩) NB157_158.out _).trans (((cell_far (p := ⟨gb158, _, none⟩) NB157_158.out _).trans (((cell_far (p := ⟨gb158, _, none⟩) NB157_158.out _).trans (hHeld.1)))))))), ((cell_far (p := ⟨gb158, _, none⟩) NB157_158.out _).trans (((cell_far (p := ⟨gb158, _, none⟩) NB157_158.out _).trans (((cell_far (p := ⟨gb158, _, none⟩) NB157_158.out _).trans (((cell_far (p := ⟨gb158, _, none⟩) NB157_158.out _).trans (hHeld.2.1)))))))), ((cell_far (p := ⟨gb158, _, none⟩) NB157_158.out _).trans (((cell_far (p := ⟨gb158, _, none⟩) NB157_158.out _).trans (((cell_far (p := ⟨gb158, _, none⟩) NB157_158.out _).trans (((cell_far (p := ⟨gb158, _, none⟩) NB157_158.out _).trans (hHeld.2.2))))))))⟩ (fun hHeld => ?_)
  clear hK K
  refine done_ (done_of HT_.out (by kernel_rfl)) ?_
  try go_wp2
  refine bodyPost_ret (results_cell_row rfl _ _ gb158 32 #[.slice none 0 0, .slice Ao7 t159.length co7, .int .i64 a0_1, .int .i64 a0_2] (0, 0) _ rfl (by (with_reducible repeat (first | refine blk_drewN ?_ _ | refine blk_drew ?_ | refine blk_alloc ?_ _)); refine blk_put (cs := #[.slice none 0 0, .slice Ao7 t159.length co7, .int .i64 a0_1, .int .i64 0]) ?_ 3 _ rfl; (with_reducible repeat (first | refine blk_drewN ?_ _ | refine blk_drew ?_ | refine blk_alloc ?_ _)); refine blk_put (cs := #[.slice none 0 0, .slice Ao7 t159.length co7, .int .i64 0, .int .i64 0]) ?_ 2 _ rfl; (with_reducible repeat (first | refine blk_drewN ?_ _ | refine blk_drew ?_ | refine blk_alloc ?_ _)); refine blk_put (cs := #[.slice none 0 0, .slice none 0 0, .int .i64 0, .int .i64 0]) ?_ 1 _ rfl; (with_reducible repeat (first | refine blk_drewN ?_ _ | refine blk_drew ?_ | refine blk_alloc ?_ _)); refine blk_put (cs := #[.slice none 0 0, .slice none 0 0, .int .i64 0, .int .i64 0]) ?_ 0 _ rfl; (with_reducible repeat (first | refine blk_drewN ?_ _ | refine blk_drew ?_ | refine blk_alloc ?_ _)); exact BK158.out) Try.underlying32 rfl (by kernel_rfl)) rfl ?_
  exact ⟨_, _, by first | rfl | (simp [errW_none, errW_some] <;> rfl) | (simp [*, errW_none, errW_some] <;> rfl), by first | exact Kd.R_nil _ _ _ _ _ | exact Kd.N_nil _ _ _ _ _ | exact Kd.V_nil _ _ _ _ _ | exact Kd.Q_nil _ _ _ _ _ | exact Kd.S_nil _ _ _ _ _, by (with_reducible repeat (first | apply Kd.R_alloc | apply Kd.R_drewN | apply Kd.R_drew)); exact Kd.R_mono (Kd.R_far (p := ⟨gb158, 3, none⟩) (Kd.R_far (p := ⟨gb158, 2, none⟩) (Kd.R_far (p := ⟨gb158, 1, none⟩) (Kd.R_far (p := ⟨gb158, 0, none⟩) (Kd.R_types HO161.out BK158.out (by decide)) (fun _ hk => hk.2) (.slice none 0 0)) (fun _ hk => hk.2) (.slice Ao7 t159.length co7)) (fun _ hk => hk.2) (.int .i64 a0_1)) (fun _ hk => hk.2) (.int .i64 a0_2)) (fun _ hk => trivial), by repeat (first | (with_reducible first | exact HB.out | apply below_alloc | apply pw_below_drewN | apply below_drew1 | refine below_set ?_ GE157.out | refine below_set ?_ GE158.out) | exact HB.out)⟩
mutual
def tithebarnref16_Same.j0 : Nat → Bool → List (S36) → Int → Int → List (S36) → Int → Int → Option (Bool)
  | 0, _, _, _, _, _, _, _ => none
  | k + 1, x26, x163000, x163001, x163002, x164000, x164001, x164002 => if x26 = true then (some false) else (tithebarnref16_Same.l0 k 0 x163000 x163001 x163002 x164000 x164001 x164002)
def tithebarnref16_Same.l0 : Nat → Int → List (S36) → Int → Int → List (S36) → Int → Int → Option (Bool)
  | 0, _, _, _, _, _, _, _ => none
  | k + 1, x5, x163000, x163001, x163002, x164000, x164001, x164002 => if x5 < (x163000.length : Int) then (if 0 ≤ x5 then (if x5 < (x164000.length : Int) then (if (!(((rd_T36 x163000 x5).f0) == ((rd_T36 x164000 x5).f0)) || (!(((rd_T36 x163000 x5).f1) == ((rd_T36 x164000 x5).f1)) || ((!(((rd_T36 x163000 x5).f2.f0) == ((rd_T36 x164000 x5).f2.f0)) || (!(((rd_T36 x163000 x5).f2.f1) == ((rd_T36 x164000 x5).f2.f1)) || (!((((rd_T36 x163000 x5).f2.f2).toList) == (((rd_T36 x164000 x5).f2.f2).toList))))) || ((!(((rd_T36 x163000 x5).f3.f0) == ((rd_T36 x164000 x5).f3.f0)) || (!(((rd_T36 x163000 x5).f3.f1) == ((rd_T36 x164000 x5).f3.f1)) || (!((((rd_T36 x163000 x5).f3.f2).toList) == (((rd_T36 x164000 x5).f3.f2).toList))))))))) = true then (some false) else (tithebarnref16_Same.l0 k (wrap64 (x5 + 1)) x163000 x163001 x163002 x164000 x164001 x164002)) else (none)) else (none)) else (some true)
end
def tithebarnref16_Same.f (k : Nat) (l0_0 : List (S36)) (a0_1 : Int) (a0_2 : Int) (l1_0 : List (S36)) (a1_1 : Int) (a1_2 : Int) : Option (Bool) := if a0_1 = a1_1 then (if a0_2 = a1_2 then (tithebarnref16_Same.j0 k ((l0_0.length : Int) != (l1_0.length : Int)) l0_0 a0_1 a0_2 l1_0 a1_1 a1_2) else (tithebarnref16_Same.j0 k true l0_0 a0_1 a0_2 l1_0 a1_1 a1_2)) else (tithebarnref16_Same.j0 k true l0_0 a0_1 a0_2 l1_0 a1_1 a1_2)
theorem tithebarnref16_Same.mono_l : ∀ k, (∀ y0 y1 y2 y3 y4 y5 y6, LeO (tithebarnref16_Same.j0 k y0 y1 y2 y3 y4 y5 y6) (tithebarnref16_Same.j0 (k + 1) y0 y1 y2 y3 y4 y5 y6)) ∧ (∀ y0 y1 y2 y3 y4 y5 y6, LeO (tithebarnref16_Same.l0 k y0 y1 y2 y3 y4 y5 y6) (tithebarnref16_Same.l0 (k + 1) y0 y1 y2 y3 y4 y5 y6))
  | 0 => ⟨fun _ _ _ _ _ _ _ r h => by simp [tithebarnref16_Same.j0] at h, fun _ _ _ _ _ _ _ r h => by simp [tithebarnref16_Same.l0] at h⟩
  | k + 1 => by
    obtain ⟨ih0, ih1⟩ := tithebarnref16_Same.mono_l k
    refine ⟨?_, ?_⟩
    · intro y0 y1 y2 y3 y4 y5 y6
      unfold tithebarnref16_Same.j0
      repeat' first
      | (with_reducible exact ih0 _ _ _ _ _ _ _)
      | (with_reducible exact ih1 _ _ _ _ _ _ _)
      | (with_reducible exact LeO.refl _)
      | (with_reducible exact LeO.none _)
      | (with_reducible refine LeO.ite ?_ ?_)
      | (with_reducible refine LeO.bind ?_ (fun _ => ?_))
      | exact ih0 _ _ _ _ _ _ _
      | exact ih1 _ _ _ _ _ _ _
      | exact LeO.none _
      | refine LeO.ite ?_ ?_
      | refine LeO.bind ?_ (fun _ => ?_)
    · intro y0 y1 y2 y3 y4 y5 y6
      unfold tithebarnref16_Same.l0
      repeat' first
      | (with_reducible exact ih0 _ _ _ _ _ _ _)
      | (with_reducible exact ih1 _ _ _ _ _ _ _)
      | (with_reducible exact LeO.refl _)
      | (with_reducible exact LeO.none _)
      | (with_reducible refine LeO.ite ?_ ?_)
      | (with_reducible refine LeO.bind ?_ (fun _ => ?_))
      | exact ih0 _ _ _ _ _ _ _
      | exact ih1 _ _ _ _ _ _ _
      | exact LeO.none _
      | refine LeO.ite ?_ ?_
      | refine LeO.bind ?_ (fun _ => ?_)
theorem tithebarnref16_Same.mono : ∀ a0 a1 a2 a3 a4 a5 k, LeO (tithebarnref16_Same.f k a0 a1 a2 a3 a4 a5) (tithebarnref16_Same.f (k + 1) a0 a1 a2 a3 a4 a5) := by
  intro a0 a1 a2 a3 a4 a5 k
  obtain ⟨ih0, ih1⟩ := tithebarnref16_Same.mono_l k
  unfold tithebarnref16_Same.f
  repeat' first
      | (with_reducible exact ih0 _ _ _ _ _ _ _)
      | (with_reducible exact ih1 _ _ _ _ _ _ _)
      | (with_reducible exact LeO.refl _)
      | (with_reducible exact LeO.none _)
      | (with_reducible refine LeO.ite ?_ ?_)
      | (with_reducible refine LeO.bind ?_ (fun _ => ?_))
      | exact ih0 _ _ _ _ _ _ _
      | exact ih1 _ _ _ _ _ _ _
      | exact LeO.none _
      | refine LeO.ite ?_ ?_
      | refine LeO.bind ?_ (fun _ => ?_)
set_option maxHeartbeats 8000000 in
set_option maxRecDepth 100000 in
theorem tithebarnref16_Same.calls (k : Nat) (A0_0 : Option Addr) (c0_0 : Nat) (l0_0 : List (S36)) (a0_1 : Int) (a0_2 : Int) (A1_0 : Option Addr) (c1_0 : Nat) (l1_0 : List (S36)) (a1_1 : Int) (a1_2 : Int) (r : Bool) (w : World) (hr0_0 : Kd.C k36 w A0_0 l0_0.length l0_0) (hc0_0 : l0_0.length ≤ c0_0) (hr1_0 : Kd.C k36 w A1_0 l1_0.length l1_0) (hc1_0 : l1_0.length ≤ c1_0) (h : tithebarnref16_Same.f k l0_0 a0_1 a0_2 l1_0 a1_1 a1_2 = some r) :
    Calls Try.prog 11 #[.agg #[.slice A0_0 l0_0.length c0_0, .int .i64 a0_1, .int .i64 a0_2], .agg #[.slice A1_0 l1_0.length c1_0, .int .i64 a1_1, .int .i64 a1_2]] w fun e w' => e = .returned (.bool r) ∧ Below w.heap.size w w' := by
  have hu26 := Try.underlying26
  have hu36 := Try.underlying36
  have HR0_0 := Aside0.mk hr0_0
  have HC0_0 := Aside0.mk hc0_0
  clear hr0_0 hc0_0
  have HR1_0 := Aside0.mk hr1_0
  have HC1_0 := Aside0.mk hc1_0
  clear hr1_0 hc1_0
  have HB := Aside0.mk (Below.refl w.heap.size w)
  have H : (if a0_1 = a1_1 then (if a0_2 = a1_2 then (tithebarnref16_Same.j0 k ((l0_0.length : Int) != (l1_0.length : Int)) l0_0 a0_1 a0_2 l1_0 a1_1 a1_2) else (tithebarnref16_Same.j0 k true l0_0 a0_1 a0_2 l1_0 a1_1 a1_2)) else (tithebarnref16_Same.j0 k true l0_0 a0_1 a0_2 l1_0 a1_1 a1_2)) = some r := h
  clear h
  have HC3 := Aside0.mk H
  clear H
  go_enter Try.func11, Try.ntmps11
  go_upto_region 1 with (first | ((with_reducible refine gate_dst (N := 2) rfl ?_); (try (refine gate_guard (by rfl) ?_; dsimp only)); refine box_event ?hg (N := 2) ?hd (cs := #[.slice A0_0 l0_0.length c0_0, .int .i64 a0_1, .int .i64 a0_2]) (t := 26) ?hr ?_; (case hd => rfl); (case hg => rfl); (case hr => first | (go_simp; done) | (go_simp; rfl)); intro gb162 hg w4 hbox hb; have n0_ := Aside0.mk (below_step (by repeat (first | (with_reducible first | exact HB.out | apply below_alloc | apply pw_below_drewN | apply below_drew1) | exact HB.out)) hb); have n1_ := Aside0.mk (hbox); have n2_ := Aside0.mk ((by rw [hg]; exact (below_size (by repeat (first | (with_reducible first | exact HB.out | apply below_alloc | apply pw_below_drewN | apply below_drew1) | exact HB.out))) : w.heap.size ≤ gb162)); have n3_ := Aside0.mk ((by rw [hg]; exact (below_size (by repeat (first | (with_reducible first | exact HB.out | apply below_alloc | apply pw_below_drewN | apply below_drew1) | exact HB.out))) : w.heap.size ≤ gb162)); clear HB; have HB := n0_; have BK162 := n1_; have GW162 := n2_; have GE162 := n3_; clear n0_ n1_ n2_ n3_; clear hb hbox hg) | ((with_reducible refine gate_dst (N := 3) rfl ?_); (try (refine gate_guard (by rfl) ?_; dsimp only)); refine box_event ?hg (N := 3) ?hd (cs := #[.slice A1_0 l1_0.length c1_0, .int .i64 a1_1, .int .i64 a1_2]) (t := 26) ?hr ?_; (case hd => rfl); (case hg => rfl); (case hr => first | (go_simp; done) | (go_simp; rfl)); intro gb163 hg w5 hbox hb; have n0_ := Aside0.mk (blk_below (g := gb162) (o := .cells #[.slice A0_0 l0_0.length c0_0, .int .i64 a0_1, .int .i64 a0_2] 26 (0, 0)) (by (with_reducible repeat (first | refine blk_drewN ?_ _ | refine blk_drew ?_ | refine blk_alloc ?_ _)); exact BK162.out) hb); have n1_ := Aside0.mk (below_step (by repeat (first | (with_reducible first | exact HB.out | apply below_alloc | apply pw_below_drewN | apply below_drew1 | refine below_set ?_ GE162.out) | exact HB.out)) hb); have n2_ := Aside0.mk (hbox); have n3_ := Aside0.mk ((by rw [hg]; exact (below_size (by repeat (first | (with_reducible first | exact HB.out | apply below_alloc | apply pw_below_drewN | apply below_drew1 | refine below_set ?_ GE162.out) | exact HB.out))) : w.heap.size ≤ gb163)); have n4_ := Aside0.mk ((by rw [hg]; exact (below_size (by repeat (first | (with_reducible first | exact HB.out | apply below_alloc | apply pw_below_drewN | apply below_drew1 | refine below_set ?_ GE162.out) | exact HB.out))) : w.heap.size ≤ gb163)); have n5_ := Aside0.mk ((by rw [hg]; exact Nat.ne_of_lt (blk_lt (g := gb162) (o := .cells #[.slice A0_0 l0_0.length c0_0, .int .i64 a0_1, .int .i64 a0_2] 26 (0, 0)) (by (with_reducible repeat (first | refine blk_drewN ?_ _ | refine blk_drew ?_ | refine blk_alloc ?_ _)); exact BK162.out)) : gb162 ≠ gb163)); have n6_ := Aside0.mk ((by rw [hg]; exact Nat.ne_of_gt (blk_lt (g := gb162) (o := .cells #[.slice A0_0 l0_0.length c0_0, .int .i64 a0_1, .int .i64 a0_2] 26 (0, 0)) (by (with_reducible repeat (first | refine blk_drewN ?_ _ | refine blk_drew ?_ | refine blk_alloc ?_ _)); exact BK162.out)) : gb163 ≠ gb162)); clear BK162; clear HB; have BK162 := n0_; have HB := n1_; have BK163 := n2_; have GW163 := n3_; have GE163 := n4_; have NB162_163 := n5_; have NB163_162 := n6_; clear n0_ n1_ n2_ n3_ n4_ n5_ n6_; clear hb hbox hg))
  repeat (go_quiet (first | ((with_reducible refine gate_dst (N := 2) rfl ?_); (try (refine gate_guard (by rfl) ?_; dsimp only)); refine box_event ?hg (N := 2) ?hd (cs := #[.slice A0_0 l0_0.length c0_0, .int .i64 a0_1, .int .i64 a0_2]) (t := 26) ?hr ?_; (case hd => rfl); (case hg => rfl); (case hr => first | (go_simp; done) | (go_simp; rfl)); intro gb162 hg w4 hbox hb; have n0_ := Aside0.mk (below_step (by repeat (first | (with_reducible first | exact HB.out | apply below_alloc | apply pw_below_drewN | apply below_drew1) | exact HB.out)) hb); have n1_ := Aside0.mk (hbox); have n2_ := Aside0.mk ((by rw [hg]; exact (below_size (by repeat (first | (with_reducible first | exact HB.out | apply below_alloc | apply pw_below_drewN | apply below_drew1) | exact HB.out))) : w.heap.size ≤ gb162)); have n3_ := Aside0.mk ((by rw [hg]; exact (below_size (by repeat (first | (with_reducible first | exact HB.out | apply below_alloc | apply pw_below_drewN | apply below_drew1) | exact HB.out))) : w.heap.size ≤ gb162)); clear HB; have HB := n0_; have BK162 := n1_; have GW162 := n2_; have GE162 := n3_; clear n0_ n1_ n2_ n3_; clear hb hbox hg) | ((with_reducible refine gate_dst (N := 3) rfl ?_); (try (refine gate_guard (by rfl) ?_; dsimp only)); refine box_event ?hg (N := 3) ?hd (cs := #[.slice A1_0 l1_0.length c1_0, .int .i64 a1_1, .int .i64 a1_2]) (t := 26) ?hr ?_; (case hd => rfl); (case hg => rfl); (case hr => first | (go_simp; done) | (go_simp; rfl)); intro gb163 hg w5 hbox hb; have n0_ := Aside0.mk (blk_below (g := gb162) (o := .cells #[.slice A0_0 l0_0.length c0_0, .int .i64 a0_1, .int .i64 a0_2] 26 (0, 0)) (by (with_reducible repeat (first | refine blk_drewN ?_ _ | refine blk_drew ?_ | refine blk_alloc ?_ _)); exact BK162.out) hb); have n1_ := Aside0.mk (below_step (by repeat (first | (with_reducible first | exact HB.out | apply below_alloc | apply pw_below_drewN | apply below_drew1 | refine below_set ?_ GE162.out) | exact HB.out)) hb); have n2_ := Aside0.mk (hbox); have n3_ := Aside0.mk ((by rw [hg]; exact (below_size (by repeat (first | (with_reducible first | exact HB.out | apply below_alloc | apply pw_below_drewN | apply below_drew1 | refine below_set ?_ GE162.out) | exact HB.out))) : w.heap.size ≤ gb163)); have n4_ := Aside0.mk ((by rw [hg]; exact (below_size (by repeat (first | (with_reducible first | exact HB.out | apply below_alloc | apply pw_below_drewN | apply below_drew1 | refine below_set ?_ GE162.out) | exact HB.out))) : w.heap.size ≤ gb163)); have n5_ := Aside0.mk ((by rw [hg]; exact Nat.ne_of_lt (blk_lt (g := gb162) (o := .cells #[.slice A0_0 l0_0.length c0_0, .int .i64 a0_1, .int .i64 a0_2] 26 (0, 0)) (by (with_reducible repeat (first | refine blk_drewN ?_ _ | refine blk_drew ?_ | refine blk_alloc ?_ _)); exact BK162.out)) : gb162 ≠ gb163)); have n6_ := Aside0.mk ((by rw [hg]; exact Nat.ne_of_gt (blk_lt (g := gb162) (o := .cells #[.slice A0_0 l0_0.length c0_0, .int .i64 a0_1, .int .i64 a0_2] 26 (0, 0)) (by (with_reducible repeat (first | refine blk_drewN ?_ _ | refine blk_drew ?_ | refine blk_alloc ?_ _)); exact BK162.out)) : gb163 ≠ gb162)); clear BK162; clear HB; have BK162 := n0_; have HB := n1_; have BK163 := n2_; have GW163 := n3_; have GE163 := n4_; have NB162_163 := n5_; have NB163_162 := n6_; clear n0_ n1_ n2_ n3_ n4_ n5_ n6_; clear hb hbox hg)); go_upto_region 1 with (first | ((with_reducible refine gate_dst (N := 2) rfl ?_); (try (refine gate_guard (by rfl) ?_; dsimp only)); refine box_event ?hg (N := 2) ?hd (cs := #[.slice A0_0 l0_0.length c0_0, .int .i64 a0_1, .int .i64 a0_2]) (t := 26) ?hr ?_; (case hd => rfl); (case hg => rfl); (case hr => first | (go_simp; done) | (go_simp; rfl)); intro gb162 hg w4 hbox hb; have n0_ := Aside0.mk (below_step (by repeat (first | (with_reducible first | exact HB.out | apply below_alloc | apply pw_below_drewN | apply below_drew1) | exact HB.out)) hb); have n1_ := Aside0.mk (hbox); have n2_ := Aside0.mk ((by rw [hg]; exact (below_size (by repeat (first | (with_reducible first | exact HB.out | apply below_alloc | apply pw_below_drewN | apply below_drew1) | exact HB.out))) : w.heap.size ≤ gb162)); have n3_ := Aside0.mk ((by rw [hg]; exact (below_size (by repeat (first | (with_reducible first | exact HB.out | apply below_alloc | apply pw_below_drewN | apply below_drew1) | exact HB.out))) : w.heap.size ≤ gb162)); clear HB; have HB := n0_; have BK162 := n1_; have GW162 := n2_; have GE162 := n3_; clear n0_ n1_ n2_ n3_; clear hb hbox hg) | ((with_reducible refine gate_dst (N := 3) rfl ?_); (try (refine gate_guard (by rfl) ?_; dsimp only)); refine box_event ?hg (N := 3) ?hd (cs := #[.slice A1_0 l1_0.length c1_0, .int .i64 a1_1, .int .i64 a1_2]) (t := 26) ?hr ?_; (case hd => rfl); (case hg => rfl); (case hr => first | (go_simp; done) | (go_simp; rfl)); intro gb163 hg w5 hbox hb; have n0_ := Aside0.mk (blk_below (g := gb162) (o := .cells #[.slice A0_0 l0_0.length c0_0, .int .i64 a0_1, .int .i64 a0_2] 26 (0, 0)) (by (with_reducible repeat (first | refine blk_drewN ?_ _ | refine blk_drew ?_ | refine blk_alloc ?_ _)); exact BK162.out) hb); have n1_ := Aside0.mk (below_step (by repeat (first | (with_reducible first | exact HB.out | apply below_alloc | apply pw_below_drewN | apply below_drew1 | refine below_set ?_ GE162.out) | exact HB.out)) hb); have n2_ := Aside0.mk (hbox); have n3_ := Aside0.mk ((by rw [hg]; exact (below_size (by repeat (first | (with_reducible first | exact HB.out | apply below_alloc | apply pw_below_drewN | apply below_drew1 | refine below_set ?_ GE162.out) | exact HB.out))) : w.heap.size ≤ gb163)); have n4_ := Aside0.mk ((by rw [hg]; exact (below_size (by repeat (first | (with_reducible first | exact HB.out | apply below_alloc | apply pw_below_drewN | apply below_drew1 | refine below_set ?_ GE162.out) | exact HB.out))) : w.heap.size ≤ gb163)); have n5_ := Aside0.mk ((by rw [hg]; exact Nat.ne_of_lt (blk_lt (g := gb162) (o := .cells #[.slice A0_0 l0_0.length c0_0, .int .i64 a0_1, .int .i64 a0_2] 26 (0, 0)) (by (with_reducible repeat (first | refine blk_drewN ?_ _ | refine blk_drew ?_ | refine blk_alloc ?_ _)); exact BK162.out)) : gb162 ≠ gb163)); have n6_ := Aside0.mk ((by rw [hg]; exact Nat.ne_of_gt (blk_lt (g := gb162) (o := .cells #[.slice A0_0 l0_0.length c0_0, .int .i64 a0_1, .int .i64 a0_2] 26 (0, 0)) (by (with_reducible repeat (first | refine blk_drewN ?_ _ | refine blk_drew ?_ | refine blk_alloc ?_ _)); exact BK162.out)) : gb163 ≠ gb162)); clear BK162; clear HB; have BK162 := n0_; have HB := n1_; have BK163 := n2_; have GW163 := n3_; have GE163 := n4_; have NB162_163 := n5_; have NB163_162 := n6_; clear n0_ n1_ n2_ n3_ n4_ n5_ n6_; clear hb hbox hg)))
  (try simp only [Act.put, List.setIfInBounds_toArray, List.set_cons_zero, List.set_cons_succ])
  go_cut [26] (fun v26 wc => ∃ (kq : Nat) (x26_2 : Bool), v26 = .bool x26_2 ∧ Aside0 (tithebarnref16_Same.j0 kq x26_2 l0_0 a0_1 a0_2 l1_0 a1_1 a1_2 = some r) ∧ Aside0 (kq ≤ k) ∧ Aside0 (wc.heap[gb162]? = some (.cells #[(.slice A0_0 l0_0.length c0_0), .int .i64 a0_1, .int .i64 a0_2] 26 (0, 0))) ∧ Aside0 (wc.heap[gb163]? = some (.cells #[(.slice A1_0 l1_0.length c1_0), .int .i64 a1_1, .int .i64 a1_2] 26 (0, 0))) ∧ Aside0 (Below w.heap.size w wc))
  case first =>
    have H := HC3.out
    clear HC3
    by_cases c6 : a0_1 = a1_1
    · rw [if_pos c6] at H
      have c6b0 : (a0_1 == a1_1) = true := beq_iff_eq.mpr c6
      have c6b1 : (a0_1 != a1_1) = false := bne_eq_false_iff_eq.mpr c6
      clear c6
      (first | rw [c6b0] | (simp only [i64_w, i32_w]; rw [c6b0]) | skip)
      by_cases c7 : a0_2 = a1_2
      · rw [if_pos c7] at H
        have c7b0 : (a0_2 == a1_2) = true := beq_iff_eq.mpr c7
        have c7b1 : (a0_2 != a1_2) = false := bne_eq_false_iff_eq.mpr c7
        clear c7
        have H' := Aside0.mk H
        clear H
        have hnb8 := NB162_163.out
        have hnc8 := NB163_162.out
        have hcz9_0 : w5.cell? ⟨gb162, 0, none⟩ = some (.slice A0_0 l0_0.length c0_0) := (blk_cell BK162.out 0).trans rfl
        have hcz9_1 : w5.cell? ⟨gb162, 1, none⟩ = some (.int .i64 a0_1) := (blk_cell BK162.out 1).trans rfl
        have hcz9_2 : w5.cell? ⟨gb162, 2, none⟩ = some (.int .i64 a0_2) := (blk_cell BK162.out 2).trans rfl
        have hfz9_0 := blk_frozen BK162.out 0
        have hfz9_1 := blk_frozen BK162.out 1
        have hfz9_2 := blk_frozen BK162.out 2
        have hcz10_0 : w5.cell? ⟨gb163, 0, none⟩ = some (.slice A1_0 l1_0.length c1_0) := (blk_cell BK163.out 0).trans rfl
        have hcz10_1 : w5.cell? ⟨gb163, 1, none⟩ = some (.int .i64 a1_1) := (blk_cell BK163.out 1).trans rfl
        have hcz10_2 : w5.cell? ⟨gb163, 2, none⟩ = some (.int .i64 a1_2) := (blk_cell BK163.out 2).trans rfl
        have hfz10_0 := blk_frozen BK163.out 0
        have hfz10_1 := blk_frozen BK163.out 1
        have hfz10_2 := blk_frozen BK163.out 2
        go_wp2
        repeat (go_quiet (fail); try go_wp2)
        go_meet
        case rel => exact ⟨_, (((l0_0.length : Int) != (l1_0.length : Int))), (by first | rfl | (simp; done) | (simp [*]; done)), H', ⟨by first | omega | exact Nat.le_refl _⟩, ⟨by (with_reducible repeat (first | refine blk_drewN ?_ _ | refine blk_drew ?_ | refine blk_alloc ?_ _)); exact BK162.out⟩, ⟨by (with_reducible repeat (first | refine blk_drewN ?_ _ | refine blk_drew ?_ | refine blk_alloc ?_ _)); exact BK163.out⟩, ⟨by repeat (first | (with_reducible first | exact HB.out | apply below_alloc | apply pw_below_drewN | apply below_drew1 | refine below_set ?_ GE162.out | refine below_set ?_ GE163.out) | exact HB.out)⟩⟩
      · rw [if_neg c7] at H
        have c7b0 : (a0_2 == a1_2) = false := beq_eq_false_iff_ne.mpr c7
        have c7b1 : (a0_2 != a1_2) = true := bne_iff_ne.mpr c7
        have H' := Aside0.mk H
        clear H
        have hnb11 := NB162_163.out
        have hnc11 := NB163_162.out
        have hcz12_0 : w5.cell? ⟨gb162, 0, none⟩ = some (.slice A0_0 l0_0.length c0_0) := (blk_cell BK162.out 0).trans rfl
        have hcz12_1 : w5.cell? ⟨gb162, 1, none⟩ = some (.int .i64 a0_1) := (blk_cell BK162.out 1).trans rfl
        have hcz12_2 : w5.cell? ⟨gb162, 2, none⟩ = some (.int .i64 a0_2) := (blk_cell BK162.out 2).trans rfl
        have hfz12_0 := blk_frozen BK162.out 0
        have hfz12_1 := blk_frozen BK162.out 1
        have hfz12_2 := blk_frozen BK162.out 2
        have hcz13_0 : w5.cell? ⟨gb163, 0, none⟩ = some (.slice A1_0 l1_0.length c1_0) := (blk_cell BK163.out 0).trans rfl
        have hcz13_1 : w5.cell? ⟨gb163, 1, none⟩ = some (.int .i64 a1_1) := (blk_cell BK163.out 1).trans rfl
        have hcz13_2 : w5.cell? ⟨gb163, 2, none⟩ = some (.int .i64 a1_2) := (blk_cell BK163.out 2).trans rfl
        have hfz13_0 := blk_frozen BK163.out 0
        have hfz13_1 := blk_frozen BK163.out 1
        have hfz13_2 := blk_frozen BK163.out 2
        go_wp2
        repeat (go_quiet (fail); try go_wp2)
        go_meet
        case rel => exact ⟨_, (true), (by first | rfl | (simp; done) | (simp [*]; done)), H', ⟨by first | omega | exact Nat.le_refl _⟩, ⟨by (with_reducible repeat (first | refine blk_drewN ?_ _ | refine blk_drew ?_ | refine blk_alloc ?_ _)); exact BK162.out⟩, ⟨by (with_reducible repeat (first | refine blk_drewN ?_ _ | refine blk_drew ?_ | refine blk_alloc ?_ _)); exact BK163.out⟩, ⟨by repeat (first | (with_reducible first | exact HB.out | apply below_alloc | apply pw_below_drewN | apply below_drew1 | refine below_set ?_ GE162.out | refine below_set ?_ GE163.out) | exact HB.out)⟩⟩
    · rw [if_neg c6] at H
      have c6b0 : (a0_1 == a1_1) = false := beq_eq_false_iff_ne.mpr c6
      have c6b1 : (a0_1 != a1_1) = true := bne_iff_ne.mpr c6
      (first | rw [c6b0] | (simp only [i64_w, i32_w]; rw [c6b0]) | skip)
      have H' := Aside0.mk H
      clear H
      have hnb14 := NB162_163.out
      have hnc14 := NB163_162.out
      have hcz15_0 : w5.cell? ⟨gb162, 0, none⟩ = some (.slice A0_0 l0_0.length c0_0) := (blk_cell BK162.out 0).trans rfl
      have hcz15_1 : w5.cell? ⟨gb162, 1, none⟩ = some (.int .i64 a0_1) := (blk_cell BK162.out 1).trans rfl
      have hcz15_2 : w5.cell? ⟨gb162, 2, none⟩ = some (.int .i64 a0_2) := (blk_cell BK162.out 2).trans rfl
      have hfz15_0 := blk_frozen BK162.out 0
      have hfz15_1 := blk_frozen BK162.out 1
      have hfz15_2 := blk_frozen BK162.out 2
      have hcz16_0 : w5.cell? ⟨gb163, 0, none⟩ = some (.slice A1_0 l1_0.length c1_0) := (blk_cell BK163.out 0).trans rfl
      have hcz16_1 : w5.cell? ⟨gb163, 1, none⟩ = some (.int .i64 a1_1) := (blk_cell BK163.out 1).trans rfl
      have hcz16_2 : w5.cell? ⟨gb163, 2, none⟩ = some (.int .i64 a1_2) := (blk_cell BK163.out 2).trans rfl
      have hfz16_0 := blk_frozen BK163.out 0
      have hfz16_1 := blk_frozen BK163.out 1
      have hfz16_2 := blk_frozen BK163.out 2
      go_wp2
      repeat (go_quiet (fail); try go_wp2)
      go_meet
      case rel => exact ⟨_, (true), (by first | rfl | (simp; done) | (simp [*]; done)), H', ⟨by first | omega | exact Nat.le_refl _⟩, ⟨by (with_reducible repeat (first | refine blk_drewN ?_ _ | refine blk_drew ?_ | refine blk_alloc ?_ _)); exact BK162.out⟩, ⟨by (with_reducible repeat (first | refine blk_drewN ?_ _ | refine blk_drew ?_ | refine blk_alloc ?_ _)); exact BK163.out⟩, ⟨by repeat (first | (with_reducible first | exact HB.out | apply below_alloc | apply pw_below_drewN | apply below_drew1 | refine below_set ?_ GE162.out | refine below_set ?_ GE163.out) | exact HB.out)⟩⟩
  case rest =>
    clear HC3
    try clear c1
    try clear p2
    try clear c6
    try clear c6b0
    try clear c6b1
    try clear c7
    try clear c7b0
    try clear c7b1
    try clear c8
    try clear c11
    try clear c14
    try clear hcz10_0
    try clear hcz10_1
    try clear hcz10_2
    try clear hcz12_0
    try clear hcz12_1
    try clear hcz12_2
    try clear hcz13_0
    try clear hcz13_1
    try clear hcz13_2
    try clear hcz15_0
    try clear hcz15_1
    try clear hcz15_2
    try clear hcz16_0
    try clear hcz16_1
    try clear hcz16_2
    try clear hcz9_0
    try clear hcz9_1
    try clear hcz9_2
    try clear hfz10_0
    try clear hfz10_1
    try clear hfz10_2
    try clear hfz12_0
    try clear hfz12_1
    try clear hfz12_2
    try clear hfz13_0
    try clear hfz13_1
    try clear hfz13_2
    try clear hfz15_0
    try clear hfz15_1
    try clear hfz15_2
    try clear hfz16_0
    try clear hfz16_1
    try clear hfz16_2
    try clear hfz9_0
    try clear hfz9_1
    try clear hfz9_2
    obtain ⟨kq, x26_2, rfl, HA, HJ2, BK162, BK163, HB⟩ := hcut
    cases kq with
    | zero => exact absurd HA.out (by simp [tithebarnref16_Same.j0])
    | succ kj2 =>
      have H := HA.out
      clear HA
      simp only [tithebarnref16_Same.j0] at H
      by_cases c17 : x26_2 = true
      · subst c17
        have H1 : (some false) = some r := by rw [if_pos rfl] at H; exact H
        clear H
        have H := H1
        clear H1
        obtain rfl := Option.some.inj H
        go_wp2
        repeat (go_quiet (fail); try go_wp2)
        go_ret
        exact ⟨by first | rfl | (simp [errW_none, errW_some] <;> rfl) | (simp [*, errW_none, errW_some] <;> rfl), by repeat (first | (with_reducible first | exact HB.out | apply below_alloc | apply pw_below_drewN | apply below_drew1 | refine below_set ?_ GE162.out | refine below_set ?_ GE163.out) | exact HB.out)⟩
      · replace c17 := Bool.eq_false_iff.mpr c17
        subst c17
        have H1 : (tithebarnref16_Same.l0 kj2 0 l0_0 a0_1 a0_2 l1_0 a1_1 a1_2) = some r := by rw [if_neg (show ¬ (false = true) by decide)] at H; exact H
        clear H
        have H := H1
        clear H1
        have H' := Aside0.mk H
        clear H
        go_wp2
        repeat (go_quiet (fail); try go_wp2)
        go_loopg [5] kj2 (fun kq v5 w' => ∃ (x5_2 : Int), v5 = .int .i64 x5_2 ∧ Aside0 (tithebarnref16_Same.l0 kq x5_2 l0_0 a0_1 a0_2 l1_0 a1_1 a1_2 = some r) ∧ Aside0 (kq ≤ kj2) ∧ Aside0 (w'.heap[gb162]? = some (.cells #[(.slice A0_0 l0_0.length c0_0), .int .i64 a0_1, .int .i64 a0_2] 26 (0, 0))) ∧ Aside0 (w'.heap[gb163]? = some (.cells #[(.slice A1_0 l1_0.length c1_0), .int .i64 a1_1, .int .i64 a1_2] 26 (0, 0))) ∧ Aside0 (Below w.heap.size w w'))
        case atStart => exact ⟨(0), (by first | rfl | (simp; done) | (simp [*]; done)), H', ⟨Nat.le_refl _⟩, ⟨by (with_reducible repeat (first | refine blk_drewN ?_ _ | refine blk_drew ?_ | refine blk_alloc ?_ _)); exact BK162.out⟩, ⟨by (with_reducible repeat (first | refine blk_drewN ?_ _ | refine blk_drew ?_ | refine blk_alloc ?_ _)); exact BK163.out⟩, ⟨by repeat (first | (with_reducible first | exact HB.out | apply below_alloc | apply pw_below_drewN | apply below_drew1 | refine below_set ?_ GE162.out | refine below_set ?_ GE163.out) | exact HB.out)⟩⟩
        case round =>
          clear H'
          try clear c1
          try clear p2
          try clear c6
          try clear c6b0
          try clear c6b1
          try clear c7
          try clear c7b0
          try clear c7b1
          try clear c8
          try clear c11
          try clear c14
          try clear c17
          try clear hcz10_0
          try clear hcz10_1
          try clear hcz10_2
          try clear hcz12_0
          try clear hcz12_1
          try clear hcz12_2
          try clear hcz13_0
          try clear hcz13_1
          try clear hcz13_2
          try clear hcz15_0
          try clear hcz15_1
          try clear hcz15_2
          try clear hcz16_0
          try clear hcz16_1
          try clear hcz16_2
          try clear hcz9_0
          try clear hcz9_1
          try clear hcz9_2
          try clear hfz10_0
          try clear hfz10_1
          try clear hfz10_2
          try clear hfz12_0
          try clear hfz12_1
          try clear hfz12_2
          try clear hfz13_0
          try clear hfz13_1
          try clear hfz13_2
          try clear hfz15_0
          try clear hfz15_1
          try clear hfz15_2
          try clear hfz16_0
          try clear hfz16_1
          try clear hfz16_2
          try clear hfz9_0
          try clear hfz9_1
          try clear hfz9_2
          try clear p2
          obtain ⟨x5_2, rfl, HA, HK2, BK162, BK163, HB⟩ := hrel
          cases gk with
          | zero => exact absurd HA.out (by simp [tithebarnref16_Same.l0])
          | succ k2 =>
            have H := HA.out
            clear HA
            simp only [tithebarnref16_Same.l0] at H
            by_cases c18 : x5_2 < (l0_0.length : Int)
            · rw [if_pos c18] at H
              have c18b0 : decide (x5_2 < (l0_0.length : Int)) = true := decide_eq_true c18
              clear c18
              by_cases c19 : 0 ≤ x5_2
              · rw [if_pos c19] at H
                have c19b0 : decide (0 ≤ x5_2) = true := decide_eq_true c19
                clear c19
                by_cases c20 : x5_2 < (l1_0.length : Int)
                · rw [if_pos c20] at H
                  have c20b0 : decide (x5_2 < (l1_0.length : Int)) = true := decide_eq_true c20
                  clear c20
                  by_cases c21 : (!(((rd_T36 l0_0 x5_2).f0) == ((rd_T36 l1_0 x5_2).f0)) || (!(((rd_T36 l0_0 x5_2).f1) == ((rd_T36 l1_0 x5_2).f1)) || ((!(((rd_T36 l0_0 x5_2).f2.f0) == ((rd_T36 l1_0 x5_2).f2.f0)) || (!(((rd_T36 l0_0 x5_2).f2.f1) == ((rd_T36 l1_0 x5_2).f2.f1)) || (!((((rd_T36 l0_0 x5_2).f2.f2).toList) == (((rd_T36 l1_0 x5_2).f2.f2).toList))))) || ((!(((rd_T36 l0_0 x5_2).f3.f0) == ((rd_T36 l1_0 x5_2).f3.f0)) || (!(((rd_T36 l0_0 x5_2).f3.f1) == ((rd_T36 l1_0 x5_2).f3.f1)) || (!((((rd_T36 l0_0 x5_2).f3.f2).toList) == (((rd_T36 l1_0 x5_2).f3.f2).toList))))))))) = true
                  · rw [if_pos c21] at H
                    have c21b0 : (!(((rd_T36 l0_0 x5_2).f0) == ((rd_T36 l1_0 x5_2).f0)) || (!(((rd_T36 l0_0 x5_2).f1) == ((rd_T36 l1_0 x5_2).f1)) || ((!(((rd_T36 l0_0 x5_2).f2.f0) == ((rd_T36 l1_0 x5_2).f2.f0)) || (!(((rd_T36 l0_0 x5_2).f2.f1) == ((rd_T36 l1_0 x5_2).f2.f1)) || (!((((rd_T36 l0_0 x5_2).f2.f2).toList) == (((rd_T36 l1_0 x5_2).f2.f2).toList))))) || ((!(((rd_T36 l0_0 x5_2).f3.f0) == ((rd_T36 l1_0 x5_2).f3.f0)) || (!(((rd_T36 l0_0 x5_2).f3.f1) == ((rd_T36 l1_0 x5_2).f3.f1)) || (!((((rd_T36 l0_0 x5_2).f3.f2).toList) == (((rd_T36 l1_0 x5_2).f3.f2).toList))))))))) = true := c21
                    clear c21
                    obtain rfl := Option.some.inj H
                    have hnb22 := NB162_163.out
                    have hnc22 := NB163_162.out
                    have hcz23_0 : wr.cell? ⟨gb162, 0, none⟩ = some (.slice A0_0 l0_0.length c0_0) := (blk_cell BK162.out 0).trans rfl
                    have hcz23_1 : wr.cell? ⟨gb162, 1, none⟩ = some (.int .i64 a0_1) := (blk_cell BK162.out 1).trans rfl
                    have hcz23_2 : wr.cell? ⟨gb162, 2, none⟩ = some (.int .i64 a0_2) := (blk_cell BK162.out 2).trans rfl
                    have hfz23_0 := blk_frozen BK162.out 0
                    have hfz23_1 := blk_frozen BK162.out 1
                    have hfz23_2 := blk_frozen BK162.out 2
                    have p164 : 0 ≤ (x5_2 : Int) := of_decide_eq_true (by first | (with_reducible assumption) | assumption)
                    have q164 : x5_2 < (l0_0.length : Int) := of_decide_eq_true (by first | (with_reducible assumption) | assumption)
                    obtain ⟨ad164, e164, hx164_0, hx164_1, hx164_2, hx164_3, hx164_4, hx164_5, hx164_6, hx164_7⟩ := at_T36 HR0_0.out x5_2 p164 q164
                    cases e164
                    replace hx164_0 := (HB.out.cell (World.block_lt_of_cell? w _ hx164_0)).trans hx164_0
                    replace hx164_1 := (HB.out.cell (World.block_lt_of_cell? w _ hx164_1)).trans hx164_1
                    replace hx164_2 := (HB.out.cell (World.block_lt_of_cell? w _ hx164_2)).trans hx164_2
                    replace hx164_3 := (HB.out.cell (World.block_lt_of_cell? w _ hx164_3)).trans hx164_3
                    replace hx164_4 := (HB.out.cell (World.block_lt_of_cell? w _ hx164_4)).trans hx164_4
                    replace hx164_5 := (HB.out.cell (World.block_lt_of_cell? w _ hx164_5)).trans hx164_5
                    replace hx164_6 := (HB.out.cell (World.block_lt_of_cell? w _ hx164_6)).trans hx164_6
                    replace hx164_7 := (HB.out.cell (World.block_lt_of_cell? w _ hx164_7)).trans hx164_7
                    replace p164 := eq_true p164
                    replace q164 := eq_true q164
                    have hcz24_0 : wr.cell? ⟨gb163, 0, none⟩ = some (.slice A1_0 l1_0.length c1_0) := (blk_cell BK163.out 0).trans rfl
                    have hcz24_1 : wr.cell? ⟨gb163, 1, none⟩ = some (.int .i64 a1_1) := (blk_cell BK163.out 1).trans rfl
                    have hcz24_2 : wr.cell? ⟨gb163, 2, none⟩ = some (.int .i64 a1_2) := (blk_cell BK163.out 2).trans rfl
                    have hfz24_0 := blk_frozen BK163.out 0
                    have hfz24_1 := blk_frozen BK163.out 1
                    have hfz24_2 := blk_frozen BK163.out 2
                    have p165 : 0 ≤ (x5_2 : Int) := of_decide_eq_true (by first | (with_reducible assumption) | assumption)
                    have q165 : x5_2 < (l1_0.length : Int) := of_decide_eq_true (by first | (with_reducible assumption) | assumption)
                    obtain ⟨ad165, e165, hx165_0, hx165_1, hx165_2, hx165_3, hx165_4, hx165_5, hx165_6, hx165_7⟩ := at_T36 HR1_0.out x5_2 p165 q165
                    cases e165
                    replace hx165_0 := (HB.out.cell (World.block_lt_of_cell? w _ hx165_0)).trans hx165_0
                    replace hx165_1 := (HB.out.cell (World.block_lt_of_cell? w _ hx165_1)).trans hx165_1
                    replace hx165_2 := (HB.out.cell (World.block_lt_of_cell? w _ hx165_2)).trans hx165_2
                    replace hx165_3 := (HB.out.cell (World.block_lt_of_cell? w _ hx165_3)).trans hx165_3
                    replace hx165_4 := (HB.out.cell (World.block_lt_of_cell? w _ hx165_4)).trans hx165_4
                    replace hx165_5 := (HB.out.cell (World.block_lt_of_cell? w _ hx165_5)).trans hx165_5
                    replace hx165_6 := (HB.out.cell (World.block_lt_of_cell? w _ hx165_6)).trans hx165_6
                    replace hx165_7 := (HB.out.cell (World.block_lt_of_cell? w _ hx165_7)).trans hx165_7
                    replace p165 := eq_true p165
                    replace q165 := eq_true q165
                    go_wp2
                    repeat (go_quiet (fail); try go_wp2)
                    go_ret
                    exact ⟨by first | rfl | (simp [errW_none, errW_some] <;> rfl) | (simp [*, errW_none, errW_some] <;> rfl), by repeat (first | (with_reducible first | exact HB.out | apply below_alloc | apply pw_below_drewN | apply below_drew1 | refine below_set ?_ GE162.out | refine below_set ?_ GE163.out) | exact HB.out)⟩
                  · rw [if_neg c21] at H
                    have c21b0 : (!(((rd_T36 l0_0 x5_2).f0) == ((rd_T36 l1_0 x5_2).f0)) || (!(((rd_T36 l0_0 x5_2).f1) == ((rd_T36 l1_0 x5_2).f1)) || ((!(((rd_T36 l0_0 x5_2).f2.f0) == ((rd_T36 l1_0 x5_2).f2.f0)) || (!(((rd_T36 l0_0 x5_2).f2.f1) == ((rd_T36 l1_0 x5_2).f2.f1)) || (!((((rd_T36 l0_0 x5_2).f2.f2).toList) == (((rd_T36 l1_0 x5_2).f2.f2).toList))))) || ((!(((rd_T36 l0_0 x5_2).f3.f0) == ((rd_T36 l1_0 x5_2).f3.f0)) || (!(((rd_T36 l0_0 x5_2).f3.f1) == ((rd_T36 l1_0 x5_2).f3.f1)) || (!((((rd_T36 l0_0 x5_2).f3.f2).toList) == (((rd_T36 l1_0 x5_2).f3.f2).toList))))))))) = false := by simpa using c21
                    clear c21
                    have H' := Aside0.mk H
                    clear H
                    have hnb25 := NB162_163.out
                    have hnc25 := NB163_162.out
                    have hcz26_0 : wr.cell? ⟨gb162, 0, none⟩ = some (.slice A0_0 l0_0.length c0_0) := (blk_cell BK162.out 0).trans rfl
                    have hcz26_1 : wr.cell? ⟨gb162, 1, none⟩ = some (.int .i64 a0_1) := (blk_cell BK162.out 1).trans rfl
                    have hcz26_2 : wr.cell? ⟨gb162, 2, none⟩ = some (.int .i64 a0_2) := (blk_cell BK162.out 2).trans rfl
                    have hfz26_0 := blk_frozen BK162.out 0
                    have hfz26_1 := blk_frozen BK162.out 1
                    have hfz26_2 := blk_frozen BK162.out 2
                    have p164 : 0 ≤ (x5_2 : Int) := of_decide_eq_true (by first | (with_reducible assumption) | assumption)
                    have q164 : x5_2 < (l0_0.length : Int) := of_decide_eq_true (by first | (with_reducible assumption) | assumption)
                    obtain ⟨ad164, e164, hx164_0, hx164_1, hx164_2, hx164_3, hx164_4, hx164_5, hx164_6, hx164_7⟩ := at_T36 HR0_0.out x5_2 p164 q164
                    cases e164
                    replace hx164_0 := (HB.out.cell (World.block_lt_of_cell? w _ hx164_0)).trans hx164_0
                    replace hx164_1 := (HB.out.cell (World.block_lt_of_cell? w _ hx164_1)).trans hx164_1
                    replace hx164_2 := (HB.out.cell (World.block_lt_of_cell? w _ hx164_2)).trans hx164_2
                    replace hx164_3 := (HB.out.cell (World.block_lt_of_cell? w _ hx164_3)).trans hx164_3
                    replace hx164_4 := (HB.out.cell (World.block_lt_of_cell? w _ hx164_4)).trans hx164_4
                    replace hx164_5 := (HB.out.cell (World.block_lt_of_cell? w _ hx164_5)).trans hx164_5
                    replace hx164_6 := (HB.out.cell (World.block_lt_of_cell? w _ hx164_6)).trans hx164_6
                    replace hx164_7 := (HB.out.cell (World.block_lt_of_cell? w _ hx164_7)).trans hx164_7
                    replace p164 := eq_true p164
                    replace q164 := eq_true q164
                    have hcz27_0 : wr.cell? ⟨gb163, 0, none⟩ = some (.slice A1_0 l1_0.length c1_0) := (blk_cell BK163.out 0).trans rfl
                    have hcz27_1 : wr.cell? ⟨gb163, 1, none⟩ = some (.int .i64 a1_1) := (blk_cell BK163.out 1).trans rfl
                    have hcz27_2 : wr.cell? ⟨gb163, 2, none⟩ = some (.int .i64 a1_2) := (blk_cell BK163.out 2).trans rfl
                    have hfz27_0 := blk_frozen BK163.out 0
                    have hfz27_1 := blk_frozen BK163.out 1
                    have hfz27_2 := blk_frozen BK163.out 2
                    have p165 : 0 ≤ (x5_2 : Int) := of_decide_eq_true (by first | (with_reducible assumption) | assumption)
                    have q165 : x5_2 < (l1_0.length : Int) := of_decide_eq_true (by first | (with_reducible assumption) | assumption)
                    obtain ⟨ad165, e165, hx165_0, hx165_1, hx165_2, hx165_3, hx165_4, hx165_5, hx165_6, hx165_7⟩ := at_T36 HR1_0.out x5_2 p165 q165
                    cases e165
                    replace hx165_0 := (HB.out.cell (World.block_lt_of_cell? w _ hx165_0)).trans hx165_0
                    replace hx165_1 := (HB.out.cell (World.block_lt_of_cell? w _ hx165_1)).trans hx165_1
                    replace hx165_2 := (HB.out.cell (World.block_lt_of_cell? w _ hx165_2)).trans hx165_2
                    replace hx165_3 := (HB.out.cell (World.block_lt_of_cell? w _ hx165_3)).trans hx165_3
                    replace hx165_4 := (HB.out.cell (World.block_lt_of_cell? w _ hx165_4)).trans hx165_4
                    replace hx165_5 := (HB.out.cell (World.block_lt_of_cell? w _ hx165_5)).trans hx165_5
                    replace hx165_6 := (HB.out.cell (World.block_lt_of_cell? w _ hx165_6)).trans hx165_6
                    replace hx165_7 := (HB.out.cell (World.block_lt_of_cell? w _ hx165_7)).trans hx165_7
                    replace p165 := eq_true p165
                    replace q165 := eq_true q165
                    go_wp2
                    repeat (go_quiet (fail); try go_wp2)
                    go_roundg k2
                    case measure => have := HJ2.out; have := HK2.out; omega
                    case rel => exact ⟨(wrap64 (x5_2 + 1)), (by first | rfl | (simp; done) | (simp [*]; done)), H', ⟨by have := HJ2.out; have := HK2.out; omega⟩, ⟨by (with_reducible repeat (first | refine blk_drewN ?_ _ | refine blk_drew ?_ | refine blk_alloc ?_ _)); exact BK162.out⟩, ⟨by (with_reducible repeat (first | refine blk_drewN ?_ _ | refine blk_drew ?_ | refine blk_alloc ?_ _)); exact BK163.out⟩, ⟨by repeat (first | (with_reducible first | exact HB.out | apply below_alloc | apply pw_below_drewN | apply below_drew1 | refine below_set ?_ GE162.out | refine below_set ?_ GE163.out) | exact HB.out)⟩⟩
                · rw [if_neg c20] at H
                  exact absurd H (by simp)
              · rw [if_neg c19] at H
                exact absurd H (by simp)
            · rw [if_neg c18] at H
              have c18b0 : decide (x5_2 < (l0_0.length : Int)) = false := decide_eq_false c18
              clear c18
              obtain rfl := Option.some.inj H
              have hnb28 := NB162_163.out
              have hnc28 := NB163_162.out
              have hcz29_0 : wr.cell? ⟨gb162, 0, none⟩ = some (.slice A0_0 l0_0.length c0_0) := (blk_cell BK162.out 0).trans rfl
              have hcz29_1 : wr.cell? ⟨gb162, 1, none⟩ = some (.int .i64 a0_1) := (blk_cell BK162.out 1).trans rfl
              have hcz29_2 : wr.cell? ⟨gb162, 2, none⟩ = some (.int .i64 a0_2) := (blk_cell BK162.out 2).trans rfl
              have hfz29_0 := blk_frozen BK162.out 0
              have hfz29_1 := blk_frozen BK162.out 1
              have hfz29_2 := blk_frozen BK162.out 2
              go_wp2
              repeat (go_quiet (fail); try go_wp2)
              go_ret
              exact ⟨by first | rfl | (simp [errW_none, errW_some] <;> rfl) | (simp [*, errW_none, errW_some] <;> rfl), by repeat (first | (with_reducible first | exact HB.out | apply below_alloc | apply pw_below_drewN | apply below_drew1 | refine below_set ?_ GE162.out | refine below_set ?_ GE163.out) | exact HB.out)⟩
end Go.Proofs.Ytagokgijffpdnaa.G
