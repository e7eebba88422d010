import Derived.Test.YtlbcpigjbjolaaaZQA
import Derived.Test.YtlbcpigjbjolaaaZG5
import Derived.Test.YtlbcpigjbjolaaaZG3
import Derived.WalkKit
import Derived.ProofKit
import Derived.OpenShut
import Derived.JoinedCond
import Derived.ShutString
import Derived.ChangeOld
import Derived.Below
import Derived.SizedLaws
import Derived.Lib.SmallJoins
import Derived.Test.YtlbcpigjbjolaaaRows
import Derived.Test.YtlbcpigjbjolaaaZWWords
namespace Go.Proofs.Ytlbcpigjbjolaaa.G
open Go.RowKit Go.Proofs.YtlbcpigjbjolaaaQ Go.Proofs.YtlbcpigjbjolaaaW.PrintWords Go.Proofs.YtlbcpigjbjolaaaW.PrintLast Go.Proofs.YtlbcpigjbjolaaaW.PrintMore
attribute [local go_sem] max2_int min2_int max_two min_two max_three min_three max_four min_four   -- for this text's walks alone
set_option linter.unusedVariables false
set_option linter.unusedSimpArgs false
def tithebarnref08_Sum.f (a0 : ByteArray) : Option Int := if a0.size ≤ 4611686018427387904 then some ((crc (bytesOf a0) : Nat) : Int) else none
theorem tithebarnref08_Sum.calls (a0 : ByteArray) (r : Int) (w : World) (h : tithebarnref08_Sum.f a0 = some r) :
  Calls Try.prog 39 #[.string a0] w fun e w' => e = .returned (.int .u32 r) ∧ Drawn0 w w' := by
 unfold tithebarnref08_Sum.f at h
 split at h
 ·rename_i hs
  obtain rfl := Option.some.inj h
  refine (RSum_calls a0 w hs).mono ?_
  rintro e w' ⟨rfl, rfl⟩
  exact ⟨rfl, Drawn0.refl _⟩
 ·exact absurd h (by simp)
def tithebarnref22_Place.j0 : Nat → Int → Int → Int → Bool → Int → ByteArray → Option (Int)
 | 0, _, _, _, _, _, _ => none
 | k + 1, x1, x2, x7, x188000, x188001, x188002 => (tithebarnref01_Uint.f k (IntKind.u64.wrap (x1))).bind fun t188 => ((tithebarnref01_Int.f k x188001).bind fun t189 => (if t188.size + t189.size ≤ 9223372036854775807 then ((tithebarnref01_Text.f k x188002).bind fun t190 => (if (t188 ++ t189).size + t190.size ≤ 9223372036854775807 then ((tithebarnref01_Uint.f k x7).bind fun t191 => (if ((t188 ++ t189) ++ t190).size + t191.size ≤ 9223372036854775807 then ((tithebarnref08_Sum.f (((t188 ++ t189) ++ t190) ++ t191)).bind fun t192 => (if (IntKind.u64.wrap (x2)) = 0 then (none) else (some (wrap64 (Int.tmod (IntKind.u64.wrap (t192)) (IntKind.u64.wrap (x2))))))) else (none))) else (none))) else (none)))
def tithebarnref22_Place.f (k : Nat) (a0_0 : Bool) (a0_1 : Int) (a0_2 : ByteArray) (a1 : Int) (a2 : Int) : Option (Int) := if a0_0 = true then (tithebarnref22_Place.j0 k a1 a2 1 a0_0 a0_1 a0_2) else (tithebarnref22_Place.j0 k a1 a2 0 a0_0 a0_1 a0_2)
theorem tithebarnref22_Place.mono_l : ∀ k, (∀ y0 y1 y2 y3 y4 y5, LeO (tithebarnref22_Place.j0 k y0 y1 y2 y3 y4 y5) (tithebarnref22_Place.j0 (k + 1) y0 y1 y2 y3 y4 y5))
 | 0 => fun _ _ _ _ _ _ r h => by simp [tithebarnref22_Place.j0] at h
 | k + 1 => by
  have ih0 := tithebarnref22_Place.mono_l k
  ·intro y0 y1 y2 y3 y4 y5
   unfold tithebarnref22_Place.j0
   repeat' first
   | (with_reducible exact ih0 _ _ _ _ _ _)
   | (with_reducible exact tithebarnref01_Int.mono _ _)
   | (with_reducible exact tithebarnref01_Text.mono _ _)
   | (with_reducible exact tithebarnref01_Uint.mono _ _)
   | (with_reducible exact LeO.refl _)
   | (with_reducible exact LeO.none _)
   | (with_reducible refine LeO.ite ?_ ?_)
   | (with_reducible refine LeO.bind ?_ (fun _ => ?_))
   | exact ih0 _ _ _ _ _ _
   | exact tithebarnref01_Int.mono _ _
   | exact tithebarnref01_Text.mono _ _
   | exact tithebarnref01_Uint.mono _ _
   | exact LeO.none _
   | refine LeO.ite ?_ ?_
   | refine LeO.bind ?_ (fun _ => ?_)
theorem tithebarnref22_Place.mono : ∀ a0 a1 a2 a3 a4 k, LeO (tithebarnref22_Place.f k a0 a1 a2 a3 a4) (tithebarnref22_Place.f (k + 1) a0 a1 a2 a3 a4) := by
 intro a0 a1 a2 a3 a4 k
 have ih0 := tithebarnref22_Place.mono_l k
 unfold tithebarnref22_Place.f
 repeat' first
   | (with_reducible exact ih0 _ _ _ _ _ _)
   | (with_reducible exact tithebarnref01_Int.mono _ _)
   | (with_reducible exact tithebarnref01_Text.mono _ _)
   | (with_reducible exact tithebarnref01_Uint.mono _ _)
   | (with_reducible exact LeO.refl _)
   | (with_reducible exact LeO.none _)
   | (with_reducible refine LeO.ite ?_ ?_)
   | (with_reducible refine LeO.bind ?_ (fun _ => ?_))
   | exact ih0 _ _ _ _ _ _
   | exact tithebarnref01_Int.mono _ _
   | exact tithebarnref01_Text.mono _ _
   | exact tithebarnref01_Uint.mono _ _
   | exact LeO.none _
   | refine LeO.ite ?_ ?_
   | refine LeO.bind ?_ (fun _ => ?_)
def tithebarnref22_Place.T4 : Bool × List (List Nat × List Nat) := (true, [([], []), ([0], [0]), ([1], [1]), ([], []), ([3], [3]), ([4, 2], [4]), ([2, 5], [2, 5]), ([], []), ([7], [7]), ([8, 5], [8]), ([6, 9], [6, 9]), ([], []), ([11, 9], [11]), ([10, 12], [10, 12]), ([13, 12, 0, 1, 2, 3, 4, 5, 6, 7, 8, 9, 10, 11, 12, 13], [13])])
def tithebarnref22_Place.B4 : List Nat := [0, 1, 3, 0, 8, 31, 63, 0, 128, 447, 1023, 0, 3007, 8191, 16383]
theorem tithebarnref22_Place.tab4 : rtab .any (opsOf Try.f21 4) = tithebarnref22_Place.T4 := by kernel_rfl
theorem tithebarnref22_Place.bits4 : waitsOk tithebarnref22_Place.T4.2 tithebarnref22_Place.B4 = true := by kernel_rfl
set_option maxHeartbeats 8000000 in
set_option maxRecDepth 100000 in
theorem tithebarnref22_Place.calls (k : Nat) (a0_0 : Bool) (a0_1 : Int) (a0_2 : ByteArray) (a1 : Int) (a2 : Int) (r : Int) (w : World) (h : tithebarnref22_Place.f k a0_0 a0_1 a0_2 a1 a2 = some r) :
  Calls Try.prog 21 #[.agg #[.bool a0_0, .int .i64 a0_1, .string a0_2], .int .i64 a1, .int .i64 a2] w fun e w' => e = .returned (.int .i64 r) ∧ Below w.heap.size w w' := by
 have hu28 := Try.underlying28
 have HB := Aside0.mk (Below.refl w.heap.size w)
 have H : (if a0_0 = true then (tithebarnref22_Place.j0 k a1 a2 1 a0_0 a0_1 a0_2) else (tithebarnref22_Place.j0 k a1 a2 0 a0_0 a0_1 a0_2)) = some r := h
 clear h
 have HC4 := Aside0.mk H
 clear H
 go_enter Try.func21, Try.ntmps21
 go_upto_if 11 with (first | ((with_reducible refine gate_dst (N := 3) rfl ?_); refine box_event ?hg (N := 3) ?hd (cs := #[.bool a0_0, .int .i64 a0_1, .string a0_2]) (t := 28) ?hr ?_; (case hd => rfl); (case hg => rfl); (case hr => first | (go_simp; done) | (go_simp; rfl)); intro gb187 hg w5 hbox hb; have n0_ := Aside0.mk (below_step (by repeat (first | (with_reducible first | exact HB.out | apply below_alloc | apply pw_below_drewN | apply below_drew1) | exact HB.out)) hb); have n1_ := Aside0.mk (hbox); have n2_ := Aside0.mk ((by rw [hg]; exact (below_size (by repeat (first | (with_reducible first | exact HB.out | apply below_alloc | apply pw_below_drewN | apply below_drew1) | exact HB.out))) : w.heap.size ≤ gb187)); have n3_ := Aside0.mk ((by rw [hg]; exact (below_size (by repeat (first | (with_reducible first | exact HB.out | apply below_alloc | apply pw_below_drewN | apply below_drew1) | exact HB.out))) : w.heap.size ≤ gb187)); clear HB; have HB := n0_; have BK187 := n1_; have GW187 := n2_; have GE187 := n3_; clear n0_ n1_ n2_ n3_; clear hb hbox hg; have hcz6_0 : w5.cell? ⟨gb187, 0, none⟩ = some (.bool a0_0) := (blk_cell BK187.out 0).trans rfl; have hcz6_1 : w5.cell? ⟨gb187, 1, none⟩ = some (.int .i64 a0_1) := (blk_cell BK187.out 1).trans rfl; have hcz6_2 : w5.cell? ⟨gb187, 2, none⟩ = some (.string a0_2) := (blk_cell BK187.out 2).trans rfl; have hfz6_0 := blk_frozen BK187.out 0; have hfz6_1 := blk_frozen BK187.out 1; have hfz6_2 := blk_frozen BK187.out 2))
 (try simp only [Act.put, List.setIfInBounds_toArray, List.set_cons_zero, List.set_cons_succ])
 go_cut [7] (fun v7 wc => ∃ (kq : Nat) (x7_3 : Int), v7 = .int .u64 x7_3 ∧ Aside0 (tithebarnref22_Place.j0 kq a1 a2 x7_3 a0_0 a0_1 a0_2 = some r) ∧ Aside0 (kq ≤ k) ∧ Aside0 (wc.heap[gb187]? = some (.cells #[.bool a0_0, .int .i64 a0_1, .string a0_2] 28 (0, 0))) ∧ Aside0 (Below w.heap.size w wc))
 case first =>
  have H := HC4.out
  clear HC4
  by_cases c7 : a0_0 = true
  ·subst c7
   have H1 : (tithebarnref22_Place.j0 k a1 a2 1 true a0_1 a0_2) = some r := by rw [if_pos rfl] at H; exact H
   clear H
   have H := H1
   clear H1
   have H' := Aside0.mk H
   clear H
   go_wp2
   go_meet
   case rel => exact ⟨_, (1), (by first | rfl | (simp; done) | (simp [*]; done)), H', ⟨by first | omega | exact Nat.le_refl _⟩, ⟨by (with_reducible repeat (first | refine blk_drewN ?_ _ | refine blk_drew ?_ | refine blk_alloc ?_ _)); exact BK187.out⟩, ⟨by repeat (first | (with_reducible first | exact HB.out | apply below_alloc | apply pw_below_drewN | apply below_drew1 | refine below_set ?_ GE187.out) | exact HB.out)⟩⟩
  ·replace c7 := Bool.eq_false_iff.mpr c7
   subst c7
   have H1 : (tithebarnref22_Place.j0 k a1 a2 0 false a0_1 a0_2) = some r := by rw [if_neg (show ¬ (false = true) by decide)] at H; exact H
   clear H
   have H := H1
   clear H1
   have H' := Aside0.mk H
   clear H
   go_wp2
   go_meet
   case rel => exact ⟨_, (0), (by first | rfl | (simp; done) | (simp [*]; done)), H', ⟨by first | omega | exact Nat.le_refl _⟩, ⟨by (with_reducible repeat (first | refine blk_drewN ?_ _ | refine blk_drew ?_ | refine blk_alloc ?_ _)); exact BK187.out⟩, ⟨by repeat (first | (with_reducible first | exact HB.out | apply below_alloc | apply pw_below_drewN | apply below_drew1 | refine below_set ?_ GE187.out) | exact HB.out)⟩⟩
 case rest =>
  clear HC4
  try clear c2
  try clear p2
  try clear c7
  try clear hcz6_0
  try clear hcz6_1
  try clear hcz6_2
  try clear hfz6_0
  try clear hfz6_1
  try clear hfz6_2
  obtain ⟨kq, x7_3, rfl, HA, HJ3, BK187, HB⟩ := hcut
  cases kq with
  | zero => exact absurd HA.out (by simp [tithebarnref22_Place.j0])
  | succ kj3 =>
   have H := HA.out
   clear HA
   simp only [tithebarnref22_Place.j0] at H
   replace H := Option.bind_eq_some_iff.mp H
   obtain ⟨t188, A80, H⟩ := H
   replace H : ((tithebarnref01_Int.f kj3 a0_1).bind fun t189 => (if t188.size + t189.size ≤ 9223372036854775807 then ((tithebarnref01_Text.f kj3 a0_2).bind fun t190 => (if (t188 ++ t189).size + t190.size ≤ 9223372036854775807 then ((tithebarnref01_Uint.f kj3 x7_3).bind fun t191 => (if ((t188 ++ t189) ++ t190).size + t191.size ≤ 9223372036854775807 then ((tithebarnref08_Sum.f (((t188 ++ t189) ++ t190) ++ t191)).bind fun t192 => (if (IntKind.u64.wrap (a2)) = 0 then (none) else (some (wrap64 (Int.tmod (IntKind.u64.wrap (t192)) (IntKind.u64.wrap (a2))))))) else (none))) else (none))) else (none))) = some r := H
   have A8 := Aside0.mk A80
   clear A80
   replace H := Option.bind_eq_some_iff.mp H
   obtain ⟨t189, A90, H⟩ := H
   replace H : (if t188.size + t189.size ≤ 9223372036854775807 then ((tithebarnref01_Text.f kj3 a0_2).bind fun t190 => (if (t188 ++ t189).size + t190.size ≤ 9223372036854775807 then ((tithebarnref01_Uint.f kj3 x7_3).bind fun t191 => (if ((t188 ++ t189) ++ t190).size + t191.size ≤ 9223372036854775807 then ((tithebarnref08_Sum.f (((t188 ++ t189) ++ t190) ++ t191)).bind fun t192 => (if (IntKind.u64.wrap (a2)) = 0 then (none) else (some (wrap64 (Int.tmod (IntKind.u64.wrap (t192)) (IntKind.u64.wrap (a2))))))) else (none))) else (none))) else (none)) = some r := H
   have A9 := Aside0.mk A90
   clear A90
   by_cases c10 : t188.size + t189.size ≤ 9223372036854775807
   ·rw [if_pos c10] at H
    have c10b0 := eq_true c10
    have c10b1 : decide (t188.size + t189.size ≤ 9223372036854775807) = true := decide_eq_true c10
    try have c10b2 : (9223372036854775807 < t188.size + t189.size) = False := eq_false (Nat.not_lt.2 c10)
    try (have c10b3 := c10b2; simp only [ByteArray.size_append] at c10b3)
    try (have c10b4 := c10b0; simp only [ByteArray.size_append] at c10b4)
    try (have c10b5 := c10b1; simp only [ByteArray.size_append] at c10b5)
    replace H := Option.bind_eq_some_iff.mp H
    obtain ⟨t190, A110, H⟩ := H
    replace H : (if (t188 ++ t189).size + t190.size ≤ 9223372036854775807 then ((tithebarnref01_Uint.f kj3 x7_3).bind fun t191 => (if ((t188 ++ t189) ++ t190).size + t191.size ≤ 9223372036854775807 then ((tithebarnref08_Sum.f (((t188 ++ t189) ++ t190) ++ t191)).bind fun t192 => (if (IntKind.u64.wrap (a2)) = 0 then (none) else (some (wrap64 (Int.tmod (IntKind.u64.wrap (t192)) (IntKind.u64.wrap (a2))))))) else (none))) else (none)) = some r := H
    have A11 := Aside0.mk A110
    clear A110
    by_cases c12 : (t188 ++ t189).size + t190.size ≤ 9223372036854775807
    ·rw [if_pos c12] at H
     have c12b0 := eq_true c12
     have c12b1 : decide ((t188 ++ t189).size + t190.size ≤ 9223372036854775807) = true := decide_eq_true c12
     try have c12b2 : (9223372036854775807 < (t188 ++ t189).size + t190.size) = False := eq_false (Nat.not_lt.2 c12)
     try (have c12b3 := c12b2; simp only [ByteArray.size_append] at c12b3)
     try (have c12b4 := c12b0; simp only [ByteArray.size_append] at c12b4)
     try (have c12b5 := c12b1; simp only [ByteArray.size_append] at c12b5)
     replace H := Option.bind_eq_some_iff.mp H
     obtain ⟨t191, A130, H⟩ := H
     replace H : (if ((t188 ++ t189) ++ t190).size + t191.size ≤ 9223372036854775807 then ((tithebarnref08_Sum.f (((t188 ++ t189) ++ t190) ++ t191)).bind fun t192 => (if (IntKind.u64.wrap (a2)) = 0 then (none) else (some (wrap64 (Int.tmod (IntKind.u64.wrap (t192)) (IntKind.u64.wrap (a2))))))) else (none)) = some r := H
     have A13 := Aside0.mk A130
     clear A130
     by_cases c14 : ((t188 ++ t189) ++ t190).size + t191.size ≤ 9223372036854775807
     ·rw [if_pos c14] at H
      have c14b0 := eq_true c14
      have c14b1 : decide (((t188 ++ t189) ++ t190).size + t191.size ≤ 9223372036854775807) = true := decide_eq_true c14
      try have c14b2 : (9223372036854775807 < ((t188 ++ t189) ++ t190).size + t191.size) = False := eq_false (Nat.not_lt.2 c14)
      try (have c14b3 := c14b2; simp only [ByteArray.size_append] at c14b3)
      try (have c14b4 := c14b0; simp only [ByteArray.size_append] at c14b4)
      try (have c14b5 := c14b1; simp only [ByteArray.size_append] at c14b5)
      replace H := Option.bind_eq_some_iff.mp H
      obtain ⟨t192, A150, H⟩ := H
      replace H : (if (IntKind.u64.wrap (a2)) = 0 then (none) else (some (wrap64 (Int.tmod (IntKind.u64.wrap (t192)) (IntKind.u64.wrap (a2)))))) = some r := H
      have A15 := Aside0.mk A150
      clear A150
      by_cases c16 : (IntKind.u64.wrap (a2)) = 0
      ·rw [if_pos c16] at H
       exact absurd H (by simp)
      ·rw [if_neg c16] at H
       have c16b0 : ((IntKind.u64.wrap (a2)) == 0) = false := beq_eq_false_iff_ne.mpr c16
       have c16b1 : ((IntKind.u64.wrap (a2)) != 0) = true := bne_iff_ne.mpr c16
       obtain rfl := Option.some.inj H
       try go_wp2
       have n0_ := Aside0.mk (blk_drew BK187.out)
       have n1_ := Aside0.mk (below_drew1 HB.out)
       clear BK187
       clear HB
       have BK187 := n0_
       have HB := n1_
       clear n0_ n1_
       refine start_ (n := 15) (S := fun w' => w'.cell? ⟨gb187, 0, none⟩ = some (.bool a0_0) ∧ w'.cell? ⟨gb187, 1, none⟩ = some (.int .i64 a0_1) ∧ w'.cell? ⟨gb187, 2, none⟩ = some (.string a0_2)) (ds := []) #[false, false, false, false, false, false, false, false, false, false, false, false, false, false, false] (by kernel_rfl) rfl rfl ⟨(blk_cell BK187.out 0).trans rfl, (blk_cell BK187.out 1).trans rfl, (blk_cell BK187.out 2).trans rfl⟩ (fun hHeld => ?_); refine with_tabW tithebarnref22_Place.tab4 tithebarnref22_Place.bits4 (fun HT_ HW_ => ?_)
       generalize wc.drew = w17 at BK187 HB hHeld ⊢
       refine pure_ (i := 0) (N := some 12) (v := ?_) (a' := ?_) #[true, false, false, false, false, false, false, false, false, false, false, false, false, false, false] rfl rfl (any_of HT_.out (by kernel_rfl)) (fun _ _ _ h => h) (Or.inl ⟨by rfl, ?_⟩) ?_ ?_
       rotate_left
       ·intro w'
        go_simp
        with_reducible rfl
       rotate_left
       ·simp only [Act.put, List.setIfInBounds_toArray, List.set_cons_zero, List.set_cons_succ, i64_w, i32_w]
        rfl
       refine pure_ (i := 1) (N := some 13) (v := ?_) (a' := ?_) #[true, true, false, false, false, false, false, false, false, false, false, false, false, false, false] rfl rfl (any_of HT_.out (by kernel_rfl)) (fun _ _ _ h => h) (Or.inl ⟨by rfl, ?_⟩) ?_ ?_
       rotate_left
       ·intro w'
        go_simp
        with_reducible rfl
       rotate_left
       ·simp only [Act.put, List.setIfInBounds_toArray, List.set_cons_zero, List.set_cons_succ, i64_w, i32_w]
        rfl
       refine pure_ (i := 3) (N := some 15) (v := ?_) (a' := ?_) #[true, true, false, true, false, false, false, false, false, false, false, false, false, false, false] rfl rfl (any_of HT_.out (by kernel_rfl)) (fun _ _ _ h => h) (Or.inl ⟨by rfl, ?_⟩) ?_ ?_
       rotate_left
       ·intro w'
        go_simp
        with_reducible rfl
       rotate_left
       ·simp only [Act.put, List.setIfInBounds_toArray, List.set_cons_zero, List.set_cons_succ, i64_w, i32_w]
        rfl
       refine pure_ (i := 7) (N := some 19) (v := ?_) (a' := ?_) #[true, true, false, true, false, false, false, true, false, false, false, false, false, false, false] rfl rfl (any_of HT_.out (by kernel_rfl)) (fun _ _ _ h => h) (Or.inl ⟨by rfl, ?_⟩) ?_ ?_
       rotate_left
       ·intro w'
        go_simp
        with_reducible rfl
       rotate_left
       ·simp only [Act.put, List.setIfInBounds_toArray, List.set_cons_zero, List.set_cons_succ, i64_w, i32_w]
        rfl
       refine pure_ (i := 11) (N := some 23) (v := ?_) (a' := ?_) #[true, true, false, true, false, false, false, true, false, false, false, true, false, false, false] rfl rfl (any_of HT_.out (by kernel_rfl)) (fun _ _ _ h => h) (Or.inl ⟨by rfl, ?_⟩) ?_ ?_
       rotate_left
       ·intro w'
        go_simp
        with_reducible rfl
       rotate_left
       ·simp only [Act.put, List.setIfInBounds_toArray, List.set_cons_zero, List.set_cons_succ, i64_w, i32_w]
        rfl
       refine take_ (i := 4) (N := some 16) (v := ?_) (a' := ?_) #[true, true, false, true, true, false, false, true, false, false, false, true, false, false, false] rfl rfl (take_ofW HT_.out HW_.out (by kernel_rfl)) (fun _ _ _ h => h) (Or.inl ⟨by rfl, ?_⟩) hHeld ?_ ?_
       rotate_left
       ·rintro w' ⟨s0, s1, s2⟩
        go_simp
        with_reducible rfl
       rotate_left
       ·simp only [Act.put, List.setIfInBounds_toArray, List.set_cons_zero, List.set_cons_succ, i64_w, i32_w]
        rfl
       refine take_ (i := 8) (N := some 20) (v := ?_) (a' := ?_) #[true, true, false, true, true, false, false, true, true, false, false, true, false, false, false] rfl rfl (take_ofW HT_.out HW_.out (by kernel_rfl)) (fun _ _ _ h => h) (Or.inl ⟨by rfl, ?_⟩) hHeld ?_ ?_
       rotate_left
       ·rintro w' ⟨s0, s1, s2⟩
        go_simp
        with_reducible rfl
       rotate_left
       ·simp only [Act.put, List.setIfInBounds_toArray, List.set_cons_zero, List.set_cons_succ, i64_w, i32_w]
        rfl
       refine one_ (i := 2) (N := some 14) #[true, true, true, true, true, false, false, true, true, false, false, true, false, false, false] rfl rfl (one_of HT_.out (by kernel_rfl)) (by decide) (fun K hK => ?_)
       refine goes_ Try.func22 (by kernel_rfl) rfl #[.int .u64 (IntKind.u64.wrap (a1))] (by rfl) rfl rfl (by (try simp only [List.map_toArray, List.map_cons, List.map_nil]); first | done | rfl | (simp only [List.length_drop, List.length_take]; rfl)) ?_
       with_reducible refine (tithebarnref01_Uint.calls kj3 (IntKind.u64.wrap (a1)) t188 _ A8.out).mono ?_
       rintro e w18 ⟨rfl, hb⟩
       refine ⟨_, rfl, ?_⟩
       have n0_ := Aside0.mk (blk_below (g := gb187) (o := .cells #[.bool a0_0, .int .i64 a0_1, .string a0_2] 28 (0, 0)) (by (with_reducible repeat (first | refine blk_drewN ?_ _ | refine blk_drew ?_ | refine blk_alloc ?_ _)); exact BK187.out) hb)
       have n1_ := Aside0.mk (below_step (by repeat (first | (with_reducible first | exact HB.out | apply below_alloc | apply pw_below_drewN | apply below_drew1 | refine below_set ?_ GE187.out) | exact HB.out)) hb)
       clear BK187
       clear HB
       have BK187 := n0_
       have HB := n1_
       clear n0_ n1_
       (try clear hb)
       (try clear hb2)
       (try clear hk)
       (try clear hi)
       refine hK.out _ _ ⟨(blk_cell BK187.out 0).trans rfl, (blk_cell BK187.out 1).trans rfl, (blk_cell BK187.out 2).trans rfl⟩ (fun hHeld => ?_)
       clear hK K
       refine norm_ (a' := ?_) ?_ ?_
       rotate_left
       ·show Act.put _ (some 14) _ = _
        simp only [Act.put, List.setIfInBounds_toArray, List.set_cons_zero, List.set_cons_succ, i64_w, i32_w]
        rfl
       refine one_ (i := 5) (N := some 17) #[true, true, true, true, true, true, false, true, true, false, false, true, false, false, false] rfl rfl (one_of HT_.out (by kernel_rfl)) (by decide) (fun K hK => ?_)
       refine goes_ Try.func37 (by kernel_rfl) rfl #[.int .i64 a0_1] (by rfl) rfl rfl (by (try simp only [List.map_toArray, List.map_cons, List.map_nil]); first | done | rfl | (simp only [List.length_drop, List.length_take]; rfl)) ?_
       with_reducible refine (tithebarnref01_Int.calls kj3 a0_1 t189 _ A9.out).mono ?_
       rintro e w19 ⟨rfl, hb⟩
       refine ⟨_, rfl, ?_⟩
       have n0_ := Aside0.mk (blk_below (g := gb187) (o := .cells #[.bool a0_0, .int .i64 a0_1, .string a0_2] 28 (0, 0)) (by (with_reducible repeat (first | refine blk_drewN ?_ _ | refine blk_drew ?_ | refine blk_alloc ?_ _)); exact BK187.out) hb)
       have n1_ := Aside0.mk (below_step (by repeat (first | (with_reducible first | exact HB.out | apply below_alloc | apply pw_below_drewN | apply below_drew1 | refine below_set ?_ GE187.out) | exact HB.out)) hb)
       clear BK187
       clear HB
       have BK187 := n0_
       have HB := n1_
       clear n0_ n1_
       (try clear hb)
       (try clear hb2)
       (try clear hk)
       (try clear hi)
       refine hK.out _ _ ⟨(blk_cell BK187.out 0).trans rfl, (blk_cell BK187.out 1).trans rfl, (blk_cell BK187.out 2).trans rfl⟩ (fun hHeld => ?_)
       clear hK K
       refine norm_ (a' := ?_) ?_ ?_
       rotate_left
       ·show Act.put _ (some 17) _ = _
        simp only [Act.put, List.setIfInBounds_toArray, List.set_cons_zero, List.set_cons_succ, i64_w, i32_w]
        rfl
       refine pure_ (i := 6) (N := some 18) (v := ?_) (a' := ?_) #[true, true, true, true, true, true, true, true, true, false, false, true, false, false, false] rfl rfl (any_of HT_.out (by kernel_rfl)) (fun _ _ _ h => h) (Or.inl ⟨by rfl, ?_⟩) ?_ ?_
       rotate_left
       ·intro w'
        go_simp
        with_reducible rfl
       rotate_left
       ·simp only [Act.put, List.setIfInBounds_toArray, List.set_cons_zero, List.set_cons_succ, i64_w, i32_w]
        rfl
       refine one_ (i := 9) (N := some 21) #[true, true, true, true, true, true, true, true, true, true, false, true, false, false, false] rfl rfl (one_of HT_.out (by kernel_rfl)) (by decide) (fun K hK => ?_)
       refine goes_ Try.func38 (by kernel_rfl) rfl #[.string a0_2] (by rfl) rfl rfl (by (try simp only [List.map_toArray, List.map_cons, List.map_nil]); first | done | rfl | (simp only [List.length_drop, List.length_take]; rfl)) ?_
       with_reducible refine (tithebarnref01_Text.calls kj3 a0_2 t190 _ A11.out).mono ?_
       rintro e w20 ⟨rfl, hb⟩
       refine ⟨_, rfl, ?_⟩
       have n0_ := Aside0.mk (blk_below (g := gb187) (o := .cells #[.bool a0_0, .int .i64 a0_1, .string a0_2] 28 (0, 0)) (by (with_reducible repeat (first | refine blk_drewN ?_ _ | refine blk_drew ?_ | refine blk_alloc ?_ _)); exact BK187.out) hb)
       have n1_ := Aside0.mk (below_step (by repeat (first | (with_reducible first | exact HB.out | apply below_alloc | apply pw_below_drewN | apply below_drew1 | refine below_set ?_ GE187.out) | exact HB.out)) hb)
       clear BK187
       clear HB
       have BK187 := n0_
       have HB := n1_
       clear n0_ n1_
       (try clear hb)
       (try clear hb2)
       (try clear hk)
       (try clear hi)
       refine hK.out _ _ ⟨(blk_cell BK187.out 0).trans rfl, (blk_cell BK187.out 1).trans rfl, (blk_cell BK187.out 2).trans rfl⟩ (fun hHeld => ?_)
       clear hK K
       refine norm_ (a' := ?_) ?_ ?_
       rotate_left
       ·show Act.put _ (some 21) _ = _
        simp only [Act.put, List.setIfInBounds_toArray, List.set_cons_zero, List.set_cons_succ, i64_w, i32_w]
        rfl
       refine pure_ (i := 10) (N := some 22) (v := ?_) (a' := ?_) #[true, true, true, true, true, true, true, true, true, true, true, true, false, false, false] rfl rfl (any_of HT_.out (by kernel_rfl)) (fun _ _ _ h => h) (Or.inl ⟨by rfl, ?_⟩) ?_ ?_
       rotate_left
       ·intro w'
        go_simp
        with_reducible rfl
       rotate_left
       ·simp only [Act.put, List.setIfInBounds_toArray, List.set_cons_zero, List.set_cons_succ, i64_w, i32_w]
        rfl
       refine one_ (i := 12) (N := some 24) #[true, true, true, true, true, true, true, true, true, true, true, true, true, false, false] rfl rfl (one_of HT_.out (by kernel_rfl)) (by decide) (fun K hK => ?_)
       refine goes_ Try.func22 (by kernel_rfl) rfl #[.int .u64 x7_3] (by rfl) rfl rfl (by (try simp only [List.map_toArray, List.map_cons, List.map_nil]); first | done | rfl | (simp only [List.length_drop, List.length_take]; rfl)) ?_
       with_reducible refine (tithebarnref01_Uint.calls kj3 x7_3 t191 _ A13.out).mono ?_
       rintro e w21 ⟨rfl, hb⟩
       refine ⟨_, rfl, ?_⟩
       have n0_ := Aside0.mk (blk_below (g := gb187) (o := .cells #[.bool a0_0, .int .i64 a0_1, .string a0_2] 28 (0, 0)) (by (with_reducible repeat (first | refine blk_drewN ?_ _ | refine blk_drew ?_ | refine blk_alloc ?_ _)); exact BK187.out) hb)
       have n1_ := Aside0.mk (below_step (by repeat (first | (with_reducible first | exact HB.out | apply below_alloc | apply pw_below_drewN | apply below_drew1 | refine below_set ?_ GE187.out) | exact HB.out)) hb)
       clear BK187
       clear HB
       have BK187 := n0_
       have HB := n1_
       clear n0_ n1_
       (try clear hb)
       (try clear hb2)
       (try clear hk)
       (try clear hi)
       refine hK.out _ _ ⟨(blk_cell BK187.out 0).trans rfl, (blk_cell BK187.out 1).trans rfl, (blk_cell BK187.out 2).trans rfl⟩ (fun hHeld => ?_)
       clear hK K
       refine norm_ (a' := ?_) ?_ ?_
       rotate_left
       ·show Act.put _ (some 24) _ = _
        simp only [Act.put, List.setIfInBounds_toArray, List.set_cons_zero, List.set_cons_succ, i64_w, i32_w]
        rfl
       refine pure_ (i := 13) (N := some 25) (v := ?_) (a' := ?_) #[true, true, true, true, true, true, true, true, true, true, true, true, true, true, false] rfl rfl (any_of HT_.out (by kernel_rfl)) (fun _ _ _ h => h) (Or.inl ⟨by rfl, ?_⟩) ?_ ?_
       rotate_left
       ·intro w'
        go_simp
        with_reducible rfl
       rotate_left
       ·simp only [Act.put, List.setIfInBounds_toArray, List.set_cons_zero, List.set_cons_succ, i64_w, i32_w]
        rfl
       refine pure_ (i := 14) (N := some 8) (v := ?_) (a' := ?_) #[true, true, true, true, true, true, true, true, true, true, true, true, true, true, true] rfl rfl (any_of HT_.out (by kernel_rfl)) (fun _ _ _ h => h) (Or.inl ⟨by rfl, ?_⟩) ?_ ?_
       rotate_left
       ·intro w'
        go_simp
        with_reducible rfl
       rotate_left
       ·simp only [Act.put, List.setIfInBounds_toArray, List.set_cons_zero, List.set_cons_succ, i64_w, i32_w]
        rfl
       refine done_ (done_of HT_.out (by kernel_rfl)) ?_
       try go_wp2_with (first | ((with_reducible refine gate_callee (f := 39) rfl ?_); refine goesL_ (some 27) rfl rfl Try.func39 (by kernel_rfl) rfl #[.string (((t188 ++ t189) ++ t190) ++ t191)] rfl (by (try simp only [List.map_toArray, List.map_cons, List.map_nil]); first | done | rfl | (simp only [List.length_drop, List.length_take]; rfl) | (go_simp; simp [IntKind.wrap, IntKind.bits, IntKind.signed]; omega)) ?_; (with_reducible refine (tithebarnref08_Sum.calls (((t188 ++ t189) ++ t190) ++ t191) t192 _ A15.out).mono ?_); rintro e w' ⟨rfl, ⟨nd, rfl⟩⟩; refine ⟨_, rfl, ?_⟩))
       go_ret
       exact ⟨by first | rfl | (simp [errW_none, errW_some] <;> rfl) | (simp [*, errW_none, errW_some] <;> rfl), by repeat (first | (with_reducible first | exact HB.out | apply below_alloc | apply pw_below_drewN | apply below_drew1 | refine below_set ?_ GE187.out) | exact HB.out)⟩
     ·rw [if_neg c14] at H
      exact absurd H (by simp)
    ·rw [if_neg c12] at H
     exact absurd H (by simp)
   ·rw [if_neg c10] at H
    exact absurd H (by simp)
def tithebarnref03_Bytes.l0 : Nat → List Bool → List Int → Int → Option (ByteArray)
 | 0, _, _, _ => none
 | k + 1, x0, x3, x4 => if x4 < (x0.length : Int) then (if 0 ≤ x4 then (if rdOf false x0 x4 = true then (if 0 ≤ (wrap64 (Int.tdiv x4 8)) then (if (wrap64 (Int.tdiv x4 8)) < (x3.length : Int) then (if 0 ≤ (IntKind.u64.wrap (Int.tmod x4 8)) then (tithebarnref03_Bytes.l0 k x0 (x3.set ((wrap64 (Int.tdiv x4 8)) : Int).toNat (((rd x3 (wrap64 (Int.tdiv x4 8))) + (shl .u8 1 (IntKind.u64.wrap (Int.tmod x4 8)))) % 256)) (wrap64 (x4 + 1))) else (none)) else (none)) else (none)) else (tithebarnref03_Bytes.l0 k x0 x3 (wrap64 (x4 + 1)))) else (none)) else (some (strOfNums x3))
def tithebarnref03_Bytes.f (k : Nat) (l0 : List Bool) : Option (ByteArray) := if 0 ≤ (wrap64 (Int.tdiv (wrap64 ((l0.length : Int) + 7)) 8)) then (if (wrap64 (Int.tdiv (wrap64 ((l0.length : Int) + 7)) 8) : Int).toNat ≤ 281474976710656 then (tithebarnref03_Bytes.l0 k l0 (List.replicate (wrap64 (Int.tdiv (wrap64 ((l0.length : Int) + 7)) 8) : Int).toNat 0) 0) else (none)) else (none)
theorem tithebarnref03_Bytes.mono_l : ∀ k, (∀ y0 y1 y2, LeO (tithebarnref03_Bytes.l0 k y0 y1 y2) (tithebarnref03_Bytes.l0 (k + 1) y0 y1 y2))
 | 0 => fun _ _ _ r h => by simp [tithebarnref03_Bytes.l0] at h
 | k + 1 => by
  have ih0 := tithebarnref03_Bytes.mono_l k
  ·intro y0 y1 y2
   unfold tithebarnref03_Bytes.l0
   repeat' first
   | (with_reducible exact ih0 _ _ _)
   | (with_reducible exact LeO.refl _)
   | (with_reducible exact LeO.none _)
   | (with_reducible refine LeO.ite ?_ ?_)
   | (with_reducible refine LeO.bind ?_ (fun _ => ?_))
   | exact ih0 _ _ _
   | exact LeO.none _
   | refine LeO.ite ?_ ?_
   | refine LeO.bind ?_ (fun _ => ?_)
theorem tithebarnref03_Bytes.mono : ∀ a0 k, LeO (tithebarnref03_Bytes.f k a0) (tithebarnref03_Bytes.f (k + 1) a0) := by
 intro a0 k
 have ih0 := tithebarnref03_Bytes.mono_l k
 unfold tithebarnref03_Bytes.f
 repeat' first
   | (with_reducible exact ih0 _ _ _)
   | (with_reducible exact LeO.refl _)
   | (with_reducible exact LeO.none _)
   | (with_reducible refine LeO.ite ?_ ?_)
   | (with_reducible refine LeO.bind ?_ (fun _ => ?_))
   | exact ih0 _ _ _
   | exact LeO.none _
   | refine LeO.ite ?_ ?_
   | refine LeO.bind ?_ (fun _ => ?_)
set_option maxHeartbeats 8000000 in
set_option maxRecDepth 100000 in
theorem tithebarnref03_Bytes.calls (k : Nat) (A0 : Option Addr) (c0 : Nat) (l0 : List Bool) (r : ByteArray) (w : World) (hr0 : Kd.C Kd.bool w A0 l0.length l0) (hc0 : l0.length ≤ c0) (h : tithebarnref03_Bytes.f k l0 = some r) :
  Calls Try.prog 23 #[.slice A0 l0.length c0] w fun e w' => e = .returned (.string r) ∧ Below w.heap.size w w' := by
 have HR0 := Aside0.mk hr0
 have HC0 := Aside0.mk hc0
 clear hr0 hc0
 have HB := Aside0.mk (Below.refl w.heap.size w)
 have H : (if 0 ≤ (wrap64 (Int.tdiv (wrap64 ((l0.length : Int) + 7)) 8)) then (if (wrap64 (Int.tdiv (wrap64 ((l0.length : Int) + 7)) 8) : Int).toNat ≤ 281474976710656 then (tithebarnref03_Bytes.l0 k l0 (List.replicate (wrap64 (Int.tdiv (wrap64 ((l0.length : Int) + 7)) 8) : Int).toNat 0) 0) else (none)) else (none)) = some r := h
 clear h
 obtain ⟨ji2, hji2⟩ : ∃ j_ : Int, (wrap64 (Int.tdiv (wrap64 ((l0.length : Int) + 7)) 8)) = j_ := ⟨_, rfl⟩
 replace H : (if 0 ≤ (ji2) then (if (ji2 : Int).toNat ≤ 281474976710656 then (tithebarnref03_Bytes.l0 k l0 (List.replicate (ji2 : Int).toNat 0) 0) else (none)) else (none)) = some r := by first | (rw [hji2] at H; exact H) | (simp only [hji2] at H ⊢; exact H)
 have hji2w : (IntKind.i64.wrap (Int.tdiv (wrap64 ((l0.length : Int) + 7)) 8)) = ji2 := (i64_w _).trans hji2
 by_cases c3 : 0 ≤ (ji2)
 ·rw [if_pos c3] at H
  have c3b0 := eq_true c3
  have c3b1 : decide (0 ≤ (ji2)) = true := decide_eq_true c3
  clear c3
  by_cases c4 : (ji2 : Int).toNat ≤ 281474976710656
  ·rw [if_pos c4] at H
   have c4b0 := eq_true c4
   have c4b1 : decide ((ji2 : Int).toNat ≤ 281474976710656) = true := decide_eq_true c4
   clear c4
   obtain ⟨y193, hy193⟩ : ∃ y_ : List Int, y_ = (List.replicate (ji2 : Int).toNat 0) := ⟨_, rfl⟩
   replace H : (tithebarnref03_Bytes.l0 k l0 y193 0) = some r := by first | (rw [hy193]; with_reducible exact H) | (have H2_ := (Option.bind_some _ _).symm.trans H; rw [hy193]; with_reducible exact H2_) | (have H2_ := (Option.bind_some _ _).symm.trans H; with_reducible exact H2_) | with_reducible exact H | (rw [hy193]; exact H) | exact H
   have Ny193 := Aside0.mk hy193
   clear hy193
   have H' := Aside0.mk H
   clear H
   go_enter Try.func23, Try.ntmps23
   go_wp2_with (first | ((with_reducible refine gate_dst (N := 9) rfl ?_); refine Kd.R_make (Kd.int .u8) _ 5 rfl (N := 9) rfl 38 _ _ rfl ji2 rfl rfl Try.underlying38 (.int .u8 0) 1 info5 rfl (by decide) (by omega) 0 (ok := fun _ => True) (okp := fun _ => True) rfl (fun _ hk => hk) trivial (of_decide_eq_true (by first | (with_reducible assumption) | assumption)) (Nat.le_trans (Nat.mul_le_mul_right _ (of_decide_eq_true (by first | (with_reducible assumption) | assumption) : ji2.toNat ≤ 281474976710656)) (by omega)) (Below.refl _ _) (Nat.le_refl _) ?_; intro v194 w5 ho6 hb hg_ hnew_; clear hg_ hnew_; (first | rw [← Ny193.out] at ho6 | (simp only [Int.reduceToNat] at ho6; rw [← Ny193.out] at ho6)); have n0_ := Aside0.mk (Kd.R_lower ho6 (below_size (by repeat (first | (with_reducible first | exact HB.out | apply below_alloc | apply pw_below_drewN | apply below_drew1) | exact HB.out)))); have n1_ := Aside0.mk (below_step (by repeat (first | (with_reducible first | exact HB.out | apply below_alloc | apply pw_below_drewN | apply below_drew1) | exact HB.out)) hb); clear HB; have HO195 := n0_; have HB := n1_; clear n0_ n1_; clear hb ho6))
   go_loopg [4] k (fun kq v4 w' => ∃ (x3_1 : List Int) (x4_1 : Int), v4 = .int .i64 x4_1 ∧ Aside0 (tithebarnref03_Bytes.l0 kq l0 x3_1 x4_1 = some r) ∧ Aside0 (kq ≤ k) ∧ Aside0 (Kd.R (Kd.int .u8) 5 w' w.heap.size (fun _ => True) v194 x3_1) ∧ Aside0 (Below w.heap.size w w'))
   case atStart => exact ⟨(y193), (0), (by first | rfl | (simp; done) | (simp [*]; done)), H', ⟨Nat.le_refl _⟩, ⟨by (with_reducible repeat (first | apply Kd.R_alloc | apply Kd.R_drewN | apply Kd.R_drew)); exact HO195.out⟩, ⟨by repeat (first | (with_reducible first | exact HB.out | apply below_alloc | apply pw_below_drewN | apply below_drew1) | exact HB.out)⟩⟩
   case round =>
    clear H'
    try clear c2
    try clear p2
    try clear c3
    try clear c3b0
    try clear c3b1
    try clear c4
    try clear c4b0
    try clear c4b1
    try clear p6
    obtain ⟨x3_1, x4_1, rfl, HA, HK1, HO_3, HB⟩ := hrel
    cases gk with
    | zero => exact absurd HA.out (by simp [tithebarnref03_Bytes.l0])
    | succ k1 =>
     have H := HA.out
     clear HA
     simp only [tithebarnref03_Bytes.l0] at H
     by_cases c7 : x4_1 < (l0.length : Int)
     ·rw [if_pos c7] at H
      have c7b0 : decide (x4_1 < (l0.length : Int)) = true := decide_eq_true c7
      clear c7
      by_cases c8 : 0 ≤ x4_1
      ·rw [if_pos c8] at H
       have c8b0 : decide (0 ≤ x4_1) = true := decide_eq_true c8
       clear c8
       obtain ⟨bq9, hbq9⟩ : ∃ b_ : Bool, b_ = (rdOf false l0 x4_1) := ⟨_, rfl⟩
       replace H : (if bq9 = true then (if 0 ≤ (wrap64 (Int.tdiv x4_1 8)) then (if (wrap64 (Int.tdiv x4_1 8)) < (x3_1.length : Int) then (if 0 ≤ (IntKind.u64.wrap (Int.tmod x4_1 8)) then (tithebarnref03_Bytes.l0 k1 l0 (x3_1.set ((wrap64 (Int.tdiv x4_1 8)) : Int).toNat (((rd x3_1 (wrap64 (Int.tdiv x4_1 8))) + (shl .u8 1 (IntKind.u64.wrap (Int.tmod x4_1 8)))) % 256)) (wrap64 (x4_1 + 1))) else (none)) else (none)) else (none)) else (tithebarnref03_Bytes.l0 k1 l0 x3_1 (wrap64 (x4_1 + 1)))) = some r := by rw [← hbq9] at H; exact H
       have Nbq9 := Aside0.mk hbq9
       clear hbq9
       by_cases c10 : bq9 = true
       ·subst c10
        have H1 : (if 0 ≤ (wrap64 (Int.tdiv x4_1 8)) then (if (wrap64 (Int.tdiv x4_1 8)) < (x3_1.length : Int) then (if 0 ≤ (IntKind.u64.wrap (Int.tmod x4_1 8)) then (tithebarnref03_Bytes.l0 k1 l0 (x3_1.set ((wrap64 (Int.tdiv x4_1 8)) : Int).toNat (((rd x3_1 (wrap64 (Int.tdiv x4_1 8))) + (shl .u8 1 (IntKind.u64.wrap (Int.tmod x4_1 8)))) % 256)) (wrap64 (x4_1 + 1))) else (none)) else (none)) else (none)) = some r := by rw [if_pos rfl] at H; exact H
        clear H
        have H := H1
        clear H1
        obtain ⟨ji11, hji11⟩ : ∃ j_ : Int, (wrap64 (Int.tdiv x4_1 8)) = j_ := ⟨_, rfl⟩
        replace H : (if 0 ≤ (ji11) then (if (ji11) < (x3_1.length : Int) then (if 0 ≤ (IntKind.u64.wrap (Int.tmod x4_1 8)) then (tithebarnref03_Bytes.l0 k1 l0 (x3_1.set ((ji11) : Int).toNat (((rd x3_1 (ji11)) + (shl .u8 1 (IntKind.u64.wrap (Int.tmod x4_1 8)))) % 256)) (wrap64 (x4_1 + 1))) else (none)) else (none)) else (none)) = some r := by first | (rw [hji11] at H; exact H) | (simp only [hji11] at H ⊢; exact H)
        have hji11w : (IntKind.i64.wrap (Int.tdiv x4_1 8)) = ji11 := (i64_w _).trans hji11
        by_cases c12 : 0 ≤ (ji11)
        ·rw [if_pos c12] at H
         have c12b0 : decide (0 ≤ (ji11)) = true := decide_eq_true c12
         clear c12
         by_cases c13 : (ji11) < (x3_1.length : Int)
         ·rw [if_pos c13] at H
          have c13b0 : decide ((ji11) < (x3_1.length : Int)) = true := decide_eq_true c13
          clear c13
          obtain ⟨ji14, hji14⟩ : ∃ j_ : Int, (IntKind.u64.wrap (Int.tmod x4_1 8)) = j_ := ⟨_, rfl⟩
          replace H : (if 0 ≤ (ji14) then (tithebarnref03_Bytes.l0 k1 l0 (x3_1.set ((ji11) : Int).toNat (((rd x3_1 (ji11)) + (shl .u8 1 (ji14))) % 256)) (wrap64 (x4_1 + 1))) else (none)) = some r := by first | (rw [hji14] at H; exact H) | (simp only [hji14] at H ⊢; exact H)
          by_cases c15 : 0 ≤ (ji14)
          ·rw [if_pos c15] at H
           have c15b0 := eq_true c15
           have c15b1 : decide (0 ≤ (ji14)) = true := decide_eq_true c15
           clear c15
           obtain ⟨ji16, hji16⟩ : ∃ j_ : Int, (shl .u8 1 (ji14)) = j_ := ⟨_, rfl⟩
           replace H : (tithebarnref03_Bytes.l0 k1 l0 (x3_1.set ((ji11) : Int).toNat (((rd x3_1 (ji11)) + (ji16)) % 256)) (wrap64 (x4_1 + 1))) = some r := by first | (rw [hji16] at H; exact H) | (simp only [hji16] at H ⊢; exact H)
           have hji16_ : (IntKind.u8.wrap (1 * 2 ^ min (ji14).toNat 8)) = ji16 := hji16
           have hji16z : (ji14) ≤ 8 → (IntKind.u8.wrap (1 * 2 ^ (ji14).toNat)) = ji16 := shl_small hji16
           have hji16u : (IntKind.u8.wrap (2 ^ min (ji14).toNat 8)) = ji16 := by have h_ := hji16_; rw [Int.one_mul] at h_; exact h_
           have hji16v : (ji14) ≤ 8 → (IntKind.u8.wrap (2 ^ (ji14).toNat)) = ji16 := fun hle_ => by have h_ := hji16z hle_; rw [Int.one_mul] at h_; exact h_
           obtain ⟨y198, hy198⟩ : ∃ y_ : List Int, y_ = (x3_1.set ((ji11) : Int).toNat (((rd x3_1 (ji11)) + (ji16)) % 256)) := ⟨_, rfl⟩
           replace H : (tithebarnref03_Bytes.l0 k1 l0 y198 (wrap64 (x4_1 + 1))) = some r := by first | (rw [hy198]; with_reducible exact H) | (have H2_ := (Option.bind_some _ _).symm.trans H; rw [hy198]; with_reducible exact H2_) | (have H2_ := (Option.bind_some _ _).symm.trans H; with_reducible exact H2_) | with_reducible exact H | (rw [hy198]; exact H) | exact H
           have Ny198 := Aside0.mk hy198
           clear hy198
           have H' := Aside0.mk H
           clear H
           have p196 : 0 ≤ (x4_1 : Int) := of_decide_eq_true (by first | (with_reducible assumption) | assumption)
           have q196 : x4_1 < (l0.length : Int) := of_decide_eq_true (by first | (with_reducible assumption) | assumption)
           obtain ⟨ad196, e196, hx196_0⟩ := Kd.at_bool HR0.out x4_1 p196 q196
           (try rw [← Nbq9.out] at hx196_0)
           cases e196
           replace hx196_0 := (HB.out.cell (World.block_lt_of_cell? w _ hx196_0)).trans hx196_0
           replace p196 := eq_true p196
           replace q196 := eq_true q196
           obtain ⟨Ao18, co18, eo18⟩ := Kd.R_slice HO_3.out
           subst eo18
           have p197 : 0 ≤ ((ji11) : Int) := of_decide_eq_true (by first | (with_reducible assumption) | assumption)
           have q197 : (ji11) < (x3_1.length : Int) := of_decide_eq_true (by first | (with_reducible assumption) | assumption)
           obtain ⟨ad197, e197, hx197_0⟩ := Kd.at_int (Kd.R_reads' HO_3.out).2.2 (ji11) p197 q197
           cases e197
           replace p197 := eq_true p197
           replace q197 := eq_true q197
           have p17 : 0 ≤ ((ji11) : Int) := of_decide_eq_true (by first | (with_reducible assumption) | assumption)
           have q17 : ((ji11) : Int) < ((x3_1.length : Int) : Int) := of_decide_eq_true (by first | (with_reducible assumption) | assumption)
           obtain ⟨go17, co17, eo17, gb17, gl17, cl17, HG17⟩ := Kd.R_form HO_3.out (by omega)
           (first | cases eo17 | (injection eo17 with ea_ en_ ec_; (first | subst ea_ | (injection ea_ with ea_; subst ea_)); subst ec_; clear en_))
           have GB17 := Aside0.mk gb17
           have GG17 := Aside0.mk HG17
           clear gb17 gl17 HG17
           (first | simp only [add_plain] at hx197_0 | skip)
           obtain ⟨hx17_0, hf17_0⟩ := Kd.R_celln 0 HO_3.out ((ji11) : Int) p17 q17
           replace p17 := eq_true p17
           replace q17 := eq_true q17
           have HP19 := Kd.R_putg HO_3.out ((ji11) : Int) (((rd x3_1 (ji11)) + (ji16)) % 256)
           go_wp2_with (first | ((with_reducible refine gate_store (t := 5) (p := 30) rfl ?_); refine store_event (t := 5) (p := 30) (v := ?vo_w20) (w1 := (wr.setCell ⟨go17, ((ji11) : Int).toNat, none⟩ (.int .u8 (((rd x3_1 (ji11)) + (ji16)) % 256)))) ?hg ?ho ?hn ?hr ?_; (case ho => rfl); (case hg => rfl); (case hn => rfl); (case hr => first | (go_simp; done) | (go_simp; rfl)); intro w20 hw; have hg : wr.grownBy w20 (some go17) := (by rw [hw]; exact HP19.2); have hp_ : Kd.R (Kd.int .u8) 5 w20 w.heap.size (fun _ => True) (.slice (some ⟨go17, 0, none⟩) x3_1.length co18) y198 := (by rw [hw, Ny198.out]; exact HP19.1); clear HP19; have n0_ := Aside0.mk (hp_); have n1_ := Aside0.mk ((by rw [hw]; exact below_set (HB.out) GB17.out : Below w.heap.size w w20)); clear HO_3; clear HB; have HO_3 := n0_; have HB := n1_; clear n0_ n1_; clear hg hw hp_))
           go_roundg k1
           case measure => have := HK1.out; omega
           case rel => exact ⟨(y198), (wrap64 (x4_1 + 1)), (by first | rfl | (simp; done) | (simp [*]; done)), H', ⟨by have := HK1.out; omega⟩, ⟨by (with_reducible repeat (first | apply Kd.R_alloc | apply Kd.R_drewN | apply Kd.R_drew)); exact HO_3.out⟩, ⟨by repeat (first | (with_reducible first | exact HB.out | apply below_alloc | apply pw_below_drewN | apply below_drew1) | exact HB.out)⟩⟩
          ·rw [if_neg c15] at H
           exact absurd H (by simp)
         ·rw [if_neg c13] at H
          exact absurd H (by simp)
        ·rw [if_neg c12] at H
         exact absurd H (by simp)
       ·replace c10 := Bool.eq_false_iff.mpr c10
        subst c10
        have H1 : (tithebarnref03_Bytes.l0 k1 l0 x3_1 (wrap64 (x4_1 + 1))) = some r := by rw [if_neg (show ¬ (false = true) by decide)] at H; exact H
        clear H
        have H := H1
        clear H1
        have H' := Aside0.mk H
        clear H
        have p196 : 0 ≤ (x4_1 : Int) := of_decide_eq_true (by first | (with_reducible assumption) | assumption)
        have q196 : x4_1 < (l0.length : Int) := of_decide_eq_true (by first | (with_reducible assumption) | assumption)
        obtain ⟨ad196, e196, hx196_0⟩ := Kd.at_bool HR0.out x4_1 p196 q196
        (try rw [← Nbq9.out] at hx196_0)
        cases e196
        replace hx196_0 := (HB.out.cell (World.block_lt_of_cell? w _ hx196_0)).trans hx196_0
        replace p196 := eq_true p196
        replace q196 := eq_true q196
        go_wp2
        go_roundg k1
        case measure => have := HK1.out; omega
        case rel => exact ⟨(x3_1), (wrap64 (x4_1 + 1)), (by first | rfl | (simp; done) | (simp [*]; done)), H', ⟨by have := HK1.out; omega⟩, ⟨by (with_reducible repeat (first | apply Kd.R_alloc | apply Kd.R_drewN | apply Kd.R_drew)); exact HO_3.out⟩, ⟨by repeat (first | (with_reducible first | exact HB.out | apply below_alloc | apply pw_below_drewN | apply below_drew1) | exact HB.out)⟩⟩
      ·rw [if_neg c8] at H
       exact absurd H (by simp)
     ·rw [if_neg c7] at H
      have c7b0 : decide (x4_1 < (l0.length : Int)) = false := decide_eq_false c7
      clear c7
      obtain rfl := Option.some.inj H
      have hcv21 := own_string (P := Try.prog) Try.underlying38 Try.underlying5 Try.underlying9 (Kd.own_of_R HO_3.out)
      go_wp2
      go_ret
      exact ⟨by first | rfl | (simp [errW_none, errW_some] <;> rfl) | (simp only [← hji2]; first | rfl | (simp [errW_none, errW_some] <;> rfl)) | (simp [*, errW_none, errW_some] <;> rfl), by repeat (first | (with_reducible first | exact HB.out | apply below_alloc | apply pw_below_drewN | apply below_drew1) | exact HB.out)⟩
  ·rw [if_neg c4] at H
   exact absurd H (by simp)
 ·rw [if_neg c3] at H
  exact absurd H (by simp)
mutual
def tithebarnref22_Make.l0 : Nat → List (S28) → Int → List Bool → Int → Option (ByteArray)
 | 0, _, _, _, _ => none
 | k + 1, x0, x3, x4, x5 => if x5 < (x0.length : Int) then (tithebarnref22_Make.l1 k x0 x3 x4 x5 0) else ((tithebarnref01_Uint.f k (IntKind.u64.wrap (x3))).bind fun t203 => ((tithebarnref03_Bytes.f k x4).bind fun t204 => (if t203.size + t204.size ≤ 9223372036854775807 then (some (t203 ++ t204)) else (none))))
def tithebarnref22_Make.l1 : Nat → List (S28) → Int → List Bool → Int → Int → Option (ByteArray)
 | 0, _, _, _, _, _ => none
 | k + 1, x0, x3, x4, x5, x6 => if x6 < 4 then (if 0 ≤ x5 then (if x5 < (x0.length : Int) then ((tithebarnref22_Place.f k ((rd_T28 x0 x5).f0) ((rd_T28 x0 x5).f1) ((rd_T28 x0 x5).f2) x6 (wrap64 (8 * x3))).bind fun t206 => (if 0 ≤ t206 then (if t206 < (x4.length : Int) then (tithebarnref22_Make.l1 k x0 x3 (x4.set (t206 : Int).toNat true) x5 (wrap64 (x6 + 1))) else (none)) else (none))) else (none)) else (none)) else (tithebarnref22_Make.l0 k x0 x3 x4 (wrap64 (x5 + 1)))
end
def tithebarnref22_Make.f (k : Nat) (l0 : List (S28)) : Option (ByteArray) := (tithebarnref22_Unlike.f k l0).bind fun t199 => (if 0 ≤ (wrap64 (8 * (wrap64 ((wrap64 (Int.tdiv (wrap64 (t199 * 10)) 8)) + 1)))) then (if (wrap64 (8 * (wrap64 ((wrap64 (Int.tdiv (wrap64 (t199 * 10)) 8)) + 1))) : Int).toNat ≤ 281474976710656 then (tithebarnref22_Make.l0 k l0 (wrap64 ((wrap64 (Int.tdiv (wrap64 (t199 * 10)) 8)) + 1)) (List.replicate (wrap64 (8 * (wrap64 ((wrap64 (Int.tdiv (wrap64 (t199 * 10)) 8)) + 1))) : Int).toNat false) 0) else (none)) else (none))
theorem tithebarnref22_Make.mono_l : ∀ k, (∀ y0 y1 y2 y3, LeO (tithebarnref22_Make.l0 k y0 y1 y2 y3) (tithebarnref22_Make.l0 (k + 1) y0 y1 y2 y3)) ∧ (∀ y0 y1 y2 y3 y4, LeO (tithebarnref22_Make.l1 k y0 y1 y2 y3 y4) (tithebarnref22_Make.l1 (k + 1) y0 y1 y2 y3 y4))
 | 0 => ⟨fun _ _ _ _ r h => by simp [tithebarnref22_Make.l0] at h, fun _ _ _ _ _ r h => by simp [tithebarnref22_Make.l1] at h⟩
 | k + 1 => by
  obtain ⟨ih0, ih1⟩ := tithebarnref22_Make.mono_l k
  refine ⟨?_, ?_⟩
  ·intro y0 y1 y2 y3
   unfold tithebarnref22_Make.l0
   repeat' first
   | (with_reducible exact ih0 _ _ _ _)
   | (with_reducible exact ih1 _ _ _ _ _)
   | (with_reducible exact tithebarnref01_Uint.mono _ _)
   | (with_reducible exact tithebarnref03_Bytes.mono _ _)
   | (with_reducible exact tithebarnref22_Place.mono _ _ _ _ _ _)
   | (with_reducible exact tithebarnref22_Unlike.mono _ _)
   | (with_reducible exact LeO.refl _)
   | (with_reducible exact LeO.none _)
   | (with_reducible refine LeO.ite ?_ ?_)
   | (with_reducible refine LeO.bind ?_ (fun _ => ?_))
   | exact ih0 _ _ _ _
   | exact ih1 _ _ _ _ _
   | exact tithebarnref01_Uint.mono _ _
   | exact tithebarnref03_Bytes.mono _ _
   | exact tithebarnref22_Place.mono _ _ _ _ _ _
   | exact tithebarnref22_Unlike.mono _ _
   | exact LeO.none _
   | refine LeO.ite ?_ ?_
   | refine LeO.bind ?_ (fun _ => ?_)
  ·intro y0 y1 y2 y3 y4
   unfold tithebarnref22_Make.l1
   repeat' first
   | (with_reducible exact ih0 _ _ _ _)
   | (with_reducible exact ih1 _ _ _ _ _)
   | (with_reducible exact tithebarnref01_Uint.mono _ _)
   | (with_reducible exact tithebarnref03_Bytes.mono _ _)
   | (with_reducible exact tithebarnref22_Place.mono _ _ _ _ _ _)
   | (with_reducible exact tithebarnref22_Unlike.mono _ _)
   | (with_reducible exact LeO.refl _)
   | (with_reducible exact LeO.none _)
   | (with_reducible refine LeO.ite ?_ ?_)
   | (with_reducible refine LeO.bind ?_ (fun _ => ?_))
   | exact ih0 _ _ _ _
   | exact ih1 _ _ _ _ _
   | exact tithebarnref01_Uint.mono _ _
   | exact tithebarnref03_Bytes.mono _ _
   | exact tithebarnref22_Place.mono _ _ _ _ _ _
   | exact tithebarnref22_Unlike.mono _ _
   | exact LeO.none _
   | refine LeO.ite ?_ ?_
   | refine LeO.bind ?_ (fun _ => ?_)
theorem tithebarnref22_Make.mono : ∀ a0 k, LeO (tithebarnref22_Make.f k a0) (tithebarnref22_Make.f (k + 1) a0) := by
 intro a0 k
 obtain ⟨ih0, ih1⟩ := tithebarnref22_Make.mono_l k
 unfold tithebarnref22_Make.f
 repeat' first
   | (with_reducible exact ih0 _ _ _ _)
   | (with_reducible exact ih1 _ _ _ _ _)
   | (with_reducible exact tithebarnref01_Uint.mono _ _)
   | (with_reducible exact tithebarnref03_Bytes.mono _ _)
   | (with_reducible exact tithebarnref22_Place.mono _ _ _ _ _ _)
   | (with_reducible exact tithebarnref22_Unlike.mono _ _)
   | (with_reducible exact LeO.refl _)
   | (with_reducible exact LeO.none _)
   | (with_reducible refine LeO.ite ?_ ?_)
   | (with_reducible refine LeO.bind ?_ (fun _ => ?_))
   | exact ih0 _ _ _ _
   | exact ih1 _ _ _ _ _
   | exact tithebarnref01_Uint.mono _ _
   | exact tithebarnref03_Bytes.mono _ _
   | exact tithebarnref22_Place.mono _ _ _ _ _ _
   | exact tithebarnref22_Unlike.mono _ _
   | exact LeO.none _
   | refine LeO.ite ?_ ?_
   | refine LeO.bind ?_ (fun _ => ?_)
set_option maxHeartbeats 8000000 in
set_option maxRecDepth 100000 in
theorem tithebarnref22_Make.calls (k : Nat) (A0 : Option Addr) (c0 : Nat) (l0 : List (S28)) (r : ByteArray) (w : World) (hr0 : Kd.C k28 w A0 l0.length l0) (hc0 : l0.length ≤ c0) (h : tithebarnref22_Make.f k l0 = some r) :
  Calls Try.prog 9 #[.slice A0 l0.length c0] w fun e w' => e = .returned (.string r) ∧ Below w.heap.size w w' := by
 have hu28 := Try.underlying28
 have HR0 := Aside0.mk hr0
 have HC0 := Aside0.mk hc0
 clear hr0 hc0
 have HB := Aside0.mk (Below.refl w.heap.size w)
 have H : ((tithebarnref22_Unlike.f k l0).bind fun t199 => (if 0 ≤ (wrap64 (8 * (wrap64 ((wrap64 (Int.tdiv (wrap64 (t199 * 10)) 8)) + 1)))) then (if (wrap64 (8 * (wrap64 ((wrap64 (Int.tdiv (wrap64 (t199 * 10)) 8)) + 1))) : Int).toNat ≤ 281474976710656 then (tithebarnref22_Make.l0 k l0 (wrap64 ((wrap64 (Int.tdiv (wrap64 (t199 * 10)) 8)) + 1)) (List.replicate (wrap64 (8 * (wrap64 ((wrap64 (Int.tdiv (wrap64 (t199 * 10)) 8)) + 1))) : Int).toNat false) 0) else (none)) else (none))) = some r := h
 clear h
 replace H := Option.bind_eq_some_iff.mp H
 obtain ⟨t199, A20, H⟩ := H
 replace H : (if 0 ≤ (wrap64 (8 * (wrap64 ((wrap64 (Int.tdiv (wrap64 (t199 * 10)) 8)) + 1)))) then (if (wrap64 (8 * (wrap64 ((wrap64 (Int.tdiv (wrap64 (t199 * 10)) 8)) + 1))) : Int).toNat ≤ 281474976710656 then (tithebarnref22_Make.l0 k l0 (wrap64 ((wrap64 (Int.tdiv (wrap64 (t199 * 10)) 8)) + 1)) (List.replicate (wrap64 (8 * (wrap64 ((wrap64 (Int.tdiv (wrap64 (t199 * 10)) 8)) + 1))) : Int).toNat false) 0) else (none)) else (none)) = some r := H
 have A2 := Aside0.mk A20
 clear A20
 obtain ⟨ji3, hji3⟩ : ∃ j_ : Int, (wrap64 (8 * (wrap64 ((wrap64 (Int.tdiv (wrap64 (t199 * 10)) 8)) + 1)))) = j_ := ⟨_, rfl⟩
 replace H : (if 0 ≤ (ji3) then (if (ji3 : Int).toNat ≤ 281474976710656 then (tithebarnref22_Make.l0 k l0 (wrap64 ((wrap64 (Int.tdiv (wrap64 (t199 * 10)) 8)) + 1)) (List.replicate (ji3 : Int).toNat false) 0) else (none)) else (none)) = some r := by first | (rw [hji3] at H; exact H) | (simp only [hji3] at H ⊢; exact H)
 (try rw [hji3] at A2)
 have hji3w : (IntKind.i64.wrap (8 * (wrap64 ((wrap64 (Int.tdiv (wrap64 (t199 * 10)) 8)) + 1)))) = ji3 := (i64_w _).trans hji3
 by_cases c4 : 0 ≤ (ji3)
 ·rw [if_pos c4] at H
  have c4b0 := eq_true c4
  have c4b1 : decide (0 ≤ (ji3)) = true := decide_eq_true c4
  clear c4
  by_cases c5 : (ji3 : Int).toNat ≤ 281474976710656
  ·rw [if_pos c5] at H
   have c5b0 := eq_true c5
   have c5b1 : decide ((ji3 : Int).toNat ≤ 281474976710656) = true := decide_eq_true c5
   clear c5
   obtain ⟨y200, hy200⟩ : ∃ y_ : List Bool, y_ = (List.replicate (ji3 : Int).toNat false) := ⟨_, rfl⟩
   replace H : (tithebarnref22_Make.l0 k l0 (wrap64 ((wrap64 (Int.tdiv (wrap64 (t199 * 10)) 8)) + 1)) y200 0) = some r := by first | (rw [hy200]; with_reducible exact H) | (have H2_ := (Option.bind_some _ _).symm.trans H; rw [hy200]; with_reducible exact H2_) | (have H2_ := (Option.bind_some _ _).symm.trans H; with_reducible exact H2_) | with_reducible exact H | (rw [hy200]; exact H) | exact H
   have Ny200 := Aside0.mk hy200
   clear hy200
   have H' := Aside0.mk H
   clear H
   go_enter Try.func9, Try.ntmps9
   go_wp2_with (first | ((with_reducible refine gate_callee (f := 20) rfl ?_); refine goesL_ (some 8) rfl rfl Try.func20 (by kernel_rfl) rfl #[.slice A0 l0.length c0] rfl (by (try simp only [List.map_toArray, List.map_cons, List.map_nil]); first | done | rfl | (rw [hji3]; rfl) | (simp only [List.length_drop, List.length_take]; rfl) | (go_simp; simp [IntKind.wrap, IntKind.bits, IntKind.signed]; omega)) ?_; (with_reducible refine (tithebarnref22_Unlike.calls k _ _ l0 t199 _ ?side1 ?side2 A2.out).mono ?_); (case side1 => repeat (first | exact HR0.out | (with_reducible refine Kd.C_alloc ?_ _) | (with_reducible refine Kd.C_drewN ?_ _) | (with_reducible refine Kd.C_drew ?_))); (case side2 => exact HC0.out); rintro e w6 ⟨rfl, hb⟩; refine ⟨_, rfl, ?_⟩; have n0_ := Aside0.mk (below_step (by repeat (first | (with_reducible first | exact HB.out | apply below_alloc | apply pw_below_drewN | apply below_drew1) | exact HB.out)) hb); clear HB; have HB := n0_; clear n0_; (try clear hb); (try clear hb2); (try clear hk); (try clear hi)) | ((with_reducible refine gate_dst (N := 14) rfl ?_); refine Kd.R_make Kd.bool _ 4 rfl (N := 14) rfl 46 _ _ rfl ji3 rfl rfl Try.underlying46 (.bool false) 1 info4 rfl (by decide) (by omega) false (ok := fun _ => True) (okp := fun _ => True) rfl (fun _ hk => hk) trivial (of_decide_eq_true (by first | (with_reducible assumption) | assumption)) (Nat.le_trans (Nat.mul_le_mul_right _ (of_decide_eq_true (by first | (with_reducible assumption) | assumption) : ji3.toNat ≤ 281474976710656)) (by omega)) (Below.refl _ _) (Nat.le_refl _) ?_; intro v201 w7 ho8 hb hg_ hnew_; clear hg_ hnew_; (first | rw [← Ny200.out] at ho8 | (simp only [Int.reduceToNat] at ho8; rw [← Ny200.out] at ho8)); have n0_ := Aside0.mk (Kd.R_lower ho8 (below_size (by repeat (first | (with_reducible first | exact HB.out | apply below_alloc | apply pw_below_drewN | apply below_drew1) | exact HB.out)))); have n1_ := Aside0.mk (below_step (by repeat (first | (with_reducible first | exact HB.out | apply below_alloc | apply pw_below_drewN | apply below_drew1) | exact HB.out)) hb); clear HB; have HO202 := n0_; have HB := n1_; clear n0_ n1_; clear hb ho8))
   go_loopg [5] k (fun kq v5 w' => ∃ (x4_1 : List Bool) (x5_1 : Int), v5 = .int .i64 x5_1 ∧ Aside0 (tithebarnref22_Make.l0 kq l0 (wrap64 ((wrap64 (Int.tdiv (wrap64 (t199 * 10)) 8)) + 1)) x4_1 x5_1 = some r) ∧ Aside0 (kq ≤ k) ∧ Aside0 (Kd.R Kd.bool 4 w' w.heap.size (fun _ => True) v201 x4_1) ∧ Aside0 (Below w.heap.size w w'))
   case atStart => exact ⟨(y200), (0), (by first | rfl | (simp; done) | (simp [*]; done)), H', ⟨Nat.le_refl _⟩, ⟨by (with_reducible repeat (first | apply Kd.R_alloc | apply Kd.R_drewN | apply Kd.R_drew)); exact HO202.out⟩, ⟨by repeat (first | (with_reducible first | exact HB.out | apply below_alloc | apply pw_below_drewN | apply below_drew1) | exact HB.out)⟩⟩
   case round =>
    clear H'
    try clear c2
    try clear p2
    try clear c4
    try clear c4b0
    try clear c4b1
    try clear c5
    try clear c5b0
    try clear c5b1
    try clear p6
    obtain ⟨x4_1, x5_1, rfl, HA, HK1, HO_4, HB⟩ := hrel
    cases gk with
    | zero => exact absurd HA.out (by simp [tithebarnref22_Make.l0])
    | succ k1 =>
     have H := HA.out
     clear HA
     simp only [tithebarnref22_Make.l0] at H
     by_cases c9 : x5_1 < (l0.length : Int)
     ·rw [if_pos c9] at H
      have c9b0 : decide (x5_1 < (l0.length : Int)) = true := decide_eq_true c9
      clear c9
      have H' := Aside0.mk H
      clear H
      go_wp2
      go_loopg [6] k1 (fun kq v6 w' => ∃ (x4_2 : List Bool) (x6_2 : Int), v6 = .int .i64 x6_2 ∧ Aside0 (tithebarnref22_Make.l1 kq l0 (wrap64 ((wrap64 (Int.tdiv (wrap64 (t199 * 10)) 8)) + 1)) x4_2 x5_1 x6_2 = some r) ∧ Aside0 (kq ≤ k1) ∧ Aside0 (Kd.R Kd.bool 4 w' w.heap.size (fun _ => True) v201 x4_2) ∧ Aside0 (Below w.heap.size w w'))
      case atStart => exact ⟨(x4_1), (0), (by first | rfl | (simp; done) | (simp [*]; done)), H', ⟨Nat.le_refl _⟩, ⟨by (with_reducible repeat (first | apply Kd.R_alloc | apply Kd.R_drewN | apply Kd.R_drew)); exact HO_4.out⟩, ⟨by repeat (first | (with_reducible first | exact HB.out | apply below_alloc | apply pw_below_drewN | apply below_drew1) | exact HB.out)⟩⟩
      case round =>
       clear H'
       try clear c2
       try clear p2
       try clear c4
       try clear c4b0
       try clear c4b1
       try clear c5
       try clear c5b0
       try clear c5b1
       try clear p6
       try clear c9
       try clear c9b0
       try clear p2
       try clear p6
       obtain ⟨x4_2, x6_2, rfl, HA, HK2, HO_4, HB⟩ := hrel
       cases gk with
       | zero => exact absurd HA.out (by simp [tithebarnref22_Make.l1])
       | succ k2 =>
        have H := HA.out
        clear HA
        simp only [tithebarnref22_Make.l1] at H
        by_cases c10 : x6_2 < 4
        ·rw [if_pos c10] at H
         have c10b0 : decide (x6_2 < 4) = true := decide_eq_true c10
         clear c10
         by_cases c11 : 0 ≤ x5_1
         ·rw [if_pos c11] at H
          have c11b0 : decide (0 ≤ x5_1) = true := decide_eq_true c11
          clear c11
          by_cases c12 : x5_1 < (l0.length : Int)
          ·rw [if_pos c12] at H
           have c12b0 : decide (x5_1 < (l0.length : Int)) = true := decide_eq_true c12
           clear c12
           replace H := Option.bind_eq_some_iff.mp H
           obtain ⟨t206, A130, H⟩ := H
           replace H : (if 0 ≤ t206 then (if t206 < (x4_2.length : Int) then (tithebarnref22_Make.l1 k2 l0 (wrap64 ((wrap64 (Int.tdiv (wrap64 (t199 * 10)) 8)) + 1)) (x4_2.set (t206 : Int).toNat true) x5_1 (wrap64 (x6_2 + 1))) else (none)) else (none)) = some r := H
           have A13 := Aside0.mk A130
           clear A130
           by_cases c14 : 0 ≤ t206
           ·rw [if_pos c14] at H
            have c14b0 : decide (0 ≤ t206) = true := decide_eq_true c14
            clear c14
            by_cases c15 : t206 < (x4_2.length : Int)
            ·rw [if_pos c15] at H
             have c15b0 : decide (t206 < (x4_2.length : Int)) = true := decide_eq_true c15
             clear c15
             obtain ⟨y207, hy207⟩ : ∃ y_ : List Bool, y_ = (x4_2.set (t206 : Int).toNat true) := ⟨_, rfl⟩
             replace H : (tithebarnref22_Make.l1 k2 l0 (wrap64 ((wrap64 (Int.tdiv (wrap64 (t199 * 10)) 8)) + 1)) y207 x5_1 (wrap64 (x6_2 + 1))) = some r := by first | (rw [hy207]; with_reducible exact H) | (have H2_ := (Option.bind_some _ _).symm.trans H; rw [hy207]; with_reducible exact H2_) | (have H2_ := (Option.bind_some _ _).symm.trans H; with_reducible exact H2_) | with_reducible exact H | (rw [hy207]; exact H) | exact H
             have Ny207 := Aside0.mk hy207
             clear hy207
             have H' := Aside0.mk H
             clear H
             have p205 : 0 ≤ (x5_1 : Int) := of_decide_eq_true (by first | (with_reducible assumption) | assumption)
             have q205 : x5_1 < (l0.length : Int) := of_decide_eq_true (by first | (with_reducible assumption) | assumption)
             obtain ⟨ad205, e205, hx205_0, hx205_1, hx205_2⟩ := at_T28 HR0.out x5_1 p205 q205
             cases e205
             replace hx205_0 := (HB.out.cell (World.block_lt_of_cell? w _ hx205_0)).trans hx205_0
             replace hx205_1 := (HB.out.cell (World.block_lt_of_cell? w _ hx205_1)).trans hx205_1
             replace hx205_2 := (HB.out.cell (World.block_lt_of_cell? w _ hx205_2)).trans hx205_2
             replace p205 := eq_true p205
             replace q205 := eq_true q205
             go_wp2_with (first | ((with_reducible refine gate_callee (f := 21) rfl ?_); refine goesL_ (some 33) rfl rfl Try.func21 (by kernel_rfl) rfl #[.agg #[.bool ((rd_T28 l0 x5_1).f0), .int .i64 ((rd_T28 l0 x5_1).f1), .string ((rd_T28 l0 x5_1).f2)], .int .i64 x6_2, .int .i64 (wrap64 (8 * (wrap64 ((wrap64 (Int.tdiv (wrap64 (t199 * 10)) 8)) + 1))))] rfl (by (try simp only [List.map_toArray, List.map_cons, List.map_nil]); first | done | rfl | (rw [hji3]; rfl) | (simp only [List.length_drop, List.length_take]; rfl) | (go_simp; simp [IntKind.wrap, IntKind.bits, IntKind.signed]; omega)) ?_; (with_reducible refine (tithebarnref22_Place.calls k2 ((rd_T28 l0 x5_1).f0) ((rd_T28 l0 x5_1).f1) ((rd_T28 l0 x5_1).f2) x6_2 (wrap64 (8 * (wrap64 ((wrap64 (Int.tdiv (wrap64 (t199 * 10)) 8)) + 1)))) t206 _ A13.out).mono ?_); rintro e w17 ⟨rfl, hb⟩; refine ⟨_, rfl, ?_⟩; have n0_ := Aside0.mk (Kd.R_below (by (with_reducible repeat (first | apply Kd.R_alloc | apply Kd.R_drewN | apply Kd.R_drew)); exact HO_4.out) hb); have n1_ := Aside0.mk (below_step (by repeat (first | (with_reducible first | exact HB.out | apply below_alloc | apply pw_below_drewN | apply below_drew1) | exact HB.out)) hb); clear HO_4; clear HB; have HO_4 := n0_; have HB := n1_; clear n0_ n1_; (try clear hb); (try clear hb2); (try clear hk); (try clear hi); have p16 : 0 ≤ (t206 : Int) := of_decide_eq_true (by first | (with_reducible assumption) | assumption); have q16 : (t206 : Int) < ((x4_2.length : Int) : Int) := of_decide_eq_true (by first | (with_reducible assumption) | assumption); obtain ⟨go16, co16, eo16, gb16, gl16, cl16, HG16⟩ := Kd.R_form HO_4.out (by omega); (first | cases eo16 | (injection eo16 with ea_ en_ ec_; (first | subst ea_ | (injection ea_ with ea_; subst ea_)); subst ec_; clear en_)); have GB16 := Aside0.mk gb16; have GG16 := Aside0.mk HG16; clear gb16 gl16 HG16; obtain ⟨hx16_0, hf16_0⟩ := Kd.R_celln false HO_4.out (t206 : Int) p16 q16; replace p16 := eq_true p16; replace q16 := eq_true q16; obtain ⟨hy18_, hz18_⟩ := Kd.R_celln false HO_4.out (t206 : Int) (of_decide_eq_true (by first | (with_reducible assumption) | assumption)) (of_decide_eq_true (by first | (with_reducible assumption) | assumption)); have HP18 := Kd.R_putg HO_4.out (t206 : Int) true) | ((with_reducible refine gate_store (t := 4) (p := 34) rfl ?_); refine store_event (t := 4) (p := 34) (v := ?vo_w19) (w1 := (w17.setCell ⟨go16, (t206 : Int).toNat, none⟩ (.bool true))) ?hg ?ho ?hn ?hr ?_; (case ho => rfl); (case hg => rfl); (case hn => rfl); (case hr => first | (go_simp; done) | (go_simp; rfl)); intro w19 hw; have hg : w17.grownBy w19 (some go16) := (by rw [hw]; exact HP18.2); have hp_ : Kd.R Kd.bool 4 w19 w.heap.size (fun _ => True) (.slice (some ⟨go16, 0, none⟩) x4_2.length co16) y207 := (by rw [hw, Ny207.out]; exact HP18.1); clear HP18; have n0_ := Aside0.mk (hp_); have n1_ := Aside0.mk ((by rw [hw]; exact below_set (HB.out) GB16.out : Below w.heap.size w w19)); clear HO_4; clear HB; have HO_4 := n0_; have HB := n1_; clear n0_ n1_; clear hg hw hp_))
             go_roundg k2
             case measure => have := HK1.out; have := HK2.out; omega
             case rel => exact ⟨(y207), (wrap64 (x6_2 + 1)), (by first | rfl | (simp; done) | (simp [*]; done)), H', ⟨by have := HK1.out; have := HK2.out; omega⟩, ⟨by (with_reducible repeat (first | apply Kd.R_alloc | apply Kd.R_drewN | apply Kd.R_drew)); exact HO_4.out⟩, ⟨by repeat (first | (with_reducible first | exact HB.out | apply below_alloc | apply pw_below_drewN | apply below_drew1) | exact HB.out)⟩⟩
            ·rw [if_neg c15] at H
             exact absurd H (by simp)
           ·rw [if_neg c14] at H
            exact absurd H (by simp)
          ·rw [if_neg c12] at H
           exact absurd H (by simp)
         ·rw [if_neg c11] at H
          exact absurd H (by simp)
        ·rw [if_neg c10] at H
         have c10b0 : decide (x6_2 < 4) = false := decide_eq_false c10
         clear c10
         have H' := Aside0.mk H
         clear H
         go_wp2
         go_roundg k2
         case measure => have := HK1.out; have := HK2.out; omega
         case rel => exact ⟨(x4_2), (wrap64 (x5_1 + 1)), (by first | rfl | (simp; done) | (simp [*]; done)), H', ⟨by have := HK1.out; have := HK2.out; omega⟩, ⟨by (with_reducible repeat (first | apply Kd.R_alloc | apply Kd.R_drewN | apply Kd.R_drew)); exact HO_4.out⟩, ⟨by repeat (first | (with_reducible first | exact HB.out | apply below_alloc | apply pw_below_drewN | apply below_drew1) | exact HB.out)⟩⟩
     ·rw [if_neg c9] at H
      have c9b0 : decide (x5_1 < (l0.length : Int)) = false := decide_eq_false c9
      clear c9
      replace H := Option.bind_eq_some_iff.mp H
      obtain ⟨t203, A200, H⟩ := H
      replace H : ((tithebarnref03_Bytes.f k1 x4_1).bind fun t204 => (if t203.size + t204.size ≤ 9223372036854775807 then (some (t203 ++ t204)) else (none))) = some r := H
      have A20 := Aside0.mk A200
      clear A200
      replace H := Option.bind_eq_some_iff.mp H
      obtain ⟨t204, A210, H⟩ := H
      replace H : (if t203.size + t204.size ≤ 9223372036854775807 then (some (t203 ++ t204)) else (none)) = some r := H
      have A21 := Aside0.mk A210
      clear A210
      by_cases c22 : t203.size + t204.size ≤ 9223372036854775807
      ·rw [if_pos c22] at H
       have c22b0 := eq_true c22
       have c22b1 : decide (t203.size + t204.size ≤ 9223372036854775807) = true := decide_eq_true c22
       try have c22b2 : (9223372036854775807 < t203.size + t204.size) = False := eq_false (Nat.not_lt.2 c22)
       try (have c22b3 := c22b2; simp only [ByteArray.size_append] at c22b3)
       try (have c22b4 := c22b0; simp only [ByteArray.size_append] at c22b4)
       try (have c22b5 := c22b1; simp only [ByteArray.size_append] at c22b5)
       obtain rfl := Option.some.inj H
       go_wp2_with (first | ((with_reducible refine gate_callee (f := 22) rfl ?_); refine goesL_ (some 37) rfl rfl Try.func22 (by kernel_rfl) rfl #[.int .u64 (IntKind.u64.wrap ((wrap64 ((wrap64 (Int.tdiv (wrap64 (t199 * 10)) 8)) + 1))))] rfl (by (try simp only [List.map_toArray, List.map_cons, List.map_nil]); first | done | rfl | (rw [hji3]; rfl) | (simp only [List.length_drop, List.length_take]; rfl) | (go_simp; simp [IntKind.wrap, IntKind.bits, IntKind.signed]; omega)) ?_; (with_reducible refine (tithebarnref01_Uint.calls k1 (IntKind.u64.wrap ((wrap64 ((wrap64 (Int.tdiv (wrap64 (t199 * 10)) 8)) + 1)))) t203 _ A20.out).mono ?_); rintro e w23 ⟨rfl, hb⟩; refine ⟨_, rfl, ?_⟩; have n0_ := Aside0.mk (Kd.R_below (by (with_reducible repeat (first | apply Kd.R_alloc | apply Kd.R_drewN | apply Kd.R_drew)); exact HO_4.out) hb); have n1_ := Aside0.mk (below_step (by repeat (first | (with_reducible first | exact HB.out | apply below_alloc | apply pw_below_drewN | apply below_drew1) | exact HB.out)) hb); clear HO_4; clear HB; have HO_4 := n0_; have HB := n1_; clear n0_ n1_; (try clear hb); (try clear hb2); (try clear hk); (try clear hi); obtain ⟨Ao24, co24, eo24⟩ := Kd.R_slice HO_4.out; subst eo24) | ((with_reducible refine gate_callee (f := 23) rfl ?_); refine goesL_ (some 39) rfl rfl Try.func23 (by kernel_rfl) rfl #[.slice Ao24 x4_1.length co24] rfl (by (try simp only [List.map_toArray, List.map_cons, List.map_nil]); first | done | rfl | (rw [hji3]; rfl) | (simp only [List.length_drop, List.length_take]; rfl) | (go_simp; simp [IntKind.wrap, IntKind.bits, IntKind.signed]; omega)) ?_; (with_reducible refine (tithebarnref03_Bytes.calls k1 _ _ x4_1 t204 _ ?side1 ?side2 A21.out).mono ?_); (case side1 => repeat (first | exact (Kd.R_reads' HO_4.out).2.2 | (with_reducible refine Kd.C_alloc ?_ _) | (with_reducible refine Kd.C_drewN ?_ _) | (with_reducible refine Kd.C_drew ?_))); (case side2 => exact (Kd.R_reads' HO_4.out).2.1); rintro e w25 ⟨rfl, hb⟩; refine ⟨_, rfl, ?_⟩; have n0_ := Aside0.mk (Kd.R_below (by (with_reducible repeat (first | apply Kd.R_alloc | apply Kd.R_drewN | apply Kd.R_drew)); exact HO_4.out) hb); have n1_ := Aside0.mk (below_step (by repeat (first | (with_reducible first | exact HB.out | apply below_alloc | apply pw_below_drewN | apply below_drew1) | exact HB.out)) hb); clear HO_4; clear HB; have HO_4 := n0_; have HB := n1_; clear n0_ n1_; (try clear hb); (try clear hb2); (try clear hk); (try clear hi)))
       go_ret
       exact ⟨by first | rfl | (simp [errW_none, errW_some] <;> rfl) | (simp only [← hji3]; first | rfl | (simp [errW_none, errW_some] <;> rfl)) | (simp [*, errW_none, errW_some] <;> rfl), by repeat (first | (with_reducible first | exact HB.out | apply below_alloc | apply pw_below_drewN | apply below_drew1) | exact HB.out)⟩
      ·rw [if_neg c22] at H
       exact absurd H (by simp)
  ·rw [if_neg c5] at H
   exact absurd H (by simp)
 ·rw [if_neg c4] at H
  exact absurd H (by simp)
def bits_OnesCount8.pop (n : Nat) : Nat := ((List.range 8).filter fun i => n.testBit i).length
set_option maxRecDepth 100000 in
theorem bits_OnesCount8.tab : ∀ n : Fin 256, ((Go.Lib.pop8tab.data.getD n.val 0).toNat = bits_OnesCount8.pop n.val) := by decide
def bits_OnesCount8.f (a0 : Int) : Option Int := if 0 ≤ a0 ∧ a0 < 256 then some ((bits_OnesCount8.pop a0.toNat : Nat) : Int) else none
theorem bits_OnesCount8.pop_le (n : Nat) : bits_OnesCount8.pop n ≤ 8 := Nat.le_trans (List.length_filter_le _ _) (by simp)
set_option maxHeartbeats 1000000 in
set_option maxRecDepth 100000 in
theorem bits_OnesCount8.calls (a0 : Int) (r : Int) (w : World) (h : bits_OnesCount8.f a0 = some r) :
  Calls Try.prog 26 #[.int .u8 a0] w fun e w' => e = .returned (.int .i64 r) ∧ Drawn0 w w' := by
 unfold bits_OnesCount8.f at h
 split at h
 ·rename_i hc
  obtain ⟨h0, h1⟩ := hc
  obtain rfl := Option.some.inj h
  obtain ⟨n, rfl⟩ : ∃ n : Nat, a0 = (n : Int) := ⟨a0.toNat, by omega⟩
  have hn : n < 256 := by omega
  have ht := bits_OnesCount8.tab ⟨n, hn⟩
  have hsz : Go.Lib.pop8tab.size = 256 := by decide
  have hx : ∀ h : n < Go.Lib.pop8tab.size, Go.Lib.pop8tab[n].toNat = bits_OnesCount8.pop n := fun h => by
   rw [← ht]
   have h' : n < Go.Lib.pop8tab.data.size := h
   rw [Array.getD_eq_getD_getElem?, Array.getElem?_eq_getElem h']; rfl
  rw [Int.toNat_natCast]
  have hp := bits_OnesCount8.pop_le n
  have hw : wrap64 ((bits_OnesCount8.pop n : Nat) : Int) = ((bits_OnesCount8.pop n : Nat) : Int) := w64 (by omega) (by omega)
  generalize bits_OnesCount8.pop n = m at hx hw ⊢
  clear ht hp h1
  go_enter Try.func26, Try.ntmps26
  go_wp2
  go_ret
  exact ⟨by simp [*], Drawn0.refl _⟩
 ·exact absurd h (by simp)
end Go.Proofs.Ytlbcpigjbjolaaa.G
namespace Go.Proofs.Ytlbcpigjbjolaaa.G
open Go.RowKit Go.Proofs.YtlbcpigjbjolaaaQ Go.Proofs.YtlbcpigjbjolaaaW.PrintWords Go.Proofs.YtlbcpigjbjolaaaW.PrintLast Go.Proofs.YtlbcpigjbjolaaaW.PrintMore
attribute [local go_sem] max2_int min2_int max_two min_two max_three min_three max_four min_four   -- for this text's walks alone
set_option linter.unusedVariables false
set_option linter.unusedSimpArgs false
def onesL : List Int → Int → Option Int
 | [], n => some n
 | x :: t, n => (bits_OnesCount8.f x).bind fun c => onesL t (wrap64 (n + c))
def onesF (s : ByteArray) : Option (Int × Int) := (rd22 s).bind fun u => if u.1 = true then (onesL (bytesOf u.2) 0).bind fun n => some (n, 0) else some (0, 8)
set_option maxHeartbeats 2000000 in
set_option maxRecDepth 100000 in
theorem ones.no (s : ByteArray) (t : ByteArray) (h : rd22 s = some (false, t)) (w : World) :
  Calls Try.prog 11 #[.string s] w fun e w' => e = .returned (.tuple #[.int .i64 0, .int .i64 8]) ∧ Below w.heap.size w w' := by
 have H := Aside0.mk h; clear h
 go_enter Try.func11, Try.ntmps11
 go_wp2_with fail
 refine (read_calls s false t H.out _).mono ?_; rintro e w1 ⟨⟨A, c, rfl, hc, hC⟩, hb⟩
 have HB := Aside0.mk hb
 clear hc hC hb
 go_wp2
 go_ret2
 exact ⟨rfl, HB.out⟩
set_option maxHeartbeats 4000000 in
set_option maxRecDepth 100000 in
theorem ones.yes (s : ByteArray) (t : ByteArray) (r : Int) (bs : List Int) (hbs : bytesOf t = bs) (h : rd22 s = some (true, t)) (hr : onesL bs 0 = some r) (w : World) :
  Calls Try.prog 11 #[.string s] w fun e w' => e = .returned (.tuple #[.int .i64 r, .int .i64 0]) ∧ Below w.heap.size w w' := by
 have hl : bs.length = t.size := by rw [← hbs]; exact bytesOf_length t
 have H := Aside0.mk h; have HR := Aside0.mk hr; have HL := Aside0.mk hl; have HBS := Aside0.mk hbs
 clear h hr hl hbs
 go_enter Try.func11, Try.ntmps11
 go_wp2_with fail
 refine (read_calls s true t H.out _).mono ?_; rintro e w1 ⟨⟨A, c, rfl, hc, hC⟩, hb⟩
 rw [HBS.out, ← HL.out] at hC
 have HC := Aside0.mk hC; have HB := Aside0.mk hb
 have hsz := hC.2.1
 have HSZ := Aside0.mk hsz
 clear hc hC hb hsz
 rw [← HL.out]
 go_wp2
 go_loopg [18, 6] bs.length (fun gq s18 s6 wx => ∃ (j : Nat) (n : Int), j ≤ bs.length ∧ gq = bs.length - j ∧ s18 = .int .i64 (j : Int) ∧ s6 = .int .i64 n ∧ Aside0 (Below w1.heap.size w1 wx) ∧ Aside0 (onesL (bs.drop j) n = some r))
 case atStart => exact ⟨0, 0, by omega, rfl, rfl, rfl, ⟨Below.refl _ _⟩, HR⟩
 case round =>
  clear HR
  obtain ⟨j, n, hj, rfl, rfl, rfl, HBW, HR⟩ := hrel
  by_cases hlt : j < bs.length
  ·have HJ := Aside0.mk hlt
   obtain ⟨ad, hA, q0⟩ := Kd.at_int (Kd.C_below HC.out HBW.out) (j : Int) (by omega) (by omega)
   cases hA
   rw [Int.toNat_natCast] at q0
   have k1 : decide ((j : Int) < (bs.length : Int)) = true := decide_eq_true (by omega)
   have k2 : decide (j < bs.length) = true := decide_eq_true hlt
   have b0 : (0 : Int) ≤ (j : Int) := by omega
   have b1 : (j : Int) < (bs.length : Int) := by omega
   have hw5 : wrap64 ((j : Int) + 1) = ((j + 1 : Nat) : Int) := by have := HSZ.out; rw [w64 (by omega) (by omega)]; omega
   have hr := HR.out
   have hdr : bs.drop j = rd bs (j : Int) :: bs.drop (j + 1) := by
    rw [List.drop_eq_getElem_cons hlt]
    congr 1
    unfold rd
    rw [Int.toNat_natCast, List.getD_eq_getElem?_getD, List.getElem?_eq_getElem hlt]; rfl
   rw [hdr, onesL] at hr
   obtain ⟨c1, hc1, hr⟩ := Option.bind_eq_some_iff.1 hr
   have HC1 := Aside0.mk hc1; have HREST := Aside0.mk hr
   obtain ⟨y, hy⟩ : ∃ y, y = rd bs (j : Int) := ⟨_, rfl⟩
   rw [← hy] at q0 HC1
   clear hlt hj hr hdr hc1 HR hy
   go_wp2_with fail
   refine (bits_OnesCount8.calls y c1 _ HC1.out).mono ?_
   rintro e w3 ⟨rfl, ⟨nd, rfl⟩⟩
   go_wp2
   go_roundg (bs.length - (j + 1))
   case measure => have := HJ.out; omega
   case rel => exact ⟨j + 1, _, by have := HJ.out; omega, rfl, by go_num, rfl, ⟨pw_below_drewN HBW.out _⟩, HREST⟩
  ·have hjl : j = bs.length := by omega
   subst hjl
   have k1 : decide ((bs.length : Int) < (bs.length : Int)) = false := decide_eq_false (by omega)
   have k2 : decide (bs.length < bs.length) = false := decide_eq_false (by omega)
   have hr := HR.out
   rw [List.drop_length, onesL] at hr
   obtain rfl := Option.some.inj hr
   clear hlt hj hr
   go_wp2
   go_ret2
   exact ⟨rfl, below_then HB.out HB.out.size HBW.out⟩
theorem ones_calls (s : ByteArray) (r1 r2 : Int) (w : World) (h : onesF s = some (r1, r2)) :
  Calls Try.prog 11 #[.string s] w fun e w' => e = .returned (.tuple #[.int .i64 r1, .int .i64 r2]) ∧ Below w.heap.size w w' := by
 unfold onesF at h
 obtain ⟨⟨b, t⟩, hrd, h⟩ := Option.bind_eq_some_iff.1 h
 cases b
 ·rw [if_neg (show ¬ (false = true) by decide)] at h
  obtain ⟨rfl, rfl⟩ := Prod.mk.injEq _ _ _ _ ▸ Option.some.inj h
  exact ones.no s t hrd w
 ·rw [if_pos rfl] at h
  obtain ⟨n, hn, h⟩ := Option.bind_eq_some_iff.1 h
  obtain ⟨rfl, rfl⟩ := Prod.mk.injEq _ _ _ _ ▸ Option.some.inj h
  exact ones.yes s t n _ rfl hrd hn w
def filter_Ones.f (a0 : ByteArray) : Option (Int × Int) := onesF a0
theorem filter_Ones.calls (a0 : ByteArray) (r1 : Int) (r2 : Int) (w : World) (h : filter_Ones.f a0 = some (r1, r2)) :
  Calls Try.prog 11 #[.string a0] w fun e w' => e = .returned (.tuple #[.int .i64 r1, .int .i64 r2]) ∧ Below w.heap.size w w' :=
 ones_calls a0 r1 r2 w h
end Go.Proofs.Ytlbcpigjbjolaaa.G
namespace Go.Proofs.Ytlbcpigjbjolaaa.G
open Go.RowKit Go.Proofs.YtlbcpigjbjolaaaQ Go.Proofs.YtlbcpigjbjolaaaW.PrintWords Go.Proofs.YtlbcpigjbjolaaaW.PrintLast Go.Proofs.YtlbcpigjbjolaaaW.PrintMore
attribute [local go_sem] max2_int min2_int max_two min_two max_three min_three max_four min_four   -- for this text's walks alone
set_option linter.unusedVariables false
set_option linter.unusedSimpArgs false
end Go.Proofs.Ytlbcpigjbjolaaa.G
namespace Go.Proofs.Ytlbcpigjbjolaaa.G
open Go.RowKit Go.Proofs.YtlbcpigjbjolaaaQ Go.Proofs.YtlbcpigjbjolaaaW.PrintWords Go.Proofs.YtlbcpigjbjolaaaW.PrintLast Go.Proofs.YtlbcpigjbjolaaaW.PrintMore
attribute [local go_sem] max2_int min2_int max_two min_two max_three min_three max_four min_four
set_option linter.unusedVariables false
set_option linter.unusedSimpArgs false
theorem C_take {w : World} {A : Option Addr} {l : List S28} (h : Kd.C k28 w A l.length l) (m : Nat) (hm : m ≤ l.length) : Kd.C k28 w A (l.take m).length (l.take m) := by
 obtain ⟨h1, h2, h3⟩ := h
 have hl : (l.take m).length = m := by rw [List.length_take]; omega
 refine ⟨rfl, by rw [hl]; omega, fun hp => ?_⟩
 obtain ⟨ad, hA, hc⟩ := h3 (by omega)
 refine ⟨ad, hA, fun j p hj => hc j p ?_⟩
 rw [List.getElem?_take] at hj
 split at hj
 ·exact hj
 ·cases hj
set_option maxHeartbeats 1000000 in
set_option maxRecDepth 100000 in
theorem early_calls (A0 : Option Addr) (n c0 m : Nat) (hm : m = min n 200) (hc : n ≤ c0) (w : World) :
  Calls Try.prog 8 #[.slice A0 n c0] w fun e w' => e = .returned (.slice A0 m c0) ∧ w' = w := by
 have h1 : m ≤ n := by omega
 have b0 : (0 : Int) ≤ (m : Int) := by omega
 have b1 : (m : Int) ≤ (c0 : Int) := by omega
 have b2 : m ≤ c0 := by omega
 have d1 : decide ((c0 : Int) < (m : Int)) = false := decide_eq_false (by omega)
 have d2 : decide (c0 < m) = false := decide_eq_false (by omega)
 have hmn : (if (n : Int) ≤ 200 then (n : Int) else 200) = (m : Int) := by split <;> omega
 have hmn2 : min (n : Int) 200 = (m : Int) := by omega
 have HM := Aside0.mk hm
 clear hm hc h1
 go_enter Try.func8, Try.ntmps8
 go_wp2
 case inl =>
  have e : m = 200 := by have := HM.out; omega
  subst e
  go_ret
  exact ⟨rfl, rfl⟩
 case inr =>
  have e : m = n := by have := HM.out; omega
  subst e
  go_ret
  exact ⟨rfl, rfl⟩
theorem mk_calls (k : Nat) (A0 : Option Addr) (m c0 : Nat) (l : List S28) (hl : l.length = m) (r : ByteArray) (w : World) (hr : Kd.C k28 w A0 m l) (hc : m ≤ c0) (h : filter_Make.f k l = some r) :
  Calls Try.prog 7 #[.slice A0 m c0] w fun e w' => e = .returned (.string r) ∧ Below w.heap.size w w' := by
 subst hl
 exact filter_Make.calls k A0 c0 l r w hr hc h
theorem rmk_calls (k : Nat) (A0 : Option Addr) (m c0 : Nat) (l : List S28) (hl : l.length = m) (r : ByteArray) (w : World) (hr : Kd.C k28 w A0 m l) (hc : m ≤ c0) (h : tithebarnref22_Make.f k l = some r) :
  Calls Try.prog 9 #[.slice A0 m c0] w fun e w' => e = .returned (.string r) ∧ Below w.heap.size w w' := by
 subst hl
 exact tithebarnref22_Make.calls k A0 c0 l r w hr hc h
set_option maxHeartbeats 2000000 in
set_option maxRecDepth 100000 in
theorem makes.walk (k1 k2 k3 : Nat) (A0 : Option Addr) (c0 : Nat) (l : List S28) (r : ByteArray) (w : World) (hlv : tithebarnlaw22_lives.f k1 = some true) (h1 : filter_Make.f k2 (l.take 200) = some r) (h2 : tithebarnref22_Make.f k3 (l.take 200) = some r)
  (hr0 : Kd.C k28 w A0 l.length l) (hc0 : l.length ≤ c0) :
  Calls Try.prog 3 #[.slice A0 l.length c0] w fun e w' => e = .returned (.bool true) ∧ Below w.heap.size w w' := by
 obtain ⟨m, hm⟩ : ∃ m, m = min l.length 200 := ⟨_, rfl⟩
 have hlen : (l.take 200).length = m := by rw [List.length_take]; omega
 have htk : l.take 200 = l.take m := by
  rcases Nat.le_total l.length 200 with q | q
  ·rw [List.take_of_length_le q, List.take_of_length_le (by omega)]
  ·rw [hm, Nat.min_eq_right q]
 have hC : Kd.C k28 w A0 m (l.take 200) := by
  have := C_take hr0 m (by omega)
  rw [← htk, hlen] at this
  exact this
 have HLV := Aside0.mk hlv; have H1 := Aside0.mk h1; have H2 := Aside0.mk h2; have HC := Aside0.mk hC; have HM := Aside0.mk hm; have HLEN := Aside0.mk hlen; have HC0 := Aside0.mk hc0
 clear hlv h1 h2 hC hr0 hc0 htk hm hlen
 go_enter Try.func3, Try.ntmps3
 go_wp2_with fail
 refine (tithebarnlaw22_lives.calls k1 true _ HLV.out).mono ?_; rintro e w1 ⟨rfl, hb⟩
 have HB := Aside0.mk hb; clear hb
 go_wp2_with fail
 refine (early_calls A0 l.length c0 m HM.out HC0.out _).mono ?_; rintro e w2 ⟨rfl, rfl⟩
 go_wp2_with fail
 refine (mk_calls k2 A0 m c0 (l.take 200) HLEN.out r _ (Kd.C_below HC.out HB.out) (by have := HM.out; have := HC0.out; omega) H1.out).mono ?_; rintro e w3 ⟨rfl, hb⟩
 replace HB := Aside0.mk (below_then HB.out HB.out.size hb); clear hb
 go_wp2_with fail
 refine (early_calls A0 l.length c0 m HM.out HC0.out _).mono ?_; rintro e w4 ⟨rfl, rfl⟩
 go_wp2_with fail
 refine (rmk_calls k3 A0 m c0 (l.take 200) HLEN.out r _ (Kd.C_below HC.out HB.out) (by have := HM.out; have := HC0.out; omega) H2.out).mono ?_; rintro e w5 ⟨rfl, hb⟩
 replace HB := Aside0.mk (below_then HB.out HB.out.size hb); clear hb
 go_wp2
 go_ret
 exact ⟨by simp, HB.out⟩
set_option maxHeartbeats 4000000 in
set_option maxRecDepth 100000 in
theorem never.walk (k1 k2 k3 : Nat) (A0 : Option Addr) (c0 : Nat) (l : List S28) (f : ByteArray) (n : Int) (w : World) (hlv : tithebarnlaw22_lives.f k1 = some true) (h1 : filter_Make.f k2 (l.take 200) = some f)
  (h2 : ∀ x ∈ l.take 200, filter_May.f k3 f x.f0 x.f1 x.f2 = some (true, 0)) (h3 : filter_Ones.f f = some (n, 0)) (hn : n ≤ 4 * ((l.take 200).length : Int)) (hz : (((l.take 200).length : Int) == 0) = (n == 0))
  (hr0 : Kd.C k28 w A0 l.length l) (hc0 : l.length ≤ c0) :
  Calls Try.prog 5 #[.slice A0 l.length c0] w fun e w' => e = .returned (.bool true) ∧ Below w.heap.size w w' := by
 obtain ⟨m, hm⟩ : ∃ m, m = min l.length 200 := ⟨_, rfl⟩
 have hlen : (l.take 200).length = m := by rw [List.length_take]; omega
 have htk : l.take 200 = l.take m := by
  rcases Nat.le_total l.length 200 with q | q
  ·rw [List.take_of_length_le q, List.take_of_length_le (by omega)]
  ·rw [hm, Nat.min_eq_right q]
 have hC : Kd.C k28 w A0 m (l.take 200) := by
  have := C_take hr0 m (by omega)
  rw [← htk, hlen] at this
  exact this
 rw [hlen] at hn hz
 have hm2 : m ≤ 200 := by omega
 have hmc : m ≤ c0 := by omega
 have HLV := Aside0.mk hlv; have H1 := Aside0.mk h1; have H2 := Aside0.mk h2; have H3 := Aside0.mk h3; have HN := Aside0.mk hn; have HZ := Aside0.mk hz; have HC := Aside0.mk hC; have HM := Aside0.mk hm; have HLEN := Aside0.mk hlen; have HC0 := Aside0.mk hc0; have HM2 := Aside0.mk hm2; have HMC := Aside0.mk hmc
 clear hlv h1 h2 h3 hn hz hC hr0 hc0 htk hm hlen hm2 hmc
 go_enter Try.func5, Try.ntmps5
 go_wp2_with fail
 refine (tithebarnlaw22_lives.calls k1 true _ HLV.out).mono ?_; rintro e w1 ⟨rfl, hb⟩
 have HB := Aside0.mk hb; clear hb
 go_wp2_with fail
 refine (early_calls A0 l.length c0 m HM.out HC0.out _).mono ?_; rintro e w2 ⟨rfl, rfl⟩
 go_wp2_with fail
 refine (mk_calls k2 A0 m c0 (l.take 200) HLEN.out f _ (Kd.C_below HC.out HB.out) HMC.out H1.out).mono ?_; rintro e w3 ⟨rfl, hb⟩
 replace HB := Aside0.mk (below_then HB.out HB.out.size hb); clear hb
 go_wp2
 go_loopg [4] m (fun gq s4 wx => ∃ i : Nat, i ≤ m ∧ gq = m - i ∧ s4 = .int .i64 (i : Int) ∧ Aside0 (Below w.heap.size w wx))
 case atStart => exact ⟨0, by omega, rfl, rfl, HB⟩
 case round =>
  clear HB
  obtain ⟨i, hi, rfl, rfl, HB⟩ := hrel
  by_cases hlt : i < m
  ·have HLT := Aside0.mk hlt
   obtain ⟨ad, hA, q0, q1, q2⟩ := at_T28 (Kd.C_below HC.out HB.out) (i : Int) (by omega) (by omega)
   cases hA
   rw [Int.toNat_natCast] at q0 q1 q2
   have k1 : decide ((i : Int) < (m : Int)) = true := decide_eq_true (by omega)
   have k2 : decide (i < m) = true := decide_eq_true hlt
   have b0 : (0 : Int) ≤ (i : Int) := by omega
   have b1 : (i : Int) < (m : Int) := by omega
   have hw5 : wrap64 ((i : Int) + 1) = ((i + 1 : Nat) : Int) := by have := HM2.out; rw [w64 (by omega) (by omega)]; omega
   obtain ⟨x, hx⟩ : ∃ x, x = rd_T28 (l.take 200) (i : Int) := ⟨_, rfl⟩
   rw [← hx] at q0 q1 q2
   have hxm : x ∈ l.take 200 := by
    have hil : i < (l.take 200).length := by rw [HLEN.out]; exact hlt
    rw [hx]; unfold rd_T28
    rw [Int.toNat_natCast, List.getD_eq_getElem?_getD, List.getElem?_eq_getElem hil]
    exact List.getElem_mem hil
   have HX := Aside0.mk (H2.out x hxm)
   clear hxm hx hlt hi
   go_wp2_with fail
   refine (filter_May.calls k3 f x.f0 x.f1 x.f2 true 0 _ HX.out).mono ?_; rintro e w4 ⟨rfl, hb⟩
   replace HB := Aside0.mk (below_then HB.out HB.out.size hb); clear hb
   go_wp2
   go_roundg (m - (i + 1))
   case measure => have := HLT.out; omega
   case rel => exact ⟨i + 1, by have := HLT.out; omega, rfl, by go_num, HB⟩
  ·have him : i = m := by omega
   subst him
   have k1 : decide ((i : Int) < (i : Int)) = false := decide_eq_false (by omega)
   have k2 : decide (i < i) = false := decide_eq_false (by omega)
   clear hlt hi
   go_wp2_with fail
   refine (filter_Ones.calls f n 0 _ H3.out).mono ?_; rintro e w4 ⟨rfl, hb⟩
   replace HB := Aside0.mk (below_then HB.out HB.out.size hb); clear hb
   have hw6 : wrap64 (4 * (i : Int)) = 4 * (i : Int) := by have := HM2.out; rw [w64 (by omega) (by omega)]
   have b3 : n ≤ 4 * (i : Int) := HN.out
   have b4 : decide (n ≤ 4 * (i : Int)) = true := decide_eq_true HN.out
   go_wp2
   go_ret
   exact ⟨by have h := HZ.out; simp [h], HB.out⟩
set_option maxHeartbeats 4000000 in
set_option maxRecDepth 100000 in
theorem order.walk (k1 k2 : Nat) (A0 : Option Addr) (c0 : Nat) (l : List S28) (r : ByteArray) (w : World) (hlv : tithebarnlaw22_lives.f k1 = some true) (h1 : filter_Make.f k2 (l.take 200) = some r)
  (h2 : filter_Make.f k2 (l.take 200).reverse = some r) (h3 : filter_Make.f k2 ((l.take 200).reverse ++ l.take 200) = some r)
  (hr0 : Kd.C k28 w A0 l.length l) (hc0 : l.length ≤ c0) :
  Calls Try.prog 4 #[.slice A0 l.length c0] w fun e w' => e = .returned (.bool true) ∧ Below w.heap.size w w' := by
 obtain ⟨m, hm⟩ : ∃ m, m = min l.length 200 := ⟨_, rfl⟩
 have hlen : (l.take 200).length = m := by rw [List.length_take]; omega
 have htk : l.take 200 = l.take m := by
  rcases Nat.le_total l.length 200 with q | q
  ·rw [List.take_of_length_le q, List.take_of_length_le (by omega)]
  ·rw [hm, Nat.min_eq_right q]
 have hC : Kd.C k28 w A0 m (l.take 200) := by
  have := C_take hr0 m (by omega)
  rw [← htk, hlen] at this
  exact this
 have hm2 : m ≤ 200 := by omega
 have hmc : m ≤ c0 := by omega
 have HM := Aside0.mk hm; have HC0 := Aside0.mk hc0
 obtain ⟨ks, hks⟩ : ∃ ks, ks = l.take 200 := ⟨_, rfl⟩
 rw [← hks] at h1 h2 h3 hC hlen
 have HLV := Aside0.mk hlv; have H1 := Aside0.mk h1; have H2 := Aside0.mk h2; have H3 := Aside0.mk h3; have HC := Aside0.mk hC; have HLEN := Aside0.mk hlen; have HM2 := Aside0.mk hm2; have HMC := Aside0.mk hmc
 clear hlv h1 h2 h3 hC hr0 hc0 htk hm hlen hm2 hmc hks
 go_enter Try.func4, Try.ntmps4
 go_wp2_with fail
 refine (tithebarnlaw22_lives.calls k1 true _ HLV.out).mono ?_; rintro e w1 ⟨rfl, hb⟩
 have HB := Aside0.mk hb; clear hb
 go_wp2_with fail
 refine (early_calls A0 l.length c0 m HM.out HC0.out _).mono ?_; rintro e w2 ⟨rfl, rfl⟩
 have hw0 : wrap64 ((m : Int) - 1) = (m : Int) - 1 := by have := HM2.out; rw [w64 (by omega) (by omega)]
 have HW0 := Aside0.mk hw0
 go_wp2
 clear hw0
 go_loopg [3, 4] (m + 1) (fun gq s3 s4 wx => ∃ (p : Nat) (z : Int), p ≤ m ∧ gq = p + 1 ∧ z = (p : Int) - 1 ∧ s4 = .int .i64 z ∧ Aside0 (Below w.heap.size w wx) ∧ Aside0 (Kd.R k28 28 wx w.heap.size (fun _ => True) s3 (ks.drop p).reverse))
 case atStart => exact ⟨m, _, Nat.le_refl _, rfl, rfl, by rw [HW0.out], HB, ⟨by rw [List.drop_eq_nil_of_le (by rw [HLEN.out]; exact Nat.le_refl _)]; exact Kd.R_nil _ _ _ _ _⟩⟩
 case round =>
  clear HB
  obtain ⟨p, z, hp, rfl, hz, rfl, HB, HO⟩ := hrel
  by_cases h0 : 0 < p
  ·obtain ⟨q, rfl⟩ : ∃ q, p = q + 1 := ⟨p - 1, by omega⟩
   obtain rfl : z = (q : Int) := by omega
   have HQ := Aside0.mk hp
   obtain ⟨ad, hA, q0, q1, q2⟩ := at_T28 (Kd.C_below HC.out HB.out) (q : Int) (by omega) (by omega)
   cases hA
   rw [Int.toNat_natCast] at q0 q1 q2
   obtain ⟨x, hx⟩ : ∃ x, x = rd_T28 ks (q : Int) := ⟨_, rfl⟩
   rw [← hx] at q0 q1 q2
   have hdr : (ks.drop q).reverse = (ks.drop (q + 1)).reverse ++ [x] := by
    have hql : q < ks.length := by rw [HLEN.out]; omega
    rw [List.drop_eq_getElem_cons hql, List.reverse_cons, hx]
    unfold rd_T28
    rw [Int.toNat_natCast, List.getD_eq_getElem?_getD, List.getElem?_eq_getElem hql]; rfl
   have HDR := Aside0.mk hdr
   have hll : (ks.drop (q + 1)).reverse.length ≤ 200 := by have := HLEN.out; have := HM2.out; rw [List.length_reverse, List.length_drop]; omega
   have HLL := Aside0.mk hll
   have b0 : (0 : Int) ≤ (q : Int) := by omega
   have b1 : (q : Int) < (m : Int) := by omega
   have k1 : decide ((q : Int) ≥ 0) = true := decide_eq_true (by omega)
   have hw5 : wrap64 ((q : Int) - 1) = (q : Int) - 1 := by have := HM2.out; rw [w64 (by omega) (by omega)]
   clear hp hz h0 hx hdr hll
   go_wp2_with ((with_reducible refine gate_builtin (b := .append) (xs := #[.tmp 17, .tmp 22]) rfl ?_); at_builtin; refine Kd.R_append k28 (w0 := w) w.heap.size rfl (.tmp 17) (.tmp 22) 22 28 (.agg #[(.bool false), (.int .i64 0), (.string ⟨#[]⟩)]) 32 rfl Try.underlying22 info28 rfl (by decide) (by omega) u3 (ks.drop (q + 1)).reverse x [.bool x.f0, .int .i64 x.f1, .string x.f2] (fun _ => True) (fun _ => False) rfl rfl (k28_mkM _ _ _ x) (fun _ hk => hk.elim) (fun _ _ => trivial) HO.out HB.out (below_size HB.out) (by have := HLL.out; omega) ?_; intro v1 w1 ho hb hg hat; have HO1 := Aside0.mk ho; have HB1 := Aside0.mk hb; clear ho hb hg hat)
   go_roundg (q + 1)
   case measure => omega
   case rel => exact ⟨q, _, by have := HQ.out; omega, rfl, rfl, by rw [hw5], HB1, ⟨by rw [HDR.out]; exact HO1.out⟩⟩
  ·obtain rfl : p = 0 := by omega
   obtain rfl : z = -1 := by omega
   rw [List.drop_zero] at HO
   clear hp hz h0
   go_wp2_with fail
   refine (mk_calls k2 A0 m c0 ks HLEN.out r _ (Kd.C_below HC.out HB.out) HMC.out H1.out).mono ?_; rintro e w3 ⟨rfl, hb⟩
   have HB1 := Aside0.mk (below_then HB.out HB.out.size hb); have HO1 := Aside0.mk (Kd.R_below HO.out hb); clear hb HB HO
   obtain ⟨As, cs, es, hls, hCs⟩ := Kd.R_reads HO1.out
   have hrl : ks.reverse.length = m := by rw [List.length_reverse]; exact HLEN.out
   rw [hrl] at es hls hCs
   subst es
   have HRL := Aside0.mk hrl; have HLS := Aside0.mk hls; have HCS := Aside0.mk hCs
   clear hrl hls hCs
   go_wp2_with fail
   refine (mk_calls k2 As m cs ks.reverse HRL.out r _ HCS.out HLS.out H2.out).mono ?_; rintro e w4 ⟨rfl, hb⟩
   have HB2 := Aside0.mk (below_then HB1.out HB1.out.size hb); have HO2 := Aside0.mk (Kd.R_below HO1.out hb); clear hb HB1 HO1 HCS
   go_wp2_with ((with_reducible refine gate_builtin (b := .append) (xs := #[.tmp 31, .tmp 32]) rfl ?_); (try (refine gate_guard (by rfl) ?_; dsimp only)); at_builtin; refine Kd.R_append_rows k28 (w0 := w) w.heap.size rfl (.tmp 31) (.tmp 32) 22 28 (.agg #[(.bool false), (.int .i64 0), (.string ⟨#[]⟩)]) 32 rfl Try.underlying22 info28 rfl (by decide) (by omega) (.slice As m cs) ks.reverse ks A0 m c0 (fun _ => True) (fun _ => False) rfl rfl HO2.out (Kd.C_below HC.out HB2.out) (fun _ _ h => h) (fun _ h => h.elim) (fun _ _ => trivial) HB2.out (below_size HB2.out) (by have := HRL.out; have := HM2.out; omega) ?_; intro v5 w5 ho hb hg hat; have HO3 := Aside0.mk ho; have HB3 := Aside0.mk hb; clear ho hb hg hat HO2; obtain ⟨A5, c5, e5, hl5, hC5⟩ := Kd.R_reads HO3.out; subst e5; have HL5 := Aside0.mk hl5; have HC5 := Aside0.mk hC5; clear hl5 hC5)
   have hle : (ks.reverse ++ ks).length = ks.length + ks.length := by rw [List.length_append, List.length_reverse]
   have hC6 := HC5.out
   have hL6 := HL5.out
   rw [hle] at hC6 hL6
   refine (mk_calls k2 A5 (ks.length + ks.length) c5 (ks.reverse ++ ks) hle r _ hC6 hL6 H3.out).mono ?_; rintro e w6 ⟨rfl, hb⟩
   have HB4 := Aside0.mk (below_then HB3.out HB3.out.size hb); clear hb hC6 hL6 hle
   go_wp2
   go_ret
   exact ⟨by simp, HB4.out⟩
end Go.Proofs.Ytlbcpigjbjolaaa.G
namespace Go.Proofs.Ytlbcpigjbjolaaa.G
open Go.RowKit Go.Proofs.YtlbcpigjbjolaaaQ Go.Proofs.YtlbcpigjbjolaaaW.PrintWords Go.Proofs.YtlbcpigjbjolaaaW.PrintLast Go.Proofs.YtlbcpigjbjolaaaW.PrintMore
set_option linter.unusedVariables false
set_option linter.unusedSimpArgs false
theorem w64' (x : Int) (h0 : -9223372036854775808 ≤ x) (h1 : x < 9223372036854775808) : wrap64 x = x := w64 h0 h1
theorem big_step (k : Nat) (l : List Int) (x : Int) (i : Nat) (hi : i ≤ 7) (hl : l.length < 140737488355328) :
  tally_big.l0 (k + 1) l x i = tally_big.l0 k (l ++ [x / 256 ^ i % 256]) x ((i : Int) - 1) := by
 simp only [tally_big.l0]
 rw [if_pos (by omega), w64' (8 * (i : Int)) (by omega) (by omega), if_pos (by omega), if_pos hl, w64' ((i : Int) - 1) (by omega) (by omega)]
 have e : (8 * (i : Int)) = ((8 * i : Nat) : Int) := by omega
 rw [e, shr_u64_lit x (8 * i) (by omega)]
 have e2 : (256 : Int) ^ i = 2 ^ (8 * i) := by rw [Int.pow_mul]; rfl
 rw [e2]
theorem big_end (k : Nat) (l : List Int) (x : Int) : tally_big.l0 (k + 1) l x (-1) = some l := by
 simp only [tally_big.l0]; rw [if_neg (by omega)]
def bigs (x : Int) : Nat → List Int
 | 0 => []
 | n + 1 => x / 256 ^ n % 256 :: bigs x n
theorem bigs_len (x : Int) (n : Nat) : (bigs x n).length = n := by induction n with | zero => rfl | succ n ih => simp [bigs, ih]
theorem big_f (n : Nat) (hn : n ≤ 8) : ∀ (k : Nat) (l : List Int) (x : Int), n < k → l.length + n ≤ 140737488355328 → tally_big.l0 k l x ((n : Int) - 1) = some (l ++ bigs x n) := by
 induction n with
 | zero =>
  intro k l x hk hl
  obtain ⟨k, rfl⟩ : ∃ m, k = m + 1 := ⟨k - 1, by omega⟩
  have e : ((0 : Nat) : Int) - 1 = -1 := by omega
  rw [e, big_end]; simp [bigs]
 | succ n ih =>
  intro k l x hk hl
  obtain ⟨k, rfl⟩ : ∃ m, k = m + 1 := ⟨k - 1, by omega⟩
  have e : ((n + 1 : Nat) : Int) - 1 = (n : Int) := by omega
  rw [e, big_step k l x n (by omega) (by omega), ih (by omega) k _ x (by omega) (by simp; omega)]
  simp [bigs]
theorem Uint_f {k : Nat} (hk : 10 ≤ k) {l : List Int} (hl : l.length + 9 ≤ 140737488355328) {x : Int} (hx : u64 x) : tally_Uint.f k l x = some (l ++ encU x) := by
 obtain ⟨h0, h1⟩ := hx
 unfold tally_Uint.f encU
 by_cases c1 : x < 64
 ·rw [if_pos (by omega), if_pos (by omega), if_pos c1]
  simp; omega
 ·rw [if_neg (by omega), if_neg c1]
  by_cases c2 : x < 16384
  ·rw [if_pos (by omega), if_pos c2, or_join' 16384 x 14 (by omega) (by omega) (by omega) (by omega) (by decide) (by simp; omega)]
   unfold tally_big.f
   have e : wrap64 (2 - 1) = ((2 : Nat) : Int) - 1 := by unfold wrap64; decide
   rw [e, big_f 2 (by omega) k l _ (by omega) (by omega)]
   simp [bigs]; omega
  ·rw [if_neg (by omega), if_neg c2]
   by_cases c3 : x < 1073741824
   ·rw [if_pos (by omega), if_pos c3, or_join' 2147483648 x 30 (by omega) (by omega) (by omega) (by omega) (by decide) (by simp; omega)]
    unfold tally_big.f
    have e : wrap64 (4 - 1) = ((4 : Nat) : Int) - 1 := by unfold wrap64; decide
    rw [e, big_f 4 (by omega) k l _ (by omega) (by omega)]
    simp [bigs]; omega
   ·rw [if_neg (by omega), if_neg c3, if_pos (by omega)]
    unfold tally_big.f
    have e : wrap64 (8 - 1) = ((8 : Nat) : Int) - 1 := by unfold wrap64; decide
    rw [e, big_f 8 (by omega) k _ _ (by omega) (by simp; omega)]
    simp [bigs]
theorem Int_f {k : Nat} (hk : 10 ≤ k) {l : List Int} (hl : l.length + 9 ≤ 140737488355328) {x : Int} (hx : i64 x) : tally_Int.f k l x = some (l ++ Go.Proofs.YtlbcpigjbjolaaaQ.encI x) := by
 unfold tally_Int.f
 rw [zig x hx, Uint_f hk hl (fold_u64 hx)]; rfl
theorem Text_f {k : Nat} (hk : 10 ≤ k) {l : List Int} {s : ByteArray} (hl : l.length + 9 + s.size < 140737488355328) : tally_Text.f k l s = some (l ++ encT (bytesOf s)) := by
 unfold tally_Text.f
 have hu : u64 (s.size : Int) := by unfold u64; omega
 rw [wu64 hu.1 hu.2, Uint_f hk (by omega) hu]
 have := encU_len (s.size : Int)
 simp only [Option.bind_some]
 rw [if_pos (by simp; omega)]
 simp [encT, bytesOf_size]
def aUint (r : List Int) (e : Int) : Int × List Int × Int := if e = 0 then ((decU r).1, r.drop (decU r).2.1, (decU r).2.2) else (0, r, e)
theorem cUint_f (s : ByteArray) (e : Int) : tally_Cursor_Uint.f s e = some ((aUint (bytesOf s) e).1, strOfNums (aUint (bytesOf s) e).2.1, (aUint (bytesOf s) e).2.2) := by
 unfold tally_Cursor_Uint.f tally_Cursor_ok.f tally_next.f aUint
 simp only [Option.bind_some]
 by_cases c : e = 0
 ·rw [if_pos (by simpa using c), if_pos c]
  simp only
  rw [← bytesOf_tail, strOfNums_bytesOf]
 ·rw [if_neg (by simpa using c), if_neg c]
  simp only
  rw [strOfNums_bytesOf]
end Go.Proofs.Ytlbcpigjbjolaaa.G
namespace Go.Proofs.Ytlbcpigjbjolaaa.G
open Go.RowKit Go.Proofs.YtlbcpigjbjolaaaQ Go.Proofs.YtlbcpigjbjolaaaW.PrintWords Go.Proofs.YtlbcpigjbjolaaaW.PrintLast Go.Proofs.YtlbcpigjbjolaaaW.PrintMore
set_option linter.unusedVariables false
set_option linter.unusedSimpArgs false
set_option maxRecDepth 100000 in
theorem lives22 : tithebarnlaw22_lives.f 60 = some true := by kernel_rfl
def OkK (x : S28) : Prop := i64 x.f1 ∧ x.f2.size ≤ 140737488351232
def tail22 (x : S28) : List Int := Go.Proofs.YtlbcpigjbjolaaaQ.encI x.f1 ++ encT (bytesOf x.f2) ++ [if x.f0 = true then 1 else 0]
theorem encU_len_le (x : Int) : (encU x).length ≤ 9 := by
 unfold encU
 repeat' split
 all_goals simp [bigs_len]
theorem tailOf_f {k : Nat} (hk : 10 ≤ k) {x : S28} (h : OkK x) : tailOf k x = some (tail22 x) := by
 obtain ⟨h1, h2⟩ := h
 unfold tailOf tail22
 rw [Int_f hk (l := []) (by simp) h1, Option.bind_some, List.nil_append]
 have hl : (Go.Proofs.YtlbcpigjbjolaaaQ.encI x.f1).length ≤ 9 := encU_len_le _
 rw [Text_f hk (by omega), Option.bind_some]
 have h3 : (encT (bytesOf x.f2)).length ≤ 9 + x.f2.size := by
  unfold encT
  rw [List.length_append, bytesOf_length]
  have := encU_len_le ((bytesOf x.f2).length : Int)
  rw [bytesOf_length] at this
  omega
 rw [if_pos (by rw [List.length_append]; omega)]
end Go.Proofs.Ytlbcpigjbjolaaa.G
namespace Go.Proofs.YtlbcpigjbjolaaaQ
open Go.RowKit Go.Proofs.YtlbcpigjbjolaaaW.PrintWords Go.Proofs.Ytlbcpigjbjolaaa
open Go.ChangeShapes Go.WideShapes Go.ChangeAt Go.RowKit
set_option linter.unusedVariables false
set_option linter.unusedSimpArgs false
theorem bulk_pos {H : Type} (d : DataW H) : 1 ≤ Rows.uptoBulk d := by
 cases d with
 | lit l => cases l <;> simp [Rows.uptoBulk]
 | nil => simp [Rows.uptoBulk]
 | ptr d => simp [Rows.uptoBulk]
 | slice elems spare => simp [Rows.uptoBulk]
 | agg parts => simp [Rows.uptoBulk]
 | iface t d => simp [Rows.uptoBulk]
 | map entries => simp [Rows.uptoBulk]
 | held h => simp [Rows.uptoBulk]
def Rdg {α : Type} (P : Program) (t : TypeId) (d : Kd α) (Ok : α → Prop) (B : α → Nat) : Prop :=
 ∀ {H : Type} {enc : TypeId × Value → H} {w : World} {base : Nat} {spare : Nat → Bool} {held : Bool} {fuel : Nat} {cs : List Value} {dat : DataW H} {ps : List MemPlace},
  DataW.trod enc P w base spare held fuel t cs = some (dat, ps) → ∃ x, d.K w x cs ∧ Ok x ∧ B x ≤ Rows.uptoBulk dat
theorem Rdg.int {P : Program} {t : TypeId} {k : IntKind} (ht : P.underlying t = some (.int k)) : Rdg P t (Kd.int k) (fun x => (Lit.int k x).wf = true) (fun _ => 1) := by
 intro H enc w base spare held fuel cs dat ps h
 obtain ⟨n, rfl, _, hw⟩ := DataW.trod_int ht h
 exact ⟨n, rfl, hw, bulk_pos _⟩
theorem Rdg.bool {P : Program} {t : TypeId} (ht : P.underlying t = some .bool) : Rdg P t Kd.bool (fun _ => True) (fun _ => 1) := by
 intro H enc w base spare held fuel cs dat ps h
 obtain ⟨b, rfl, _⟩ := DataW.trod_bool ht h
 exact ⟨b, rfl, trivial, bulk_pos _⟩
theorem Rdg.string {P : Program} {t : TypeId} (ht : P.underlying t = some .string) : Rdg P t Kd.string (fun s => s.size ≤ maxLen) (fun s => s.size + 1) := by
 intro H enc w base spare held fuel cs dat ps h
 obtain ⟨s, rfl, e, hw⟩ := DataW.trod_string ht h
 simp only [Prod.mk.injEq] at e
 obtain ⟨rfl, _⟩ := e
 refine ⟨s, rfl, hw, ?_⟩
 unfold Rows.uptoBulk
 rw [Array.length_toList]
 exact Nat.le_refl _
theorem list_of {α : Type} (n : Nat) (Q : Nat → α → Prop) (h : ∀ i, i < n → ∃ x, Q i x) : ∃ xs : List α, xs.length = n ∧ ∀ i x, xs[i]? = some x → Q i x := by
 induction n with
 | zero => exact ⟨[], rfl, fun i x hx => by simp at hx⟩
 | succ n ih =>
  obtain ⟨xs, hl, hq⟩ := ih (fun i hi => h i (by omega))
  obtain ⟨x, hx⟩ := h n (by omega)
  refine ⟨xs ++ [x], by simp [hl], fun i y hy => ?_⟩
  rcases Nat.lt_or_ge i n with hi | hi
  ·exact hq i y (by rwa [List.getElem?_append_left (by omega)] at hy)
  ·have hi' : i = n := by
    have := (List.getElem?_eq_some_iff.1 hy).1
    simp at this; omega
   subst hi'
   rw [List.getElem?_append_right (by omega), hl, Nat.sub_self] at hy
   simp at hy
   subst hy
   exact hx
theorem sum_le {α H : Type} (xs : List α) (ys : List (DataW H)) (B : α → Nat) (hl : xs.length = ys.length) (h : ∀ (i : Nat) (x : α) (y : DataW H), xs[i]? = some x → ys[i]? = some y → B x ≤ Rows.uptoBulk y) : (xs.map B).sum ≤ Rows.uptoBulkAll ys := by
 induction xs generalizing ys with
 | nil => simp
 | cons x xs ih =>
  cases ys with
  | nil => simp at hl
  | cons y ys =>
   have h0 := h 0 x y rfl rfl
   have h1 := ih ys (by simpa using hl) (fun i a b ha hb => h (i + 1) a b ha hb)
   simp only [List.map_cons, List.sum_cons, Rows.uptoBulkAll]
   omega
theorem Rdg.slice {α : Type} {P : Program} {t e : TypeId} {d : Kd α} {Ok : α → Prop} {B : α → Nat} (ht : P.underlying t = some (.slice e)) (hsz : P.cellsOf e = d.sz) (hd : Rdg P e d Ok B) :
  Rdg P t (Kd.slice e d) (fun xs => xs.length ≤ maxLen ∧ ∀ x ∈ xs, Ok x) (fun xs => (xs.map B).sum + 1) := by
 intro H enc w base spare held fuel cs dat ps h
 rcases DataW.trod_slice ht h with ⟨rfl, he0⟩ | ⟨a, len, cap, elems, rest, n, rfl, rfl, he0, hb, hl, hm, hel, hat, _⟩
 ·refine ⟨[], ⟨none, 0, rfl, by simp, rfl, by simp, fun h0 => absurd h0 (by simp)⟩, ⟨by simp, by simp⟩, ?_⟩
  simp only [List.map_nil, List.sum_nil]
  exact bulk_pos _
 ·obtain ⟨xs, hxl, hx⟩ := list_of len (fun i x => ∃ c y, w.cells? base (a.add (i * P.cellsOf e)) (P.cellsOf e) = some c ∧ elems[i]? = some y ∧ d.K w x c ∧ Ok x ∧ B x ≤ Rows.uptoBulk y.1) (fun i hi => by
   have h1 := hat i hi
   obtain ⟨y, hy⟩ : ∃ y, elems[i]? = some y := ⟨elems[i], List.getElem?_eq_getElem (by omega)⟩
   rw [hy] at h1
   obtain ⟨c, hc, hc2⟩ := Option.bind_eq_some_iff.1 h1
   obtain ⟨x, k1, k2, k3⟩ := hd (dat := y.1) (ps := y.2) hc2
   exact ⟨x, c, y, hc, hy, k1, k2, k3⟩)
  have hm' : xs.length ≤ maxLen := by omega
  refine ⟨xs, ⟨some a, cap, by rw [hxl], by omega, rfl, by simp only [maxLen] at hm'; omega, fun _ => ⟨a, rfl, fun j p hj => ?_⟩⟩, ⟨hm', fun x hxm => ?_⟩, ?_⟩
  ·obtain ⟨c, y, hc, _, hk, _⟩ := hx j p hj
   refine ⟨c, d.K_len hk, hk, fun i u hu => ?_⟩
   obtain ⟨_, hcl, hcc⟩ := World.cells?_some hc
   have hi : i < c.length := (List.getElem?_eq_some_iff.1 hu).1
   have := hcc i (by omega)
   rw [hu] at this
   rw [← hsz]
   rw [Addr.add_add] at this
   exact this
  ·obtain ⟨i, hi, rfl⟩ := List.getElem_of_mem hxm
   obtain ⟨_, _, _, _, _, hok, _⟩ := hx i _ (List.getElem?_eq_getElem hi)
   exact hok
  ·simp only [Prod.mk.injEq] at he0
   obtain ⟨rfl, _⟩ := he0
   have := sum_le xs (elems.map (·.1)) B (by simp; omega) (fun i x y hxi hyi => by
    obtain ⟨_, z, _, hz, _, _, hb⟩ := hx i x hxi
    rw [List.getElem?_map, hz] at hyi
    simp at hyi
    subst hyi
    exact hb)
   simp only [Rows.uptoBulk]
   omega
def RdgF {α : Type} (P : Program) (off : Nat) (fs : List Field) (d : Kd α) (Ok : α → Prop) (B : α → Nat) : Prop :=
 ∀ {H : Type} {enc : TypeId × Value → H} {w : World} {base : Nat} {spare : Nat → Bool} {held : Bool} {fuel : Nat} {cs : List Value} (xs : List (DataW H × List MemPlace)),
  cs.length = off + d.sz → xs.length = fs.length → (∀ (i : Nat) (f : Field), fs[i]? = some f → DataW.trod enc P w base spare held fuel f.type ((cs.drop f.offset).take (P.cellsOf f.type)) = xs[i]?) →
  ∃ x, d.K w x (cs.drop off) ∧ Ok x ∧ B x ≤ Rows.uptoBulkAll (xs.map (·.1))
theorem RdgF.one {α : Type} {P : Program} {off : Nat} {f : Field} {d : Kd α} {Ok : α → Prop} {B : α → Nat} (ho : f.offset = off) (hs : P.cellsOf f.type = d.sz) (hd : Rdg P f.type d Ok B) : RdgF P off [f] d Ok B := by
 intro H enc w base spare held fuel cs xs hl hx h
 match xs, hx with
 | [y], _ =>
  have h0 := h 0 f rfl
  rw [ho, hs] at h0
  have e : (cs.drop off).take d.sz = cs.drop off := List.take_of_length_le (by simp; omega)
  rw [e] at h0
  obtain ⟨x, k1, k2, k3⟩ := hd (dat := y.1) (ps := y.2) h0
  exact ⟨x, k1, k2, by simpa [Rows.uptoBulkAll] using k3⟩
theorem RdgF.cons {α β : Type} {P : Program} {off : Nat} {f : Field} {fs : List Field} {a : Kd α} {b : Kd β} {OkA : α → Prop} {OkB : β → Prop} {BA : α → Nat} {BB : β → Nat}
  (ho : f.offset = off) (hs : P.cellsOf f.type = a.sz) (ha : Rdg P f.type a OkA BA) (hb : RdgF P (off + a.sz) fs b OkB BB) : RdgF P off (f :: fs) (Kd.pair a b) (fun x => OkA x.1 ∧ OkB x.2) (fun x => BA x.1 + BB x.2) := by
 intro H enc w base spare held fuel cs xs hl hx h
 match xs, hx with
 | y :: ys, hx =>
  have hl' : cs.length = off + (a.sz + b.sz) := hl
  have h0 := h 0 f rfl
  rw [ho, hs] at h0
  obtain ⟨x, k1, k2, k3⟩ := ha (dat := y.1) (ps := y.2) h0
  obtain ⟨z, m1, m2, m3⟩ := hb (cs := cs) ys (by omega) (by simpa using hx) (fun i f' hf => by simpa using h (i + 1) f' (by simpa using hf))
  refine ⟨(x, z), ⟨(cs.drop off).take a.sz, cs.drop (off + a.sz), ?_, k1, m1⟩, ⟨k2, m2⟩, ?_⟩
  ·rw [← List.drop_drop, List.take_append_drop]
  ·simp only [List.map_cons, Rows.uptoBulkAll]; omega
theorem Rdg.struct {α : Type} {P : Program} {t : TypeId} {fs : Array Field} {d : Kd α} {Ok : α → Prop} {B : α → Nat} (ht : P.underlying t = some (.struct fs)) (hs : P.cellsOf t = d.sz) (hf : RdgF P 0 fs.toList d Ok B) : Rdg P t d Ok B := by
 intro H enc w base spare held fuel cs dat ps h
 obtain ⟨xs, n, rfl, e, hl, hlen, hx⟩ := DataW.trod_struct ht h
 obtain ⟨x, k1, k2, k3⟩ := hf (cs := cs) xs (by omega) (by simpa using hlen) (fun i f hf => hx i f (by simpa using hf))
 simp only [Prod.mk.injEq] at e
 obtain ⟨rfl, _⟩ := e
 refine ⟨x, by simpa using k1, k2, ?_⟩
 simp only [Rows.uptoBulk]
 omega
theorem Rdg.iso {α β : Type} {P : Program} {t : TypeId} {d : Kd α} {Ok : α → Prop} {B : α → Nat} {f : β → α} (g : α → β) (hg : ∀ x, f (g x) = x) (hd : Rdg P t d Ok B) : Rdg P t (Kd.iso d f) (fun y => Ok (f y)) (fun y => B (f y)) := by
 intro H enc w base spare held fuel cs dat ps h
 obtain ⟨x, k1, k2, k3⟩ := hd h
 refine ⟨g x, ?_, by show Ok (f (g x)); rw [hg]; exact k2, by show B (f (g x)) ≤ _; rw [hg]; exact k3⟩
 show d.K w (f (g x)) cs
 rw [hg]; exact k1
theorem open_rows {α : Type} {P : Program} {W : World} {r : Reach} {b : Nat} {t e : TypeId} {v : Value} {d : Kd α} {Ok : α → Prop} {B : α → Nat} {H : Type} {enc : TypeId × Value → H} {base : Nat} {spare : Nat → Bool} {held : Bool} {dat : DataW H} {ps : List MemPlace}
  (ht : P.underlying t = some (.slice e)) (hsz : P.cellsOf e = d.sz) (hd : Rdg P e d Ok B) (hv : Value.okWide P W r b t v) (h : DataW.Trod enc P W base spare held t v dat ps) :
  ∃ A c xs, v = .slice A xs.length c ∧ xs.length ≤ c ∧ d.C W A xs.length xs ∧ xs.length ≤ maxLen ∧ (∀ x ∈ xs, Ok x) ∧ (xs.map B).sum + 1 ≤ Rows.uptoBulk dat := by
 obtain ⟨A, len, cap, rfl⟩ := okWide_slice ht hv
 obtain ⟨fuel, hf⟩ := h
 obtain ⟨xs, ⟨A', c', he, hc, hC⟩, ⟨h1, h2⟩, h3⟩ := Rdg.slice ht hsz hd hf
 simp [Value.cells] at he
 obtain ⟨rfl, rfl, rfl⟩ := he
 exact ⟨A, cap, xs, rfl, hc, hC, h1, h2, h3⟩
end Go.Proofs.YtlbcpigjbjolaaaQ
namespace Go.Proofs.YtlbcpigjbjolaaaQ
open Go.ChangeShapes Go.WideShapes Go.RowKit Go.Proofs.YtlbcpigjbjolaaaW.PrintWords
set_option linter.unusedVariables false
set_option linter.unusedSimpArgs false
theorem open_rows_s {α : Type} {P : Program} {W : World} {r : Reach} {b : Nat} {t e : TypeId} {v : Value} {d : Kd α} {Ok : α → Prop} {B : α → Nat} {H : Type} {enc : TypeId × Value → H} {base : Nat} {spare : Nat → Bool} {held : Bool} {dat : DataW H} {ps : List MemPlace} {ts : List TypeId} {ds : List (DataW H)} {j : Nat}
  (hall : (DataW.weightsEach P ts ds).all (· ≤ reachBytes) = true) (hti : ts[j]? = some t) (hdi : ds[j]? = some dat)
  (ht : P.underlying t = some (.slice e)) (hsz : P.cellsOf e = d.sz) (hd : Rdg P e d Ok B) (hv : Value.okWide P W r b t v) (h : DataW.Trod enc P W base spare held t v dat ps) :
  ∃ A c xs, v = .slice A xs.length c ∧ xs.length ≤ c ∧ d.C W A xs.length xs ∧ xs.length ≤ maxLen ∧ (∀ x ∈ xs, Ok x) ∧ xs.length * P.bytesOf e ≤ 140737488351232 := by
 obtain ⟨A, c, xs, rfl, hc, hC, hm, hok, _⟩ := open_rows ht hsz hd hv h
 refine ⟨A, c, xs, rfl, hc, hC, hm, hok, ?_⟩
 obtain ⟨fuel, hf⟩ := h
 rcases DataW.trod_slice ht hf with ⟨he, he0⟩ | ⟨a, len, cap, elems, rest, n, hn, he, he0, hb, hl, hm, hel, hat, _⟩
 ·simp [Value.cells] at he
  obtain ⟨_, he, _⟩ := he
  subst he
  simp
 ·simp [Value.cells] at he
  obtain ⟨_, he, _⟩ := he
  simp only [Prod.mk.injEq] at he0
  obtain ⟨rfl, _⟩ := he0
  have z := sized_slice hall hti hdi ht
  have z2 : reachBytes = 140737488351232 := by decide
  rw [z2] at z
  rw [List.length_map, hel] at z
  exact Nat.le_trans (Nat.mul_le_mul_right _ (by omega)) z
end Go.Proofs.YtlbcpigjbjolaaaQ
namespace Go.Proofs.YtlbcpigjbjolaaaQ
open Go.ChangeShapes Go.WideShapes Go.RowKit Go.Proofs.YtlbcpigjbjolaaaW.PrintWords
set_option linter.unusedVariables false
set_option linter.unusedSimpArgs false
def RdgW {α : Type} (P : Program) (t : TypeId) (d : Kd α) (Ok : α → Prop) : Prop :=
 ∀ {H : Type} {enc : TypeId × Value → H} {w : World} {base : Nat} {spare : Nat → Bool} {held : Bool} {fuel : Nat} {cs : List Value} {dat : DataW H} {ps : List MemPlace},
  DataW.trod enc P w base spare held fuel t cs = some (dat, ps) → (∀ n ∈ dat.weights P t, n ≤ 140737488351232) → ∃ x, d.K w x cs ∧ Ok x
theorem RdgW.of {α : Type} {P : Program} {t : TypeId} {d : Kd α} {Ok : α → Prop} {B : α → Nat} (h : Rdg P t d Ok B) : RdgW P t d Ok := by
 intro H enc w base spare held fuel cs dat ps ht _
 obtain ⟨x, k1, k2, _⟩ := h ht
 exact ⟨x, k1, k2⟩
theorem RdgW.string {P : Program} {t : TypeId} (ht : P.underlying t = some .string) : RdgW P t Kd.string (fun s => s.size ≤ 140737488351232) := by
 intro H enc w base spare held fuel cs dat ps h hw
 obtain ⟨s, rfl, e, _⟩ := DataW.trod_string ht h
 simp only [Prod.mk.injEq] at e
 obtain ⟨rfl, _⟩ := e
 refine ⟨s, rfl, ?_⟩
 have := hw s.data.toList.length (by simp [DataW.weights])
 rw [Array.length_toList] at this
 exact this
def RdgWF {α : Type} (P : Program) (off : Nat) (fs : List Field) (d : Kd α) (Ok : α → Prop) : Prop :=
 ∀ {H : Type} {enc : TypeId × Value → H} {w : World} {base : Nat} {spare : Nat → Bool} {held : Bool} {fuel : Nat} {cs : List Value} (xs : List (DataW H × List MemPlace)),
  cs.length = off + d.sz → xs.length = fs.length → (∀ (i : Nat) (f : Field), fs[i]? = some f → DataW.trod enc P w base spare held fuel f.type ((cs.drop f.offset).take (P.cellsOf f.type)) = xs[i]?) →
  (∀ n ∈ DataW.weightsEach P (fs.map (·.type)) (xs.map (·.1)), n ≤ 140737488351232) → ∃ x, d.K w x (cs.drop off) ∧ Ok x
theorem RdgWF.one {α : Type} {P : Program} {off : Nat} {f : Field} {d : Kd α} {Ok : α → Prop} (ho : f.offset = off) (hs : P.cellsOf f.type = d.sz) (hd : RdgW P f.type d Ok) : RdgWF P off [f] d Ok := by
 intro H enc w base spare held fuel cs xs hl hx h hw
 match xs, hx with
 | [y], _ =>
  have h0 := h 0 f rfl
  rw [ho, hs] at h0
  have e : (cs.drop off).take d.sz = cs.drop off := List.take_of_length_le (by simp; omega)
  rw [e] at h0
  obtain ⟨x, k1, k2⟩ := hd (dat := y.1) (ps := y.2) h0 (fun n hn => hw n (by simp [DataW.weightsEach]; exact hn))
  exact ⟨x, k1, k2⟩
theorem RdgWF.cons {α β : Type} {P : Program} {off : Nat} {f : Field} {fs : List Field} {a : Kd α} {b : Kd β} {OkA : α → Prop} {OkB : β → Prop}
  (ho : f.offset = off) (hs : P.cellsOf f.type = a.sz) (ha : RdgW P f.type a OkA) (hb : RdgWF P (off + a.sz) fs b OkB) : RdgWF P off (f :: fs) (Kd.pair a b) (fun x => OkA x.1 ∧ OkB x.2) := by
 intro H enc w base spare held fuel cs xs hl hx h hw
 match xs, hx with
 | y :: ys, hx =>
  have hl' : cs.length = off + (a.sz + b.sz) := hl
  have h0 := h 0 f rfl
  rw [ho, hs] at h0
  obtain ⟨x, k1, k2⟩ := ha (dat := y.1) (ps := y.2) h0 (fun n hn => hw n (by simp only [List.map_cons, DataW.weightsEach, List.mem_append]; exact Or.inl hn))
  obtain ⟨z, m1, m2⟩ := hb (cs := cs) ys (by omega) (by simpa using hx) (fun i f' hf => by simpa using h (i + 1) f' (by simpa using hf)) (fun n hn => hw n (by simp only [List.map_cons, DataW.weightsEach, List.mem_append]; exact Or.inr hn))
  refine ⟨(x, z), ⟨(cs.drop off).take a.sz, cs.drop (off + a.sz), ?_, k1, m1⟩, ⟨k2, m2⟩⟩
  rw [← List.drop_drop, List.take_append_drop]
theorem RdgW.struct {α : Type} {P : Program} {t : TypeId} {fs : Array Field} {d : Kd α} {Ok : α → Prop} (ht : P.underlying t = some (.struct fs)) (hs : P.cellsOf t = d.sz) (hf : RdgWF P 0 fs.toList d Ok) : RdgW P t d Ok := by
 intro H enc w base spare held fuel cs dat ps h hw
 obtain ⟨xs, n, rfl, e, hl, hlen, hx⟩ := DataW.trod_struct ht h
 simp only [Prod.mk.injEq] at e
 obtain ⟨rfl, _⟩ := e
 obtain ⟨x, k1, k2⟩ := hf (cs := cs) xs (by omega) (by simpa using hlen) (fun i f hf => hx i f (by simpa using hf)) (fun n hn => hw n (by simp only [DataW.weights, ht]; exact hn))
 exact ⟨x, by simpa using k1, k2⟩
theorem RdgW.iso {α β : Type} {P : Program} {t : TypeId} {d : Kd α} {Ok : α → Prop} {f : β → α} (g : α → β) (hg : ∀ x, f (g x) = x) (hd : RdgW P t d Ok) : RdgW P t (Kd.iso d f) (fun y => Ok (f y)) := by
 intro H enc w base spare held fuel cs dat ps h hw
 obtain ⟨x, k1, k2⟩ := hd h hw
 refine ⟨g x, ?_, by show Ok (f (g x)); rw [hg]; exact k2⟩
 show d.K w (f (g x)) cs
 rw [hg]; exact k1
theorem weights_mem_all {H : Type} {P : Program} {e : TypeId} : ∀ {l : List (DataW H)} {y : DataW H}, y ∈ l → ∀ n ∈ y.weights P e, n ∈ DataW.weightsAll P e l
 | x :: l, y, hy, n, hn => by
  simp only [DataW.weightsAll, List.mem_append]
  rcases List.mem_cons.1 hy with rfl | hy
  ·exact Or.inl hn
  ·exact Or.inr (weights_mem_all hy n hn)
theorem open_rows_w {α : Type} {P : Program} {W : World} {r : Reach} {b : Nat} {t e : TypeId} {v : Value} {d : Kd α} {Ok : α → Prop} {H : Type} {enc : TypeId × Value → H} {base : Nat} {spare : Nat → Bool} {held : Bool} {dat : DataW H} {ps : List MemPlace} {ts : List TypeId} {ds : List (DataW H)} {j : Nat}
  (hall : (DataW.weightsEach P ts ds).all (· ≤ reachBytes) = true) (hti : ts[j]? = some t) (hdi : ds[j]? = some dat)
  (ht : P.underlying t = some (.slice e)) (hsz : P.cellsOf e = d.sz) (hd : RdgW P e d Ok) (hv : Value.okWide P W r b t v) (h : DataW.Trod enc P W base spare held t v dat ps) :
  ∃ A c xs, v = .slice A xs.length c ∧ xs.length ≤ c ∧ d.C W A xs.length xs ∧ xs.length ≤ maxLen ∧ (∀ x ∈ xs, Ok x) ∧ xs.length * P.bytesOf e ≤ 140737488351232 := by
 obtain ⟨A, len, cap, rfl⟩ := okWide_slice ht hv
 obtain ⟨fuel, hf⟩ := h
 have z2 : reachBytes = 140737488351232 := by decide
 rcases DataW.trod_slice ht hf with ⟨he, he0⟩ | ⟨a, len', cap', elems, rest, n, hn, he, he0, hb, hl, hm, hel, hat, _⟩
 ·simp [Value.cells] at he
  obtain ⟨rfl, rfl, rfl⟩ := he
  exact ⟨none, 0, [], rfl, by simp, ⟨rfl, by simp, fun h0 => absurd h0 (by simp)⟩, by simp, by simp, by simp⟩
 ·simp [Value.cells] at he
  obtain ⟨rfl, rfl, rfl⟩ := he
  simp only [Prod.mk.injEq] at he0
  obtain ⟨rfl, _⟩ := he0
  have hwt : ∀ y ∈ elems, ∀ n ∈ y.1.weights P e, n ≤ 140737488351232 := by
   intro y hy n hn
   have h1 : n ∈ DataW.weightsAll P e (elems.map (·.1)) := weights_mem_all (List.mem_map.2 ⟨y, hy, rfl⟩) n hn
   have h2 := List.all_eq_true.1 hall n (DataW.weights_mem_each hti hdi n (by simp only [DataW.weights, ht, List.mem_cons, List.mem_append]; exact Or.inr (Or.inl h1)))
   have h3 : n ≤ reachBytes := by simpa using h2
   omega
  have z := sized_slice hall hti hdi ht
  rw [z2] at z
  rw [List.length_map, hel] at z
  obtain ⟨xs, hxl, hx⟩ := list_of len (fun i x => ∃ c y, W.cells? base (a.add (i * P.cellsOf e)) (P.cellsOf e) = some c ∧ elems[i]? = some y ∧ d.K W x c ∧ Ok x) (fun i hi => by
   have h1 := hat i hi
   obtain ⟨y, hy⟩ : ∃ y, elems[i]? = some y := ⟨elems[i], List.getElem?_eq_getElem (by omega)⟩
   rw [hy] at h1
   obtain ⟨c, hc, hc2⟩ := Option.bind_eq_some_iff.1 h1
   obtain ⟨x, k1, k2⟩ := hd (dat := y.1) (ps := y.2) hc2 (hwt y (List.mem_of_getElem? hy))
   exact ⟨x, c, y, hc, hy, k1, k2⟩)
  have hm' : xs.length ≤ maxLen := by omega
  refine ⟨some a, cap, xs, by rw [hxl], by omega, ⟨rfl, by simp only [maxLen] at hm'; omega, fun _ => ⟨a, rfl, fun j p hj => ?_⟩⟩, hm', fun x hxm => ?_, by rw [hxl]; exact Nat.le_trans (Nat.mul_le_mul_right _ (by omega)) z⟩
  ·obtain ⟨c, y, hc, _, hk, _⟩ := hx j p hj
   refine ⟨c, d.K_len hk, hk, fun i u hu => ?_⟩
   obtain ⟨_, hcl, hcc⟩ := World.cells?_some hc
   have hi : i < c.length := (List.getElem?_eq_some_iff.1 hu).1
   have := hcc i (by omega)
   rw [hu] at this
   rw [← hsz]
   rw [Addr.add_add] at this
   exact this
  ·obtain ⟨i, hi, rfl⟩ := List.getElem_of_mem hxm
   obtain ⟨_, _, _, _, _, hok⟩ := hx i _ (List.getElem?_eq_getElem hi)
   exact hok
end Go.Proofs.YtlbcpigjbjolaaaQ
namespace Go.Proofs.Ytlbcpigjbjolaaa.G
open Go.RowKit Go.Proofs.YtlbcpigjbjolaaaQ Go.Proofs.YtlbcpigjbjolaaaW.PrintWords Go.Proofs.YtlbcpigjbjolaaaW.PrintLast Go.Proofs.YtlbcpigjbjolaaaW.PrintMore
set_option linter.unusedVariables false
set_option linter.unusedSimpArgs false
theorem val_flds : ∃ a b c : Field, (∃ fs : Array Field, Try.prog.underlying 28 = some (.struct fs) ∧ fs.toList = [a, b, c]) ∧ (a.offset = 0 ∧ b.offset = 1 ∧ c.offset = 2) ∧
  Try.prog.underlying a.type = some .bool ∧ Try.prog.underlying b.type = some (.int .i64) ∧ Try.prog.underlying c.type = some .string ∧ Try.prog.cellsOf a.type = 1 ∧ Try.prog.cellsOf b.type = 1 ∧ Try.prog.cellsOf c.type = 1 :=
 ⟨_, _, _, ⟨_, Try.underlying28, rfl⟩, ⟨rfl, rfl, rfl⟩, by kernel_rfl, by kernel_rfl, by kernel_rfl, by kernel_rfl, by kernel_rfl, by kernel_rfl⟩
def OkVW (x : S28) : Prop := (Lit.int .i64 x.f1).wf = true ∧ x.f2.size ≤ 140737488351232
theorem val_rdgw : RdgW Try.prog 28 k28 OkVW := by
 obtain ⟨a, b, c, ⟨fs, h0, hfs⟩, ⟨oa, ob, oc⟩, ua, ub, uc, sa, sb, sc⟩ := val_flds
 have ha : RdgW Try.prog a.type Kd.bool (fun _ => True) := RdgW.of (Rdg.bool ua)
 have hb : RdgW Try.prog b.type (Kd.int .i64) (fun x => (Lit.int .i64 x).wf = true) := RdgW.of (Rdg.int ub)
 have hc : RdgW Try.prog c.type Kd.string (fun s => s.size ≤ 140737488351232) := RdgW.string uc
 have f3 : RdgWF Try.prog 2 [c] Kd.string (fun s => s.size ≤ 140737488351232) := RdgWF.one oc sc hc
 have f2 : RdgWF Try.prog 1 [b, c] (Kd.pair (Kd.int .i64) Kd.string) (fun x => (Lit.int .i64 x.1).wf = true ∧ x.2.size ≤ 140737488351232) := RdgWF.cons ob sb hb f3
 have f1 : RdgWF Try.prog 0 [a, b, c] (Kd.pair Kd.bool (Kd.pair (Kd.int .i64) Kd.string)) (fun x => True ∧ (Lit.int .i64 x.2.1).wf = true ∧ x.2.2.size ≤ 140737488351232) := RdgWF.cons oa sa ha f2
 rw [← hfs] at f1
 have hs : RdgW Try.prog 28 (Kd.pair Kd.bool (Kd.pair (Kd.int .i64) Kd.string)) (fun x => True ∧ (Lit.int .i64 x.2.1).wf = true ∧ x.2.2.size ≤ 140737488351232) := RdgW.struct h0 (by kernel_rfl) f1
 have hi : RdgW Try.prog 28 k28 (fun x => True ∧ (Lit.int .i64 x.f1).wf = true ∧ x.f2.size ≤ 140737488351232) := RdgW.iso (f := fun x : S28 => (x.f0, x.f1, x.f2)) (fun p => ⟨p.1, p.2.1, p.2.2⟩) (fun _ => rfl) hs
 intro H enc w base spare held fuel cs dat ps hh hw
 obtain ⟨x, k1, k2⟩ := hi hh hw
 exact ⟨x, k1, k2.2⟩
end Go.Proofs.Ytlbcpigjbjolaaa.G
namespace Go.Proofs.Ytlbcpigjbjolaaa.G
open Go.RowKit Go.Proofs.YtlbcpigjbjolaaaQ Go.Proofs.YtlbcpigjbjolaaaW.PrintWords Go.Proofs.YtlbcpigjbjolaaaW.PrintLast Go.Proofs.YtlbcpigjbjolaaaW.PrintMore
set_option linter.unusedVariables false
set_option linter.unusedSimpArgs false
def mask22 (n : Nat) (l : List S28) : Nat := mask (l.flatMap fun x => places n (tail22 x))
def bytes22 (l : List S28) : List Int := encU (blen22 l : Int) ++ ints (dig 256 (blen22 l) (mask22 (blen22 l) l))
theorem blen22_le (l : List S28) (hl : l.length ≤ 1000) : blen22 l ≤ 1251 := by
 unfold blen22
 have := nd_le (l.map cls)
 rw [List.length_map] at this
 omega
theorem mkF_f {k : Nat} (hk : 12 ≤ k) {l : List S28} (hl : l.length ≤ 1000) (h : ∀ x ∈ l, OkK x) : filter_Make.f k l = some (strOfNums (bytes22 l)) := by
 have hb := blen22_le l hl
 unfold filter_Make.f mkF
 rw [if_pos ⟨hl, by rw [List.all_eq_true]; intro x hx; rw [tailOf_f (by omega) (h x hx)]; rfl⟩, Uint_f (by omega) (l := []) (by simp) ⟨by omega, by omega⟩, Option.bind_some, List.nil_append]
 have hu := encU_len_le (blen22 l : Int)
 rw [if_pos (by omega)]
 unfold bytes22 mkBits mask22
 congr 6
 refine flatMap_cong fun x hx => ?_
 unfold keyPl
 rw [tailOf_f (by omega) (h x hx)]; rfl
theorem mask22_congr {n : Nat} {a b : List S28} (h : ∀ x, x ∈ a ↔ x ∈ b) : mask22 n a = mask22 n b := by
 unfold mask22
 refine mask_congr fun i => ?_
 simp only [List.mem_flatMap, h]
theorem nd_sub {α : Type} [DecidableEq α] : ∀ (a b : List α), (∀ x ∈ a, x ∈ b) → nd (a ++ b) = nd b
 | [], _, _ => rfl
 | x :: a, b, h => by
  rw [List.cons_append, nd, if_pos (List.mem_append_right _ (h x (by simp))), Nat.zero_add, nd_sub a b (fun y hy => h y (by simp [hy]))]
theorem bytes22_rev (l : List S28) : bytes22 l.reverse = bytes22 l := by
 have e : blen22 l.reverse = blen22 l := by
  unfold blen22
  rw [List.map_reverse, nd_perm (List.reverse_perm _)]
 unfold bytes22
 rw [e, mask22_congr (fun x => List.mem_reverse)]
theorem bytes22_twice (l : List S28) : bytes22 (l.reverse ++ l) = bytes22 l := by
 have e : blen22 (l.reverse ++ l) = blen22 l := by
  unfold blen22
  rw [List.map_append, nd_sub _ _ (fun x hx => by simpa using hx)]
 unfold bytes22
 rw [e, mask22_congr (b := l) (fun x => by simp)]
theorem okk_of {l : List S28} (h : ∀ x ∈ l, OkVW x) : ∀ x ∈ l, OkK x := by
 intro x hx
 refine ⟨?_, (h x hx).2⟩
 have := bounds_i64 (h x hx).1
 unfold i64; omega
theorem FilterOrder.law (A0 : Option Addr) (c0 : Nat) (l : List S28) (w : World) (hc0 : l.length ≤ c0) (hr0 : Kd.C k28 w A0 l.length l) (hm0 : l.length ≤ maxLen) (hok0 : ∀ x ∈ l, OkVW x) (hb : l.length * 32 ≤ 140737488351232) :
  Calls Try.prog 4 #[.slice A0 l.length c0] w fun e w' => e = .returned (.bool true) ∧ Below w.heap.size w w' := by
 have hK := okk_of hok0
 have hK2 : ∀ x ∈ l.take 200, OkK x := fun x hx => hK x (List.mem_of_mem_take hx)
 have hl : (l.take 200).length ≤ 200 := by rw [List.length_take]; omega
 refine order.walk 60 12 A0 c0 l (strOfNums (bytes22 (l.take 200))) w lives22 (mkF_f (by omega) (by omega) hK2) ?_ ?_ hr0 hc0
 ·rw [mkF_f (by omega) (by rw [List.length_reverse]; omega) (fun x hx => hK2 x (List.mem_reverse.1 hx)), bytes22_rev]
 ·rw [mkF_f (by omega) (by rw [List.length_append, List.length_reverse]; omega) (fun x hx => by
   rcases List.mem_append.1 hx with h | h
   ·exact hK2 x (List.mem_reverse.1 h)
   ·exact hK2 x h), bytes22_twice]
end Go.Proofs.Ytlbcpigjbjolaaa.G
namespace Go.Proofs.Ytlbcpigjbjolaaa.G
open Go.RowKit Go.Proofs.YtlbcpigjbjolaaaQ Go.Proofs.YtlbcpigjbjolaaaW.PrintWords Go.Proofs.YtlbcpigjbjolaaaW.PrintLast Go.Proofs.YtlbcpigjbjolaaaW.PrintMore
set_option linter.unusedVariables false
set_option linter.unusedSimpArgs false
theorem and_pow (b i : Nat) : b &&& 2 ^ i = if b.testBit i = true then 2 ^ i else 0 := by
 apply Nat.eq_of_testBit_eq
 intro j
 rw [Nat.testBit_and, Nat.testBit_two_pow]
 by_cases h : i = j
 ·subst h
  cases b.testBit i <;> simp
 ·cases b.testBit i <;> simp [h, Nat.testBit_two_pow]
theorem is_f {N p n : Nat} (hp : p < 8 * n) (hn : n ≤ 1000000) : filter_bitmap_is.f (ints (dig 256 n N)) (p : Int) = some (N.testBit p) := by
 have e1 : wrap64 (Int.tdiv (p : Int) 8) = ((p / 8 : Nat) : Int) := by rw [Int.tdiv_eq_ediv_of_nonneg (by omega), w64 (by omega) (by omega)]; omega
 have e2 : Int.tmod (p : Int) 8 = ((p % 8 : Nat) : Int) := by rw [Int.tmod_eq_emod_of_nonneg (by omega)]; omega
 have hl : p / 8 < (dig 256 n N).length := by rw [dig_len]; omega
 have hd : (dig 256 n N)[p / 8] = N / 256 ^ (p / 8) % 256 := by
  have g := dig_get 256 n N (p / 8) (by omega)
  rwa [List.getD_eq_getElem?_getD, List.getElem?_eq_getElem hl, Option.getD_some] at g
 have hlt : N / 256 ^ (p / 8) % 256 < 256 := Nat.mod_lt _ (by omega)
 have h2 : 2 ^ (p % 8) ≤ 2 ^ 7 := Nat.pow_le_pow_right (by omega) (by omega)
 unfold filter_bitmap_is.f
 rw [e1, e2, if_pos (by omega), if_pos (by rw [bm_ints_len, dig_len]; omega), if_pos (by omega), bm_rd hl, bm_shl _ (by omega), hd, Go.u8_and_nat _ _ (by omega) (by omega), and_pow, bm_bit]
 have e3 : 8 * (p / 8) + p % 8 = p := by omega
 have e4 : p % 8 < 8 := Nat.mod_lt _ (by omega)
 rw [e3, decide_eq_true e4, Bool.true_and]
 have hpos : 0 < 2 ^ (p % 8) := Nat.two_pow_pos _
 cases N.testBit p
 ·simp
 ·rw [if_pos rfl]
  congr 1
  rw [bne_iff_ne]
  omega
theorem dig_Bs (n N : Nat) : Bs (ints (dig 256 n N)) := by
 intro x hx
 obtain ⟨y, hy, rfl⟩ := List.mem_map.1 hx
 have := dig_lt (b := 256) (by omega) n N y hy
 omega
theorem aUint_enc22 {x : Int} (h : u64 x) (r : List Int) : aUint (encU x ++ r) 0 = (x, r, 0) := by
 unfold aUint
 rw [if_pos rfl, decU_enc h r]
 simp
theorem bytes22_Bs (l : List S28) (hl : l.length ≤ 1000) : Bs (bytes22 l) := by
 have hb := blen22_le l hl
 intro x hx
 unfold bytes22 at hx
 rcases List.mem_append.1 hx with h | h
 ·exact encU_Bs ⟨by omega, by omega⟩ x h
 ·exact dig_Bs _ _ x h
theorem rd22_f (l : List S28) (hl : l.length ≤ 1000) : ∃ t, rd22 (strOfNums (bytes22 l)) = some (true, t) ∧ bytesOf t = ints (dig 256 (blen22 l) (mask22 (blen22 l) l)) ∧ t.size = blen22 l := by
 have hb := blen22_le l hl
 have h0 : 0 < blen22 l := by unfold blen22; omega
 have hu := encU_len_le (blen22 l : Int)
 have hlen : (bytes22 l).length = (encU (blen22 l : Int)).length + blen22 l := by unfold bytes22; rw [List.length_append, bm_ints_len, dig_len]
 have hsz : (strOfNums (bytes22 l)).size = (bytes22 l).length := size_strOfNums _
 have hB := bytesOf_strOfNums (bytes22_Bs l hl)
 have hI : (ints (dig 256 (blen22 l) (mask22 (blen22 l) l))).length = blen22 l := by rw [bm_ints_len, dig_len]
 unfold rd22
 rw [if_pos (by omega), cUint_f, hB]
 unfold bytes22 at hlen hsz hB ⊢
 rw [aUint_enc22 ⟨by omega, by omega⟩, Option.bind_some]
 simp only [size_strOfNums, hI]
 rw [if_pos (by rw [List.length_append, hI]; omega), if_pos ⟨trivial, by omega, trivial⟩]
 refine ⟨_, rfl, ?_, ?_⟩
 ·rw [bytesOf_extract, hB, List.take_of_length_le (by rw [List.length_append, hI]; exact Nat.le_refl _), show (encU (blen22 l : Int) ++ ints (dig 256 (blen22 l) (mask22 (blen22 l) l))).length - blen22 l = (encU (blen22 l : Int)).length by rw [List.length_append, hI]; omega, List.drop_left]
 ·rw [ByteArray.size_extract, size_strOfNums, List.length_append, hI]; omega
theorem mayAll_f {n N : Nat} (hn : n ≤ 1000000) : ∀ ps : List Nat, (∀ p ∈ ps, p < 8 * n ∧ N.testBit p = true) → mayAll (ints (dig 256 n N)) ps = some true
 | [], _ => rfl
 | p :: ps, h => by
  obtain ⟨h1, h2⟩ := h p (by simp)
  rw [mayAll, is_f h1 hn, Option.bind_some, h2, if_pos rfl, mayAll_f hn ps (fun q hq => h q (by simp [hq]))]
theorem may_made {k : Nat} (hk : 10 ≤ k) {l : List S28} (hl : l.length ≤ 1000) {x : S28} (hx : x ∈ l) (hK : OkK x) : filter_May.f k (strOfNums (bytes22 l)) x.f0 x.f1 x.f2 = some (true, 0) := by
 have hb := blen22_le l hl
 have h0 : 0 < blen22 l := by unfold blen22; omega
 obtain ⟨t, h1, h2, h3⟩ := rd22_f l hl
 unfold filter_May.f mayF
 rw [h1, Option.bind_some]
 simp only [h3, h2]
 rw [if_pos trivial, if_pos ⟨h0, by omega⟩, tailOf_f hk (x := ⟨x.f0, x.f1, x.f2⟩) hK, Option.bind_some, mayAll_f (by omega), Option.bind_some]
 intro p hp
 refine ⟨?_, ?_⟩
 ·unfold places at hp
  simp only [List.mem_cons, List.not_mem_nil, or_false] at hp
  rcases hp with rfl | rfl | rfl | rfl <;> exact placeAt_lt h0 _ _
 ·unfold mask22
  rw [mask_bit, decide_eq_true_iff, List.mem_flatMap]
  exact ⟨x, hx, hp⟩
set_option maxRecDepth 100000 in
theorem pop_or : ∀ a : Fin 256, ∀ p : Fin 8, bits_OnesCount8.pop (a.val ||| 2 ^ p.val) ≤ bits_OnesCount8.pop a.val + 1 := by decide
set_option maxRecDepth 100000 in
theorem pop_bit : ∀ a : Fin 256, ∀ p : Fin 8, a.val.testBit p.val = true → 0 < bits_OnesCount8.pop a.val := by decide
def cb : Nat → Nat → Nat
 | 0, _ => 0
 | n + 1, N => bits_OnesCount8.pop (N % 256) + cb n (N / 256)
theorem cb_or : ∀ (n N p : Nat), cb n (N ||| 2 ^ p) ≤ cb n N + 1
 | 0, _, _ => by simp [cb]
 | n + 1, N, p => by
  by_cases h : p < 8
  ·have e1 : (N ||| 2 ^ p) % 256 = (N % 256) ||| 2 ^ p := by
    apply Nat.eq_of_testBit_eq
    intro i
    rw [show (256 : Nat) = 2 ^ 8 from rfl, Nat.testBit_mod_two_pow, Nat.testBit_or, Nat.testBit_or, Nat.testBit_mod_two_pow, Nat.testBit_two_pow]
    by_cases hi : i < 8
    ·simp [hi]
    ·have : ¬ p = i := by omega
     simp [hi, this]
   have e2 : (N ||| 2 ^ p) / 256 = N / 256 := by
    apply Nat.eq_of_testBit_eq
    intro i
    rw [show (256 : Nat) = 2 ^ 8 from rfl, Nat.testBit_div_two_pow, Nat.testBit_div_two_pow, Nat.testBit_or, Nat.testBit_two_pow]
    have : ¬ p = i + 8 := by omega
    simp [this]
   have := pop_or ⟨N % 256, Nat.mod_lt _ (by omega)⟩ ⟨p, h⟩
   simp only at this
   rw [cb, cb, e1, e2]
   omega
  ·have e1 : (N ||| 2 ^ p) % 256 = N % 256 := by
    apply Nat.eq_of_testBit_eq
    intro i
    rw [show (256 : Nat) = 2 ^ 8 from rfl, Nat.testBit_mod_two_pow, Nat.testBit_mod_two_pow, Nat.testBit_or, Nat.testBit_two_pow]
    by_cases hi : i < 8
    ·have : ¬ p = i := by omega
     simp [this]
    ·simp [hi]
   have e2 : (N ||| 2 ^ p) / 256 = N / 256 ||| 2 ^ (p - 8) := by
    apply Nat.eq_of_testBit_eq
    intro i
    rw [show (256 : Nat) = 2 ^ 8 from rfl, Nat.testBit_div_two_pow, Nat.testBit_or, Nat.testBit_or, Nat.testBit_div_two_pow, Nat.testBit_two_pow, Nat.testBit_two_pow]
    congr 1
    apply decide_eq_decide.mpr; omega
   have ih := cb_or n (N / 256) (p - 8)
   rw [cb, cb, e1, e2]
   omega
theorem cb_zero : ∀ n, cb n 0 = 0
 | 0 => rfl
 | n + 1 => by
  rw [cb, Nat.zero_div, cb_zero n]; rfl
theorem cb_pos : ∀ (n N p : Nat), p < 8 * n → N.testBit p = true → 0 < cb n N
 | 0, _, _, h, _ => by omega
 | n + 1, N, p, h, hb => by
  rw [cb]
  by_cases h8 : p < 8
  ·have := pop_bit ⟨N % 256, Nat.mod_lt _ (by omega)⟩ ⟨p, h8⟩ (by
    simp only
    rw [show (256 : Nat) = 2 ^ 8 from rfl, Nat.testBit_mod_two_pow, hb]; simp [h8])
   simp only at this
   omega
  ·have := cb_pos n (N / 256) (p - 8) (by omega) (by
    rw [show (256 : Nat) = 2 ^ 8 from rfl, Nat.testBit_div_two_pow, show p - 8 + 8 = p by omega]; exact hb)
   omega
theorem cb_mask (n : Nat) : ∀ ps : List Nat, ∀ N, cb n (ps.foldl (fun a p => a ||| 2 ^ p) N) ≤ cb n N + ps.length
 | [], _ => by simp
 | p :: ps, N => by
  rw [List.foldl_cons, List.length_cons]
  have := cb_mask n ps (N ||| 2 ^ p)
  have := cb_or n N p
  omega
theorem onesL_f : ∀ (n N a : Nat), a + 8 * n ≤ 1000000000 → onesL (ints (dig 256 n N)) (a : Int) = some ((a + cb n N : Nat) : Int)
 | 0, _, _, _ => rfl
 | n + 1, N, a, h => by
  have hp := bits_OnesCount8.pop_le (N % 256)
  have hlt : N % 256 < 256 := Nat.mod_lt _ (by omega)
  show onesL (((N % 256 : Nat) : Int) :: ints (dig 256 n (N / 256))) (a : Int) = _
  rw [onesL]
  unfold bits_OnesCount8.f
  rw [if_pos ⟨by omega, by omega⟩, Option.bind_some, Int.toNat_natCast, w64 (by omega) (by omega), ← Int.natCast_add, onesL_f n (N / 256) _ (by omega), cb, Nat.add_assoc]
end Go.Proofs.Ytlbcpigjbjolaaa.G
namespace Go.Proofs.Ytlbcpigjbjolaaa.G
open Go.RowKit Go.Proofs.YtlbcpigjbjolaaaQ Go.Proofs.YtlbcpigjbjolaaaW.PrintWords Go.Proofs.YtlbcpigjbjolaaaW.PrintLast Go.Proofs.YtlbcpigjbjolaaaW.PrintMore
set_option linter.unusedVariables false
set_option linter.unusedSimpArgs false
def ones22 (l : List S28) : Nat := cb (blen22 l) (mask22 (blen22 l) l)
theorem ones_made {l : List S28} (hl : l.length ≤ 1000) : filter_Ones.f (strOfNums (bytes22 l)) = some ((ones22 l : Int), 0) := by
 have hb := blen22_le l hl
 obtain ⟨t, h1, h2, h3⟩ := rd22_f l hl
 have h := onesL_f (blen22 l) (mask22 (blen22 l) l) 0 (by omega)
 unfold filter_Ones.f onesF
 rw [h1, Option.bind_some]
 simp only [h2]
 rw [if_pos trivial, show (0 : Int) = ((0 : Nat) : Int) from rfl, h, Option.bind_some, Nat.zero_add]; rfl
theorem flat_len22 (n : Nat) : ∀ l : List S28, (l.flatMap fun x => places n (tail22 x)).length = 4 * l.length
 | [] => rfl
 | x :: t => by rw [List.flatMap_cons, List.length_append, flat_len22 n t, List.length_cons]; simp only [places, List.length_cons, List.length_nil]; omega
theorem ones22_le (l : List S28) : ones22 l ≤ 4 * l.length := by
 have h := cb_mask (blen22 l) (l.flatMap fun x => places (blen22 l) (tail22 x)) 0
 rw [cb_zero, flat_len22] at h
 unfold ones22 mask22 mask
 omega
theorem ones22_zero (l : List S28) : (((l.length : Nat) : Int) == 0) = (((ones22 l : Nat) : Int) == 0) := by
 have h0 : 0 < blen22 l := by unfold blen22; omega
 cases l with
 | nil =>
  have : ones22 [] = 0 := cb_zero _
  rw [this]; rfl
 | cons x t =>
  have hp : 0 < ones22 (x :: t) := by
   refine cb_pos _ _ (placeAt (blen22 (x :: t)) (tail22 x) 0) (placeAt_lt h0 _ _) ?_
   unfold mask22
   rw [mask_bit, decide_eq_true_iff, List.mem_flatMap]
   exact ⟨x, by simp, by simp [places]⟩
  rw [beq_eq_false_iff_ne.mpr (by rw [List.length_cons]; omega), beq_eq_false_iff_ne.mpr (by omega)]
theorem FilterNever.law (A0 : Option Addr) (c0 : Nat) (l : List S28) (w : World) (hc0 : l.length ≤ c0) (hr0 : Kd.C k28 w A0 l.length l) (hm0 : l.length ≤ maxLen) (hok0 : ∀ x ∈ l, OkVW x) (hb : l.length * 32 ≤ 140737488351232) :
  Calls Try.prog 5 #[.slice A0 l.length c0] w fun e w' => e = .returned (.bool true) ∧ Below w.heap.size w w' := by
 have hK := okk_of hok0
 have hK2 : ∀ x ∈ l.take 200, OkK x := fun x hx => hK x (List.mem_of_mem_take hx)
 have hl : (l.take 200).length ≤ 200 := by rw [List.length_take]; omega
 have hn := ones22_le (l.take 200)
 exact never.walk 60 12 12 A0 c0 l (strOfNums (bytes22 (l.take 200))) (ones22 (l.take 200) : Int) w lives22 (mkF_f (by omega) (by omega) hK2) (fun x hx => may_made (by omega) (by omega) hx (hK2 x hx)) (ones_made (by omega)) (by omega) (ones22_zero _) hr0 hc0
end Go.Proofs.Ytlbcpigjbjolaaa.G
