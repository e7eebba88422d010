import Derived.Test.YtgeddoklmcjdcaaZQA
import Derived.Test.YtgeddoklmcjdcaaZG17
import Derived.Test.YtgeddoklmcjdcaaZG4
import Derived.Test.YtgeddoklmcjdcaaZG7
namespace Go.Proofs.Ytgeddoklmcjdcaa.G
open Go.RowKit Go.Proofs.YtgeddoklmcjdcaaQ Go.Proofs.YtgeddoklmcjdcaaW.PrintWords Go.Proofs.YtgeddoklmcjdcaaW.PrintLast Go.Proofs.YtgeddoklmcjdcaaW.PrintMore
attribute [local go_sem] max2_int min2_int max_two min_two max_three min_three max_four min_four   -- for this text's walks alone
set_option linter.unusedVariables false
set_option linter.unusedSimpArgs false
mutual
def tithebarnref04_With.j0 : Nat → List Int → Int → Bool → Option (ByteArray × Int)
 | 0, _, _, _ => none
 | k + 1, x0, x1, x14 => if x14 = true then (some ((⟨#[]⟩ : ByteArray), 1)) else (if (x0.length : Int) > 65536 then (some ((⟨#[]⟩ : ByteArray), 3)) else ((some (([(x1) % 256] : List Int) : List Int)).bind fun y357 => ((tithebarnref01_Uint.f k (IntKind.u64.wrap ((x0.length : Int)))).bind fun t360 => (if (strOfNums y357).size + t360.size ≤ 9223372036854775807 then (if x1 = 2 then ((tithebarnref04_runs.f k x0).bind fun t361 => (if ((strOfNums y357) ++ t360).size + t361.size ≤ 9223372036854775807 then (some (((strOfNums y357) ++ t360) ++ t361, 0)) else (none))) else (if x1 = 3 then ((tithebarnref04_packed.f k x0).bind fun t362 => (if ((strOfNums y357) ++ t360).size + t362.size ≤ 9223372036854775807 then (some (((strOfNums y357) ++ t360) ++ t362, 0)) else (none))) else (tithebarnref04_With.l0 k x0 x1 ((strOfNums y357) ++ t360) 0))) else (none)))))
def tithebarnref04_With.l0 : Nat → List Int → Int → ByteArray → Int → Option (ByteArray × Int)
 | 0, _, _, _, _ => none
 | k + 1, x0, x1, x6, x7 => if x7 < (x0.length : Int) then (if 0 ≤ x7 then (if x1 = 1 then (if x7 > 0 then (if 0 ≤ (wrap64 (x7 - 1)) then (if (wrap64 (x7 - 1)) < (x0.length : Int) then ((tithebarnref01_Int.f k (wrap64 (IntKind.u64.wrap ((IntKind.u64.wrap (rd x0 x7)) - (IntKind.u64.wrap (rd x0 (wrap64 (x7 - 1)))))))).bind fun t366 => (if x6.size + t366.size ≤ 9223372036854775807 then (tithebarnref04_With.l0 k x0 x1 (x6 ++ t366) (wrap64 (x7 + 1))) else (none))) else (none)) else (none)) else ((tithebarnref01_Int.f k (rd x0 x7)).bind fun t367 => (if x6.size + t367.size ≤ 9223372036854775807 then (tithebarnref04_With.l0 k x0 x1 (x6 ++ t367) (wrap64 (x7 + 1))) else (none)))) else ((tithebarnref01_Int.f k (rd x0 x7)).bind fun t368 => (if x6.size + t368.size ≤ 9223372036854775807 then (tithebarnref04_With.l0 k x0 x1 (x6 ++ t368) (wrap64 (x7 + 1))) else (none)))) else (none)) else (some (x6, 0))
end
def tithebarnref04_With.f (k : Nat) (l0 : List Int) (a1 : Int) : Option (ByteArray × Int) := if a1 < 0 then (tithebarnref04_With.j0 k l0 a1 true) else (tithebarnref04_With.j0 k l0 a1 (decide (a1 > 3)))
theorem tithebarnref04_With.mono_l : ∀ k, (∀ y0 y1 y2, LeO (tithebarnref04_With.j0 k y0 y1 y2) (tithebarnref04_With.j0 (k + 1) y0 y1 y2)) ∧ (∀ y0 y1 y2 y3, LeO (tithebarnref04_With.l0 k y0 y1 y2 y3) (tithebarnref04_With.l0 (k + 1) y0 y1 y2 y3))
 | 0 => ⟨fun _ _ _ r h => by simp [tithebarnref04_With.j0] at h, fun _ _ _ _ r h => by simp [tithebarnref04_With.l0] at h⟩
 | k + 1 => by
  obtain ⟨ih0, ih1⟩ := tithebarnref04_With.mono_l k
  refine ⟨?_, ?_⟩
  ·intro y0 y1 y2
   unfold tithebarnref04_With.j0
   repeat' first
   | (with_reducible exact ih0 _ _ _)
   | (with_reducible exact ih1 _ _ _ _)
   | (with_reducible exact tithebarnref01_Int.mono _ _)
   | (with_reducible exact tithebarnref01_Uint.mono _ _)
   | (with_reducible exact tithebarnref04_packed.mono _ _)
   | (with_reducible exact tithebarnref04_runs.mono _ _)
   | (with_reducible exact LeO.refl _)
   | (with_reducible exact LeO.none _)
   | (with_reducible refine LeO.ite ?_ ?_)
   | (with_reducible refine LeO.bind ?_ (fun _ => ?_))
   | exact ih0 _ _ _
   | exact ih1 _ _ _ _
   | exact tithebarnref01_Int.mono _ _
   | exact tithebarnref01_Uint.mono _ _
   | exact tithebarnref04_packed.mono _ _
   | exact tithebarnref04_runs.mono _ _
   | exact LeO.none _
   | refine LeO.ite ?_ ?_
   | refine LeO.bind ?_ (fun _ => ?_)
  ·intro y0 y1 y2 y3
   unfold tithebarnref04_With.l0
   repeat' first
   | (with_reducible exact ih0 _ _ _)
   | (with_reducible exact ih1 _ _ _ _)
   | (with_reducible exact tithebarnref01_Int.mono _ _)
   | (with_reducible exact tithebarnref01_Uint.mono _ _)
   | (with_reducible exact tithebarnref04_packed.mono _ _)
   | (with_reducible exact tithebarnref04_runs.mono _ _)
   | (with_reducible exact LeO.refl _)
   | (with_reducible exact LeO.none _)
   | (with_reducible refine LeO.ite ?_ ?_)
   | (with_reducible refine LeO.bind ?_ (fun _ => ?_))
   | exact ih0 _ _ _
   | exact ih1 _ _ _ _
   | exact tithebarnref01_Int.mono _ _
   | exact tithebarnref01_Uint.mono _ _
   | exact tithebarnref04_packed.mono _ _
   | exact tithebarnref04_runs.mono _ _
   | exact LeO.none _
   | refine LeO.ite ?_ ?_
   | refine LeO.bind ?_ (fun _ => ?_)
theorem tithebarnref04_With.mono : ∀ a0 a1 k, LeO (tithebarnref04_With.f k a0 a1) (tithebarnref04_With.f (k + 1) a0 a1) := by
 intro a0 a1 k
 obtain ⟨ih0, ih1⟩ := tithebarnref04_With.mono_l k
 unfold tithebarnref04_With.f
 repeat' first
   | (with_reducible exact ih0 _ _ _)
   | (with_reducible exact ih1 _ _ _ _)
   | (with_reducible exact tithebarnref01_Int.mono _ _)
   | (with_reducible exact tithebarnref01_Uint.mono _ _)
   | (with_reducible exact tithebarnref04_packed.mono _ _)
   | (with_reducible exact tithebarnref04_runs.mono _ _)
   | (with_reducible exact LeO.refl _)
   | (with_reducible exact LeO.none _)
   | (with_reducible refine LeO.ite ?_ ?_)
   | (with_reducible refine LeO.bind ?_ (fun _ => ?_))
   | exact ih0 _ _ _
   | exact ih1 _ _ _ _
   | exact tithebarnref01_Int.mono _ _
   | exact tithebarnref01_Uint.mono _ _
   | exact tithebarnref04_packed.mono _ _
   | exact tithebarnref04_runs.mono _ _
   | exact LeO.none _
   | refine LeO.ite ?_ ?_
   | refine LeO.bind ?_ (fun _ => ?_)
def tithebarnref04_With.T5 : Bool × List (List Nat × List Nat) := (true, [([], []), ([0], [0]), ([1], [1]), ([2], [2]), ([], []), ([4], [4]), ([5], [5]), ([6], [6]), ([3, 7], [3, 7]), ([8, 7, 0, 1, 2, 3, 4, 5, 6, 7, 8], [8])])
def tithebarnref04_With.B5 : List Nat := [0, 1, 3, 7, 0, 16, 48, 112, 255, 511]
theorem tithebarnref04_With.tab5 : rtab .any (opsOf Try.f11 5) = tithebarnref04_With.T5 := by kernel_rfl
theorem tithebarnref04_With.bits5 : waitsOk tithebarnref04_With.T5.2 tithebarnref04_With.B5 = true := by kernel_rfl
def tithebarnref04_With.T15 : Bool × List (List Nat × List Nat) := (true, [([], []), ([], []), ([0, 1], [0, 1]), ([2], [2]), ([3], [3]), ([], []), ([], []), ([6], [6]), ([5, 7], [5, 7]), ([8], [8]), ([9], [9]), ([4, 10], [4, 10]), ([11], [11]), ([12, 0, 1, 2, 3, 4, 5, 6, 7, 8, 9, 10, 11, 12], [12])])
def tithebarnref04_With.B15 : List Nat := [0, 0, 3, 7, 15, 0, 0, 64, 224, 480, 992, 2047, 4095, 8191]
theorem tithebarnref04_With.tab15 : rtab .any (opsOf Try.f11 15) = tithebarnref04_With.T15 := by kernel_rfl
theorem tithebarnref04_With.bits15 : waitsOk tithebarnref04_With.T15.2 tithebarnref04_With.B15 = true := by kernel_rfl
set_option maxHeartbeats 8000000 in
set_option maxRecDepth 100000 in
theorem tithebarnref04_With.calls (k : Nat) (A0 : Option Addr) (c0 : Nat) (l0 : List Int) (a1 : Int) (r1 : ByteArray) (r2 : Int) (w : World) (hr0 : Kd.C (Kd.int .i64) w A0 l0.length l0) (hc0 : l0.length ≤ c0) (h : tithebarnref04_With.f k l0 a1 = some (r1, r2)) :
  Calls Try.prog 11 #[.slice A0 l0.length c0, .int .i64 a1] w fun e w' => e = .returned (.tuple #[.string r1, .int .i64 r2]) ∧ Below w.heap.size w w' := by
 have HR0 := Aside0.mk hr0
 have HC0 := Aside0.mk hc0
 clear hr0 hc0
 have HB := Aside0.mk (Below.refl w.heap.size w)
 have H : (if a1 < 0 then (tithebarnref04_With.j0 k l0 a1 true) else (tithebarnref04_With.j0 k l0 a1 (decide (a1 > 3)))) = some (r1, r2) := h
 clear h
 have HC3 := Aside0.mk H
 clear H
 go_enter Try.func11, Try.ntmps11
 go_upto_region 1 with (fail)
 go_cut [14] (fun v14 wc => ∃ (kq : Nat) (x14_2 : Bool), v14 = .bool x14_2 ∧ Aside0 (tithebarnref04_With.j0 kq l0 a1 x14_2 = some (r1, r2)) ∧ Aside0 (kq ≤ k) ∧ Aside0 (Below w.heap.size w wc))
 case first =>
  have H := HC3.out
  clear HC3
  by_cases c4 : a1 < 0
  ·rw [if_pos c4] at H
   have c4b0 : decide (a1 < 0) = true := decide_eq_true c4
   clear c4
   (first | rw [c4b0] | (simp only [i64_w, i32_w]; rw [c4b0]) | skip)
   have H' := Aside0.mk H
   clear H
   go_wp2
   go_meet
   case rel => exact ⟨_, (true), z6_, H', ⟨by first | omega | exact Nat.le_refl _⟩, ⟨z0_⟩⟩
  ·rw [if_neg c4] at H
   have c4b0 : decide (a1 < 0) = false := decide_eq_false c4
   clear c4
   (first | rw [c4b0] | (simp only [i64_w, i32_w]; rw [c4b0]) | skip)
   have H' := Aside0.mk H
   clear H
   go_wp2
   go_meet
   case rel => exact ⟨_, (decide (a1 > 3)), z6_, H', ⟨by first | omega | exact Nat.le_refl _⟩, ⟨z0_⟩⟩
 case rest =>
  clear HC3
  try clear c1
  try clear p2
  try clear c4
  try clear c4b0
  obtain ⟨kq, x14_2, rfl, HA, HJ2, HB⟩ := hcut
  cases kq with
  | zero => exact absurd HA.out (by simp [tithebarnref04_With.j0])
  | succ kj2 =>
   have H := HA.out
   clear HA
   simp only [tithebarnref04_With.j0] at H
   by_cases c5 : x14_2 = true
   ·subst c5
    have H1 : (some ((⟨#[]⟩ : ByteArray), 1)) = some (r1, r2) := by rw [if_pos rfl] at H; exact H
    clear H
    have H := H1
    clear H1
    simp only [Option.some.injEq, Prod.mk.injEq] at H
    obtain ⟨rfl, rfl⟩ := H
    go_wp2
    go_ret2
    exact ⟨z5_, z0_⟩
   ·replace c5 := Bool.eq_false_iff.mpr c5
    subst c5
    have H1 : (if (l0.length : Int) > 65536 then (some ((⟨#[]⟩ : ByteArray), 3)) else ((some (([(a1) % 256] : List Int) : List Int)).bind fun y357 => ((tithebarnref01_Uint.f kj2 (IntKind.u64.wrap ((l0.length : Int)))).bind fun t360 => (if (strOfNums y357).size + t360.size ≤ 9223372036854775807 then (if a1 = 2 then ((tithebarnref04_runs.f kj2 l0).bind fun t361 => (if ((strOfNums y357) ++ t360).size + t361.size ≤ 9223372036854775807 then (some (((strOfNums y357) ++ t360) ++ t361, 0)) else (none))) else (if a1 = 3 then ((tithebarnref04_packed.f kj2 l0).bind fun t362 => (if ((strOfNums y357) ++ t360).size + t362.size ≤ 9223372036854775807 then (some (((strOfNums y357) ++ t360) ++ t362, 0)) else (none))) else (tithebarnref04_With.l0 kj2 l0 a1 ((strOfNums y357) ++ t360) 0))) else (none))))) = some (r1, r2) := by rw [if_neg (show ¬ (false = true) by decide)] at H; exact H
    clear H
    have H := H1
    clear H1
    by_cases c6 : (l0.length : Int) > 65536
    ·rw [if_pos c6] at H
     have c6b0 : decide (65536 < (l0.length : Int)) = true := decide_eq_true c6
     have c6b1 : decide (65536 < l0.length) = true := decide_eq_true (by omega)
     clear c6
     simp only [Option.some.injEq, Prod.mk.injEq] at H
     obtain ⟨rfl, rfl⟩ := H
     go_wp2
     go_ret2
     exact ⟨z5_, z0_⟩
    ·rw [if_neg c6] at H
     have c6b0 : decide (65536 < (l0.length : Int)) = false := decide_eq_false c6
     have c6b1 : decide (65536 < l0.length) = false := decide_eq_false (by omega)
     clear c6
     obtain ⟨y357, hy357⟩ : ∃ y_ : List Int, y_ = (([(a1) % 256] : List Int)) := ⟨_, rfl⟩
     replace H : ((tithebarnref01_Uint.f kj2 (IntKind.u64.wrap ((l0.length : Int)))).bind fun t360 => (if (strOfNums y357).size + t360.size ≤ 9223372036854775807 then (if a1 = 2 then ((tithebarnref04_runs.f kj2 l0).bind fun t361 => (if ((strOfNums y357) ++ t360).size + t361.size ≤ 9223372036854775807 then (some (((strOfNums y357) ++ t360) ++ t361, 0)) else (none))) else (if a1 = 3 then ((tithebarnref04_packed.f kj2 l0).bind fun t362 => (if ((strOfNums y357) ++ t360).size + t362.size ≤ 9223372036854775807 then (some (((strOfNums y357) ++ t360) ++ t362, 0)) else (none))) else (tithebarnref04_With.l0 kj2 l0 a1 ((strOfNums y357) ++ t360) 0))) else (none))) = some (r1, r2) := by first | (rw [hy357]; with_reducible exact H) | (have H2_ := (Option.bind_some _ _).symm.trans H; rw [hy357]; with_reducible exact H2_) | (have H2_ := (Option.bind_some _ _).symm.trans H; with_reducible exact H2_) | with_reducible exact H | (rw [hy357]; exact H) | exact H
     have Ny357 := Aside0.mk hy357
     clear hy357
     replace H := Option.bind_eq_some_iff.mp H
     obtain ⟨t360, A70, H⟩ := H
     replace H : (if (strOfNums y357).size + t360.size ≤ 9223372036854775807 then (if a1 = 2 then ((tithebarnref04_runs.f kj2 l0).bind fun t361 => (if ((strOfNums y357) ++ t360).size + t361.size ≤ 9223372036854775807 then (some (((strOfNums y357) ++ t360) ++ t361, 0)) else (none))) else (if a1 = 3 then ((tithebarnref04_packed.f kj2 l0).bind fun t362 => (if ((strOfNums y357) ++ t360).size + t362.size ≤ 9223372036854775807 then (some (((strOfNums y357) ++ t360) ++ t362, 0)) else (none))) else (tithebarnref04_With.l0 kj2 l0 a1 ((strOfNums y357) ++ t360) 0))) else (none)) = some (r1, r2) := H
     have A7 := Aside0.mk A70
     clear A70
     by_cases c8 : (strOfNums y357).size + t360.size ≤ 9223372036854775807
     ·rw [if_pos c8] at H
      have c8b0 := eq_true c8
      have c8b1 : decide ((strOfNums y357).size + t360.size ≤ 9223372036854775807) = true := decide_eq_true c8
      try have c8b2 : (9223372036854775807 < (strOfNums y357).size + t360.size) = False := eq_false (Nat.not_lt.2 c8)
      try (have c8b3 := c8b2; simp only [ByteArray.size_append] at c8b3)
      try (have c8b4 := c8b0; simp only [ByteArray.size_append] at c8b4)
      try (have c8b5 := c8b1; simp only [ByteArray.size_append] at c8b5)
      by_cases c9 : a1 = 2
      ·rw [if_pos c9] at H
       have c9b0 : (a1 == 2) = true := beq_iff_eq.mpr c9
       have c9b1 : (a1 != 2) = false := bne_eq_false_iff_eq.mpr c9
       clear c9
       replace H := Option.bind_eq_some_iff.mp H
       obtain ⟨t361, A100, H⟩ := H
       replace H : (if ((strOfNums y357) ++ t360).size + t361.size ≤ 9223372036854775807 then (some (((strOfNums y357) ++ t360) ++ t361, 0)) else (none)) = some (r1, r2) := H
       have A10 := Aside0.mk A100
       clear A100
       by_cases c11 : ((strOfNums y357) ++ t360).size + t361.size ≤ 9223372036854775807
       ·rw [if_pos c11] at H
        have c11b0 := eq_true c11
        have c11b1 : decide (((strOfNums y357) ++ t360).size + t361.size ≤ 9223372036854775807) = true := decide_eq_true c11
        try have c11b2 : (9223372036854775807 < ((strOfNums y357) ++ t360).size + t361.size) = False := eq_false (Nat.not_lt.2 c11)
        try (have c11b3 := c11b2; simp only [ByteArray.size_append] at c11b3)
        try (have c11b4 := c11b0; simp only [ByteArray.size_append] at c11b4)
        try (have c11b5 := c11b1; simp only [ByteArray.size_append] at c11b5)
        simp only [Option.some.injEq, Prod.mk.injEq] at H
        obtain ⟨rfl, rfl⟩ := H
        try go_wp2
        have n0_ := Aside0.mk (below_drew1 HB.out)
        clear HB
        have HB := n0_
        clear n0_
        refine start_ (n := 10) (S := fun w' => True) (ds := []) (bs_ 10 0) (by kernel_rfl) rfl rfl trivial (fun hHeld => ?_); refine with_tabW tithebarnref04_With.tab5 tithebarnref04_With.bits5 (fun HT_ HW_ => ?_)
        generalize wc.drew = w12 at HB hHeld ⊢
        refine pA_ 0 (some 18) (bs_ 10 1) HT_ ?_ ?_ ?_ ?_ ?_
        rotate_left; (intro w'; go_simp; with_reducible rfl); rotate_left; (simp only [PT_]; rfl)
        refine pA_ 1 (some 19) (bs_ 10 3) HT_ ?_ ?_ ?_ ?_ ?_
        rotate_left; (intro w'; go_simp; with_reducible rfl); rotate_left; (simp only [PT_]; rfl)
        refine pA_ 4 (some 22) (bs_ 10 19) HT_ ?_ ?_ ?_ ?_ ?_
        rotate_left; (intro w'; go_simp; with_reducible rfl); rotate_left; (simp only [PT_]; rfl)
        refine pA_ 5 (some 23) (bs_ 10 51) HT_ ?_ ?_ ?_ ?_ ?_
        rotate_left; (intro w'; go_simp; with_reducible rfl); rotate_left; (simp only [PT_]; rfl)
        refine pA_ 6 (some 24) (bs_ 10 115) HT_ ?_ ?_ ?_ ?_ ?_
        rotate_left; (intro w'; go_simp; with_reducible rfl); rotate_left; (simp only [PT_]; rfl)
        refine join_ (σ := Value) 2 (bs_ 10 255) (fun s_ => [(20, s_), (21, .string (strOfNums y357)), (25, .string t360)]) (fun s_ w' => (Kd.R (Kd.int .u8) 5 w' w.heap.size (fun _ => True) s_ y357) ∧ (Below w.heap.size w w')) ?_ ?_
        rotate_left
        ·intro hCont
         refine two_ (i := 2) (j := 7) (Ni := some 20) (Nj := some 25) (bs_ 10 119) (bs_ 10 243) rfl rfl rfl rfl (two_of HT_.out (by kernel_rfl)) (by decide) (by decide) (fun K hK => ?_) (fun K hK => ?_)
         ·skip
          refine Kd.R_lit_step (Kd.int .u8) _ 5 ?hg (N := 20) ?hd (xs := ([(a1) % 256] : List Int)) (inner := [.int .u8 ((a1) % 256)]) (ok := fun _ => True) (okp := fun _ => True) ?hr ?hp (fun _ hk => hk) trivial (Below.refl _ _) (Nat.le_refl _) (by simp) ?_; (case hd => rfl); (case hg => rfl); (case hr => first | (go_simp; done) | (go_simp; rfl)); (case hp => exact (Reps.one (show Kd.M (Kd.int .u8) _ _ _ ((a1) % 256) [.int .u8 ((a1) % 256)] from rfl) (Reps.none _ _)))
          intro v358 w13 ho14 hb hg_ hnew_
          clear hg_ hnew_
          (first | rw [← Ny357.out] at ho14 | (simp only [Int.reduceToNat] at ho14; rw [← Ny357.out] at ho14))
          have n0_ := Aside0.mk (Kd.R_lower ho14 (below_size z0_))
          have n1_ := Aside0.mk (below_step z0_ hb)
          clear HB
          have HO359 := n0_
          have HB := n1_
          clear n0_ n1_
          clear hb ho14
          refine hK.out _ _ trivial (fun hHeld => ?_)
          clear hK K
          refine norm_ (a' := ?_) ?_ ?_; rotate_left; (show Act.put _ (some 20) _ = _; simp only [PT_]; rfl)
          refine two_ (i := 3) (j := 7) (Ni := some 21) (Nj := some 25) (bs_ 10 127) (bs_ 10 247) rfl rfl rfl rfl (two_of HT_.out (by kernel_rfl)) (by decide) (by decide) (fun K hK => ?_) (fun K hK => ?_)
          ·skip
           have hcv15 := own_string (P := Try.prog) Try.underlying38 Try.underlying5 Try.underlying9 (Kd.own_of_R HO359.out)
           refine value_ (w1 := ?_) (v := ?_) (by rfl) rfl ?_ ?_
           rotate_left 2; (go_simp; constructor; rfl; rfl)
           clear hcv15
           refine hK.out _ _ trivial (fun hHeld => ?_)
           clear hK K
           refine norm_ (a' := ?_) ?_ ?_; rotate_left; (show Act.put _ (some 21) _ = _; simp only [PT_]; rfl)
           refine oA_ 7 (some 25) (bs_ 10 255) HT_ (fun K hK => ?_)
           refine goes_ Try.func19 (by kernel_rfl) rfl #[.int .u64 (IntKind.u64.wrap ((l0.length : Int)))] (by rfl) rfl rfl (by (try simp only [List.map_toArray, List.map_cons, List.map_nil]); first | done | rfl | (simp only [List.length_drop, List.length_take]; rfl)) ?_
           with_reducible refine (tithebarnref01_Uint.calls kj2 (IntKind.u64.wrap ((l0.length : Int))) t360 _ A7.out).mono ?_
           rintro e w16 ⟨rfl, hb⟩
           refine ⟨_, rfl, ?_⟩
           have n0_ := Aside0.mk (Kd.R_below (by (with_reducible repeat (first | apply Kd.R_alloc | apply Kd.R_drewN | apply Kd.R_drew)); exact HO359.out) hb)
           have n1_ := Aside0.mk (below_step z0_ hb)
           clear HO359
           clear HB
           have HO359 := n0_
           have HB := n1_
           clear n0_ n1_
           (try clear hb)
           (try clear hb2)
           (try clear hk)
           (try clear hi)
           refine hK.out _ _ trivial (fun hHeld => ?_)
           clear hK K
           refine norm_ (a' := ?_) ?_ ?_; rotate_left; (show Act.put _ (some 25) _ = _; simp only [PT_]; rfl)
           exact norm_ (by simp only [putAll, Act.put, List.setIfInBounds_toArray, List.set_cons_zero, List.set_cons_succ]) (hCont (v358) _ ⟨(by (with_reducible repeat (first | apply Kd.R_alloc | apply Kd.R_drewN | apply Kd.R_drew)); exact HO359.out), z0_⟩)
          ·skip
           refine goes_ Try.func19 (by kernel_rfl) rfl #[.int .u64 (IntKind.u64.wrap ((l0.length : Int)))] (by rfl) rfl rfl (by (try simp only [List.map_toArray, List.map_cons, List.map_nil]); first | done | rfl | (simp only [List.length_drop, List.length_take]; rfl)) ?_
           with_reducible refine (tithebarnref01_Uint.calls kj2 (IntKind.u64.wrap ((l0.length : Int))) t360 _ A7.out).mono ?_
           rintro e w15 ⟨rfl, hb⟩
           refine ⟨_, rfl, ?_⟩
           have n0_ := Aside0.mk (Kd.R_below (by (with_reducible repeat (first | apply Kd.R_alloc | apply Kd.R_drewN | apply Kd.R_drew)); exact HO359.out) hb)
           have n1_ := Aside0.mk (below_step z0_ hb)
           clear HO359
           clear HB
           have HO359 := n0_
           have HB := n1_
           clear n0_ n1_
           (try clear hb)
           (try clear hb2)
           (try clear hk)
           (try clear hi)
           refine hK.out _ _ trivial (fun hHeld => ?_)
           clear hK K
           refine norm_ (a' := ?_) ?_ ?_; rotate_left; (show Act.put _ (some 25) _ = _; simp only [PT_]; rfl)
           refine oA_ 3 (some 21) (bs_ 10 255) HT_ (fun K hK => ?_)
           have hcv16 := own_string (P := Try.prog) Try.underlying38 Try.underlying5 Try.underlying9 (Kd.own_of_R HO359.out)
           refine value_ (w1 := ?_) (v := ?_) (by rfl) rfl ?_ ?_
           rotate_left 2; (go_simp; constructor; rfl; rfl)
           clear hcv16
           refine hK.out _ _ trivial (fun hHeld => ?_)
           clear hK K
           refine norm_ (a' := ?_) ?_ ?_; rotate_left; (show Act.put _ (some 21) _ = _; simp only [PT_]; rfl)
           exact norm_ (by simp only [putAll, Act.put, List.setIfInBounds_toArray, List.set_cons_zero, List.set_cons_succ]) (hCont (v358) _ ⟨(by (with_reducible repeat (first | apply Kd.R_alloc | apply Kd.R_drewN | apply Kd.R_drew)); exact HO359.out), z0_⟩)
         ·skip
          refine goes_ Try.func19 (by kernel_rfl) rfl #[.int .u64 (IntKind.u64.wrap ((l0.length : Int)))] (by rfl) rfl rfl (by (try simp only [List.map_toArray, List.map_cons, List.map_nil]); first | done | rfl | (simp only [List.length_drop, List.length_take]; rfl)) ?_
          with_reducible refine (tithebarnref01_Uint.calls kj2 (IntKind.u64.wrap ((l0.length : Int))) t360 _ A7.out).mono ?_
          rintro e w13 ⟨rfl, hb⟩
          refine ⟨_, rfl, ?_⟩
          have n0_ := Aside0.mk (below_step z0_ hb)
          clear HB
          have HB := n0_
          clear n0_
          (try clear hb)
          (try clear hb2)
          (try clear hk)
          (try clear hi)
          refine hK.out _ _ trivial (fun hHeld => ?_)
          clear hK K
          refine norm_ (a' := ?_) ?_ ?_; rotate_left; (show Act.put _ (some 25) _ = _; simp only [PT_]; rfl)
          refine oA_ 2 (some 20) (bs_ 10 247) HT_ (fun K hK => ?_)
          refine Kd.R_lit_step (Kd.int .u8) _ 5 ?hg (N := 20) ?hd (xs := ([(a1) % 256] : List Int)) (inner := [.int .u8 ((a1) % 256)]) (ok := fun _ => True) (okp := fun _ => True) ?hr ?hp (fun _ hk => hk) trivial (Below.refl _ _) (Nat.le_refl _) (by simp) ?_; (case hd => rfl); (case hg => rfl); (case hr => first | (go_simp; done) | (go_simp; rfl)); (case hp => exact (Reps.one (show Kd.M (Kd.int .u8) _ _ _ ((a1) % 256) [.int .u8 ((a1) % 256)] from rfl) (Reps.none _ _)))
          intro v358 w14 ho15 hb hg_ hnew_
          clear hg_ hnew_
          (first | rw [← Ny357.out] at ho15 | (simp only [Int.reduceToNat] at ho15; rw [← Ny357.out] at ho15))
          have n0_ := Aside0.mk (Kd.R_lower ho15 (below_size z0_))
          have n1_ := Aside0.mk (below_step z0_ hb)
          clear HB
          have HO359 := n0_
          have HB := n1_
          clear n0_ n1_
          clear hb ho15
          refine hK.out _ _ trivial (fun hHeld => ?_)
          clear hK K
          refine norm_ (a' := ?_) ?_ ?_; rotate_left; (show Act.put _ (some 20) _ = _; simp only [PT_]; rfl)
          refine oA_ 3 (some 21) (bs_ 10 255) HT_ (fun K hK => ?_)
          have hcv16 := own_string (P := Try.prog) Try.underlying38 Try.underlying5 Try.underlying9 (Kd.own_of_R HO359.out)
          refine value_ (w1 := ?_) (v := ?_) (by rfl) rfl ?_ ?_
          rotate_left 2; (go_simp; constructor; rfl; rfl)
          clear hcv16
          refine hK.out _ _ trivial (fun hHeld => ?_)
          clear hK K
          refine norm_ (a' := ?_) ?_ ?_; rotate_left; (show Act.put _ (some 21) _ = _; simp only [PT_]; rfl)
          exact norm_ (by simp only [putAll, Act.put, List.setIfInBounds_toArray, List.set_cons_zero, List.set_cons_succ]) (hCont (v358) _ ⟨(by (with_reducible repeat (first | apply Kd.R_alloc | apply Kd.R_drewN | apply Kd.R_drew)); exact HO359.out), z0_⟩)
        rintro v358 w17 ⟨h0_, h1_⟩
        have n0_ : Aside0 (Kd.R (Kd.int .u8) 5 w17 w.heap.size (fun _ => True) v358 y357) := ⟨h0_⟩
        have n1_ : Aside0 (Below w.heap.size w w17) := ⟨h1_⟩
        clear HB
        clear h0_ h1_
        have HO359 := n0_
        have HB := n1_
        clear n0_ n1_
        have hHeld := trivial
        refine norm_ (a' := ?_) ?_ ?_
        rotate_left
        ·simp only [putAll, Act.put, List.setIfInBounds_toArray, List.set_cons_zero, List.set_cons_succ]
         rfl
        refine pA_ 8 (some 26) (bs_ 10 511) HT_ ?_ ?_ ?_ ?_ ?_
        rotate_left; (intro w'; go_simp; with_reducible rfl); rotate_left; (simp only [PT_]; rfl)
        refine pA_ 9 (some 6) (bs_ 10 1023) HT_ ?_ ?_ ?_ ?_ ?_
        rotate_left; (intro w'; go_simp; with_reducible rfl); rotate_left; (simp only [PT_]; rfl)
        refine done_ (done_of HT_.out (by kernel_rfl)) ?_
        try go_wp2_with (first | ((with_reducible refine gate_callee (f := 20) rfl ?_); refine goesL_ (some 31) rfl rfl Try.func20 (by kernel_rfl) rfl #[.slice A0 l0.length c0] rfl (by (try simp only [List.map_toArray, List.map_cons, List.map_nil]); first | done | rfl | (simp only [List.length_drop, List.length_take]; rfl) | (go_simp; simp [IntKind.wrap, IntKind.bits, IntKind.signed]; omega)) ?_; (with_reducible refine (tithebarnref04_runs.calls kj2 _ _ l0 t361 _ ?side1 ?side2 A10.out).mono ?_); (case side1 => repeat (first | exact (Kd.C_below HR0.out HB.out) | (with_reducible refine Kd.C_alloc ?_ _) | (with_reducible refine Kd.C_drewN ?_ _) | (with_reducible refine Kd.C_drew ?_))); (case side2 => exact HC0.out); rintro e w18 ⟨rfl, hb⟩; refine ⟨_, rfl, ?_⟩; have n0_ := Aside0.mk (Kd.R_below (by (with_reducible repeat (first | apply Kd.R_alloc | apply Kd.R_drewN | apply Kd.R_drew)); exact HO359.out) hb); have n1_ := Aside0.mk (below_step z0_ hb); clear HO359; clear HB; have HO359 := n0_; have HB := n1_; clear n0_ n1_; (try clear hb); (try clear hb2); (try clear hk); (try clear hi)))
        go_ret2
        exact ⟨z5_, z0_⟩
       ·rw [if_neg c11] at H
        exact absurd H (by simp)
      ·rw [if_neg c9] at H
       have c9b0 : (a1 == 2) = false := beq_eq_false_iff_ne.mpr c9
       have c9b1 : (a1 != 2) = true := bne_iff_ne.mpr c9
       by_cases c19 : a1 = 3
       ·rw [if_pos c19] at H
        have c19b0 : (a1 == 3) = true := beq_iff_eq.mpr c19
        have c19b1 : (a1 != 3) = false := bne_eq_false_iff_eq.mpr c19
        clear c19
        replace H := Option.bind_eq_some_iff.mp H
        obtain ⟨t362, A200, H⟩ := H
        replace H : (if ((strOfNums y357) ++ t360).size + t362.size ≤ 9223372036854775807 then (some (((strOfNums y357) ++ t360) ++ t362, 0)) else (none)) = some (r1, r2) := H
        have A20 := Aside0.mk A200
        clear A200
        by_cases c21 : ((strOfNums y357) ++ t360).size + t362.size ≤ 9223372036854775807
        ·rw [if_pos c21] at H
         have c21b0 := eq_true c21
         have c21b1 : decide (((strOfNums y357) ++ t360).size + t362.size ≤ 9223372036854775807) = true := decide_eq_true c21
         try have c21b2 : (9223372036854775807 < ((strOfNums y357) ++ t360).size + t362.size) = False := eq_false (Nat.not_lt.2 c21)
         try (have c21b3 := c21b2; simp only [ByteArray.size_append] at c21b3)
         try (have c21b4 := c21b0; simp only [ByteArray.size_append] at c21b4)
         try (have c21b5 := c21b1; simp only [ByteArray.size_append] at c21b5)
         simp only [Option.some.injEq, Prod.mk.injEq] at H
         obtain ⟨rfl, rfl⟩ := H
         try go_wp2
         have n0_ := Aside0.mk (below_drew1 HB.out)
         clear HB
         have HB := n0_
         clear n0_
         refine start_ (n := 10) (S := fun w' => True) (ds := []) (bs_ 10 0) (by kernel_rfl) rfl rfl trivial (fun hHeld => ?_); refine with_tabW tithebarnref04_With.tab5 tithebarnref04_With.bits5 (fun HT_ HW_ => ?_)
         generalize wc.drew = w22 at HB hHeld ⊢
         refine pA_ 0 (some 18) (bs_ 10 1) HT_ ?_ ?_ ?_ ?_ ?_
         rotate_left; (intro w'; go_simp; with_reducible rfl); rotate_left; (simp only [PT_]; rfl)
         refine pA_ 1 (some 19) (bs_ 10 3) HT_ ?_ ?_ ?_ ?_ ?_
         rotate_left; (intro w'; go_simp; with_reducible rfl); rotate_left; (simp only [PT_]; rfl)
         refine pA_ 4 (some 22) (bs_ 10 19) HT_ ?_ ?_ ?_ ?_ ?_
         rotate_left; (intro w'; go_simp; with_reducible rfl); rotate_left; (simp only [PT_]; rfl)
         refine pA_ 5 (some 23) (bs_ 10 51) HT_ ?_ ?_ ?_ ?_ ?_
         rotate_left; (intro w'; go_simp; with_reducible rfl); rotate_left; (simp only [PT_]; rfl)
         refine pA_ 6 (some 24) (bs_ 10 115) HT_ ?_ ?_ ?_ ?_ ?_
         rotate_left; (intro w'; go_simp; with_reducible rfl); rotate_left; (simp only [PT_]; rfl)
         refine join_ (σ := Value) 2 (bs_ 10 255) (fun s_ => [(20, s_), (21, .string (strOfNums y357)), (25, .string t360)]) (fun s_ w' => (Kd.R (Kd.int .u8) 5 w' w.heap.size (fun _ => True) s_ y357) ∧ (Below w.heap.size w w')) ?_ ?_
         rotate_left
         ·intro hCont
          refine two_ (i := 2) (j := 7) (Ni := some 20) (Nj := some 25) (bs_ 10 119) (bs_ 10 243) rfl rfl rfl rfl (two_of HT_.out (by kernel_rfl)) (by decide) (by decide) (fun K hK => ?_) (fun K hK => ?_)
          ·skip
           refine Kd.R_lit_step (Kd.int .u8) _ 5 ?hg (N := 20) ?hd (xs := ([(a1) % 256] : List Int)) (inner := [.int .u8 ((a1) % 256)]) (ok := fun _ => True) (okp := fun _ => True) ?hr ?hp (fun _ hk => hk) trivial (Below.refl _ _) (Nat.le_refl _) (by simp) ?_; (case hd => rfl); (case hg => rfl); (case hr => first | (go_simp; done) | (go_simp; rfl)); (case hp => exact (Reps.one (show Kd.M (Kd.int .u8) _ _ _ ((a1) % 256) [.int .u8 ((a1) % 256)] from rfl) (Reps.none _ _)))
           intro v358 w23 ho24 hb hg_ hnew_
           clear hg_ hnew_
           (first | rw [← Ny357.out] at ho24 | (simp only [Int.reduceToNat] at ho24; rw [← Ny357.out] at ho24))
           have n0_ := Aside0.mk (Kd.R_lower ho24 (below_size z0_))
           have n1_ := Aside0.mk (below_step z0_ hb)
           clear HB
           have HO359 := n0_
           have HB := n1_
           clear n0_ n1_
           clear hb ho24
           refine hK.out _ _ trivial (fun hHeld => ?_)
           clear hK K
           refine norm_ (a' := ?_) ?_ ?_; rotate_left; (show Act.put _ (some 20) _ = _; simp only [PT_]; rfl)
           refine two_ (i := 3) (j := 7) (Ni := some 21) (Nj := some 25) (bs_ 10 127) (bs_ 10 247) rfl rfl rfl rfl (two_of HT_.out (by kernel_rfl)) (by decide) (by decide) (fun K hK => ?_) (fun K hK => ?_)
           ·skip
            have hcv25 := own_string (P := Try.prog) Try.underlying38 Try.underlying5 Try.underlying9 (Kd.own_of_R HO359.out)
            refine value_ (w1 := ?_) (v := ?_) (by rfl) rfl ?_ ?_
            rotate_left 2; (go_simp; constructor; rfl; rfl)
            clear hcv25
            refine hK.out _ _ trivial (fun hHeld => ?_)
            clear hK K
            refine norm_ (a' := ?_) ?_ ?_; rotate_left; (show Act.put _ (some 21) _ = _; simp only [PT_]; rfl)
            refine oA_ 7 (some 25) (bs_ 10 255) HT_ (fun K hK => ?_)
            refine goes_ Try.func19 (by kernel_rfl) rfl #[.int .u64 (IntKind.u64.wrap ((l0.length : Int)))] (by rfl) rfl rfl (by (try simp only [List.map_toArray, List.map_cons, List.map_nil]); first | done | rfl | (simp only [List.length_drop, List.length_take]; rfl)) ?_
            with_reducible refine (tithebarnref01_Uint.calls kj2 (IntKind.u64.wrap ((l0.length : Int))) t360 _ A7.out).mono ?_
            rintro e w26 ⟨rfl, hb⟩
            refine ⟨_, rfl, ?_⟩
            have n0_ := Aside0.mk (Kd.R_below (by (with_reducible repeat (first | apply Kd.R_alloc | apply Kd.R_drewN | apply Kd.R_drew)); exact HO359.out) hb)
            have n1_ := Aside0.mk (below_step z0_ hb)
            clear HO359
            clear HB
            have HO359 := n0_
            have HB := n1_
            clear n0_ n1_
            (try clear hb)
            (try clear hb2)
            (try clear hk)
            (try clear hi)
            refine hK.out _ _ trivial (fun hHeld => ?_)
            clear hK K
            refine norm_ (a' := ?_) ?_ ?_; rotate_left; (show Act.put _ (some 25) _ = _; simp only [PT_]; rfl)
            exact norm_ (by simp only [putAll, Act.put, List.setIfInBounds_toArray, List.set_cons_zero, List.set_cons_succ]) (hCont (v358) _ ⟨(by (with_reducible repeat (first | apply Kd.R_alloc | apply Kd.R_drewN | apply Kd.R_drew)); exact HO359.out), z0_⟩)
           ·skip
            refine goes_ Try.func19 (by kernel_rfl) rfl #[.int .u64 (IntKind.u64.wrap ((l0.length : Int)))] (by rfl) rfl rfl (by (try simp only [List.map_toArray, List.map_cons, List.map_nil]); first | done | rfl | (simp only [List.length_drop, List.length_take]; rfl)) ?_
            with_reducible refine (tithebarnref01_Uint.calls kj2 (IntKind.u64.wrap ((l0.length : Int))) t360 _ A7.out).mono ?_
            rintro e w25 ⟨rfl, hb⟩
            refine ⟨_, rfl, ?_⟩
            have n0_ := Aside0.mk (Kd.R_below (by (with_reducible repeat (first | apply Kd.R_alloc | apply Kd.R_drewN | apply Kd.R_drew)); exact HO359.out) hb)
            have n1_ := Aside0.mk (below_step z0_ hb)
            clear HO359
            clear HB
            have HO359 := n0_
            have HB := n1_
            clear n0_ n1_
            (try clear hb)
            (try clear hb2)
            (try clear hk)
            (try clear hi)
            refine hK.out _ _ trivial (fun hHeld => ?_)
            clear hK K
            refine norm_ (a' := ?_) ?_ ?_; rotate_left; (show Act.put _ (some 25) _ = _; simp only [PT_]; rfl)
            refine oA_ 3 (some 21) (bs_ 10 255) HT_ (fun K hK => ?_)
            have hcv26 := own_string (P := Try.prog) Try.underlying38 Try.underlying5 Try.underlying9 (Kd.own_of_R HO359.out)
            refine value_ (w1 := ?_) (v := ?_) (by rfl) rfl ?_ ?_
            rotate_left 2; (go_simp; constructor; rfl; rfl)
            clear hcv26
            refine hK.out _ _ trivial (fun hHeld => ?_)
            clear hK K
            refine norm_ (a' := ?_) ?_ ?_; rotate_left; (show Act.put _ (some 21) _ = _; simp only [PT_]; rfl)
            exact norm_ (by simp only [putAll, Act.put, List.setIfInBounds_toArray, List.set_cons_zero, List.set_cons_succ]) (hCont (v358) _ ⟨(by (with_reducible repeat (first | apply Kd.R_alloc | apply Kd.R_drewN | apply Kd.R_drew)); exact HO359.out), z0_⟩)
          ·skip
           refine goes_ Try.func19 (by kernel_rfl) rfl #[.int .u64 (IntKind.u64.wrap ((l0.length : Int)))] (by rfl) rfl rfl (by (try simp only [List.map_toArray, List.map_cons, List.map_nil]); first | done | rfl | (simp only [List.length_drop, List.length_take]; rfl)) ?_
           with_reducible refine (tithebarnref01_Uint.calls kj2 (IntKind.u64.wrap ((l0.length : Int))) t360 _ A7.out).mono ?_
           rintro e w23 ⟨rfl, hb⟩
           refine ⟨_, rfl, ?_⟩
           have n0_ := Aside0.mk (below_step z0_ hb)
           clear HB
           have HB := n0_
           clear n0_
           (try clear hb)
           (try clear hb2)
           (try clear hk)
           (try clear hi)
           refine hK.out _ _ trivial (fun hHeld => ?_)
           clear hK K
           refine norm_ (a' := ?_) ?_ ?_; rotate_left; (show Act.put _ (some 25) _ = _; simp only [PT_]; rfl)
           refine oA_ 2 (some 20) (bs_ 10 247) HT_ (fun K hK => ?_)
           refine Kd.R_lit_step (Kd.int .u8) _ 5 ?hg (N := 20) ?hd (xs := ([(a1) % 256] : List Int)) (inner := [.int .u8 ((a1) % 256)]) (ok := fun _ => True) (okp := fun _ => True) ?hr ?hp (fun _ hk => hk) trivial (Below.refl _ _) (Nat.le_refl _) (by simp) ?_; (case hd => rfl); (case hg => rfl); (case hr => first | (go_simp; done) | (go_simp; rfl)); (case hp => exact (Reps.one (show Kd.M (Kd.int .u8) _ _ _ ((a1) % 256) [.int .u8 ((a1) % 256)] from rfl) (Reps.none _ _)))
           intro v358 w24 ho25 hb hg_ hnew_
           clear hg_ hnew_
           (first | rw [← Ny357.out] at ho25 | (simp only [Int.reduceToNat] at ho25; rw [← Ny357.out] at ho25))
           have n0_ := Aside0.mk (Kd.R_lower ho25 (below_size z0_))
           have n1_ := Aside0.mk (below_step z0_ hb)
           clear HB
           have HO359 := n0_
           have HB := n1_
           clear n0_ n1_
           clear hb ho25
           refine hK.out _ _ trivial (fun hHeld => ?_)
           clear hK K
           refine norm_ (a' := ?_) ?_ ?_; rotate_left; (show Act.put _ (some 20) _ = _; simp only [PT_]; rfl)
           refine oA_ 3 (some 21) (bs_ 10 255) HT_ (fun K hK => ?_)
           have hcv26 := own_string (P := Try.prog) Try.underlying38 Try.underlying5 Try.underlying9 (Kd.own_of_R HO359.out)
           refine value_ (w1 := ?_) (v := ?_) (by rfl) rfl ?_ ?_
           rotate_left 2; (go_simp; constructor; rfl; rfl)
           clear hcv26
           refine hK.out _ _ trivial (fun hHeld => ?_)
           clear hK K
           refine norm_ (a' := ?_) ?_ ?_; rotate_left; (show Act.put _ (some 21) _ = _; simp only [PT_]; rfl)
           exact norm_ (by simp only [putAll, Act.put, List.setIfInBounds_toArray, List.set_cons_zero, List.set_cons_succ]) (hCont (v358) _ ⟨(by (with_reducible repeat (first | apply Kd.R_alloc | apply Kd.R_drewN | apply Kd.R_drew)); exact HO359.out), z0_⟩)
         rintro v358 w27 ⟨h0_, h1_⟩
         have n0_ : Aside0 (Kd.R (Kd.int .u8) 5 w27 w.heap.size (fun _ => True) v358 y357) := ⟨h0_⟩
         have n1_ : Aside0 (Below w.heap.size w w27) := ⟨h1_⟩
         clear HB
         clear h0_ h1_
         have HO359 := n0_
         have HB := n1_
         clear n0_ n1_
         have hHeld := trivial
         refine norm_ (a' := ?_) ?_ ?_
         rotate_left
         ·simp only [putAll, Act.put, List.setIfInBounds_toArray, List.set_cons_zero, List.set_cons_succ]
          rfl
         refine pA_ 8 (some 26) (bs_ 10 511) HT_ ?_ ?_ ?_ ?_ ?_
         rotate_left; (intro w'; go_simp; with_reducible rfl); rotate_left; (simp only [PT_]; rfl)
         refine pA_ 9 (some 6) (bs_ 10 1023) HT_ ?_ ?_ ?_ ?_ ?_
         rotate_left; (intro w'; go_simp; with_reducible rfl); rotate_left; (simp only [PT_]; rfl)
         refine done_ (done_of HT_.out (by kernel_rfl)) ?_
         try go_wp2_with (first | ((with_reducible refine gate_callee (f := 21) rfl ?_); refine goesL_ (some 37) rfl rfl Try.func21 (by kernel_rfl) rfl #[.slice A0 l0.length c0] rfl (by (try simp only [List.map_toArray, List.map_cons, List.map_nil]); first | done | rfl | (simp only [List.length_drop, List.length_take]; rfl) | (go_simp; simp [IntKind.wrap, IntKind.bits, IntKind.signed]; omega)) ?_; (with_reducible refine (tithebarnref04_packed.calls kj2 _ _ l0 t362 _ ?side1 ?side2 A20.out).mono ?_); (case side1 => repeat (first | exact (Kd.C_below HR0.out HB.out) | (with_reducible refine Kd.C_alloc ?_ _) | (with_reducible refine Kd.C_drewN ?_ _) | (with_reducible refine Kd.C_drew ?_))); (case side2 => exact HC0.out); rintro e w28 ⟨rfl, hb⟩; refine ⟨_, rfl, ?_⟩; have n0_ := Aside0.mk (Kd.R_below (by (with_reducible repeat (first | apply Kd.R_alloc | apply Kd.R_drewN | apply Kd.R_drew)); exact HO359.out) hb); have n1_ := Aside0.mk (below_step z0_ hb); clear HO359; clear HB; have HO359 := n0_; have HB := n1_; clear n0_ n1_; (try clear hb); (try clear hb2); (try clear hk); (try clear hi)))
         go_ret2
         exact ⟨z5_, z0_⟩
        ·rw [if_neg c21] at H
         exact absurd H (by simp)
       ·rw [if_neg c19] at H
        have c19b0 : (a1 == 3) = false := beq_eq_false_iff_ne.mpr c19
        have c19b1 : (a1 != 3) = true := bne_iff_ne.mpr c19
        have H' := Aside0.mk H
        clear H
        try go_wp2
        have n0_ := Aside0.mk (below_drew1 HB.out)
        clear HB
        have HB := n0_
        clear n0_
        refine start_ (n := 10) (S := fun w' => True) (ds := []) (bs_ 10 0) (by kernel_rfl) rfl rfl trivial (fun hHeld => ?_); refine with_tabW tithebarnref04_With.tab5 tithebarnref04_With.bits5 (fun HT_ HW_ => ?_)
        generalize wc.drew = w29 at HB hHeld ⊢
        refine pA_ 0 (some 18) (bs_ 10 1) HT_ ?_ ?_ ?_ ?_ ?_
        rotate_left; (intro w'; go_simp; with_reducible rfl); rotate_left; (simp only [PT_]; rfl)
        refine pA_ 1 (some 19) (bs_ 10 3) HT_ ?_ ?_ ?_ ?_ ?_
        rotate_left; (intro w'; go_simp; with_reducible rfl); rotate_left; (simp only [PT_]; rfl)
        refine pA_ 4 (some 22) (bs_ 10 19) HT_ ?_ ?_ ?_ ?_ ?_
        rotate_left; (intro w'; go_simp; with_reducible rfl); rotate_left; (simp only [PT_]; rfl)
        refine pA_ 5 (some 23) (bs_ 10 51) HT_ ?_ ?_ ?_ ?_ ?_
        rotate_left; (intro w'; go_simp; with_reducible rfl); rotate_left; (simp only [PT_]; rfl)
        refine pA_ 6 (some 24) (bs_ 10 115) HT_ ?_ ?_ ?_ ?_ ?_
        rotate_left; (intro w'; go_simp; with_reducible rfl); rotate_left; (simp only [PT_]; rfl)
        refine join_ (σ := Value) 2 (bs_ 10 255) (fun s_ => [(20, s_), (21, .string (strOfNums y357)), (25, .string t360)]) (fun s_ w' => (Kd.R (Kd.int .u8) 5 w' w.heap.size (fun _ => True) s_ y357) ∧ (Below w.heap.size w w')) ?_ ?_
        rotate_left
        ·intro hCont
         refine two_ (i := 2) (j := 7) (Ni := some 20) (Nj := some 25) (bs_ 10 119) (bs_ 10 243) rfl rfl rfl rfl (two_of HT_.out (by kernel_rfl)) (by decide) (by decide) (fun K hK => ?_) (fun K hK => ?_)
         ·skip
          refine Kd.R_lit_step (Kd.int .u8) _ 5 ?hg (N := 20) ?hd (xs := ([(a1) % 256] : List Int)) (inner := [.int .u8 ((a1) % 256)]) (ok := fun _ => True) (okp := fun _ => True) ?hr ?hp (fun _ hk => hk) trivial (Below.refl _ _) (Nat.le_refl _) (by simp) ?_; (case hd => rfl); (case hg => rfl); (case hr => first | (go_simp; done) | (go_simp; rfl)); (case hp => exact (Reps.one (show Kd.M (Kd.int .u8) _ _ _ ((a1) % 256) [.int .u8 ((a1) % 256)] from rfl) (Reps.none _ _)))
          intro v358 w30 ho31 hb hg_ hnew_
          clear hg_ hnew_
          (first | rw [← Ny357.out] at ho31 | (simp only [Int.reduceToNat] at ho31; rw [← Ny357.out] at ho31))
          have n0_ := Aside0.mk (Kd.R_lower ho31 (below_size z0_))
          have n1_ := Aside0.mk (below_step z0_ hb)
          clear HB
          have HO359 := n0_
          have HB := n1_
          clear n0_ n1_
          clear hb ho31
          refine hK.out _ _ trivial (fun hHeld => ?_)
          clear hK K
          refine norm_ (a' := ?_) ?_ ?_; rotate_left; (show Act.put _ (some 20) _ = _; simp only [PT_]; rfl)
          refine two_ (i := 3) (j := 7) (Ni := some 21) (Nj := some 25) (bs_ 10 127) (bs_ 10 247) rfl rfl rfl rfl (two_of HT_.out (by kernel_rfl)) (by decide) (by decide) (fun K hK => ?_) (fun K hK => ?_)
          ·skip
           have hcv32 := own_string (P := Try.prog) Try.underlying38 Try.underlying5 Try.underlying9 (Kd.own_of_R HO359.out)
           refine value_ (w1 := ?_) (v := ?_) (by rfl) rfl ?_ ?_
           rotate_left 2; (go_simp; constructor; rfl; rfl)
           clear hcv32
           refine hK.out _ _ trivial (fun hHeld => ?_)
           clear hK K
           refine norm_ (a' := ?_) ?_ ?_; rotate_left; (show Act.put _ (some 21) _ = _; simp only [PT_]; rfl)
           refine oA_ 7 (some 25) (bs_ 10 255) HT_ (fun K hK => ?_)
           refine goes_ Try.func19 (by kernel_rfl) rfl #[.int .u64 (IntKind.u64.wrap ((l0.length : Int)))] (by rfl) rfl rfl (by (try simp only [List.map_toArray, List.map_cons, List.map_nil]); first | done | rfl | (simp only [List.length_drop, List.length_take]; rfl)) ?_
           with_reducible refine (tithebarnref01_Uint.calls kj2 (IntKind.u64.wrap ((l0.length : Int))) t360 _ A7.out).mono ?_
           rintro e w33 ⟨rfl, hb⟩
           refine ⟨_, rfl, ?_⟩
           have n0_ := Aside0.mk (Kd.R_below (by (with_reducible repeat (first | apply Kd.R_alloc | apply Kd.R_drewN | apply Kd.R_drew)); exact HO359.out) hb)
           have n1_ := Aside0.mk (below_step z0_ hb)
           clear HO359
           clear HB
           have HO359 := n0_
           have HB := n1_
           clear n0_ n1_
           (try clear hb)
           (try clear hb2)
           (try clear hk)
           (try clear hi)
           refine hK.out _ _ trivial (fun hHeld => ?_)
           clear hK K
           refine norm_ (a' := ?_) ?_ ?_; rotate_left; (show Act.put _ (some 25) _ = _; simp only [PT_]; rfl)
           exact norm_ (by simp only [putAll, Act.put, List.setIfInBounds_toArray, List.set_cons_zero, List.set_cons_succ]) (hCont (v358) _ ⟨(by (with_reducible repeat (first | apply Kd.R_alloc | apply Kd.R_drewN | apply Kd.R_drew)); exact HO359.out), z0_⟩)
          ·skip
           refine goes_ Try.func19 (by kernel_rfl) rfl #[.int .u64 (IntKind.u64.wrap ((l0.length : Int)))] (by rfl) rfl rfl (by (try simp only [List.map_toArray, List.map_cons, List.map_nil]); first | done | rfl | (simp only [List.length_drop, List.length_take]; rfl)) ?_
           with_reducible refine (tithebarnref01_Uint.calls kj2 (IntKind.u64.wrap ((l0.length : Int))) t360 _ A7.out).mono ?_
           rintro e w32 ⟨rfl, hb⟩
           refine ⟨_, rfl, ?_⟩
           have n0_ := Aside0.mk (Kd.R_below (by (with_reducible repeat (first | apply Kd.R_alloc | apply Kd.R_drewN | apply Kd.R_drew)); exact HO359.out) hb)
           have n1_ := Aside0.mk (below_step z0_ hb)
           clear HO359
           clear HB
           have HO359 := n0_
           have HB := n1_
           clear n0_ n1_
           (try clear hb)
           (try clear hb2)
           (try clear hk)
           (try clear hi)
           refine hK.out _ _ trivial (fun hHeld => ?_)
           clear hK K
           refine norm_ (a' := ?_) ?_ ?_; rotate_left; (show Act.put _ (some 25) _ = _; simp only [PT_]; rfl)
           refine oA_ 3 (some 21) (bs_ 10 255) HT_ (fun K hK => ?_)
           have hcv33 := own_string (P := Try.prog) Try.underlying38 Try.underlying5 Try.underlying9 (Kd.own_of_R HO359.out)
           refine value_ (w1 := ?_) (v := ?_) (by rfl) rfl ?_ ?_
           rotate_left 2; (go_simp; constructor; rfl; rfl)
           clear hcv33
           refine hK.out _ _ trivial (fun hHeld => ?_)
           clear hK K
           refine norm_ (a' := ?_) ?_ ?_; rotate_left; (show Act.put _ (some 21) _ = _; simp only [PT_]; rfl)
           exact norm_ (by simp only [putAll, Act.put, List.setIfInBounds_toArray, List.set_cons_zero, List.set_cons_succ]) (hCont (v358) _ ⟨(by (with_reducible repeat (first | apply Kd.R_alloc | apply Kd.R_drewN | apply Kd.R_drew)); exact HO359.out), z0_⟩)
         ·skip
          refine goes_ Try.func19 (by kernel_rfl) rfl #[.int .u64 (IntKind.u64.wrap ((l0.length : Int)))] (by rfl) rfl rfl (by (try simp only [List.map_toArray, List.map_cons, List.map_nil]); first | done | rfl | (simp only [List.length_drop, List.length_take]; rfl)) ?_
          with_reducible refine (tithebarnref01_Uint.calls kj2 (IntKind.u64.wrap ((l0.length : Int))) t360 _ A7.out).mono ?_
          rintro e w30 ⟨rfl, hb⟩
          refine ⟨_, rfl, ?_⟩
          have n0_ := Aside0.mk (below_step z0_ hb)
          clear HB
          have HB := n0_
          clear n0_
          (try clear hb)
          (try clear hb2)
          (try clear hk)
          (try clear hi)
          refine hK.out _ _ trivial (fun hHeld => ?_)
          clear hK K
          refine norm_ (a' := ?_) ?_ ?_; rotate_left; (show Act.put _ (some 25) _ = _; simp only [PT_]; rfl)
          refine oA_ 2 (some 20) (bs_ 10 247) HT_ (fun K hK => ?_)
          refine Kd.R_lit_step (Kd.int .u8) _ 5 ?hg (N := 20) ?hd (xs := ([(a1) % 256] : List Int)) (inner := [.int .u8 ((a1) % 256)]) (ok := fun _ => True) (okp := fun _ => True) ?hr ?hp (fun _ hk => hk) trivial (Below.refl _ _) (Nat.le_refl _) (by simp) ?_; (case hd => rfl); (case hg => rfl); (case hr => first | (go_simp; done) | (go_simp; rfl)); (case hp => exact (Reps.one (show Kd.M (Kd.int .u8) _ _ _ ((a1) % 256) [.int .u8 ((a1) % 256)] from rfl) (Reps.none _ _)))
          intro v358 w31 ho32 hb hg_ hnew_
          clear hg_ hnew_
          (first | rw [← Ny357.out] at ho32 | (simp only [Int.reduceToNat] at ho32; rw [← Ny357.out] at ho32))
          have n0_ := Aside0.mk (Kd.R_lower ho32 (below_size z0_))
          have n1_ := Aside0.mk (below_step z0_ hb)
          clear HB
          have HO359 := n0_
          have HB := n1_
          clear n0_ n1_
          clear hb ho32
          refine hK.out _ _ trivial (fun hHeld => ?_)
          clear hK K
          refine norm_ (a' := ?_) ?_ ?_; rotate_left; (show Act.put _ (some 20) _ = _; simp only [PT_]; rfl)
          refine oA_ 3 (some 21) (bs_ 10 255) HT_ (fun K hK => ?_)
          have hcv33 := own_string (P := Try.prog) Try.underlying38 Try.underlying5 Try.underlying9 (Kd.own_of_R HO359.out)
          refine value_ (w1 := ?_) (v := ?_) (by rfl) rfl ?_ ?_
          rotate_left 2; (go_simp; constructor; rfl; rfl)
          clear hcv33
          refine hK.out _ _ trivial (fun hHeld => ?_)
          clear hK K
          refine norm_ (a' := ?_) ?_ ?_; rotate_left; (show Act.put _ (some 21) _ = _; simp only [PT_]; rfl)
          exact norm_ (by simp only [putAll, Act.put, List.setIfInBounds_toArray, List.set_cons_zero, List.set_cons_succ]) (hCont (v358) _ ⟨(by (with_reducible repeat (first | apply Kd.R_alloc | apply Kd.R_drewN | apply Kd.R_drew)); exact HO359.out), z0_⟩)
        rintro v358 w34 ⟨h0_, h1_⟩
        have n0_ : Aside0 (Kd.R (Kd.int .u8) 5 w34 w.heap.size (fun _ => True) v358 y357) := ⟨h0_⟩
        have n1_ : Aside0 (Below w.heap.size w w34) := ⟨h1_⟩
        clear HB
        clear h0_ h1_
        have HO359 := n0_
        have HB := n1_
        clear n0_ n1_
        have hHeld := trivial
        refine norm_ (a' := ?_) ?_ ?_
        rotate_left
        ·simp only [putAll, Act.put, List.setIfInBounds_toArray, List.set_cons_zero, List.set_cons_succ]
         rfl
        refine pA_ 8 (some 26) (bs_ 10 511) HT_ ?_ ?_ ?_ ?_ ?_
        rotate_left; (intro w'; go_simp; with_reducible rfl); rotate_left; (simp only [PT_]; rfl)
        refine pA_ 9 (some 6) (bs_ 10 1023) HT_ ?_ ?_ ?_ ?_ ?_
        rotate_left; (intro w'; go_simp; with_reducible rfl); rotate_left; (simp only [PT_]; rfl)
        refine done_ (done_of HT_.out (by kernel_rfl)) ?_
        try go_wp2
        go_loopg [6, 7] kj2 (fun kq v6 v7 w' => ∃ (x6_2 : ByteArray) (x7_2 : Int), v6 = .string x6_2 ∧ v7 = .int .i64 x7_2 ∧ Aside0 (tithebarnref04_With.l0 kq l0 a1 x6_2 x7_2 = some (r1, r2)) ∧ Aside0 (kq ≤ kj2) ∧ Aside0 (Below w.heap.size w w'))
        case atStart => exact ⟨((strOfNums y357) ++ t360), (0), z6_, z6_, H', ⟨Nat.le_refl _⟩, ⟨z0_⟩⟩
        case round =>
         clear H'
         try clear c1
         try clear hcv1
         try clear c2
         try clear p2
         try clear hcv2
         try clear hcv3
         try clear c9
         try clear c9b0
         try clear c9b1
         try clear c11
         try clear hcv16
         try clear c19
         try clear c19b0
         try clear c19b1
         try clear c20
         try clear c21
         try clear c21b0
         try clear c21b1
         try clear c21b2
         try clear hcv25
         try clear hcv26
         try clear hcv32
         try clear hcv33
         obtain ⟨x6_2, x7_2, rfl, rfl, HA, HK2, HB⟩ := hrel
         cases gk with
         | zero => exact absurd HA.out (by simp [tithebarnref04_With.l0])
         | succ k2 =>
          have H := HA.out
          clear HA
          simp only [tithebarnref04_With.l0] at H
          by_cases c35 : x7_2 < (l0.length : Int)
          ·rw [if_pos c35] at H
           have c35b0 : decide (x7_2 < (l0.length : Int)) = true := decide_eq_true c35
           clear c35
           by_cases c36 : 0 ≤ x7_2
           ·rw [if_pos c36] at H
            have c36b0 : decide (0 ≤ x7_2) = true := decide_eq_true c36
            clear c36
            by_cases c37 : a1 = 1
            ·rw [if_pos c37] at H
             have c37b0 : (a1 == 1) = true := beq_iff_eq.mpr c37
             have c37b1 : (a1 != 1) = false := bne_eq_false_iff_eq.mpr c37
             clear c37
             by_cases c38 : x7_2 > 0
             ·rw [if_pos c38] at H
              have c38b0 : decide (0 < x7_2) = true := decide_eq_true c38
              clear c38
              obtain ⟨ji39, hji39⟩ : ∃ j_ : Int, (wrap64 (x7_2 - 1)) = j_ := ⟨_, rfl⟩
              replace H : (if 0 ≤ (ji39) then (if (ji39) < (l0.length : Int) then ((tithebarnref01_Int.f k2 (wrap64 (IntKind.u64.wrap ((IntKind.u64.wrap (rd l0 x7_2)) - (IntKind.u64.wrap (rd l0 (ji39))))))).bind fun t366 => (if x6_2.size + t366.size ≤ 9223372036854775807 then (tithebarnref04_With.l0 k2 l0 a1 (x6_2 ++ t366) (wrap64 (x7_2 + 1))) else (none))) else (none)) else (none)) = some (r1, r2) := by first | (rw [hji39] at H; exact H) | (simp only [hji39] at H ⊢; exact H)
              have hji39w : (IntKind.i64.wrap (x7_2 - 1)) = ji39 := (i64_w _).trans hji39
              by_cases c40 : 0 ≤ (ji39)
              ·rw [if_pos c40] at H
               have c40b0 : decide (0 ≤ (ji39)) = true := decide_eq_true c40
               clear c40
               by_cases c41 : (ji39) < (l0.length : Int)
               ·rw [if_pos c41] at H
                have c41b0 : decide ((ji39) < (l0.length : Int)) = true := decide_eq_true c41
                clear c41
                replace H := Option.bind_eq_some_iff.mp H
                obtain ⟨t366, A420, H⟩ := H
                replace H : (if x6_2.size + t366.size ≤ 9223372036854775807 then (tithebarnref04_With.l0 k2 l0 a1 (x6_2 ++ t366) (wrap64 (x7_2 + 1))) else (none)) = some (r1, r2) := H
                have A42 := Aside0.mk A420
                clear A420
                by_cases c43 : x6_2.size + t366.size ≤ 9223372036854775807
                ·rw [if_pos c43] at H
                 have c43b0 := eq_true c43
                 have c43b1 : decide (x6_2.size + t366.size ≤ 9223372036854775807) = true := decide_eq_true c43
                 try have c43b2 : (9223372036854775807 < x6_2.size + t366.size) = False := eq_false (Nat.not_lt.2 c43)
                 try (have c43b3 := c43b2; simp only [ByteArray.size_append] at c43b3)
                 try (have c43b4 := c43b0; simp only [ByteArray.size_append] at c43b4)
                 try (have c43b5 := c43b1; simp only [ByteArray.size_append] at c43b5)
                 have H' := Aside0.mk H
                 clear H
                 have p363 : 0 ≤ (x7_2 : Int) := of_decide_eq_true z7_
                 have q363 : x7_2 < (l0.length : Int) := of_decide_eq_true z7_
                 obtain ⟨ad363, e363, hx363_0⟩ := Kd.at_int HR0.out x7_2 p363 q363
                 cases e363
                 replace hx363_0 := (HB.out.cell (World.block_lt_of_cell? w _ hx363_0)).trans hx363_0
                 replace p363 := eq_true p363
                 replace q363 := eq_true q363
                 try go_wp2
                 have n0_ := Aside0.mk (below_drew1 HB.out)
                 clear HB
                 have HB := n0_
                 clear n0_
                 have p364 : 0 ≤ (x7_2 : Int) := of_decide_eq_true z7_
                 have q364 : x7_2 < (l0.length : Int) := of_decide_eq_true z7_
                 obtain ⟨ad364, e364, hx364_0⟩ := Kd.at_int HR0.out x7_2 p364 q364
                 have hw364_0 := hx364_0
                 obtain rfl : ad363 = ad364 := (by injection e364)
                 replace hx364_0 := (HB.out.cell (World.block_lt_of_cell? w _ hx364_0)).trans hx364_0
                 replace p364 := eq_true p364
                 replace q364 := eq_true q364
                 have p365 : 0 ≤ ((ji39) : Int) := of_decide_eq_true z7_
                 have q365 : (ji39) < (l0.length : Int) := of_decide_eq_true z7_
                 obtain ⟨ad365, e365, hx365_0⟩ := Kd.at_int HR0.out (ji39) p365 q365
                 have hw365_0 := hx365_0
                 obtain rfl : ad363 = ad365 := (by injection e365)
                 replace hx365_0 := (HB.out.cell (World.block_lt_of_cell? w _ hx365_0)).trans hx365_0
                 replace p365 := eq_true p365
                 replace q365 := eq_true q365
                 refine start_ (n := 14) (S := fun w' => w'.cell? (ad363.add (x7_2).toNat) = some (.int .i64 (rd l0 x7_2)) ∧ w'.cell? (ad363.add ((ji39)).toNat) = some (.int .i64 (rd l0 (ji39)))) (ds := []) (bs_ 14 0) (by kernel_rfl) rfl rfl ⟨((HB.out.cell (World.block_lt_of_cell? w _ hw364_0)).trans hw364_0), ((HB.out.cell (World.block_lt_of_cell? w _ hw365_0)).trans hw365_0)⟩ (fun hHeld => ?_); refine with_tabW tithebarnref04_With.tab15 tithebarnref04_With.bits15 (fun HT_ HW_ => ?_)
                 generalize wr.drew = w44 at HB hx364_0 hx365_0 hHeld ⊢
                 refine pA_ 0 (some 55) (bs_ 14 1) HT_ ?_ ?_ ?_ ?_ ?_
                 rotate_left; (intro w'; go_simp; with_reducible rfl); rotate_left; (simp only [PT_]; rfl)
                 refine pA_ 1 (some 56) (bs_ 14 3) HT_ ?_ ?_ ?_ ?_ ?_
                 rotate_left; (intro w'; go_simp; with_reducible rfl); rotate_left; (simp only [PT_]; rfl)
                 refine pA_ 2 (some 57) (bs_ 14 7) HT_ ?_ ?_ ?_ ?_ ?_
                 rotate_left; (intro w'; go_simp; with_reducible rfl); rotate_left; (simp only [PT_]; rfl)
                 refine pA_ 5 (some 60) (bs_ 14 39) HT_ ?_ ?_ ?_ ?_ ?_
                 rotate_left; (intro w'; go_simp; with_reducible rfl); rotate_left; (simp only [PT_]; rfl)
                 refine pA_ 6 (some 61) (bs_ 14 103) HT_ ?_ ?_ ?_ ?_ ?_
                 rotate_left; (intro w'; go_simp; with_reducible rfl); rotate_left; (simp only [PT_]; rfl)
                 refine pA_ 7 (some 62) (bs_ 14 231) HT_ ?_ ?_ ?_ ?_ ?_
                 rotate_left; (intro w'; go_simp; with_reducible rfl); rotate_left; (simp only [PT_]; rfl)
                 refine pA_ 8 (some 63) (bs_ 14 487) HT_ ?_ ?_ ?_ ?_ ?_
                 rotate_left; (intro w'; go_simp; with_reducible rfl); rotate_left; (simp only [PT_]; rfl)
                 refine take_ (i := 3) (N := some 58) (v := ?_) (a' := ?_) (bs_ 14 495) rfl rfl (take_ofW HT_.out HW_.out (by kernel_rfl)) (fun _ _ _ h => h) (Or.inl ⟨by rfl, ?_⟩) hHeld ?_ ?_
                 rotate_left
                 ·rintro w' ⟨s0, s1⟩
                  go_simp
                  with_reducible rfl
                 rotate_left
                 ·simp only [PT_]
                  rfl
                 refine pA_ 4 (some 59) (bs_ 14 511) HT_ ?_ ?_ ?_ ?_ ?_
                 rotate_left; (intro w'; go_simp; with_reducible rfl); rotate_left; (simp only [PT_]; rfl)
                 refine take_ (i := 9) (N := some 64) (v := ?_) (a' := ?_) (bs_ 14 1023) rfl rfl (take_ofW HT_.out HW_.out (by kernel_rfl)) (fun _ _ _ h => h) (Or.inl ⟨by rfl, ?_⟩) hHeld ?_ ?_
                 rotate_left
                 ·rintro w' ⟨s0, s1⟩
                  go_simp
                  with_reducible rfl
                 rotate_left
                 ·simp only [PT_]
                  rfl
                 refine pA_ 10 (some 65) (bs_ 14 2047) HT_ ?_ ?_ ?_ ?_ ?_
                 rotate_left; (intro w'; go_simp; with_reducible rfl); rotate_left; (simp only [PT_]; rfl)
                 refine pA_ 11 (some 66) (bs_ 14 4095) HT_ ?_ ?_ ?_ ?_ ?_
                 rotate_left; (intro w'; go_simp; with_reducible rfl); rotate_left; (simp only [PT_]; rfl)
                 refine pA_ 12 (some 67) (bs_ 14 8191) HT_ ?_ ?_ ?_ ?_ ?_
                 rotate_left; (intro w'; go_simp; with_reducible rfl); rotate_left; (simp only [PT_]; rfl)
                 refine pA_ 13 (some 8) (bs_ 14 16383) HT_ ?_ ?_ ?_ ?_ ?_
                 rotate_left; (intro w'; go_simp; with_reducible rfl); rotate_left; (simp only [PT_]; rfl)
                 refine done_ (done_of HT_.out (by kernel_rfl)) ?_
                 try go_wp2_with (first | ((with_reducible refine gate_callee (f := 22) rfl ?_); refine goesL_ (some 70) rfl rfl Try.func22 (by kernel_rfl) rfl #[.int .i64 (wrap64 (IntKind.u64.wrap ((IntKind.u64.wrap (rd l0 x7_2)) - (IntKind.u64.wrap (rd l0 (ji39))))))] rfl (by (try simp only [List.map_toArray, List.map_cons, List.map_nil]); first | done | (simp only [hji39]; rfl) | rfl | (simp only [List.length_drop, List.length_take]; rfl) | (go_simp; simp [IntKind.wrap, IntKind.bits, IntKind.signed]; omega)) ?_; (with_reducible refine (tithebarnref01_Int.calls k2 (wrap64 (IntKind.u64.wrap ((IntKind.u64.wrap (rd l0 x7_2)) - (IntKind.u64.wrap (rd l0 (ji39)))))) t366 _ A42.out).mono ?_); rintro e w45 ⟨rfl, hb⟩; refine ⟨_, rfl, ?_⟩; have n0_ := Aside0.mk (below_step z0_ hb); clear HB; have HB := n0_; clear n0_; (try clear hb); (try clear hb2); (try clear hk); (try clear hi)))
                 go_roundg k2
                 case measure => have := HJ2.out; have := HK2.out; omega
                 case rel => exact ⟨(x6_2 ++ t366), (wrap64 (x7_2 + 1)), z6_, z6_, H', ⟨by have := HJ2.out; have := HK2.out; omega⟩, ⟨z0_⟩⟩
                ·rw [if_neg c43] at H
                 exact absurd H (by simp)
               ·rw [if_neg c41] at H
                exact absurd H (by simp)
              ·rw [if_neg c40] at H
               exact absurd H (by simp)
             ·rw [if_neg c38] at H
              have c38b0 : decide (0 < x7_2) = false := decide_eq_false c38
              clear c38
              replace H := Option.bind_eq_some_iff.mp H
              obtain ⟨t367, A460, H⟩ := H
              replace H : (if x6_2.size + t367.size ≤ 9223372036854775807 then (tithebarnref04_With.l0 k2 l0 a1 (x6_2 ++ t367) (wrap64 (x7_2 + 1))) else (none)) = some (r1, r2) := H
              have A46 := Aside0.mk A460
              clear A460
              by_cases c47 : x6_2.size + t367.size ≤ 9223372036854775807
              ·rw [if_pos c47] at H
               have c47b0 := eq_true c47
               have c47b1 : decide (x6_2.size + t367.size ≤ 9223372036854775807) = true := decide_eq_true c47
               try have c47b2 : (9223372036854775807 < x6_2.size + t367.size) = False := eq_false (Nat.not_lt.2 c47)
               try (have c47b3 := c47b2; simp only [ByteArray.size_append] at c47b3)
               try (have c47b4 := c47b0; simp only [ByteArray.size_append] at c47b4)
               try (have c47b5 := c47b1; simp only [ByteArray.size_append] at c47b5)
               have H' := Aside0.mk H
               clear H
               have p363 : 0 ≤ (x7_2 : Int) := of_decide_eq_true z7_
               have q363 : x7_2 < (l0.length : Int) := of_decide_eq_true z7_
               obtain ⟨ad363, e363, hx363_0⟩ := Kd.at_int HR0.out x7_2 p363 q363
               cases e363
               replace hx363_0 := (HB.out.cell (World.block_lt_of_cell? w _ hx363_0)).trans hx363_0
               replace p363 := eq_true p363
               replace q363 := eq_true q363
               go_wp2_with (first | ((with_reducible refine gate_callee (f := 22) rfl ?_); refine goesL_ (some 70) rfl rfl Try.func22 (by kernel_rfl) rfl #[.int .i64 (rd l0 x7_2)] rfl (by (try simp only [List.map_toArray, List.map_cons, List.map_nil]); first | done | rfl | (simp only [List.length_drop, List.length_take]; rfl) | (go_simp; simp [IntKind.wrap, IntKind.bits, IntKind.signed]; omega)) ?_; (with_reducible refine (tithebarnref01_Int.calls k2 (rd l0 x7_2) t367 _ A46.out).mono ?_); rintro e w48 ⟨rfl, hb⟩; refine ⟨_, rfl, ?_⟩; have n0_ := Aside0.mk (below_step z0_ hb); clear HB; have HB := n0_; clear n0_; (try clear hb); (try clear hb2); (try clear hk); (try clear hi)))
               go_roundg k2
               case measure => have := HJ2.out; have := HK2.out; omega
               case rel => exact ⟨(x6_2 ++ t367), (wrap64 (x7_2 + 1)), z6_, z6_, H', ⟨by have := HJ2.out; have := HK2.out; omega⟩, ⟨z0_⟩⟩
              ·rw [if_neg c47] at H
               exact absurd H (by simp)
            ·rw [if_neg c37] at H
             have c37b0 : (a1 == 1) = false := beq_eq_false_iff_ne.mpr c37
             have c37b1 : (a1 != 1) = true := bne_iff_ne.mpr c37
             replace H := Option.bind_eq_some_iff.mp H
             obtain ⟨t368, A490, H⟩ := H
             replace H : (if x6_2.size + t368.size ≤ 9223372036854775807 then (tithebarnref04_With.l0 k2 l0 a1 (x6_2 ++ t368) (wrap64 (x7_2 + 1))) else (none)) = some (r1, r2) := H
             have A49 := Aside0.mk A490
             clear A490
             by_cases c50 : x6_2.size + t368.size ≤ 9223372036854775807
             ·rw [if_pos c50] at H
              have c50b0 := eq_true c50
              have c50b1 : decide (x6_2.size + t368.size ≤ 9223372036854775807) = true := decide_eq_true c50
              try have c50b2 : (9223372036854775807 < x6_2.size + t368.size) = False := eq_false (Nat.not_lt.2 c50)
              try (have c50b3 := c50b2; simp only [ByteArray.size_append] at c50b3)
              try (have c50b4 := c50b0; simp only [ByteArray.size_append] at c50b4)
              try (have c50b5 := c50b1; simp only [ByteArray.size_append] at c50b5)
              have H' := Aside0.mk H
              clear H
              have p363 : 0 ≤ (x7_2 : Int) := of_decide_eq_true z7_
              have q363 : x7_2 < (l0.length : Int) := of_decide_eq_true z7_
              obtain ⟨ad363, e363, hx363_0⟩ := Kd.at_int HR0.out x7_2 p363 q363
              cases e363
              replace hx363_0 := (HB.out.cell (World.block_lt_of_cell? w _ hx363_0)).trans hx363_0
              replace p363 := eq_true p363
              replace q363 := eq_true q363
              go_wp2_with (first | ((with_reducible refine gate_callee (f := 22) rfl ?_); refine goesL_ (some 70) rfl rfl Try.func22 (by kernel_rfl) rfl #[.int .i64 (rd l0 x7_2)] rfl (by (try simp only [List.map_toArray, List.map_cons, List.map_nil]); first | done | rfl | (simp only [List.length_drop, List.length_take]; rfl) | (go_simp; simp [IntKind.wrap, IntKind.bits, IntKind.signed]; omega)) ?_; (with_reducible refine (tithebarnref01_Int.calls k2 (rd l0 x7_2) t368 _ A49.out).mono ?_); rintro e w51 ⟨rfl, hb⟩; refine ⟨_, rfl, ?_⟩; have n0_ := Aside0.mk (below_step z0_ hb); clear HB; have HB := n0_; clear n0_; (try clear hb); (try clear hb2); (try clear hk); (try clear hi)))
              go_roundg k2
              case measure => have := HJ2.out; have := HK2.out; omega
              case rel => exact ⟨(x6_2 ++ t368), (wrap64 (x7_2 + 1)), z6_, z6_, H', ⟨by have := HJ2.out; have := HK2.out; omega⟩, ⟨z0_⟩⟩
             ·rw [if_neg c50] at H
              exact absurd H (by simp)
           ·rw [if_neg c36] at H
            exact absurd H (by simp)
          ·rw [if_neg c35] at H
           have c35b0 : decide (x7_2 < (l0.length : Int)) = false := decide_eq_false c35
           clear c35
           simp only [Option.some.injEq, Prod.mk.injEq] at H
           obtain ⟨rfl, rfl⟩ := H
           go_wp2
           go_ret2
           exact ⟨z5_, z0_⟩
     ·rw [if_neg c8] at H
      exact absurd H (by simp)
end Go.Proofs.Ytgeddoklmcjdcaa.G
namespace Go.Proofs.Ytgeddoklmcjdcaa.G
open Go.RowKit Go.Proofs.YtgeddoklmcjdcaaQ Go.Proofs.YtgeddoklmcjdcaaW.PrintWords Go.Proofs.YtgeddoklmcjdcaaW.PrintLast Go.Proofs.YtgeddoklmcjdcaaW.PrintMore
attribute [local go_sem] max2_int min2_int max_two min_two max_three min_three max_four min_four   -- for this text's walks alone
set_option linter.unusedVariables false
set_option linter.unusedSimpArgs false
mutual
def tithebarnref04_Best.l0 : Nat → List Int → ByteArray → Int → Int → Option (ByteArray × Int)
 | 0, _, _, _, _ => none
 | k + 1, x0, x4, x5, x6 => if x6 < 4 then (tithebarnref04_Best.j1 k x0 x4 x5 x6 (x5 == 0)) else (tithebarnref04_Best.j1 k x0 x4 x5 x6 false)
def tithebarnref04_Best.j1 : Nat → List Int → ByteArray → Int → Int → Bool → Option (ByteArray × Int)
 | 0, _, _, _, _, _ => none
 | k + 1, x0, x4, x5, x6, x19 => if x19 = true then ((tithebarnref04_With.f k x0 x6).bind fun bt532 => (if (bt532.1.size : Int) < (x4.size : Int) then (tithebarnref04_Best.l0 k x0 bt532.1 x5 (wrap64 (x6 + 1))) else (tithebarnref04_Best.l0 k x0 x4 x5 (wrap64 (x6 + 1))))) else (some (x4, x5))
end
def tithebarnref04_Best.f (k : Nat) (l0 : List Int) : Option (ByteArray × Int) := (tithebarnref04_With.f k l0 0).bind fun bt530 => (tithebarnref04_Best.l0 k l0 bt530.1 bt530.2 1)
theorem tithebarnref04_Best.mono_l : ∀ k, (∀ y0 y1 y2 y3, LeO (tithebarnref04_Best.l0 k y0 y1 y2 y3) (tithebarnref04_Best.l0 (k + 1) y0 y1 y2 y3)) ∧ (∀ y0 y1 y2 y3 y4, LeO (tithebarnref04_Best.j1 k y0 y1 y2 y3 y4) (tithebarnref04_Best.j1 (k + 1) y0 y1 y2 y3 y4))
 | 0 => ⟨fun _ _ _ _ r h => by simp [tithebarnref04_Best.l0] at h, fun _ _ _ _ _ r h => by simp [tithebarnref04_Best.j1] at h⟩
 | k + 1 => by
  obtain ⟨ih0, ih1⟩ := tithebarnref04_Best.mono_l k
  refine ⟨?_, ?_⟩
  ·intro y0 y1 y2 y3
   unfold tithebarnref04_Best.l0
   repeat' first
   | (with_reducible exact ih0 _ _ _ _)
   | (with_reducible exact ih1 _ _ _ _ _)
   | (with_reducible exact tithebarnref04_With.mono _ _ _)
   | (with_reducible exact LeO.refl _)
   | (with_reducible exact LeO.none _)
   | (with_reducible refine LeO.ite ?_ ?_)
   | (with_reducible refine LeO.bind ?_ (fun _ => ?_))
   | exact ih0 _ _ _ _
   | exact ih1 _ _ _ _ _
   | exact tithebarnref04_With.mono _ _ _
   | exact LeO.none _
   | refine LeO.ite ?_ ?_
   | refine LeO.bind ?_ (fun _ => ?_)
  ·intro y0 y1 y2 y3 y4
   unfold tithebarnref04_Best.j1
   repeat' first
   | (with_reducible exact ih0 _ _ _ _)
   | (with_reducible exact ih1 _ _ _ _ _)
   | (with_reducible exact tithebarnref04_With.mono _ _ _)
   | (with_reducible exact LeO.refl _)
   | (with_reducible exact LeO.none _)
   | (with_reducible refine LeO.ite ?_ ?_)
   | (with_reducible refine LeO.bind ?_ (fun _ => ?_))
   | exact ih0 _ _ _ _
   | exact ih1 _ _ _ _ _
   | exact tithebarnref04_With.mono _ _ _
   | exact LeO.none _
   | refine LeO.ite ?_ ?_
   | refine LeO.bind ?_ (fun _ => ?_)
theorem tithebarnref04_Best.mono : ∀ a0 k, LeO (tithebarnref04_Best.f k a0) (tithebarnref04_Best.f (k + 1) a0) := by
 intro a0 k
 obtain ⟨ih0, ih1⟩ := tithebarnref04_Best.mono_l k
 unfold tithebarnref04_Best.f
 repeat' first
   | (with_reducible exact ih0 _ _ _ _)
   | (with_reducible exact ih1 _ _ _ _ _)
   | (with_reducible exact tithebarnref04_With.mono _ _ _)
   | (with_reducible exact LeO.refl _)
   | (with_reducible exact LeO.none _)
   | (with_reducible refine LeO.ite ?_ ?_)
   | (with_reducible refine LeO.bind ?_ (fun _ => ?_))
   | exact ih0 _ _ _ _
   | exact ih1 _ _ _ _ _
   | exact tithebarnref04_With.mono _ _ _
   | exact LeO.none _
   | refine LeO.ite ?_ ?_
   | refine LeO.bind ?_ (fun _ => ?_)
set_option maxHeartbeats 8000000 in
set_option maxRecDepth 100000 in
theorem tithebarnref04_Best.calls (k : Nat) (A0 : Option Addr) (c0 : Nat) (l0 : List Int) (r1 : ByteArray) (r2 : Int) (w : World) (hr0 : Kd.C (Kd.int .i64) w A0 l0.length l0) (hc0 : l0.length ≤ c0) (h : tithebarnref04_Best.f k l0 = some (r1, r2)) :
  Calls Try.prog 16 #[.slice A0 l0.length c0] w fun e w' => e = .returned (.tuple #[.string r1, .int .i64 r2]) ∧ Below w.heap.size w w' := by
 have HR0 := Aside0.mk hr0
 have HC0 := Aside0.mk hc0
 clear hr0 hc0
 have HB := Aside0.mk (Below.refl w.heap.size w)
 have H : ((tithebarnref04_With.f k l0 0).bind fun bt530 => (tithebarnref04_Best.l0 k l0 bt530.1 bt530.2 1)) = some (r1, r2) := h
 clear h
 replace H := Option.bind_eq_some_iff.mp H
 obtain ⟨⟨t530, t531⟩, A20, H⟩ := H
 replace H : (tithebarnref04_Best.l0 k l0 t530 t531 1) = some (r1, r2) := H
 have A2 := Aside0.mk A20
 clear A20
 have H' := Aside0.mk H
 clear H
 go_enter Try.func16, Try.ntmps16
 go_wp2_with (first | ((with_reducible refine gate_callee (f := 11) rfl ?_); refine goesL_ (some 11) rfl rfl Try.func11 (by kernel_rfl) rfl #[.slice A0 l0.length c0, .int .i64 0] rfl (by (try simp only [List.map_toArray, List.map_cons, List.map_nil]); first | done | rfl | (simp only [List.length_drop, List.length_take]; rfl) | (go_simp; simp [IntKind.wrap, IntKind.bits, IntKind.signed]; omega)) ?_; (with_reducible refine (tithebarnref04_With.calls k _ _ l0 0 t530 t531 _ ?side1 ?side2 A2.out).mono ?_); (case side1 => repeat (first | exact HR0.out | (with_reducible refine Kd.C_alloc ?_ _) | (with_reducible refine Kd.C_drewN ?_ _) | (with_reducible refine Kd.C_drew ?_))); (case side2 => exact HC0.out); rintro e w3 ⟨rfl, hb⟩; refine ⟨_, rfl, ?_⟩; have n0_ := Aside0.mk (below_step z0_ hb); clear HB; have HB := n0_; clear n0_; (try clear hb); (try clear hb2); (try clear hk); (try clear hi)))
 go_loopg [4, 6] k (fun kq v4 v6 w' => ∃ (x4_1 : ByteArray) (x6_1 : Int), v4 = .string x4_1 ∧ v6 = .int .i64 x6_1 ∧ Aside0 (tithebarnref04_Best.l0 kq l0 x4_1 t531 x6_1 = some (r1, r2)) ∧ Aside0 (kq ≤ k) ∧ Aside0 (Below w.heap.size w w'))
 case atStart => exact ⟨(t530), (1), z6_, z6_, H', ⟨Nat.le_refl _⟩, ⟨z0_⟩⟩
 case round =>
  clear H'
  try clear c1
  try clear p2
  obtain ⟨x4_1, x6_1, rfl, rfl, HA, HK1, HB⟩ := hrel
  cases gk with
  | zero => exact absurd HA.out (by simp [tithebarnref04_Best.l0])
  | succ k1 =>
   have H := HA.out
   clear HA
   simp only [tithebarnref04_Best.l0] at H
   have HC4 := Aside0.mk H
   clear H
   go_upto_region 3 with (fail)
   go_cut [19] (fun v19 wc => ∃ (kq : Nat) (x19_3 : Bool), v19 = .bool x19_3 ∧ Aside0 (tithebarnref04_Best.j1 kq l0 x4_1 t531 x6_1 x19_3 = some (r1, r2)) ∧ Aside0 (kq ≤ k1) ∧ Aside0 (Below w.heap.size w wc))
   case first =>
    have H := HC4.out
    clear HC4
    by_cases c5 : x6_1 < 4
    ·rw [if_pos c5] at H
     have c5b0 : decide (x6_1 < 4) = true := decide_eq_true c5
     clear c5
     (first | rw [c5b0] | (simp only [i64_w, i32_w]; rw [c5b0]) | skip)
     have H' := Aside0.mk H
     clear H
     go_wp2
     go_meet
     case rel => exact ⟨_, ((t531 == 0)), z6_, H', ⟨by have := HK1.out; first | omega | exact Nat.le_refl _⟩, ⟨z0_⟩⟩
    ·rw [if_neg c5] at H
     have c5b0 : decide (x6_1 < 4) = false := decide_eq_false c5
     clear c5
     (first | rw [c5b0] | (simp only [i64_w, i32_w]; rw [c5b0]) | skip)
     have H' := Aside0.mk H
     clear H
     go_wp2
     go_meet
     case rel => exact ⟨_, (false), z6_, H', ⟨by have := HK1.out; first | omega | exact Nat.le_refl _⟩, ⟨z0_⟩⟩
   case rest =>
    clear HC4
    try clear c1
    try clear p2
    try clear c5
    try clear c5b0
    try clear p2
    obtain ⟨kq, x19_3, rfl, HA, HJ3, HB⟩ := hcut
    cases kq with
    | zero => exact absurd HA.out (by simp [tithebarnref04_Best.j1])
    | succ kj3 =>
     have H := HA.out
     clear HA
     simp only [tithebarnref04_Best.j1] at H
     by_cases c6 : x19_3 = true
     ·subst c6
      have H1 : ((tithebarnref04_With.f kj3 l0 x6_1).bind fun bt532 => (if (bt532.1.size : Int) < (x4_1.size : Int) then (tithebarnref04_Best.l0 kj3 l0 bt532.1 t531 (wrap64 (x6_1 + 1))) else (tithebarnref04_Best.l0 kj3 l0 x4_1 t531 (wrap64 (x6_1 + 1))))) = some (r1, r2) := by rw [if_pos rfl] at H; exact H
      clear H
      have H := H1
      clear H1
      replace H := Option.bind_eq_some_iff.mp H
      obtain ⟨⟨t532, t533⟩, A70, H⟩ := H
      replace H : (if (t532.size : Int) < (x4_1.size : Int) then (tithebarnref04_Best.l0 kj3 l0 t532 t531 (wrap64 (x6_1 + 1))) else (tithebarnref04_Best.l0 kj3 l0 x4_1 t531 (wrap64 (x6_1 + 1)))) = some (r1, r2) := H
      have A7 := Aside0.mk A70
      clear A70
      by_cases c8 : (t532.size : Int) < (x4_1.size : Int)
      ·rw [if_pos c8] at H
       have c8b0 : decide ((t532.size : Int) < (x4_1.size : Int)) = true := decide_eq_true c8
       have c8b1 : decide (t532.size < x4_1.size) = true := decide_eq_true (Int.ofNat_lt.mp c8)
       clear c8
       have H' := Aside0.mk H
       clear H
       go_wp2_with (first | ((with_reducible refine gate_callee (f := 11) rfl ?_); refine goesL_ (some 25) rfl rfl Try.func11 (by kernel_rfl) rfl #[.slice A0 l0.length c0, .int .i64 x6_1] rfl (by (try simp only [List.map_toArray, List.map_cons, List.map_nil]); first | done | rfl | (simp only [List.length_drop, List.length_take]; rfl) | (go_simp; simp [IntKind.wrap, IntKind.bits, IntKind.signed]; omega)) ?_; (with_reducible refine (tithebarnref04_With.calls kj3 _ _ l0 x6_1 t532 t533 _ ?side1 ?side2 A7.out).mono ?_); (case side1 => repeat (first | exact (Kd.C_below HR0.out HB.out) | (with_reducible refine Kd.C_alloc ?_ _) | (with_reducible refine Kd.C_drewN ?_ _) | (with_reducible refine Kd.C_drew ?_))); (case side2 => exact HC0.out); rintro e w9 ⟨rfl, hb⟩; refine ⟨_, rfl, ?_⟩; have n0_ := Aside0.mk (below_step z0_ hb); clear HB; have HB := n0_; clear n0_; (try clear hb); (try clear hb2); (try clear hk); (try clear hi)))
       go_roundg kj3
       case measure => have := HK1.out; have := HJ3.out; omega
       case rel => exact ⟨(t532), (wrap64 (x6_1 + 1)), z6_, z6_, H', ⟨by have := HK1.out; have := HJ3.out; omega⟩, ⟨z0_⟩⟩
      ·rw [if_neg c8] at H
       have c8b0 : decide ((t532.size : Int) < (x4_1.size : Int)) = false := decide_eq_false c8
       have c8b1 : decide (t532.size < x4_1.size) = false := decide_eq_false (fun h => c8 (Int.ofNat_lt.mpr h))
       clear c8
       have H' := Aside0.mk H
       clear H
       go_wp2_with (first | ((with_reducible refine gate_callee (f := 11) rfl ?_); refine goesL_ (some 25) rfl rfl Try.func11 (by kernel_rfl) rfl #[.slice A0 l0.length c0, .int .i64 x6_1] rfl (by (try simp only [List.map_toArray, List.map_cons, List.map_nil]); first | done | rfl | (simp only [List.length_drop, List.length_take]; rfl) | (go_simp; simp [IntKind.wrap, IntKind.bits, IntKind.signed]; omega)) ?_; (with_reducible refine (tithebarnref04_With.calls kj3 _ _ l0 x6_1 t532 t533 _ ?side1 ?side2 A7.out).mono ?_); (case side1 => repeat (first | exact (Kd.C_below HR0.out HB.out) | (with_reducible refine Kd.C_alloc ?_ _) | (with_reducible refine Kd.C_drewN ?_ _) | (with_reducible refine Kd.C_drew ?_))); (case side2 => exact HC0.out); rintro e w10 ⟨rfl, hb⟩; refine ⟨_, rfl, ?_⟩; have n0_ := Aside0.mk (below_step z0_ hb); clear HB; have HB := n0_; clear n0_; (try clear hb); (try clear hb2); (try clear hk); (try clear hi)))
       go_roundg kj3
       case measure => have := HK1.out; have := HJ3.out; omega
       case rel => exact ⟨(x4_1), (wrap64 (x6_1 + 1)), z6_, z6_, H', ⟨by have := HK1.out; have := HJ3.out; omega⟩, ⟨z0_⟩⟩
     ·replace c6 := Bool.eq_false_iff.mpr c6
      subst c6
      have H1 : (some (x4_1, t531)) = some (r1, r2) := by rw [if_neg (show ¬ (false = true) by decide)] at H; exact H
      clear H
      have H := H1
      clear H1
      simp only [Option.some.injEq, Prod.mk.injEq] at H
      obtain ⟨rfl, rfl⟩ := H
      go_wp2
      go_ret2
      exact ⟨z5_, z0_⟩
end Go.Proofs.Ytgeddoklmcjdcaa.G
namespace Go.Proofs.Ytgeddoklmcjdcaa.G
open Go.RowKit Go.Proofs.YtgeddoklmcjdcaaQ Go.Proofs.YtgeddoklmcjdcaaW.PrintWords Go.Proofs.YtgeddoklmcjdcaaW.PrintLast Go.Proofs.YtgeddoklmcjdcaaW.PrintMore
attribute [local go_sem] max2_int min2_int max_two min_two max_three min_three max_four min_four   -- for this text's walks alone
set_option linter.unusedVariables false
set_option linter.unusedSimpArgs false
def tithebarnlaw04_IntsBest.l0 : Nat → List Int → ByteArray → Int → ByteArray → Int → Int → Option (Bool)
 | 0, _, _, _, _, _, _ => none
 | k + 1, x0, x3, x4, x5, x6, x7 => if x7 < 4 then ((ints_With.f k x0 x7).bind fun bt539 => (if bt539.2 = 0 then (if (bt539.1.size : Int) < (x3.size : Int) then (some false) else (tithebarnlaw04_IntsBest.l0 k x0 x3 x4 x5 x6 (wrap64 (x7 + 1)))) else (tithebarnlaw04_IntsBest.l0 k x0 x3 x4 x5 x6 (wrap64 (x7 + 1))))) else (if x3.toList = x5.toList then (some (x4 == x6)) else (some false))
def tithebarnlaw04_IntsBest.f (k : Nat) (l0 : List Int) : Option (Bool) := (tithebarnlaw04_lives.f k).bind fun t534 => (if t534 = true then ((ints_Best.f k l0).bind fun bt535 => ((tithebarnref04_Best.f k l0).bind fun bt537 => (tithebarnlaw04_IntsBest.l0 k l0 bt535.1 bt535.2 bt537.1 bt537.2 0))) else (some false))
theorem tithebarnlaw04_IntsBest.mono_l : ∀ k, (∀ y0 y1 y2 y3 y4 y5, LeO (tithebarnlaw04_IntsBest.l0 k y0 y1 y2 y3 y4 y5) (tithebarnlaw04_IntsBest.l0 (k + 1) y0 y1 y2 y3 y4 y5))
 | 0 => fun _ _ _ _ _ _ r h => by simp [tithebarnlaw04_IntsBest.l0] at h
 | k + 1 => by
  have ih0 := tithebarnlaw04_IntsBest.mono_l k
  ·intro y0 y1 y2 y3 y4 y5
   unfold tithebarnlaw04_IntsBest.l0
   repeat' first
   | (with_reducible exact ih0 _ _ _ _ _ _)
   | (with_reducible exact ints_Best.mono _ _)
   | (with_reducible exact ints_With.mono _ _ _)
   | (with_reducible exact tithebarnlaw04_lives.mono _)
   | (with_reducible exact tithebarnref04_Best.mono _ _)
   | (with_reducible exact LeO.refl _)
   | (with_reducible exact LeO.none _)
   | (with_reducible refine LeO.ite ?_ ?_)
   | (with_reducible refine LeO.bind ?_ (fun _ => ?_))
   | exact ih0 _ _ _ _ _ _
   | exact ints_Best.mono _ _
   | exact ints_With.mono _ _ _
   | exact tithebarnlaw04_lives.mono _
   | exact tithebarnref04_Best.mono _ _
   | exact LeO.none _
   | refine LeO.ite ?_ ?_
   | refine LeO.bind ?_ (fun _ => ?_)
theorem tithebarnlaw04_IntsBest.mono : ∀ a0 k, LeO (tithebarnlaw04_IntsBest.f k a0) (tithebarnlaw04_IntsBest.f (k + 1) a0) := by
 intro a0 k
 have ih0 := tithebarnlaw04_IntsBest.mono_l k
 unfold tithebarnlaw04_IntsBest.f
 repeat' first
   | (with_reducible exact ih0 _ _ _ _ _ _)
   | (with_reducible exact ints_Best.mono _ _)
   | (with_reducible exact ints_With.mono _ _ _)
   | (with_reducible exact tithebarnlaw04_lives.mono _)
   | (with_reducible exact tithebarnref04_Best.mono _ _)
   | (with_reducible exact LeO.refl _)
   | (with_reducible exact LeO.none _)
   | (with_reducible refine LeO.ite ?_ ?_)
   | (with_reducible refine LeO.bind ?_ (fun _ => ?_))
   | exact ih0 _ _ _ _ _ _
   | exact ints_Best.mono _ _
   | exact ints_With.mono _ _ _
   | exact tithebarnlaw04_lives.mono _
   | exact tithebarnref04_Best.mono _ _
   | exact LeO.none _
   | refine LeO.ite ?_ ?_
   | refine LeO.bind ?_ (fun _ => ?_)
set_option maxHeartbeats 8000000 in
set_option maxRecDepth 100000 in
theorem tithebarnlaw04_IntsBest.calls (k : Nat) (A0 : Option Addr) (c0 : Nat) (l0 : List Int) (r : Bool) (w : World) (hr0 : Kd.C (Kd.int .i64) w A0 l0.length l0) (hc0 : l0.length ≤ c0) (h : tithebarnlaw04_IntsBest.f k l0 = some r) :
  Calls Try.prog 6 #[.slice A0 l0.length c0] w fun e w' => e = .returned (.bool r) ∧ Below w.heap.size w w' := by
 have HR0 := Aside0.mk hr0
 have HC0 := Aside0.mk hc0
 clear hr0 hc0
 have HB := Aside0.mk (Below.refl w.heap.size w)
 have H : ((tithebarnlaw04_lives.f k).bind fun t534 => (if t534 = true then ((ints_Best.f k l0).bind fun bt535 => ((tithebarnref04_Best.f k l0).bind fun bt537 => (tithebarnlaw04_IntsBest.l0 k l0 bt535.1 bt535.2 bt537.1 bt537.2 0))) else (some false))) = some r := h
 clear h
 replace H := Option.bind_eq_some_iff.mp H
 obtain ⟨t534, A20, H⟩ := H
 replace H : (if t534 = true then ((ints_Best.f k l0).bind fun bt535 => ((tithebarnref04_Best.f k l0).bind fun bt537 => (tithebarnlaw04_IntsBest.l0 k l0 bt535.1 bt535.2 bt537.1 bt537.2 0))) else (some false)) = some r := H
 have A2 := Aside0.mk A20
 clear A20
 by_cases c3 : t534 = true
 ·subst c3
  have H1 : ((ints_Best.f k l0).bind fun bt535 => ((tithebarnref04_Best.f k l0).bind fun bt537 => (tithebarnlaw04_IntsBest.l0 k l0 bt535.1 bt535.2 bt537.1 bt537.2 0))) = some r := by rw [if_pos rfl] at H; exact H
  clear H
  have H := H1
  clear H1
  replace H := Option.bind_eq_some_iff.mp H
  obtain ⟨⟨t535, t536⟩, A40, H⟩ := H
  replace H : ((tithebarnref04_Best.f k l0).bind fun bt537 => (tithebarnlaw04_IntsBest.l0 k l0 t535 t536 bt537.1 bt537.2 0)) = some r := H
  have A4 := Aside0.mk A40
  clear A40
  replace H := Option.bind_eq_some_iff.mp H
  obtain ⟨⟨t537, t538⟩, A50, H⟩ := H
  replace H : (tithebarnlaw04_IntsBest.l0 k l0 t535 t536 t537 t538 0) = some r := H
  have A5 := Aside0.mk A50
  clear A50
  have H' := Aside0.mk H
  clear H
  go_enter Try.func6, Try.ntmps6
  go_wp2_with (first | ((with_reducible refine gate_callee (f := 9) rfl ?_); refine goesL_ (some 10) rfl rfl Try.func9 (by kernel_rfl) rfl #[] rfl (by (try simp only [List.map_toArray, List.map_cons, List.map_nil]); first | done | rfl | (simp only [List.length_drop, List.length_take]; rfl) | (go_simp; simp [IntKind.wrap, IntKind.bits, IntKind.signed]; omega)) ?_; (with_reducible refine (tithebarnlaw04_lives.calls k  true _ A2.out).mono ?_); rintro e w6 ⟨rfl, hb⟩; refine ⟨_, rfl, ?_⟩; have n0_ := Aside0.mk (below_step z0_ hb); clear HB; have HB := n0_; clear n0_; (try clear hb); (try clear hb2); (try clear hk); (try clear hi)) | ((with_reducible refine gate_callee (f := 15) rfl ?_); refine goesL_ (some 14) rfl rfl Try.func15 (by kernel_rfl) rfl #[.slice A0 l0.length c0] rfl (by (try simp only [List.map_toArray, List.map_cons, List.map_nil]); first | done | rfl | (simp only [List.length_drop, List.length_take]; rfl) | (go_simp; simp [IntKind.wrap, IntKind.bits, IntKind.signed]; omega)) ?_; (with_reducible refine (ints_Best.calls k _ _ l0 t535 t536 _ ?side1 ?side2 A4.out).mono ?_); (case side1 => repeat (first | exact (Kd.C_below HR0.out HB.out) | (with_reducible refine Kd.C_alloc ?_ _) | (with_reducible refine Kd.C_drewN ?_ _) | (with_reducible refine Kd.C_drew ?_))); (case side2 => exact HC0.out); rintro e w7 ⟨rfl, hb⟩; refine ⟨_, rfl, ?_⟩; have n0_ := Aside0.mk (below_step z0_ hb); clear HB; have HB := n0_; clear n0_; (try clear hb); (try clear hb2); (try clear hk); (try clear hi)) | ((with_reducible refine gate_callee (f := 16) rfl ?_); refine goesL_ (some 19) rfl rfl Try.func16 (by kernel_rfl) rfl #[.slice A0 l0.length c0] rfl (by (try simp only [List.map_toArray, List.map_cons, List.map_nil]); first | done | rfl | (simp only [List.length_drop, List.length_take]; rfl) | (go_simp; simp [IntKind.wrap, IntKind.bits, IntKind.signed]; omega)) ?_; (with_reducible refine (tithebarnref04_Best.calls k _ _ l0 t537 t538 _ ?side1 ?side2 A5.out).mono ?_); (case side1 => repeat (first | exact (Kd.C_below HR0.out HB.out) | (with_reducible refine Kd.C_alloc ?_ _) | (with_reducible refine Kd.C_drewN ?_ _) | (with_reducible refine Kd.C_drew ?_))); (case side2 => exact HC0.out); rintro e w8 ⟨rfl, hb⟩; refine ⟨_, rfl, ?_⟩; have n0_ := Aside0.mk (below_step z0_ hb); clear HB; have HB := n0_; clear n0_; (try clear hb); (try clear hb2); (try clear hk); (try clear hi)))
  go_loopg [7] k (fun kq v7 w' => ∃ (x7_1 : Int), v7 = .int .i64 x7_1 ∧ Aside0 (tithebarnlaw04_IntsBest.l0 kq l0 t535 t536 t537 t538 x7_1 = some r) ∧ Aside0 (kq ≤ k) ∧ Aside0 (Below w.heap.size w w'))
  case atStart => exact ⟨(0), z6_, H', ⟨Nat.le_refl _⟩, ⟨z0_⟩⟩
  case round =>
   clear H'
   try clear c1
   try clear p2
   try clear c3
   try clear c6
   obtain ⟨x7_1, rfl, HA, HK1, HB⟩ := hrel
   cases gk with
   | zero => exact absurd HA.out (by simp [tithebarnlaw04_IntsBest.l0])
   | succ k1 =>
    have H := HA.out
    clear HA
    simp only [tithebarnlaw04_IntsBest.l0] at H
    by_cases c9 : x7_1 < 4
    ·rw [if_pos c9] at H
     have c9b0 : decide (x7_1 < 4) = true := decide_eq_true c9
     clear c9
     replace H := Option.bind_eq_some_iff.mp H
     obtain ⟨⟨t539, t540⟩, A100, H⟩ := H
     replace H : (if t540 = 0 then (if (t539.size : Int) < (t535.size : Int) then (some false) else (tithebarnlaw04_IntsBest.l0 k1 l0 t535 t536 t537 t538 (wrap64 (x7_1 + 1)))) else (tithebarnlaw04_IntsBest.l0 k1 l0 t535 t536 t537 t538 (wrap64 (x7_1 + 1)))) = some r := H
     have A10 := Aside0.mk A100
     clear A100
     by_cases c11 : t540 = 0
     ·rw [if_pos c11] at H
      have c11b0 : (t540 == 0) = true := beq_iff_eq.mpr c11
      have c11b1 : (t540 != 0) = false := bne_eq_false_iff_eq.mpr c11
      clear c11
      by_cases c12 : (t539.size : Int) < (t535.size : Int)
      ·rw [if_pos c12] at H
       have c12b0 : decide ((t539.size : Int) < (t535.size : Int)) = true := decide_eq_true c12
       have c12b1 : decide (t539.size < t535.size) = true := decide_eq_true (Int.ofNat_lt.mp c12)
       clear c12
       obtain rfl := Option.some.inj H
       go_wp2_with (first | ((with_reducible refine gate_callee (f := 10) rfl ?_); refine goesL_ (some 29) rfl rfl Try.func10 (by kernel_rfl) rfl #[.slice A0 l0.length c0, .int .i64 x7_1] rfl (by (try simp only [List.map_toArray, List.map_cons, List.map_nil]); first | done | rfl | (simp only [List.length_drop, List.length_take]; rfl) | (go_simp; simp [IntKind.wrap, IntKind.bits, IntKind.signed]; omega)) ?_; (with_reducible refine (ints_With.calls k1 _ _ l0 x7_1 t539 t540 _ ?side1 ?side2 A10.out).mono ?_); (case side1 => repeat (first | exact (Kd.C_below HR0.out HB.out) | (with_reducible refine Kd.C_alloc ?_ _) | (with_reducible refine Kd.C_drewN ?_ _) | (with_reducible refine Kd.C_drew ?_))); (case side2 => exact HC0.out); rintro e w13 ⟨rfl, hb⟩; refine ⟨_, rfl, ?_⟩; have n0_ := Aside0.mk (below_step z0_ hb); clear HB; have HB := n0_; clear n0_; (try clear hb); (try clear hb2); (try clear hk); (try clear hi)))
       go_ret
       exact ⟨z5_, z0_⟩
      ·rw [if_neg c12] at H
       have c12b0 : decide ((t539.size : Int) < (t535.size : Int)) = false := decide_eq_false c12
       have c12b1 : decide (t539.size < t535.size) = false := decide_eq_false (fun h => c12 (Int.ofNat_lt.mpr h))
       clear c12
       have H' := Aside0.mk H
       clear H
       go_wp2_with (first | ((with_reducible refine gate_callee (f := 10) rfl ?_); refine goesL_ (some 29) rfl rfl Try.func10 (by kernel_rfl) rfl #[.slice A0 l0.length c0, .int .i64 x7_1] rfl (by (try simp only [List.map_toArray, List.map_cons, List.map_nil]); first | done | rfl | (simp only [List.length_drop, List.length_take]; rfl) | (go_simp; simp [IntKind.wrap, IntKind.bits, IntKind.signed]; omega)) ?_; (with_reducible refine (ints_With.calls k1 _ _ l0 x7_1 t539 t540 _ ?side1 ?side2 A10.out).mono ?_); (case side1 => repeat (first | exact (Kd.C_below HR0.out HB.out) | (with_reducible refine Kd.C_alloc ?_ _) | (with_reducible refine Kd.C_drewN ?_ _) | (with_reducible refine Kd.C_drew ?_))); (case side2 => exact HC0.out); rintro e w14 ⟨rfl, hb⟩; refine ⟨_, rfl, ?_⟩; have n0_ := Aside0.mk (below_step z0_ hb); clear HB; have HB := n0_; clear n0_; (try clear hb); (try clear hb2); (try clear hk); (try clear hi)))
       go_roundg k1
       case measure => have := HK1.out; omega
       case rel => exact ⟨(wrap64 (x7_1 + 1)), z6_, H', ⟨by have := HK1.out; omega⟩, ⟨z0_⟩⟩
     ·rw [if_neg c11] at H
      have c11b0 : (t540 == 0) = false := beq_eq_false_iff_ne.mpr c11
      have c11b1 : (t540 != 0) = true := bne_iff_ne.mpr c11
      have H' := Aside0.mk H
      clear H
      go_wp2_with (first | ((with_reducible refine gate_callee (f := 10) rfl ?_); refine goesL_ (some 29) rfl rfl Try.func10 (by kernel_rfl) rfl #[.slice A0 l0.length c0, .int .i64 x7_1] rfl (by (try simp only [List.map_toArray, List.map_cons, List.map_nil]); first | done | rfl | (simp only [List.length_drop, List.length_take]; rfl) | (go_simp; simp [IntKind.wrap, IntKind.bits, IntKind.signed]; omega)) ?_; (with_reducible refine (ints_With.calls k1 _ _ l0 x7_1 t539 t540 _ ?side1 ?side2 A10.out).mono ?_); (case side1 => repeat (first | exact (Kd.C_below HR0.out HB.out) | (with_reducible refine Kd.C_alloc ?_ _) | (with_reducible refine Kd.C_drewN ?_ _) | (with_reducible refine Kd.C_drew ?_))); (case side2 => exact HC0.out); rintro e w15 ⟨rfl, hb⟩; refine ⟨_, rfl, ?_⟩; have n0_ := Aside0.mk (below_step z0_ hb); clear HB; have HB := n0_; clear n0_; (try clear hb); (try clear hb2); (try clear hk); (try clear hi)))
      go_roundg k1
      case measure => have := HK1.out; omega
      case rel => exact ⟨(wrap64 (x7_1 + 1)), z6_, H', ⟨by have := HK1.out; omega⟩, ⟨z0_⟩⟩
    ·rw [if_neg c9] at H
     have c9b0 : decide (x7_1 < 4) = false := decide_eq_false c9
     clear c9
     by_cases c16 : t535.toList = t537.toList
     ·rw [if_pos c16] at H
      have c16b0 : (t535.toList == t537.toList) = true := beq_iff_eq.mpr c16
      have c16b1 : (t535.toList != t537.toList) = false := bne_eq_false_iff_eq.mpr c16
      clear c16
      obtain rfl := Option.some.inj H
      go_wp2
      go_ret
      exact ⟨z5_, z0_⟩
     ·rw [if_neg c16] at H
      have c16b0 : (t535.toList == t537.toList) = false := beq_eq_false_iff_ne.mpr c16
      have c16b1 : (t535.toList != t537.toList) = true := bne_iff_ne.mpr c16
      obtain rfl := Option.some.inj H
      go_wp2
      go_ret
      exact ⟨z5_, z0_⟩
 ·replace c3 := Bool.eq_false_iff.mpr c3
  subst c3
  have H1 : (some false) = some r := by rw [if_neg (show ¬ (false = true) by decide)] at H; exact H
  clear H
  have H := H1
  clear H1
  obtain rfl := Option.some.inj H
  go_enter Try.func6, Try.ntmps6
  go_wp2_with (first | ((with_reducible refine gate_callee (f := 9) rfl ?_); refine goesL_ (some 10) rfl rfl Try.func9 (by kernel_rfl) rfl #[] rfl (by (try simp only [List.map_toArray, List.map_cons, List.map_nil]); first | done | rfl | (simp only [List.length_drop, List.length_take]; rfl) | (go_simp; simp [IntKind.wrap, IntKind.bits, IntKind.signed]; omega)) ?_; (with_reducible refine (tithebarnlaw04_lives.calls k  false _ A2.out).mono ?_); rintro e w17 ⟨rfl, hb⟩; refine ⟨_, rfl, ?_⟩; have n0_ := Aside0.mk (below_step z0_ hb); clear HB; have HB := n0_; clear n0_; (try clear hb); (try clear hb2); (try clear hk); (try clear hi)))
  go_ret
  exact ⟨z5_, z0_⟩
def tithebarnlaw04_IntsBest.Pure : Prop := ∀ (l0 : List Int), l0.length ≤ maxLen → l0.length * 8 ≤ 140737488351232 → (∀ x ∈ l0, (Lit.int .i64 x).wf = true) → ∃ k, tithebarnlaw04_IntsBest.f k l0 = some true
theorem tithebarnlaw04_IntsBest.walk (P : tithebarnlaw04_IntsBest.Pure) (a0 : Option Addr) (len0 cap0 : Nat) (z0 : List Int) (w : World) (w0 : (a0 = none ∧ len0 = 0 ∧ cap0 = 0 ∧ z0 = []) ∨ ∃ x, a0 = some x ∧ len0 ≤ cap0 ∧ cap0 ≤ maxLen ∧ z0.length = cap0 ∧ (∀ i, i < z0.length → w.cell? (x.add i) = some (.int .i64 (z0.getD i 0))) ∧ ∀ n ∈ z0, (Lit.int .i64 n).wf = true) (y0 : len0 * 8 ≤ 140737488351232) :
  Calls Try.prog 6 #[.slice a0 len0 cap0] w fun e w' => e = .returned (.bool true) ∧ Below w.heap.size w w' := by
 obtain ⟨l0, rfl, hr0, hm0, hw0, hc0⟩ := ReadsInt.ofRowC w0
 obtain ⟨k, h⟩ := P l0 hm0 y0 hw0
 refine (tithebarnlaw04_IntsBest.calls k _ _ l0 true w (Kd.C_of_reads (d := (0 : Int)) (h1 := fun _ => rfl) hr0) hc0 h).mono ?_
 rintro e w' ⟨rfl, hd⟩
 exact ⟨rfl, hd⟩
end Go.Proofs.Ytgeddoklmcjdcaa.G
namespace Go.Proofs.Ytgeddoklmcjdcaa.G
open Go.RowKit Go.Proofs.YtgeddoklmcjdcaaQ Go.Proofs.YtgeddoklmcjdcaaW.PrintWords Go.Proofs.YtgeddoklmcjdcaaW.PrintLast Go.Proofs.YtgeddoklmcjdcaaW.PrintMore
attribute [local go_sem] max2_int min2_int max_two min_two max_three min_three max_four min_four   -- for this text's walks alone
set_option linter.unusedVariables false
set_option linter.unusedSimpArgs false
def IsS55 (w0 W : World) (g : Nat) (f0 : ByteArray) (f1 : Int) (f2 : Int) : Prop := W.heap[g]? = some (.cells #[.string f0, .int .i64 f1, .int .i64 f2] 55 (0, 0)) ∧ w0.heap.size ≤ g
theorem IsS55.grown {w0 W : World} {g : Nat} {f0 : ByteArray} {f1 : Int} {f2 : Int} {W1 : World} {row : Option Nat} (h : IsS55 w0 W g f0 f1 f2) (hw : W.grownBy W1 row) (hne : some g ≠ row) : IsS55 w0 W1 g f0 f1 f2 := by
 obtain ⟨hb, hg⟩ := h
 exact ⟨blk_grown hb hw hne, hg⟩
theorem IsS55.fresh {w0 W : World} {g : Nat} {f0 : ByteArray} {f1 : Int} {f2 : Int} (h : IsS55 w0 W g f0 f1 f2) : ∀ k, W.heap.size ≤ k → k ≠ g := by
 obtain ⟨hb, hg⟩ := h
 exact Kd.freshB hb
theorem IsS55.kept {w0 W : World} {g : Nat} {f0 : ByteArray} {f1 : Int} {f2 : Int} {W1 : World} {S : Nat → Prop} (h : IsS55 w0 W g f0 f1 f2) (hk : Kept W W1 S) (hne : ¬ S g) : IsS55 w0 W1 g f0 f1 f2 := by
 obtain ⟨hb, hg⟩ := h
 exact ⟨blk_kept hb hk hne, hg⟩
theorem IsS55.below {w0 W : World} {g : Nat} {f0 : ByteArray} {f1 : Int} {f2 : Int} {W1 : World} (h : IsS55 w0 W g f0 f1 f2) (hw : Below W.heap.size W W1) : IsS55 w0 W1 g f0 f1 f2 := h.grown (grown_of_below hw none) (by simp)
theorem IsS55.alloc {w0 W : World} {g : Nat} {f0 : ByteArray} {f1 : Int} {f2 : Int} (h : IsS55 w0 W g f0 f1 f2) (o : Obj) : IsS55 w0 (W.alloc o) g f0 f1 f2 := h.below (below_alloc (Below.refl _ _) o)
theorem IsS55.drewN {w0 W : World} {g : Nat} {f0 : ByteArray} {f1 : Int} {f2 : Int} (h : IsS55 w0 W g f0 f1 f2) (m : Nat) : IsS55 w0 (W.drewN m) g f0 f1 f2 := h
theorem IsS55.drew {w0 W : World} {g : Nat} {f0 : ByteArray} {f1 : Int} {f2 : Int} (h : IsS55 w0 W g f0 f1 f2) : IsS55 w0 W.drew g f0 f1 f2 := h
theorem IsS55.at_ {w0 W : World} {g : Nat} {f0 : ByteArray} {f1 : Int} {f2 : Int} {w' : World} {m : Nat} (hq : W.drewN m = w') (h : IsS55 w0 W g f0 f1 f2) : IsS55 w0 w' g f0 f1 f2 := by subst hq; exact IsS55.drewN h m
theorem IsS55.apart {w0 W : World} {g : Nat} {f0 : ByteArray} {f1 : Int} {f2 : Int} {α : Type} {d : Kd α} {e : Nat} {base : Nat} {ok : Nat → Prop} {v : Value} {xs : List α} (h : IsS55 w0 W g f0 f1 f2) (ho : d.R e W base ok v xs) (ht : ∀ q, q ∈ e :: d.E → q ≠ 55) : d.R e W base (fun k => ok k ∧ k ≠ g) v xs := by
 obtain ⟨hb, hg⟩ := h
 exact Kd.R_types ho hb ht
theorem IsS55.own_ne {w0 W : World} {g : Nat} {f0 : ByteArray} {f1 : Int} {f2 : Int} {α : Type} {d : Kd α} {e : Nat} {base : Nat} {ok : Nat → Prop} {v : Value} {xs : List α} (h : IsS55 w0 W g f0 f1 f2) (ho : d.R e W base ok v xs) (ht : e ≠ 55) : some g ≠ v.ownBlock := by
 obtain ⟨hb, hg⟩ := h
 exact Kd.R_ne ho hb ht
theorem IsS55.ge {w0 W : World} {g : Nat} {f0 : ByteArray} {f1 : Int} {f2 : Int} (h : IsS55 w0 W g f0 f1 f2) : w0.heap.size ≤ g := by
 obtain ⟨hb, hg⟩ := h
 exact hg
theorem IsS55.far {w0 W : World} {g : Nat} {f0 : ByteArray} {f1 : Int} {f2 : Int} {p : Addr} (h : IsS55 w0 W g f0 f1 f2) (hne : g ≠ p.block) (u : Value) : IsS55 w0 (W.setCell p u) g f0 f1 f2 := by
 obtain ⟨hb, hg⟩ := h
 exact ⟨blk_far hb hne u, hg⟩
theorem IsS55.set_0 {w0 W : World} {g : Nat} {f0 : ByteArray} {f1 : Int} {f2 : Int} (h : IsS55 w0 W g f0 f1 f2) (x : ByteArray) : IsS55 w0 (W.setCell ⟨g, 0, none⟩ (.string x)) g x f1 f2 := by
 obtain ⟨hb, hg⟩ := h
 exact ⟨by simpa using blk_set hb 0 (.string x), hg⟩
theorem IsS55.set_1 {w0 W : World} {g : Nat} {f0 : ByteArray} {f1 : Int} {f2 : Int} (h : IsS55 w0 W g f0 f1 f2) (x : Int) : IsS55 w0 (W.setCell ⟨g, 1, none⟩ (.int .i64 x)) g f0 x f2 := by
 obtain ⟨hb, hg⟩ := h
 exact ⟨by simpa using blk_set hb 1 (.int .i64 x), hg⟩
def tithebarnref01_Cursor_Left.f (s0_0 : ByteArray) (s0_1 : Int) (s0_2 : Int) : Option (Int × ByteArray × Int × Int) := some (wrap64 ((s0_0.size : Int) - s0_1), s0_0, s0_1, s0_2)
def tithebarnref01_size.f (a0 : Int) : Option (Int) := if a0 < 64 then (some 1) else (if a0 < 128 then (some 2) else (if a0 < 192 then (some 4) else (some 9)))
mutual
def tithebarnref01_Cursor_peek.j0 : Nat → Int → Bool → ByteArray → Int → Int → Option (Int × Int × Int × ByteArray × Int × Int)
 | 0, _, _, _, _, _ => none
 | k + 1, x5, x34, x1000, x1001, x1002 => if x34 = true then (some (0, 0, 5, x1000, x1001, x1002)) else ((tithebarnref01_Cursor_Left.f x1000 x1001 x1002).bind fun bt386 => (if bt386.1 < x5 then (some (0, 0, 2, bt386.2.1, bt386.2.2.1, bt386.2.2.2)) else (if 0 ≤ bt386.2.2.1 then (if bt386.2.2.1 < (bt386.2.1.size : Int) then (tithebarnref01_Cursor_peek.l0 k x5 (IntKind.u64.wrap (Int.tmod (bt bt386.2.1 bt386.2.2.1) 64)) 1 bt386.2.1 bt386.2.2.1 bt386.2.2.2) else (none)) else (none))))
def tithebarnref01_Cursor_peek.l0 : Nat → Int → Int → Int → ByteArray → Int → Int → Option (Int × Int × Int × ByteArray × Int × Int)
 | 0, _, _, _, _, _, _ => none
 | k + 1, x5, x6, x7, x1000, x1001, x1002 => if x7 < x5 then (if 0 ≤ (wrap64 (x1001 + x7)) then (if (wrap64 (x1001 + x7)) < (x1000.size : Int) then (tithebarnref01_Cursor_peek.l0 k x5 (IntKind.u64.wrap ((IntKind.u64.wrap (256 * x6)) + (IntKind.u64.wrap (bt x1000 (wrap64 (x1001 + x7)))))) (wrap64 (x7 + 1)) x1000 x1001 x1002) else (none)) else (none)) else ((tithebarnref01_Uint.f k x6).bind fun t390 => (if (t390.size : Int) = x5 then (some (x6, x5, 0, x1000, x1001, x1002)) else (some (0, 0, 5, x1000, x1001, x1002))))
end
def tithebarnref01_Cursor_peek.f (k : Nat) (s0_0 : ByteArray) (s0_1 : Int) (s0_2 : Int) : Option (Int × Int × Int × ByteArray × Int × Int) := (tithebarnref01_Cursor_Left.f s0_0 s0_1 s0_2).bind fun bt381 => (if bt381.1 < 1 then (some (0, 0, 2, bt381.2.1, bt381.2.2.1, bt381.2.2.2)) else (if 0 ≤ bt381.2.2.1 then (if bt381.2.2.1 < (bt381.2.1.size : Int) then ((tithebarnref01_size.f (bt bt381.2.1 bt381.2.2.1)).bind fun t385 => (if t385 = 9 then (tithebarnref01_Cursor_peek.j0 k t385 ((bt bt381.2.1 bt381.2.2.1) != 192) bt381.2.1 bt381.2.2.1 bt381.2.2.2) else (tithebarnref01_Cursor_peek.j0 k t385 false bt381.2.1 bt381.2.2.1 bt381.2.2.2))) else (none)) else (none)))
end Go.Proofs.Ytgeddoklmcjdcaa.G
namespace Go.Proofs.Ytgeddoklmcjdcaa.G
open Go.RowKit Go.Proofs.YtgeddoklmcjdcaaQ Go.Proofs.YtgeddoklmcjdcaaW.PrintWords Go.Proofs.YtgeddoklmcjdcaaW.PrintLast Go.Proofs.YtgeddoklmcjdcaaW.PrintMore
attribute [local go_sem] max2_int min2_int max_two min_two max_three min_three max_four min_four   -- for this text's walks alone
set_option linter.unusedVariables false
set_option linter.unusedSimpArgs false
def tithebarnref03_Bit.f (a0 : ByteArray) (a1 : Int) : Option (Bool) := if 0 ≤ (wrap64 (Int.tdiv a1 8)) then (if (wrap64 (Int.tdiv a1 8)) < (a0.size : Int) then (if 0 ≤ (IntKind.u64.wrap (Int.tmod a1 8)) then (some ((Int.tmod (shr .u8 (bt a0 (wrap64 (Int.tdiv a1 8))) (IntKind.u64.wrap (Int.tmod a1 8))) 2) == 1)) else (none)) else (none)) else (none)
end Go.Proofs.Ytgeddoklmcjdcaa.G
namespace Go.Proofs.Ytgeddoklmcjdcaa.G
open Go.RowKit Go.Proofs.YtgeddoklmcjdcaaQ Go.Proofs.YtgeddoklmcjdcaaW.PrintWords Go.Proofs.YtgeddoklmcjdcaaW.PrintLast Go.Proofs.YtgeddoklmcjdcaaW.PrintMore
attribute [local go_sem] max2_int min2_int max_two min_two max_three min_three max_four min_four   -- for this text's walks alone
set_option linter.unusedVariables false
set_option linter.unusedSimpArgs false
mutual
def tithebarnref03_unbits.l0 : Nat → ByteArray → Int → Int → List Bool → Int → Option (List Bool × Int)
 | 0, _, _, _, _, _ => none
 | k + 1, x0, x1, x6, x7, x8 => if x8 < (wrap64 (8 * x6)) then ((tithebarnref03_Bit.f x0 x8).bind fun t424 => (if x8 ≥ x1 then (tithebarnref03_unbits.j1 k x0 x1 x6 x7 x8 t424 t424) else (tithebarnref03_unbits.j1 k x0 x1 x6 x7 x8 t424 false))) else (some (x7, 0))
def tithebarnref03_unbits.j1 : Nat → ByteArray → Int → Int → List Bool → Int → Bool → Bool → Option (List Bool × Int)
 | 0, _, _, _, _, _, _, _ => none
 | k + 1, x0, x1, x6, x7, x8, x9, x35 => if x35 = true then (some (([] : List Bool), 5)) else (if x8 < x1 then (if x7.length < 140737488355328 then (tithebarnref03_unbits.l0 k x0 x1 x6 (x7 ++ [x9]) (wrap64 (x8 + 1))) else (none)) else (tithebarnref03_unbits.l0 k x0 x1 x6 x7 (wrap64 (x8 + 1))))
end
def tithebarnref03_unbits.f (k : Nat) (a0 : ByteArray) (a1 : Int) : Option (List Bool × Int) := if (a0.size : Int) < (wrap64 (Int.tdiv (wrap64 (a1 + 7)) 8)) then (some (([] : List Bool), 2)) else (if (a0.size : Int) > (wrap64 (Int.tdiv (wrap64 (a1 + 7)) 8)) then (some (([] : List Bool), 3)) else (tithebarnref03_unbits.l0 k a0 a1 (wrap64 (Int.tdiv (wrap64 (a1 + 7)) 8)) ([] : List Bool) 0))
mutual
def tithebarnref03_Unpack.j0 : Nat → ByteArray → Int → Int → Bool → Option (List Int × Int)
 | 0, _, _, _, _ => none
 | k + 1, x0, x1, x2, x27 => if x27 = true then (some (([] : List Int), 1)) else ((tithebarnref03_unbits.f k x0 (wrap64 (x1 * x2))).bind fun bt428 => (if bt428.2 = 0 then (tithebarnref03_Unpack.l0 k x1 x2 bt428.1 ([] : List Int) 0) else (some (([] : List Int), bt428.2))))
def tithebarnref03_Unpack.l0 : Nat → Int → Int → List Bool → List Int → Int → Option (List Int × Int)
 | 0, _, _, _, _, _ => none
 | k + 1, x1, x2, x8, x10, x11 => if x11 < x1 then (tithebarnref03_Unpack.l1 k x1 x2 x8 x10 x11 0 0) else (some (x10, 0))
def tithebarnref03_Unpack.l1 : Nat → Int → Int → List Bool → List Int → Int → Int → Int → Option (List Int × Int)
 | 0, _, _, _, _, _, _, _ => none
 | k + 1, x1, x2, x8, x10, x11, x12, x13 => if x13 < x2 then (if 0 ≤ (wrap64 ((wrap64 (x11 * x2)) + x13)) then (if (wrap64 ((wrap64 (x11 * x2)) + x13)) < (x8.length : Int) then (if rdOf false x8 (wrap64 ((wrap64 (x11 * x2)) + x13)) = true then (if 0 ≤ (IntKind.u64.wrap (x13)) then (tithebarnref03_Unpack.l1 k x1 x2 x8 x10 x11 (IntKind.u64.wrap (x12 + (shl .u64 1 (IntKind.u64.wrap (x13))))) (wrap64 (x13 + 1))) else (none)) else (tithebarnref03_Unpack.l1 k x1 x2 x8 x10 x11 x12 (wrap64 (x13 + 1)))) else (none)) else (none)) else (if x10.length < 17592186044416 then (tithebarnref03_Unpack.l0 k x1 x2 x8 (x10 ++ [x12]) (wrap64 (x11 + 1))) else (none))
end
def tithebarnref03_Unpack.f (k : Nat) (a0 : ByteArray) (a1 : Int) (a2 : Int) : Option (List Int × Int) := if a2 < 0 then (tithebarnref03_Unpack.j0 k a0 a1 a2 true) else (if a2 > 64 then (tithebarnref03_Unpack.j0 k a0 a1 a2 true) else (if a1 < 0 then (tithebarnref03_Unpack.j0 k a0 a1 a2 true) else (tithebarnref03_Unpack.j0 k a0 a1 a2 (decide (a1 > 65536)))))
end Go.Proofs.Ytgeddoklmcjdcaa.G
namespace Go.Proofs.Ytgeddoklmcjdcaa.G
open Go.RowKit Go.Proofs.YtgeddoklmcjdcaaQ Go.Proofs.YtgeddoklmcjdcaaW.PrintWords Go.Proofs.YtgeddoklmcjdcaaW.PrintLast Go.Proofs.YtgeddoklmcjdcaaW.PrintMore
attribute [local go_sem] max2_int min2_int max_two min_two max_three min_three max_four min_four   -- for this text's walks alone
set_option linter.unusedVariables false
set_option linter.unusedSimpArgs false
def tithebarnref01_Cursor_Done.f (s0_0 : ByteArray) (s0_1 : Int) (s0_2 : Int) : Option (Int × ByteArray × Int × Int) := if s0_2 = 0 then ((tithebarnref01_Cursor_Left.f s0_0 s0_1 s0_2).bind fun bt466 => (if bt466.1 > 0 then (some (5, bt466.2.1, bt466.2.2.1, bt466.2.2.2)) else (some (bt466.2.2.2, bt466.2.1, bt466.2.2.1, bt466.2.2.2)))) else (some (s0_2, s0_0, s0_1, s0_2))
end Go.Proofs.Ytgeddoklmcjdcaa.G
namespace Go.Proofs.Ytgeddoklmcjdcaa.G
open Go.RowKit Go.Proofs.YtgeddoklmcjdcaaQ Go.Proofs.YtgeddoklmcjdcaaW.PrintWords Go.Proofs.YtgeddoklmcjdcaaW.PrintLast Go.Proofs.YtgeddoklmcjdcaaW.PrintMore
set_option linter.unusedVariables false
set_option linter.unusedSimpArgs false
theorem w64' (x : Int) (h0 : -9223372036854775808 ≤ x) (h1 : x < 9223372036854775808) : wrap64 x = x := w64 h0 h1
theorem big_step (k : Nat) (l : List Int) (x : Int) (i : Nat) (hi : i ≤ 7) (hl : l.length < 140737488355328) :
  tally_big.l0 (k + 1) l x i = tally_big.l0 k (l ++ [x / 256 ^ i % 256]) x ((i : Int) - 1) := by
 simp only [tally_big.l0]
 rw [if_pos (by omega), w64' (8 * (i : Int)) (by omega) (by omega), if_pos (by omega), if_pos hl, w64' ((i : Int) - 1) (by omega) (by omega)]
 have e : (8 * (i : Int)) = ((8 * i : Nat) : Int) := by omega
 rw [e, shr_u64_lit x (8 * i) (by omega)]
 have e2 : (256 : Int) ^ i = 2 ^ (8 * i) := by rw [Int.pow_mul]; rfl
 rw [e2]
theorem big_end (k : Nat) (l : List Int) (x : Int) : tally_big.l0 (k + 1) l x (-1) = some l := by
 simp only [tally_big.l0]; rw [if_neg (by omega)]
def bigs (x : Int) : Nat → List Int
 | 0 => []
 | n + 1 => x / 256 ^ n % 256 :: bigs x n
theorem big_f (n : Nat) (hn : n ≤ 8) : ∀ (k : Nat) (l : List Int) (x : Int), n < k → l.length + n ≤ 140737488355328 → tally_big.l0 k l x ((n : Int) - 1) = some (l ++ bigs x n) := by
 induction n with
 | zero =>
  intro k l x hk hl
  obtain ⟨k, rfl⟩ : ∃ m, k = m + 1 := ⟨k - 1, by omega⟩
  have e : ((0 : Nat) : Int) - 1 = -1 := by omega
  rw [e, big_end]; simp [bigs]
 | succ n ih =>
  intro k l x hk hl
  obtain ⟨k, rfl⟩ : ∃ m, k = m + 1 := ⟨k - 1, by omega⟩
  have e : ((n + 1 : Nat) : Int) - 1 = (n : Int) := by omega
  rw [e, big_step k l x n (by omega) (by omega), ih (by omega) k _ x (by omega) (by simp; omega)]
  simp [bigs]
theorem Uint_f {k : Nat} (hk : 10 ≤ k) {l : List Int} (hl : l.length + 9 ≤ 140737488355328) {x : Int} (hx : u64 x) : tally_Uint.f k l x = some (l ++ encU x) := by
 obtain ⟨h0, h1⟩ := hx
 unfold tally_Uint.f encU
 by_cases c1 : x < 64
 ·rw [if_pos (by omega), if_pos (by omega), if_pos c1]
  simp; omega
 ·rw [if_neg (by omega), if_neg c1]
  by_cases c2 : x < 16384
  ·rw [if_pos (by omega), if_pos c2, or_join' 16384 x 14 (by omega) (by omega) (by omega) (by omega) (by decide) (by simp; omega)]
   unfold tally_big.f
   have e : wrap64 (2 - 1) = ((2 : Nat) : Int) - 1 := by unfold wrap64; decide
   rw [e, big_f 2 (by omega) k l _ (by omega) (by omega)]
   simp [bigs]; omega
  ·rw [if_neg (by omega), if_neg c2]
   by_cases c3 : x < 1073741824
   ·rw [if_pos (by omega), if_pos c3, or_join' 2147483648 x 30 (by omega) (by omega) (by omega) (by omega) (by decide) (by simp; omega)]
    unfold tally_big.f
    have e : wrap64 (4 - 1) = ((4 : Nat) : Int) - 1 := by unfold wrap64; decide
    rw [e, big_f 4 (by omega) k l _ (by omega) (by omega)]
    simp [bigs]; omega
   ·rw [if_neg (by omega), if_neg c3, if_pos (by omega)]
    unfold tally_big.f
    have e : wrap64 (8 - 1) = ((8 : Nat) : Int) - 1 := by unfold wrap64; decide
    rw [e, big_f 8 (by omega) k _ _ (by omega) (by simp; omega)]
    simp [bigs]
theorem Int_f {k : Nat} (hk : 10 ≤ k) {l : List Int} (hl : l.length + 9 ≤ 140737488355328) {x : Int} (hx : i64 x) : tally_Int.f k l x = some (l ++ encI x) := by
 unfold tally_Int.f
 rw [zig x hx, Uint_f hk hl (fold_u64 hx)]; rfl
theorem rUint_l0 (n : Nat) : ∀ (k : Nat) (a size mark : Int) (l : List Int), n ≤ 9 → (size = 1 ∨ size = 2 ∨ size = 4 ∨ size = 9) → (n : Int) ≤ size → n < k → l.length + n ≤ 140737488355328 →
  tithebarnref01_Uint.l0 k a size mark l ((n : Int) - 1) = some (strOfNums (l ++ (List.range n).reverse.map fun (i : Nat) => if (i : Int) = size - 1 then ((if i < 8 then a / 256 ^ i else 0) + mark) % 256 else (if i < 8 then a / 256 ^ i else 0) % 256)) := by
 induction n with
 | zero =>
  intro k a size mark l _ _ _ hk hl
  obtain ⟨k, rfl⟩ : ∃ m, k = m + 1 := ⟨k - 1, by omega⟩
  simp only [tithebarnref01_Uint.l0]
  rw [if_neg (by omega)]; simp
 | succ n ih =>
  intro k a size mark l h9 hsz hn hk hl
  obtain ⟨k, rfl⟩ : ∃ m, k = m + 1 := ⟨k - 1, by omega⟩
  have e : ((n + 1 : Nat) : Int) - 1 = (n : Int) := by omega
  rw [e]
  simp only [tithebarnref01_Uint.l0]
  have hs1 : wrap64 (size - 1) = size - 1 := w64 (by omega) (by omega)
  have hn1 : wrap64 ((n : Int) - 1) = (n : Int) - 1 := w64 (by omega) (by omega)
  rw [if_pos (by omega), hs1, hn1]
  rw [List.range_succ, List.reverse_append, List.reverse_singleton, List.singleton_append, List.map_cons]
  by_cases c : n < 8
  ·have h8 : IntKind.u64.wrap (wrap64 (8 * (n : Int))) = ((8 * n : Nat) : Int) := by rw [w64 (by omega) (by omega), wu64 (by omega) (by omega)]; omega
   rw [if_pos (by omega), h8, if_pos (by omega), shr_u64_lit a (8 * n) (by omega)]
   have e2 : (2 : Int) ^ (8 * n) = 256 ^ n := by rw [Int.pow_mul]; rfl
   rw [e2]
   by_cases d : (n : Int) = size - 1
   ·rw [if_pos d, if_pos (by omega), ih k a size mark _ (by omega) hsz (by omega) (by omega) (by simp; omega)]
    rw [List.append_assoc, List.singleton_append, if_pos d, if_pos c]
   ·rw [if_neg d, if_pos (by omega), ih k a size mark _ (by omega) hsz (by omega) (by omega) (by simp; omega)]
    rw [List.append_assoc, List.singleton_append, if_neg d, if_pos c]
  ·have h8 : n = 8 := by omega
   rw [if_neg (by omega)]
   by_cases d : (n : Int) = size - 1
   ·rw [if_pos d, if_pos (by omega), ih k a size mark _ (by omega) hsz (by omega) (by omega) (by simp; omega)]
    rw [List.append_assoc, List.singleton_append, if_pos d, if_neg c]; simp
   ·rw [if_neg d, if_pos (by omega), ih k a size mark _ (by omega) hsz (by omega) (by omega) (by simp; omega)]
    rw [List.append_assoc, List.singleton_append, if_neg d, if_neg c]; simp
theorem rUint_f {k : Nat} (hk : 12 ≤ k) {x : Int} (hx : u64 x) : tithebarnref01_Uint.f k x = some (strOfNums (encU x)) := by
 obtain ⟨h0, h1⟩ := hx
 obtain ⟨k, rfl⟩ : ∃ m, k = m + 1 := ⟨k - 1, by omega⟩
 have go : ∀ (n : Nat) (mark : Int), n ≤ 9 → (n = 1 ∨ n = 2 ∨ n = 4 ∨ n = 9) → tithebarnref01_Uint.j0 (k + 1) x n mark = some (strOfNums ((List.range n).reverse.map fun (i : Nat) => if (i : Int) = n - 1 then ((if i < 8 then x / 256 ^ i else 0) + mark) % 256 else (if i < 8 then x / 256 ^ i else 0) % 256)) := by
  intro n mark hn hs
  simp only [tithebarnref01_Uint.j0]
  rw [w64 (by omega) (by omega), rUint_l0 n k x n mark [] hn (by omega) (by omega) (by omega) (by simp; omega)]
  rfl
 unfold tithebarnref01_Uint.f encU
 by_cases c1 : x < 64
 ·rw [if_pos c1, if_pos c1]
  refine (go 1 0 (by omega) (by omega)).trans ?_
  simp [List.range_succ]; congr 2; omega
 ·rw [if_neg c1, if_neg c1]
  by_cases c2 : x < 16384
  ·rw [if_pos c2, if_pos c2]
   refine (go 2 64 (by omega) (by omega)).trans ?_
   simp [List.range_succ]; congr 2; omega
  ·rw [if_neg c2, if_neg c2]
   by_cases c3 : x < 1073741824
   ·rw [if_pos c3, if_pos c3]
    refine (go 4 128 (by omega) (by omega)).trans ?_
    simp [List.range_succ]; congr 2; omega
   ·rw [if_neg c3, if_neg c3]
    refine (go 9 192 (by omega) (by omega)).trans ?_
    simp [List.range_succ]
theorem rFold_f {x : Int} (hx : i64 x) : tithebarnref01_Fold.f x = some (fold x) := by
 obtain ⟨h0, h1⟩ := hx
 unfold tithebarnref01_Fold.f fold
 by_cases c : x < 0
 ·rw [if_pos c, if_pos c, w64 (x := x + 1) (by omega) (by omega), w64 (x := -(x + 1)) (by omega) (by omega), wu64 (x := -(x + 1)) (by omega) (by omega), wu64 (x := 2 * -(x + 1)) (by omega) (by omega), wu64 (by omega) (by omega)]
  congr 1; omega
 ·rw [if_neg c, if_neg c, wu64 (x := x) (by omega) (by omega), wu64 (by omega) (by omega)]
theorem rInt_f {k : Nat} (hk : 12 ≤ k) {x : Int} (hx : i64 x) : tithebarnref01_Int.f k x = some (strOfNums (encI x)) := by
 unfold tithebarnref01_Int.f
 rw [rFold_f hx]
 simp only [Option.bind_some]
 rw [rUint_f hk (fold_u64 hx)]; rfl
def aUint (r : List Int) (e : Int) : Int × List Int × Int := if e = 0 then ((decU r).1, r.drop (decU r).2.1, (decU r).2.2) else (0, r, e)
def aInt (r : List Int) (e : Int) : Int × List Int × Int := (unfold_ (aUint r e).1, (aUint r e).2)
def aByte (r : List Int) (e : Int) : Int × List Int × Int := if e = 0 then (match r with | [] => (0, [], 2) | b :: t => (b, t, 0)) else (0, r, e)
def aDone (r : List Int) (e : Int) : Int := if e = 0 then (if r = [] then 0 else 5) else e
theorem decU_u64 {r : List Int} (hr : Bs r) : u64 (decU r).1 := by
 rcases h : decU r with ⟨x, n, e⟩
 rcases decU_err h with ⟨rfl, _⟩ | ⟨_, rfl, _⟩
 ·exact (decU_bytes hr h).2.1
 ·unfold u64; simp
theorem aUint_u64 {r : List Int} (hr : Bs r) (e : Int) : u64 (aUint r e).1 := by
 unfold aUint; split
 ·exact decU_u64 hr
 ·unfold u64; simp
theorem aUint_Bs {r : List Int} (hr : Bs r) (e : Int) : Bs (aUint r e).2.1 := by
 unfold aUint; split
 ·exact hr.drop _
 ·exact hr
theorem aInt_Bs {r : List Int} (hr : Bs r) (e : Int) : Bs (aInt r e).2.1 := aUint_Bs hr e
theorem aByte_Bs {r : List Int} (hr : Bs r) (e : Int) : Bs (aByte r e).2.1 := by
 unfold aByte; split
 ·split
  ·exact Bs.nil
  ·exact hr.tail
 ·exact hr
theorem cUint_f (s : ByteArray) (e : Int) : tally_Cursor_Uint.f s e = some ((aUint (bytesOf s) e).1, strOfNums (aUint (bytesOf s) e).2.1, (aUint (bytesOf s) e).2.2) := by
 unfold tally_Cursor_Uint.f tally_Cursor_ok.f tally_next.f aUint
 simp only [Option.bind_some]
 by_cases c : e = 0
 ·rw [if_pos (by simpa using c), if_pos c]
  simp only
  rw [← bytesOf_tail, strOfNums_bytesOf]
 ·rw [if_neg (by simpa using c), if_neg c]
  simp only
  rw [strOfNums_bytesOf]
theorem cInt_f (s : ByteArray) (e : Int) : tally_Cursor_Int.f s e = some ((aInt (bytesOf s) e).1, strOfNums (aInt (bytesOf s) e).2.1, (aInt (bytesOf s) e).2.2) := by
 unfold tally_Cursor_Int.f
 rw [cUint_f]
 simp only [Option.bind_some]
 rw [zag _ (aUint_u64 (Bs.bytesOf s) e)]; rfl
theorem toList_nil (s : ByteArray) : s.toList = [] ↔ bytesOf s = [] := by rw [ByteArray.toList_eq]; unfold bytesOf; simp
theorem cByte_f (s : ByteArray) (e : Int) (hs : s.size ≤ 9223372036854775807) : tally_Cursor_Byte.f s e = some ((aByte (bytesOf s) e).1, strOfNums (aByte (bytesOf s) e).2.1, (aByte (bytesOf s) e).2.2) := by
 unfold tally_Cursor_Byte.f tally_Cursor_ok.f aByte
 simp only [Option.bind_some]
 by_cases c : e = 0
 ·rw [if_pos (by simpa using c), if_pos c]
  by_cases d : bytesOf s = []
  ·rw [if_pos ((toList_nil s).2 d), d, eq_nil_of_bytes d]; rfl
  ·rw [if_neg (fun h => d ((toList_nil s).1 h))]
   rcases hl : bytesOf s with _ | ⟨b, t⟩
   ·exact absurd hl d
   ·have hsz : s.size = t.length + 1 := by rw [size_eq, hl]; rfl
    rw [if_pos (by omega), if_pos (by omega)]
    have hb : bt s 0 = b := by rw [bt_rd, hl]; rfl
    have hr := bt_range s 0
    have ht : bytesOf (s.extract 1 s.size) = t := by rw [bytesOf_tail, hl]; rfl
    simp only
    rw [w64 (by omega) (by omega), hb, ← ht, strOfNums_bytesOf, c]
 ·rw [if_neg (by simpa using c), if_neg c]
  simp only
  rw [strOfNums_bytesOf]
theorem cDone_f (s : ByteArray) (e : Int) : tally_Cursor_Done.f s e = some (aDone (bytesOf s) e, s, e) := by
 unfold tally_Cursor_Done.f tally_Cursor_ok.f tally_Cursor_Err.f aDone
 simp only [Option.bind_some]
 by_cases c : e = 0
 ·rw [if_pos (by simpa using c), if_pos c]
  by_cases d : bytesOf s = []
  ·rw [if_pos ((toList_nil s).2 d), if_pos d, c]
  ·rw [if_neg (fun h => d ((toList_nil s).1 h)), if_neg d]
 ·rw [if_neg (by simpa using c), if_neg c]
theorem rd_drop (l : List Int) (a i : Nat) : rd (l.drop a) (i : Int) = rd l ((a + i : Nat) : Int) := by
 simp only [rd, List.getD_eq_getElem?_getD, List.getElem?_drop, Int.toNat_natCast]
end Go.Proofs.Ytgeddoklmcjdcaa.G
namespace Go.Proofs.YtgeddoklmcjdcaaQ
open Go.Proofs.YtgeddoklmcjdcaaW.PrintWords
set_option linter.unusedVariables false
set_option linter.unusedSimpArgs false
theorem tb (N k : Nat) : N.testBit k = decide (N / 2 ^ k % 2 = 1) := Nat.testBit_eq_decide_div_mod_eq
theorem tb_nat (N k : Nat) : (N.testBit k).toNat = N / 2 ^ k % 2 := by
 rw [tb]
 rcases Nat.mod_two_eq_zero_or_one (N / 2 ^ k) with h | h <;> rw [h] <;> rfl
def bitsN (N m : Nat) : List Bool := (List.range m).map N.testBit
theorem bitsN_len (N m : Nat) : (bitsN N m).length = m := by simp [bitsN]
theorem bitsN_succ (N m : Nat) : bitsN N (m + 1) = bitsN N m ++ [N.testBit m] := by simp [bitsN, List.range_succ]
theorem bitn_bitsN (N : Nat) : ∀ m, bitn (bitsN N m) = dig 2 m N
 | 0 => rfl
 | m + 1 => by
  rw [bitsN_succ, dig_succ, ← bitn_bitsN N m, ← tb_nat]
  unfold bitn
  rw [List.map_append]; rfl
theorem dig_bit {N i k : Nat} (hN : N < 2 ^ i) (hk : i / 8 < k) : dig 256 k (N + 2 ^ i) = (dig 256 k N).set (i / 8) (N / 256 ^ (i / 8) % 256 + 2 ^ (i % 8)) := by
 have h1 := pow8_lt hN
 have h2 : 2 ^ (i % 8) * 2 ≤ 2 ^ 8 := by rw [← Nat.pow_succ]; exact Nat.pow_le_pow_right (by omega) (by omega)
 have e2 : 2 ^ i = 2 ^ (i % 8) * 256 ^ (i / 8) := by rw [pow8, ← Nat.pow_add]; congr 1; omega
 have hp : ∀ j : Nat, 0 < 256 ^ j := fun j => Nat.pow_pos (by omega)
 apply List.ext_getElem?
 intro j
 rw [List.getElem?_set, dig_len]
 have hg : ∀ M j, j < k → (dig 256 k M)[j]? = some (M / 256 ^ j % 256) := by
  intro M j hj
  have hl : j < (dig 256 k M).length := by rw [dig_len]; exact hj
  have := dig_get 256 k M j hj
  rw [List.getD_eq_getElem?_getD, List.getElem?_eq_getElem hl] at this
  rw [List.getElem?_eq_getElem hl, ← this]; rfl
 by_cases hj : j < k
 ·rw [hg _ _ hj]
  by_cases hq : i / 8 = j
  ·rw [if_pos hq, if_pos hk]
   subst hq
   have e3 : (N + 2 ^ i) / 256 ^ (i / 8) = N / 256 ^ (i / 8) + 2 ^ (i % 8) := by rw [e2, Nat.add_mul_div_right _ _ (hp _)]
   rw [e3]
   generalize N / 256 ^ (i / 8) = y at *
   generalize 2 ^ (i % 8) = u at *
   congr 1; omega
  ·rw [if_neg hq, hg _ _ hj]
   congr 1
   by_cases hlt : j < i / 8
   ·have e4 : 256 ^ (i / 8) = 256 ^ j * (256 ^ (i / 8 - j - 1) * 256) := by
     rw [← Nat.pow_succ, ← Nat.pow_add]; congr 1; omega
    have e5 : 2 ^ i = (2 ^ (i % 8) * 256 ^ (i / 8 - j - 1)) * 256 * 256 ^ j := by
     rw [e2, e4]; simp only [Nat.mul_comm, Nat.mul_left_comm]
    rw [e5, Nat.add_mul_div_right _ _ (hp j), Nat.add_mul_mod_self_right]
   ·have e6 : N + 2 ^ i < 256 ^ j := by
     have h3 : 2 ^ (i + 1) ≤ 256 ^ j := by rw [pow8]; exact Nat.pow_le_pow_right (by omega) (by omega)
     rw [Nat.pow_succ] at h3
     omega
    rw [Nat.div_eq_of_lt e6, Nat.div_eq_of_lt (by omega)]
 ·rw [if_neg (fun e => hj (by omega)), List.getElem?_eq_none (by rw [dig_len]; omega), List.getElem?_eq_none (by rw [dig_len]; omega)]
theorem blen_or (a b : Nat) : blen (a ||| b) = max (blen a) (blen b) := by
 apply Nat.le_antisymm
 ·rw [blen_le, or_lt]
  exact ⟨blen_le.1 (Nat.le_max_left _ _), blen_le.1 (Nat.le_max_right _ _)⟩
 ·have h : (a ||| b) < 2 ^ blen (a ||| b) := blen_le.1 (Nat.le_refl _)
  rw [or_lt] at h
  exact Nat.max_le.2 ⟨blen_le.2 h.1, blen_le.2 h.2⟩
theorem wd_snoc (l : List Nat) (x : Nat) : wd (l ++ [x]) = max (wd l) (blen x) := by
 unfold wd
 rw [List.foldl_append, List.foldl_cons, List.foldl_nil, blen_or]
theorem flat_take {l : List Nat} {w i : Nat} (h : i < l.length) : (l.take (i + 1)).flatMap (fun x => bitsN x w) = (l.take i).flatMap (fun x => bitsN x w) ++ bitsN (l.getD i 0) w := by
 rw [List.take_add_one, List.getElem?_eq_getElem h, List.getD_eq_getElem?_getD, List.getElem?_eq_getElem h, List.flatMap_append]; simp
theorem flat_bitn (w : Nat) : ∀ l : List Nat, bitn (l.flatMap fun x => bitsN x w) = l.flatMap (dig 2 w)
 | [] => rfl
 | x :: l => by
  rw [List.flatMap_cons, List.flatMap_cons, ← flat_bitn w l, ← bitn_bitsN]
  unfold bitn
  rw [List.map_append]
theorem flat_len (w : Nat) : ∀ l : List Nat, (l.flatMap fun x => bitsN x w).length = l.length * w
 | [] => by simp
 | x :: l => by rw [List.flatMap_cons, List.length_append, bitsN_len, flat_len w l, List.length_cons, Nat.succ_mul]; omega
theorem set_ints (l : List Nat) (i x : Nat) : (ints l).set i (x : Int) = ints (l.set i x) := by
 unfold ints; rw [List.map_set]
theorem ints_zero (n : Nat) : (List.replicate n 0 : List Int) = ints (dig 256 n 0) := by
 have : dig 256 n 0 = List.replicate n 0 := by
  induction n with
  | zero => rfl
  | succ n ih => rw [dig, List.replicate_succ, Nat.zero_mod, Nat.zero_div, ih]
 rw [this]; simp [ints]
end Go.Proofs.YtgeddoklmcjdcaaQ
namespace Go.Proofs.Ytgeddoklmcjdcaa.G
open Go.RowKit Go.Proofs.YtgeddoklmcjdcaaQ Go.Proofs.YtgeddoklmcjdcaaW.PrintWords Go.Proofs.YtgeddoklmcjdcaaW.PrintLast Go.Proofs.YtgeddoklmcjdcaaW.PrintMore
set_option linter.unusedVariables false
set_option linter.unusedSimpArgs false
theorem natsOf_str {l : List Nat} (h : ∀ x ∈ l, x < 256) : natsOf (strOfNums (ints l)) = l := by
 have h1 := ints_natsOf (strOfNums (ints l))
 rw [bytesOf_strOfNums (ints_Bs h)] at h1
 rw [← unats_ints (natsOf (strOfNums (ints l))), h1, unats_ints]
theorem num_str {l : List Nat} (h : ∀ x ∈ l, x < 256) : num (strOfNums (ints l)) = val 256 l := by unfold num; rw [natsOf_str h]
theorem size_ints (l : List Nat) : (strOfNums (ints l)).size = l.length := by rw [size_strOfNums, ints_len]
theorem ints_U64 {l : List Nat} {w : Nat} (hw : w ≤ 64) (h : ∀ x ∈ l, x < 2 ^ w) : U64 (ints l) := by
 intro y hy
 obtain ⟨x, hx, rfl⟩ := List.mem_map.1 hy
 have h1 := h x hx
 have h2 : 2 ^ w ≤ 2 ^ 64 := Nat.pow_le_pow_right (by omega) hw
 omega
theorem Pack_err {l : List Int} {w : Int} (hl : l.length ≤ 17592186043904) (hU : U64 l) (h : w < 0 ∨ 64 < w) : bits_Pack.f l w = some (⟨#[]⟩, 1) := by
 unfold bits_Pack.f; rw [if_pos ⟨hl, hU⟩, if_pos h]
theorem Pack_wide {l : List Int} {w : Nat} (hl : l.length ≤ 17592186043904) (hU : U64 l) (hw : w ≤ 64) (h : w < wd (unats l)) : bits_Pack.f l (w : Int) = some (⟨#[]⟩, 4) := by
 unfold bits_Pack.f; rw [if_pos ⟨hl, hU⟩, if_neg (by omega), if_neg (by omega)]
theorem Pack_ok {l : List Int} {w : Nat} (hl : l.length ≤ 17592186043904) (hU : U64 l) (hw : w ≤ 64) (h : wd (unats l) ≤ w) : bits_Pack.f l (w : Int) = some (strOfNums (ints (pk w (unats l))), 0) := by
 unfold bits_Pack.f; rw [if_pos ⟨hl, hU⟩, if_neg (by omega), if_pos (by omega), Int.toNat_natCast]
theorem Unpack_ok {s : ByteArray} {n w : Nat} (hs : s.size ≤ 140737488355328) (hn : n ≤ 65536) (hw : w ≤ 64) (h : fitE s (n * w) = 0) : bits_Unpack.f s (n : Int) (w : Int) = some (ints (dig (2 ^ w) n (num s)), 0) := by
 unfold bits_Unpack.f; rw [if_pos hs, if_neg (by omega), Int.toNat_natCast, Int.toNat_natCast, if_pos h]
theorem Unpack_bad {s : ByteArray} {n w : Nat} (hs : s.size ≤ 140737488355328) (hn : n ≤ 65536) (hw : w ≤ 64) (h : fitE s (n * w) ≠ 0) : bits_Unpack.f s (n : Int) (w : Int) = some ([], fitE s (n * w)) := by
 unfold bits_Unpack.f; rw [if_pos hs, if_neg (by omega), Int.toNat_natCast, Int.toNat_natCast, if_neg h]
theorem fitE_zero {s : ByteArray} {m : Nat} : fitE s m = 0 ↔ s.size = need m ∧ num s < 2 ^ m := by
 unfold fitE
 by_cases c1 : s.size < need m
 ·rw [if_pos c1]; exact ⟨fun h => absurd h (by decide), fun h => by omega⟩
 ·rw [if_neg c1]
  by_cases c2 : need m < s.size
  ·rw [if_pos c2]; exact ⟨fun h => absurd h (by decide), fun h => by omega⟩
  ·rw [if_neg c2]
   by_cases c3 : num s < 2 ^ m
   ·rw [if_pos c3]; exact ⟨fun _ => ⟨by omega, c3⟩, fun _ => rfl⟩
   ·rw [if_neg c3]; exact ⟨fun h => absurd h (by decide), fun h => absurd h.2 c3⟩
theorem fit_pk {w : Nat} {l : List Nat} (h : ∀ x ∈ l, x < 2 ^ w) : fitE (strOfNums (ints (pk w l))) (l.length * w) = 0 := by
 rw [fitE_zero, size_ints, pk_len, num_str (pk_lt w l)]
 exact ⟨rfl, pk_small h⟩
theorem back_pk {w : Nat} {l : List Nat} (h : ∀ x ∈ l, x < 2 ^ w) : dig (2 ^ w) l.length (num (strOfNums (ints (pk w l)))) = l := by
 rw [num_str (pk_lt w l)]; exact unpk_pk h
theorem rd_ints {l : List Nat} {i : Nat} (h : i < l.length) : rd (ints l) (i : Int) = ((l[i] : Nat) : Int) := by
 unfold rd ints
 rw [Int.toNat_natCast, List.getD_eq_getElem?_getD, List.getElem?_map, List.getElem?_eq_getElem h]; rfl
theorem u64wr (x : Int) : IntKind.u64.wrap x = x % 18446744073709551616 := by simp [IntKind.wrap, IntKind.bits, IntKind.signed]
theorem shr64 (x a : Nat) (ha : a ≤ 64) : shr .u64 (x : Int) (a : Int) = ((x / 2 ^ a : Nat) : Int) := by
 unfold shr
 rw [Int.toNat_natCast, Nat.min_eq_left (show a ≤ IntKind.u64.bits from ha)]
 simp
theorem shl64 (a : Nat) (ha : a ≤ 63) : shl .u64 1 (a : Int) = ((2 ^ a : Nat) : Int) := by
 unfold shl
 have h : 2 ^ a ≤ 2 ^ 63 := Nat.pow_le_pow_right (by omega) ha
 have e : (1 : Int) * 2 ^ a = ((2 ^ a : Nat) : Int) := by simp
 rw [Int.toNat_natCast, Nat.min_eq_left (show a ≤ IntKind.u64.bits from Nat.le_trans ha (by decide)), e, u64_nat (by omega)]
theorem shl8 (a : Nat) (ha : a ≤ 7) : shl .u8 1 (a : Int) = ((2 ^ a : Nat) : Int) := by
 unfold shl
 have h : 2 ^ a ≤ 2 ^ 7 := Nat.pow_le_pow_right (by omega) ha
 have e : (1 : Int) * 2 ^ a = ((2 ^ a : Nat) : Int) := by simp
 rw [Int.toNat_natCast, Nat.min_eq_left (show a ≤ IntKind.u8.bits from Nat.le_trans ha (by decide)), e, u8_nat (by omega)]
theorem mod2 (x : Nat) : (Int.tmod ((x : Nat) : Int) 2 == 1) = decide (x % 2 = 1) := by
 have e : Int.tmod ((x : Nat) : Int) 2 = ((x % 2 : Nat) : Int) := by rw [Int.tmod_eq_emod_of_nonneg (by omega)]; omega
 rw [e, Bool.eq_iff_iff, beq_iff_eq, decide_eq_true_iff]; omega
theorem Bytes_l0 (l : List Bool) (hl : l.length ≤ 140737488355328) : ∀ (d k i : Nat), i + d = l.length → d < k →
  tithebarnref03_Bytes.l0 k l (ints (dig 256 (need l.length) (val 2 ((bitn l).take i)))) (i : Int) = some (strOfNums (ints (pk 1 (bitn l)))) := by
 have hnl : need l.length ≤ 140737488355328 := by unfold need; omega
 intro d
 induction d with
 | zero =>
  intro k i hi hk
  obtain ⟨k, rfl⟩ : ∃ m, k = m + 1 := ⟨k - 1, by omega⟩
  simp only [tithebarnref03_Bytes.l0]
  rw [if_neg (by omega), List.take_of_length_le (by rw [bitn_len]; omega)]
  unfold pk
  rw [bitn_len, Nat.mul_one, Nat.pow_one]
 | succ d ih =>
  intro k i hi hk
  obtain ⟨k, rfl⟩ : ∃ m, k = m + 1 := ⟨k - 1, by omega⟩
  have hil : i < l.length := by omega
  have htk := take_bitn hil
  have hvn := val_snoc 2 ((bitn l).take i) (rdOf false l (i : Int)).toNat
  rw [← htk, List.length_take, Nat.min_eq_left (by rw [bitn_len]; omega)] at hvn
  have hN := val_take_lt (w := 1) (l := bitn l) (i := i) (bitn_lt l) (by rw [bitn_len]; omega)
  rw [Nat.pow_one, Nat.mul_one] at hN
  have hq : i / 8 < need l.length := by unfold need; omega
  have q1 : (i : Int) < (l.length : Int) := by omega
  have q2 : (0 : Int) ≤ (i : Int) := by omega
  have q3 : (0 : Int) ≤ ((i / 8 : Nat) : Int) := by omega
  have q4 : ((i / 8 : Nat) : Int) < ((ints (dig 256 (need l.length) (val 2 ((bitn l).take i)))).length : Int) := by rw [ints_len, dig_len]; omega
  have q5 : (0 : Int) ≤ ((i % 8 : Nat) : Int) := by omega
  have q6 : i + 1 + d = l.length := by omega
  have q7 : d < k := by omega
  have q8 : i % 8 ≤ 7 := by omega
  have e : Aside0 (wrap64 ((i : Int) + 1) = ((i + 1 : Nat) : Int)) := ⟨by rw [w64 (by omega) (by omega)]; omega⟩
  have e1 : Aside0 (wrap64 (Int.tdiv (i : Int) 8) = ((i / 8 : Nat) : Int)) := ⟨by rw [Int.tdiv_eq_ediv_of_nonneg (by omega), w64 (by omega) (by omega)]; omega⟩
  have e2 : Aside0 (IntKind.u64.wrap (Int.tmod (i : Int) 8) = ((i % 8 : Nat) : Int)) := ⟨by rw [Int.tmod_eq_emod_of_nonneg (by omega), u64wr]; omega⟩
  simp only [tithebarnref03_Bytes.l0]
  rw [if_pos q1, if_pos q2, e1.out, e2.out, if_pos q3, if_pos q4, if_pos q5, e.out]
  cases hb : rdOf false l (i : Int) with
  | true =>
   rw [hb, show (true : Bool).toNat = 1 from rfl, Nat.mul_one] at hvn
   have hd := dig_bit hN hq
   have hg : rd (ints (dig 256 (need l.length) (val 2 ((bitn l).take i)))) ((i / 8 : Nat) : Int) = ((val 2 ((bitn l).take i) / 256 ^ (i / 8) % 256 : Nat) : Int) := by
    have h := dig_get 256 (need l.length) (val 2 ((bitn l).take i)) (i / 8) hq
    have hl2 : i / 8 < (dig 256 (need l.length) (val 2 ((bitn l).take i))).length := by rw [dig_len]; exact hq
    rw [rd_ints hl2, ← h, List.getD_eq_getElem?_getD, List.getElem?_eq_getElem hl2]; rfl
   have h1 := pow8_lt hN
   have hp : 2 ^ (i % 8) ≤ 2 ^ 7 := Nat.pow_le_pow_right (by decide) q8
   have e3 : (((val 2 ((bitn l).take i) / 256 ^ (i / 8) % 256 : Nat) : Int) + ((2 ^ (i % 8) : Nat) : Int)) % 256 = ((val 2 ((bitn l).take i) / 256 ^ (i / 8) % 256 + 2 ^ (i % 8) : Nat) : Int) := by
    generalize val 2 ((bitn l).take i) / 256 ^ (i / 8) = y at *
    generalize 2 ^ (i % 8) = u at *
    omega
   rw [if_pos rfl, Int.toNat_natCast, hg, shl8 _ q8, e3, set_ints, ← hd, ← hvn]
   exact ih k (i + 1) q6 q7
  | false =>
   rw [hb] at hvn
   have hv2 : val 2 ((bitn l).take (i + 1)) = val 2 ((bitn l).take i) := hvn
   rw [if_neg (by decide), ← hv2]
   exact ih k (i + 1) q6 q7
theorem Bytes_f {l : List Bool} {k : Nat} (hl : l.length ≤ 140737488355328) (hk : l.length < k) : tithebarnref03_Bytes.f k l = some (strOfNums (ints (pk 1 (bitn l)))) := by
 have hnl : need l.length ≤ 140737488355328 := by unfold need; omega
 have e1 : wrap64 ((l.length : Int) + 7) = ((l.length + 7 : Nat) : Int) := by rw [w64 (by omega) (by omega)]; omega
 have e2 : wrap64 (Int.tdiv ((l.length + 7 : Nat) : Int) 8) = ((need l.length : Nat) : Int) := by
  have : Int.tdiv ((l.length + 7 : Nat) : Int) 8 = ((need l.length : Nat) : Int) := by rw [Int.tdiv_eq_ediv_of_nonneg (by omega)]; unfold need; omega
  rw [this, w64 (by omega) (by omega)]
 unfold tithebarnref03_Bytes.f
 rw [e1, e2, if_pos (by omega), Int.toNat_natCast, if_pos (by omega), ints_zero]
 exact Bytes_l0 l hl l.length k 0 (by omega) hk
theorem rfits_f {x w : Nat} (hx : x < 18446744073709551616) (hw : w ≤ 64) : tithebarnref03_fits.f (x : Int) (w : Int) = some (decide (x < 2 ^ w)) := by
 unfold tithebarnref03_fits.f
 by_cases c : w = 64
 ·subst c
  rw [if_pos (by omega), decide_eq_true (show x < 2 ^ 64 from hx)]
 ·have hw63 : w ≤ 63 := by omega
  have e : IntKind.u64.wrap (w : Int) = (w : Int) := u64_nat (by omega)
  have q1 : ¬ (w : Int) ≥ 64 := by omega
  have q2 : (0 : Int) ≤ (w : Int) := by omega
  rw [if_neg q1, e, if_pos q2, shl64 _ hw63]
  congr 1
  rw [Bool.eq_iff_iff, decide_eq_true_iff, decide_eq_true_iff]
  exact Int.ofNat_lt
theorem rWidth_l1 {l : List Int} (hU : U64 l) (hl : l.length ≤ 1048576) {i : Nat} (hi : i < l.length) : ∀ (d k v : Nat), v ≤ 64 → max v (blen ((unats l).getD i 0)) = v + d → d < k →
  tithebarnref03_Width.l1 k l (v : Int) (i : Int) = tithebarnref03_Width.l0 (k - d - 1) l ((max v (blen ((unats l).getD i 0)) : Nat) : Int) ((i + 1 : Nat) : Int) := by
 obtain ⟨hx1, hx2⟩ := rd_unats hU hi
 have hb := blen_64 hx2
 have e : Aside0 (wrap64 ((i : Int) + 1) = ((i + 1 : Nat) : Int)) := ⟨by rw [w64 (by omega) (by omega)]; omega⟩
 have q1 : (0 : Int) ≤ (i : Int) := by omega
 have q2 : (i : Int) < (l.length : Int) := by omega
 intro d
 induction d with
 | zero =>
  intro k v hv hm hk
  obtain ⟨k, rfl⟩ : ∃ m, k = m + 1 := ⟨k - 1, by omega⟩
  have hle : blen ((unats l).getD i 0) ≤ v := by omega
  simp only [tithebarnref03_Width.l1]
  rw [if_pos q1, if_pos q2, hx1, rfits_f hx2 hv, Option.bind_some, decide_eq_true (blen_le.1 hle), if_pos rfl, e.out, Nat.max_eq_left hle]
  rfl
 | succ d ih =>
  intro k v hv hm hk
  obtain ⟨k, rfl⟩ : ∃ m, k = m + 1 := ⟨k - 1, by omega⟩
  have hgt : v < blen ((unats l).getD i 0) := by omega
  have e2 : wrap64 ((v : Int) + 1) = ((v + 1 : Nat) : Int) := by rw [w64 (by omega) (by omega)]; omega
  have hr : k + 1 - (d + 1) - 1 = k - d - 1 := by omega
  have hmx : max v (blen ((unats l).getD i 0)) = max (v + 1) (blen ((unats l).getD i 0)) := by omega
  have hnl : ¬ (unats l).getD i 0 < 2 ^ v := fun h => by have := blen_le.2 h; omega
  simp only [tithebarnref03_Width.l1]
  rw [if_pos q1, if_pos q2, hx1, rfits_f hx2 hv, Option.bind_some, decide_eq_false hnl, if_neg (by decide), e2, hr, hmx]
  exact ih k (v + 1) (by omega) (by omega) (by omega)
theorem rWidth_l0 {l : List Int} (hU : U64 l) (hl : l.length ≤ 1048576) : ∀ (d k i : Nat), i + d = l.length → 70 * d + 1 < k →
  tithebarnref03_Width.l0 k l ((wd ((unats l).take i) : Nat) : Int) (i : Int) = some ((wd (unats l) : Nat) : Int) := by
 intro d
 induction d with
 | zero =>
  intro k i hi hk
  obtain ⟨k, rfl⟩ : ∃ m, k = m + 1 := ⟨k - 1, by omega⟩
  simp only [tithebarnref03_Width.l0]
  rw [if_neg (by omega), List.take_of_length_le (by rw [unats_len]; omega)]
 | succ d ih =>
  intro k i hi hk
  obtain ⟨k, rfl⟩ : ∃ m, k = m + 1 := ⟨k - 1, by omega⟩
  have hil : i < l.length := by omega
  obtain ⟨hx1, hx2⟩ := rd_unats hU hil
  have hb := blen_64 hx2
  have hw : wd ((unats l).take i) ≤ 64 := wd_le.2 (take_lt (unats_64 hU))
  have hsn := wd_snoc ((unats l).take i) ((unats l).getD i 0)
  rw [← take_unats hil] at hsn
  have h := rWidth_l1 hU hl hil (max (wd ((unats l).take i)) (blen ((unats l).getD i 0)) - wd ((unats l).take i)) k (wd ((unats l).take i)) hw (by omega) (by omega)
  simp only [tithebarnref03_Width.l0]
  rw [if_pos (by omega)]
  refine h.trans ?_
  rw [← hsn]
  exact ih _ (i + 1) (by omega) (by omega)
theorem rWidth_f {l : List Int} {k : Nat} (hU : U64 l) (hl : l.length ≤ 1048576) (hk : 70 * l.length + 1 < k) : tithebarnref03_Width.f k l = some ((wd (unats l) : Nat) : Int) := by
 unfold tithebarnref03_Width.f
 exact rWidth_l0 hU hl l.length k 0 (by omega) hk
theorem rPack_l1 {l : List Int} {w : Nat} (hU : U64 l) (hw : w ≤ 64) (hl : l.length ≤ 1048576) {i : Nat} (hi : i < l.length) : ∀ (d k j : Nat), j + d = w → d < k →
  tithebarnref03_Pack.l1 k l (w : Int) (((unats l).take i).flatMap (fun x => bitsN x w) ++ bitsN ((unats l).getD i 0) j) (i : Int) (j : Int) = tithebarnref03_Pack.l0 (k - d - 1) l (w : Int) (((unats l).take (i + 1)).flatMap (fun x => bitsN x w)) ((i + 1 : Nat) : Int) := by
 obtain ⟨hx1, hx2⟩ := rd_unats hU hi
 have hfl : ((unats l).take i).length * w ≤ 1048576 * 64 := Nat.mul_le_mul (by rw [List.length_take]; omega) hw
 have hft := flat_take (l := unats l) (w := w) (i := i) (by rw [unats_len]; exact hi)
 intro d
 induction d with
 | zero =>
  intro k j hj hk
  obtain ⟨k, rfl⟩ : ∃ m, k = m + 1 := ⟨k - 1, by omega⟩
  obtain rfl : j = w := by omega
  have e : wrap64 ((i : Int) + 1) = ((i + 1 : Nat) : Int) := by rw [w64 (by omega) (by omega)]; omega
  simp only [tithebarnref03_Pack.l1]
  rw [if_neg (by omega), e, hft]
  rfl
 | succ d ih =>
  intro k j hj hk
  obtain ⟨k, rfl⟩ : ∃ m, k = m + 1 := ⟨k - 1, by omega⟩
  have e : Aside0 (wrap64 ((j : Int) + 1) = ((j + 1 : Nat) : Int)) := ⟨by rw [w64 (by omega) (by omega)]; omega⟩
  have e2 : Aside0 (IntKind.u64.wrap (j : Int) = (j : Int)) := ⟨u64_nat (by omega)⟩
  have q1 : (j : Int) < (w : Int) := by omega
  have q2 : (0 : Int) ≤ (i : Int) := by omega
  have q3 : (i : Int) < (l.length : Int) := by omega
  have q4 : (0 : Int) ≤ (j : Int) := by omega
  have q5 : (((unats l).take i).flatMap (fun x => bitsN x w) ++ bitsN ((unats l).getD i 0) j).length < 140737488355328 := by
   rw [List.length_append, flat_len, bitsN_len]; omega
  have hr : k + 1 - (d + 1) - 1 = k - d - 1 := by omega
  simp only [tithebarnref03_Pack.l1]
  rw [if_pos q1, if_pos q2, if_pos q3, e2.out, if_pos q4, if_pos q5, hx1, shr64 _ _ (by omega), mod2, ← tb, List.append_assoc, ← bitsN_succ, e.out, hr]
  exact ih k (j + 1) (by omega) (by omega)
theorem rPack_l0 {l : List Int} {w : Nat} (hU : U64 l) (hw : w ≤ 64) (hl : l.length ≤ 1048576) : ∀ (d k i : Nat), i + d = l.length → 70 * d + 67108870 < k → (∀ x ∈ (unats l).take i, x < 2 ^ w) →
  tithebarnref03_Pack.l0 k l (w : Int) (((unats l).take i).flatMap (fun x => bitsN x w)) (i : Int) = some (if wd (unats l) ≤ w then (strOfNums (ints (pk w (unats l))), 0) else (⟨#[]⟩, 4)) := by
 intro d
 induction d with
 | zero =>
  intro k i hi hk hlt
  obtain ⟨k, rfl⟩ : ∃ m, k = m + 1 := ⟨k - 1, by omega⟩
  have ht : (unats l).take i = unats l := List.take_of_length_le (by rw [unats_len]; omega)
  rw [ht] at hlt ⊢
  have hfl : (unats l).length * w ≤ 1048576 * 64 := Nat.mul_le_mul (by rw [unats_len]; omega) hw
  simp only [tithebarnref03_Pack.l0]
  rw [if_neg (by omega), if_pos (wd_le.2 hlt), Bytes_f (by rw [flat_len]; omega) (by rw [flat_len]; omega)]
  have e : pk 1 (bitn ((unats l).flatMap fun x => bitsN x w)) = pk w (unats l) := by
   unfold pk
   rw [bitn_len, flat_len, Nat.mul_one, flat_bitn, Nat.pow_one, val_flat _ hlt]
  rw [e]; rfl
 | succ d ih =>
  intro k i hi hk hlt
  obtain ⟨k, rfl⟩ : ∃ m, k = m + 1 := ⟨k - 1, by omega⟩
  have hil : i < l.length := by omega
  obtain ⟨hx1, hx2⟩ := rd_unats hU hil
  have q1 : (i : Int) < (l.length : Int) := by omega
  have q2 : (0 : Int) ≤ (i : Int) := by omega
  simp only [tithebarnref03_Pack.l0]
  rw [if_pos q1, if_pos q2, hx1, rfits_f hx2 hw, Option.bind_some]
  have hmem : (unats l).getD i 0 ∈ unats l := by
   have h : i < (unats l).length := by rw [unats_len]; exact hil
   rw [List.getD_eq_getElem?_getD, List.getElem?_eq_getElem h]; exact List.getElem_mem h
  by_cases c : (unats l).getD i 0 < 2 ^ w
  ·have h := rPack_l1 hU hw hl hil w k 0 (by omega) (by omega)
   rw [show bitsN ((unats l).getD i 0) 0 = [] from rfl, List.append_nil] at h
   rw [decide_eq_true c, if_pos rfl]
   refine h.trans ?_
   refine ih _ (i + 1) (by omega) (by omega) ?_
   rw [take_unats hil]
   intro x hx
   rcases List.mem_append.1 hx with hx | hx
   ·exact hlt x hx
   ·rw [List.mem_singleton.1 hx]; exact c
  ·rw [decide_eq_false c, if_neg (by decide), if_neg (fun h => c (wd_le.1 h _ hmem))]
theorem rPack_f {l : List Int} {w : Int} {k : Nat} (hU : U64 l) (hl : l.length ≤ 1048576) (hk : 140509200 < k) : tithebarnref03_Pack.f k l w = bits_Pack.f l w := by
 obtain ⟨k, rfl⟩ : ∃ m, k = m + 1 := ⟨k - 1, by omega⟩
 have hj : tithebarnref03_Pack.j0 (k + 1) l w true = some (⟨#[]⟩, 1) := by simp only [tithebarnref03_Pack.j0]; rw [if_pos trivial]
 unfold tithebarnref03_Pack.f
 by_cases c1 : w < 0
 ·rw [if_pos c1, Pack_err (by omega) hU (by omega)]; exact hj
 ·rw [if_neg c1]
  by_cases c2 : w > 64
  ·rw [decide_eq_true c2, Pack_err (by omega) hU (by omega)]; exact hj
  ·rw [decide_eq_false c2]
   obtain ⟨q, rfl⟩ : ∃ q : Nat, w = (q : Int) := ⟨w.toNat, by omega⟩
   simp only [tithebarnref03_Pack.j0]
   rw [if_neg (by decide)]
   refine (rPack_l0 hU (by omega) hl l.length k 0 (by omega) (by omega) (by simp)).trans ?_
   by_cases c3 : wd (unats l) ≤ q
   ·rw [if_pos c3, Pack_ok (by omega) hU (by omega) c3]
   ·rw [if_neg c3, Pack_wide (by omega) hU (by omega) (by omega)]
end Go.Proofs.Ytgeddoklmcjdcaa.G
namespace Go.Proofs.Ytgeddoklmcjdcaa.G
open Go.RowKit Go.Proofs.YtgeddoklmcjdcaaQ Go.Proofs.YtgeddoklmcjdcaaW.PrintWords Go.Proofs.YtgeddoklmcjdcaaW.PrintLast Go.Proofs.YtgeddoklmcjdcaaW.PrintMore
set_option linter.unusedVariables false
set_option linter.unusedSimpArgs false
def I64 (l : List Int) : Prop := ∀ x ∈ l, i64 x
theorem I64.nil : I64 [] := fun _ h => by cases h
theorem I64.cons {x : Int} {l : List Int} (hx : i64 x) (h : I64 l) : I64 (x :: l) := fun y hy => (List.mem_cons.1 hy).elim (fun e => e ▸ hx) (h y)
theorem I64.head {x : Int} {l : List Int} (h : I64 (x :: l)) : i64 x := h x List.mem_cons_self
theorem I64.tail {x : Int} {l : List Int} (h : I64 (x :: l)) : I64 l := fun y hy => h y (List.mem_cons_of_mem _ hy)
theorem I64.app {a b : List Int} (ha : I64 a) (hb : I64 b) : I64 (a ++ b) := fun y hy => (List.mem_append.1 hy).elim (ha y) (hb y)
theorem wf_I64 {l : List Int} (h : ∀ x ∈ l, (Lit.int .i64 x).wf = true) : I64 l := by
 intro x hx
 have := h x hx
 simp [Lit.wf, IntKind.min, IntKind.max, IntKind.bits, IntKind.signed] at this
 unfold i64; omega
theorem wrap_i64 (x : Int) : i64 (wrap64 x) := by unfold i64 wrap64; omega
theorem aUint_enc {x : Int} (h : u64 x) (r : List Int) : aUint (encU x ++ r) 0 = (x, r, 0) := by
 unfold aUint
 rw [if_pos rfl, decU_enc h r]
 simp
theorem aInt_enc {x : Int} (h : i64 x) (r : List Int) : aInt (encI x ++ r) 0 = (x, r, 0) := by
 unfold aInt encI
 rw [aUint_enc (fold_u64 h), unfold_fold]
theorem aUint_dec {r r' : List Int} {x : Int} (hB : Bs r) (h : aUint r 0 = (x, r', 0)) : r = encU x ++ r' ∧ u64 x := by
 unfold aUint at h
 rw [if_pos rfl] at h
 rcases hd : decU r with ⟨y, n, e⟩
 rw [hd] at h
 simp only [Prod.mk.injEq] at h
 obtain ⟨rfl, rfl, rfl⟩ := h
 obtain ⟨h1, h2, h3⟩ := decU_bytes hB hd
 exact ⟨by rw [← h3, List.take_append_drop], h2⟩
theorem aInt_dec {r r' : List Int} {x : Int} (hB : Bs r) (h : aInt r 0 = (x, r', 0)) : r = encI x ++ r' ∧ i64 x := by
 unfold aInt at h
 rcases hu : aUint r 0 with ⟨u, s⟩
 rw [hu] at h
 simp only [Prod.mk.injEq] at h
 obtain ⟨rfl, rfl⟩ := h
 obtain ⟨h1, h2⟩ := aUint_dec hB hu
 refine ⟨?_, unfold_i64 h2⟩
 unfold encI
 rw [fold_unfold h2.1]
 exact h1
def encL (l : List Int) : List Int := l.flatMap encI
def rp : Nat → List Int → Int → List Int → List Int × List Int × Int
 | 0, r, e, acc => (acc, r, e)
 | n + 1, r, e, acc => if e = 0 then rp n (aInt r e).2.1 (aInt r e).2.2 (acc ++ [(aInt r e).1]) else (acc, r, e)
theorem rp_err {e : Int} (he : e ≠ 0) (n : Nat) (r acc : List Int) : rp n r e acc = (acc, r, e) := by
 cases n with
 | zero => rfl
 | succ n => unfold rp; rw [if_neg he]
theorem rp_len : ∀ (n : Nat) (r : List Int) (e : Int) (acc : List Int), (rp n r e acc).1.length ≤ acc.length + n := by
 intro n
 induction n with
 | zero => intro r e acc; exact Nat.le_refl _
 | succ n ih =>
  intro r e acc
  unfold rp
  split
  ·have := ih (aInt r e).2.1 (aInt r e).2.2 (acc ++ [(aInt r e).1])
   simp at this; omega
  ·simp
theorem rp_enc : ∀ (l : List Int) (rest acc : List Int), I64 l → rp l.length (encL l ++ rest) 0 acc = (acc ++ l, rest, 0)
 | [], rest, acc, _ => by simp [rp, encL]
 | x :: l, rest, acc, h => by
  have e : encL (x :: l) ++ rest = encI x ++ (encL l ++ rest) := by simp [encL]
  rw [List.length_cons, rp, if_pos rfl, e, aInt_enc h.head]
  simp only
  rw [rp_enc l rest (acc ++ [x]) h.tail]
  simp
theorem rp_dec : ∀ (n : Nat) (r acc out r' : List Int), Bs r → rp n r 0 acc = (out, r', 0) → ∃ l, out = acc ++ l ∧ l.length = n ∧ I64 l ∧ r = encL l ++ r'
 | 0, r, acc, out, r', hB, h => by
  unfold rp at h
  simp only [Prod.mk.injEq] at h
  exact ⟨[], by simp [h.1], rfl, I64.nil, by simp [encL, h.2.1]⟩
 | n + 1, r, acc, out, r', hB, h => by
  unfold rp at h
  rw [if_pos rfl] at h
  rcases hi : aInt r 0 with ⟨x, r1, e1⟩
  rw [hi] at h
  simp only at h
  by_cases he : e1 = 0
  ·subst he
   obtain ⟨h1, h2⟩ := aInt_dec hB hi
   have hB1 : Bs r1 := by have := aInt_Bs hB 0; rw [hi] at this; exact this
   obtain ⟨l, h3, h4, h5, h6⟩ := rp_dec n r1 _ out r' hB1 h
   refine ⟨x :: l, by simp [h3], by simp [h4], I64.cons h2 h5, ?_⟩
   rw [h1, h6]; simp [encL]
  ·rw [rp_err he] at h
   simp only [Prod.mk.injEq] at h
   exact absurd h.2.2 he
def deltas : Int → List Int → List Int
 | _, [] => []
 | a, x :: l => wrap64 (x - a) :: deltas x l
def psum : Int → List Int → List Int
 | _, [] => []
 | a, x :: l => wrap64 (a + x) :: psum (wrap64 (a + x)) l
theorem wrap_add_sub {a x : Int} (hx : i64 x) : wrap64 (a + wrap64 (x - a)) = x := by
 obtain ⟨h0, h1⟩ := hx
 unfold wrap64; omega
theorem wrap_sub_add {a x : Int} (hx : i64 x) : wrap64 (wrap64 (a + x) - a) = x := by
 obtain ⟨h0, h1⟩ := hx
 unfold wrap64; omega
theorem psum_deltas : ∀ (l : List Int) (a : Int), I64 l → psum a (deltas a l) = l
 | [], a, _ => rfl
 | x :: l, a, h => by rw [deltas, psum, wrap_add_sub h.head, psum_deltas l x h.tail]
theorem deltas_psum : ∀ (l : List Int) (a : Int), I64 l → deltas a (psum a l) = l
 | [], a, _ => rfl
 | x :: l, a, h => by rw [psum, deltas, wrap_sub_add h.head, deltas_psum l _ h.tail]
theorem deltas_I64 : ∀ (l : List Int) (a : Int), I64 (deltas a l)
 | [], _ => I64.nil
 | x :: l, a => I64.cons (wrap_i64 _) (deltas_I64 l x)
theorem psum_I64 : ∀ (l : List Int) (a : Int), I64 (psum a l)
 | [], _ => I64.nil
 | x :: l, a => I64.cons (wrap_i64 _) (psum_I64 l _)
theorem deltas_len : ∀ (l : List Int) (a : Int), (deltas a l).length = l.length
 | [], _ => rfl
 | x :: l, a => by rw [deltas, List.length_cons, List.length_cons, deltas_len l]
theorem psum_len : ∀ (l : List Int) (a : Int), (psum a l).length = l.length
 | [], _ => rfl
 | x :: l, a => by rw [psum, List.length_cons, List.length_cons, psum_len l]
def lead (x : Int) : List Int → Nat
 | [] => 0
 | y :: l => if y = x then lead x l + 1 else 0
theorem lead_le (x : Int) : ∀ l, lead x l ≤ l.length
 | [] => Nat.le_refl _
 | y :: l => by unfold lead; split <;> simp; exact lead_le x l
theorem lead_split (x : Int) : ∀ l, l = List.replicate (lead x l) x ++ l.drop (lead x l)
 | [] => rfl
 | y :: l => by
  unfold lead
  split
  ·rename_i h
   subst h
   rw [List.replicate_succ, List.cons_append, List.drop_succ_cons, ← lead_split y l]
  ·simp
theorem lead_next (x : Int) : ∀ l : List Int, (l.drop (lead x l)).head? ≠ some x
 | [] => by simp
 | y :: l => by
  unfold lead
  split
  ·rw [List.drop_succ_cons]; exact lead_next x l
  ·rename_i h; simpa using h
theorem lead_rep (x : Int) (m : List Int) (hm : m.head? ≠ some x) : ∀ t, lead x (List.replicate t x ++ m) = t
 | 0 => by
  cases m with
  | nil => rfl
  | cons y m => simp at hm; simp [lead, hm]
 | t + 1 => by rw [List.replicate_succ, List.cons_append, lead, if_pos rfl, lead_rep x m hm t]
def runsF : Nat → List Int → List Int
 | 0, _ => []
 | f + 1, [] => []
 | f + 1, x :: l => encU ((lead x l + 1 : Nat) : Int) ++ encI x ++ runsF f (l.drop (lead x l))
def runsB (l : List Int) : List Int := runsF l.length l
theorem runsF_more : ∀ (f : Nat) (l : List Int), l.length ≤ f → runsF f l = runsF (f + 1) l
 | 0, l, h => by
  have : l = [] := List.length_eq_zero_iff.1 (by omega)
  subst this; rfl
 | f + 1, [], h => rfl
 | f + 1, x :: l, h => by
  rw [runsF, runsF, runsF_more f (l.drop (lead x l)) (by rw [List.length_drop]; simp at h; omega)]
theorem runsF_eq (l : List Int) : ∀ f, l.length ≤ f → runsF f l = runsB l := by
 intro f h
 induction f with
 | zero =>
  have : l = [] := List.length_eq_zero_iff.1 (by omega)
  subst this; rfl
 | succ f ih =>
  by_cases hl : l.length ≤ f
  ·rw [← runsF_more f l hl]; exact ih hl
  ·have : l.length = f + 1 := by omega
   unfold runsB; rw [this]
theorem runsB_cons (x : Int) (l : List Int) : runsB (x :: l) = encU ((lead x l + 1 : Nat) : Int) ++ encI x ++ runsB (l.drop (lead x l)) := by
 have h : runsB (x :: l) = runsF (l.length + 1) (x :: l) := rfl
 rw [h, runsF, runsF_eq _ l.length (by rw [List.length_drop]; omega)]
theorem runsB_rep {t : Nat} (ht : 1 ≤ t) (x : Int) (m : List Int) (hm : m.head? ≠ some x) : runsB (List.replicate t x ++ m) = encU (t : Int) ++ encI x ++ runsB m := by
 obtain ⟨t, rfl⟩ : ∃ s, t = s + 1 := ⟨t - 1, by omega⟩
 rw [List.replicate_succ, List.cons_append, runsB_cons, lead_rep x m hm t, List.drop_left' (by simp)]
def rr (n : Nat) : Nat → List Int → List Int → List Int × Int × List Int
 | 0, r, out => (out, 0, r)
 | f + 1, r, out => if out.length < n then
   if (aUint r 0).2.2 = 0 then
    if (aUint r 0).1 = 0 ∨ ((n - out.length : Nat) : Int) < (aUint r 0).1 then ([], 4, [])
    else if (aInt (aUint r 0).2.1 0).2.2 = 0 then
     if out.getLast? = some (aInt (aUint r 0).2.1 0).1 then ([], 4, [])
     else rr n f (aInt (aUint r 0).2.1 0).2.1 (out ++ List.replicate (aUint r 0).1.toNat (aInt (aUint r 0).2.1 0).1)
    else ([], (aInt (aUint r 0).2.1 0).2.2, [])
   else ([], (aUint r 0).2.2, [])
  else (out, 0, r)
theorem rr_done {n f : Nat} {r out : List Int} (h : n ≤ out.length) : rr n f r out = (out, 0, r) := by
 cases f with
 | zero => rfl
 | succ f => rw [rr, if_neg (by omega)]
theorem rr_enc (n : Nat) (hn : n ≤ 65536) (rest : List Int) : ∀ (d : Nat) (l out : List Int) (f : Nat), l.length ≤ d → out.length + l.length = n → l.length ≤ f → I64 l → (∀ x, l.head? = some x → out.getLast? ≠ some x) → rr n f (runsB l ++ rest) out = (out ++ l, 0, rest) := by
 intro d
 induction d with
 | zero =>
  intro l out f hd hl hf hI hb
  have : l = [] := List.length_eq_zero_iff.1 (by omega)
  subst this
  rw [rr_done (by simp at hl; omega)]
  simp [runsB, runsF]
 | succ d ih =>
  intro l out f hd hl hf hI hb
  cases l with
  | nil =>
   rw [rr_done (by simp at hl; omega)]
   simp [runsB, runsF]
  | cons x l =>
   simp only [List.length_cons] at hd hl hf
   obtain ⟨f, rfl⟩ : ∃ g, f = g + 1 := ⟨f - 1, by omega⟩
   have hle := lead_le x l
   have hu : u64 ((lead x l + 1 : Nat) : Int) := by unfold u64; omega
   rw [runsB_cons, rr, if_pos (by omega), List.append_assoc, List.append_assoc, aUint_enc hu]
   simp only
   rw [if_pos trivial, if_neg (by omega), aInt_enc hI.head]
   simp only
   rw [if_pos trivial, if_neg (hb x rfl)]
   have hs := lead_split x l
   have hnx := lead_next x l
   have hdl : (l.drop (lead x l)).length = l.length - lead x l := List.length_drop
   generalize hm : l.drop (lead x l) = m at *
   rw [ih m _ f (by omega) (by simp; omega) (by omega) (fun y hy => hI y (by rw [hs]; simp [hy])) ?_]
   ·rw [Int.toNat_natCast, List.replicate_succ, List.append_assoc, List.cons_append]
    rw [← hs]
   ·intro y hy he
    rw [Int.toNat_natCast, List.getLast?_append] at he
    simp [List.getLast?_replicate] at he
    exact hnx (he ▸ hy)
theorem rr_dec (n : Nat) : ∀ (f : Nat) (r out l r' : List Int), Bs r → out.length ≤ n → n ≤ out.length + f → rr n f r out = (l, 0, r') → ∃ m, l = out ++ m ∧ l.length = n ∧ I64 m ∧ r = runsB m ++ r' ∧ (∀ x, m.head? = some x → out.getLast? ≠ some x) := by
 intro f
 induction f with
 | zero =>
  intro r out l r' hB h1 h2 h
  rw [rr] at h
  simp only [Prod.mk.injEq] at h
  obtain ⟨rfl, _, rfl⟩ := h
  exact ⟨[], by simp, by omega, I64.nil, by simp [runsB, runsF], by simp⟩
 | succ f ih =>
  intro r out l r' hB h1 h2 h
  by_cases hlt : out.length < n
  ·rw [rr, if_pos hlt] at h
   rcases hu : aUint r 0 with ⟨t, r1, e1⟩
   have hB1 : Bs r1 := by have := aUint_Bs hB 0; rw [hu] at this; exact this
   rw [hu] at h
   simp only at h
   by_cases he : e1 = 0
   ·subst he
    obtain ⟨hr, hut⟩ := aUint_dec hB hu
    obtain ⟨u0, u1⟩ := hut
    rw [if_pos rfl] at h
    by_cases hc : t = 0 ∨ ((n - out.length : Nat) : Int) < t
    ·rw [if_pos hc] at h; simp at h
    ·rw [if_neg hc] at h
     rcases hi : aInt r1 0 with ⟨x, r2, e2⟩
     have hB2 : Bs r2 := by have := aInt_Bs hB1 0; rw [hi] at this; exact this
     rw [hi] at h
     simp only at h
     by_cases he2 : e2 = 0
     ·subst he2
      obtain ⟨hr1, hx⟩ := aInt_dec hB1 hi
      rw [if_pos rfl] at h
      by_cases hl : out.getLast? = some x
      ·rw [if_pos hl] at h; simp at h
      ·rw [if_neg hl] at h
       have ht1 : 1 ≤ t.toNat := by omega
       obtain ⟨m, a1, a2, a3, a4, a5⟩ := ih r2 (out ++ List.replicate t.toNat x) l r' hB2 (by simp; omega) (by simp; omega) h
       have hmx : m.head? ≠ some x := by
        intro e
        refine a5 x e ?_
        rw [List.getLast?_append]
        simp [List.getLast?_replicate]; omega
       refine ⟨List.replicate t.toNat x ++ m, by rw [a1, List.append_assoc], a2, I64.app (fun y hy => by rw [(List.mem_replicate.1 hy).2]; exact hx) a3, ?_, ?_⟩
       ·rw [runsB_rep ht1 x m hmx, Int.toNat_of_nonneg u0, hr, hr1, a4]; simp [List.append_assoc]
       ·intro y hy
        obtain ⟨s, hs⟩ : ∃ s, t.toNat = s + 1 := ⟨t.toNat - 1, by omega⟩
        rw [hs, List.replicate_succ] at hy
        simp at hy
        exact hy ▸ hl
     ·rw [if_neg he2] at h; simp at h; exact absurd h.2.1 he2
   ·rw [if_neg he] at h; simp at h; exact absurd h.2.1 he
  ·rw [rr, if_neg hlt] at h
   simp only [Prod.mk.injEq] at h
   obtain ⟨rfl, _, rfl⟩ := h
   exact ⟨[], by simp, by omega, I64.nil, by simp [runsB, runsF], by simp⟩
end Go.Proofs.Ytgeddoklmcjdcaa.G
namespace Go.Proofs.Ytgeddoklmcjdcaa.G
open Go.RowKit Go.Proofs.YtgeddoklmcjdcaaQ Go.Proofs.YtgeddoklmcjdcaaW.PrintWords Go.Proofs.YtgeddoklmcjdcaaW.PrintLast Go.Proofs.YtgeddoklmcjdcaaW.PrintMore
set_option linter.unusedVariables false
set_option linter.unusedSimpArgs false
theorem mn_le (a b : Int) : mn a b ≤ a ∧ mn a b ≤ b ∧ (mn a b = a ∨ mn a b = b) := by unfold mn; split <;> omega
theorem fold_mn : ∀ (l : List Int) (x : Int), l.foldl mn x ≤ x ∧ (∀ y ∈ l, l.foldl mn x ≤ y) ∧ (l.foldl mn x = x ∨ l.foldl mn x ∈ l)
 | [], x => ⟨Int.le_refl _, (fun _ h => by cases h), .inl rfl⟩
 | y :: l, x => by
  obtain ⟨h1, h2, h3⟩ := fold_mn l (mn x y)
  obtain ⟨m1, m2, m3⟩ := mn_le x y
  rw [List.foldl_cons]
  refine ⟨by omega, fun z hz => ?_, ?_⟩
  ·rcases List.mem_cons.1 hz with rfl | hz
   ·omega
   ·exact h2 z hz
  ·rcases h3 with h3 | h3
   ·rcases m3 with m3 | m3
    ·left; omega
    ·right; rw [h3, m3]; exact List.mem_cons_self
   ·right; exact List.mem_cons_of_mem _ h3
def minL : List Int → Int
 | [] => 0
 | x :: l => l.foldl mn x
theorem minL_le {l : List Int} {x : Int} (h : x ∈ l) : minL l ≤ x := by
 cases l with
 | nil => cases h
 | cons y l =>
  obtain ⟨h1, h2, _⟩ := fold_mn l y
  rcases List.mem_cons.1 h with rfl | h
  ·exact h1
  ·exact h2 x h
theorem minL_mem {l : List Int} (h : l ≠ []) : minL l ∈ l := by
 cases l with
 | nil => exact absurd rfl h
 | cons y l =>
  obtain ⟨_, _, h3⟩ := fold_mn l y
  rcases h3 with h3 | h3
  ·show l.foldl mn y ∈ _; rw [h3]; exact List.mem_cons_self
  ·exact List.mem_cons_of_mem _ h3
theorem minL_i64 {l : List Int} (h : l ≠ []) (hI : I64 l) : i64 (minL l) := hI _ (minL_mem h)
def offs (a : Int) (l : List Int) : List Nat := l.map fun x => (x - a).toNat
def back (a : Int) (o : List Nat) : List Int := o.map fun (x : Nat) => wrap64 (a + (x : Int))
theorem offs_len (a : Int) (l : List Int) : (offs a l).length = l.length := by simp [offs]
theorem back_len (a : Int) (o : List Nat) : (back a o).length = o.length := by simp [back]
theorem back_I64 (a : Int) (o : List Nat) : I64 (back a o) := by
 intro x hx
 obtain ⟨y, _, rfl⟩ := List.mem_map.1 hx
 exact wrap_i64 _
theorem back_offs {a : Int} {l : List Int} (hI : I64 l) (ha : ∀ x ∈ l, a ≤ x) : back a (offs a l) = l := by
 unfold back offs
 rw [List.map_map]
 refine (List.map_congr_left (fun x hx => ?_)).trans (List.map_id l)
 have h1 := ha x hx
 obtain ⟨h2, h3⟩ := hI x hx
 simp only [Function.comp, id]
 rw [Int.toNat_of_nonneg (by omega)]
 unfold wrap64; omega
theorem offs_back {a : Int} (hi : i64 a) {o : List Nat} (ho : ∀ x ∈ o, x < 2 ^ 64) (ha : ∀ x ∈ back a o, a ≤ x) : offs a (back a o) = o := by
 unfold offs
 have e : ∀ x ∈ o, ((wrap64 (a + (x : Int))) - a).toNat = x := by
  intro x hx
  have h1 := ha _ (List.mem_map.2 ⟨x, hx, rfl⟩)
  have h2 := ho x hx
  obtain ⟨i0, i1⟩ := hi
  unfold wrap64 at *; omega
 unfold back
 rw [List.map_map]
 exact (List.map_congr_left (fun x hx => e x hx)).trans (List.map_id o)
theorem offs_64 {l : List Int} (hI : I64 l) : ∀ x ∈ offs (minL l) l, x < 2 ^ 64 := by
 intro x hx
 obtain ⟨y, hy, rfl⟩ := List.mem_map.1 hx
 have h1 := minL_le hy
 obtain ⟨a0, a1⟩ := hI y hy
 have hne : l ≠ [] := by rintro rfl; cases hy
 obtain ⟨b0, b1⟩ := minL_i64 hne hI
 omega
theorem wd_offs {l : List Int} (hI : I64 l) : wd (offs (minL l) l) ≤ 64 := wd_le.2 (offs_64 hI)
def packB (l : List Int) : List Int := if l = [] then [] else encI (minL l) ++ ((wd (offs (minL l) l) : Nat) : Int) :: ints (pk (wd (offs (minL l) l)) (offs (minL l) l))
def bp (n : Nat) (r : List Int) : List Int × Int × List Int :=
 if n = 0 then ([], 0, r)
 else if (aByte (aInt r 0).2.1 (aInt r 0).2.2).2.2 ≠ 0 then ([], (aByte (aInt r 0).2.1 (aInt r 0).2.2).2.2, [])
 else if 64 < (aByte (aInt r 0).2.1 (aInt r 0).2.2).1 then ([], 4, [])
 else bq n (aInt r 0).1 (aByte (aInt r 0).2.1 (aInt r 0).2.2).1.toNat (aByte (aInt r 0).2.1 (aInt r 0).2.2).2.1
where bq (n : Nat) (a : Int) (w : Nat) (r : List Int) : List Int × Int × List Int :=
 if r.length < need (n * w) then ([], 2, [])
 else if fitE (strOfNums (r.take (need (n * w)))) (n * w) ≠ 0 then ([], fitE (strOfNums (r.take (need (n * w)))) (n * w), [])
 else if minL (back a (dig (2 ^ w) n (num (strOfNums (r.take (need (n * w))))))) = a ∧ wd (dig (2 ^ w) n (num (strOfNums (r.take (need (n * w)))))) = w then
  (back a (dig (2 ^ w) n (num (strOfNums (r.take (need (n * w)))))), 0, r.drop (need (n * w))) else ([], 4, [])
theorem aByte_cons (b : Int) (r : List Int) : aByte (b :: r) 0 = (b, r, 0) := by unfold aByte; rw [if_pos rfl]
theorem aByte_err {r : List Int} {e : Int} (he : e ≠ 0) : aByte r e = (0, r, e) := by unfold aByte; rw [if_neg he]
theorem bp_enc {l : List Int} (hI : I64 l) (hl : l.length ≤ 65536) (rest : List Int) : bp l.length (packB l ++ rest) = (l, 0, rest) := by
 by_cases h0 : l = []
 ·subst h0; simp [bp, packB]
 ·have hn : l.length ≠ 0 := fun h => h0 (List.length_eq_zero_iff.1 h)
  have hw := wd_offs hI
  have ho := offs_64 hI
  have hlt : ∀ x ∈ offs (minL l) l, x < 2 ^ wd (offs (minL l) l) := wd_le.1 (Nat.le_refl _)
  have hb := back_offs hI (fun x hx => minL_le hx)
  have hln := offs_len (minL l) l
  have hmi := minL_i64 h0 hI
  have hp : packB l = encI (minL l) ++ ((wd (offs (minL l) l) : Nat) : Int) :: ints (pk (wd (offs (minL l) l)) (offs (minL l) l)) := by unfold packB; rw [if_neg h0]
  obtain ⟨o, hoo⟩ : ∃ o, offs (minL l) l = o := ⟨_, rfl⟩
  obtain ⟨a, haa⟩ : ∃ a, minL l = a := ⟨_, rfl⟩
  rw [haa] at hoo
  rw [haa, hoo] at hw ho hlt hb hln hp
  rw [haa] at hmi
  obtain ⟨w, hww⟩ : ∃ w, wd o = w := ⟨_, rfl⟩
  rw [hww] at hw hlt hp
  have hfit := fit_pk hlt
  have hback := back_pk hlt
  rw [hln] at hfit hback
  have hpl : (ints (pk w o)).length = need (l.length * w) := by rw [ints_len, pk_len, hln]
  rw [hp, List.append_assoc, List.cons_append]
  unfold bp
  rw [if_neg hn, aInt_enc hmi]
  simp only
  rw [aByte_cons]
  simp only
  rw [if_neg (by simp), if_neg (by omega), Int.toNat_natCast]
  unfold bp.bq
  have ht : (ints (pk w o) ++ rest).take (need (l.length * w)) = ints (pk w o) := by rw [← hpl, List.take_left]
  have hd : (ints (pk w o) ++ rest).drop (need (l.length * w)) = rest := by rw [← hpl, List.drop_left]
  rw [ht, hd, if_neg (by rw [List.length_append, hpl]; omega), if_neg (by rw [hfit]; simp), hback, hb, if_pos ⟨haa, hww⟩]
theorem bp_dec {n : Nat} {r l r' : List Int} (hB : Bs r) (hn : n ≤ 65536) (h : bp n r = (l, 0, r')) : l.length = n ∧ I64 l ∧ r = packB l ++ r' := by
 unfold bp at h
 by_cases h0 : n = 0
 ·rw [if_pos h0] at h
  simp only [Prod.mk.injEq] at h
  obtain ⟨rfl, _, rfl⟩ := h
  exact ⟨h0.symm, I64.nil, by simp [packB]⟩
 ·rw [if_neg h0] at h
  rcases hi : aInt r 0 with ⟨a, r1, e1⟩
  have hB1 : Bs r1 := by have := aInt_Bs hB 0; rw [hi] at this; exact this
  rw [hi] at h
  simp only at h
  by_cases he1 : e1 = 0
  ·subst he1
   obtain ⟨hr, hia⟩ := aInt_dec hB hi
   cases r1 with
   | nil => rw [show aByte [] 0 = (0, [], 2) from rfl] at h; simp at h
   | cons b r2 =>
    obtain ⟨b0, b1⟩ := hB1.head
    have hB2 := hB1.tail
    rw [aByte_cons] at h
    simp only at h
    rw [if_neg (by simp)] at h
    by_cases hw : 64 < b
    ·rw [if_pos hw] at h; simp at h
    ·rw [if_neg hw] at h
     obtain ⟨w, rfl⟩ : ∃ w : Nat, b = (w : Int) := ⟨b.toNat, by omega⟩
     rw [Int.toNat_natCast] at h
     unfold bp.bq at h
     by_cases c1 : r2.length < need (n * w)
     ·rw [if_pos c1] at h; simp at h
     ·rw [if_neg c1] at h
      by_cases c2 : fitE (strOfNums (r2.take (need (n * w)))) (n * w) ≠ 0
      ·rw [if_pos c2] at h; simp at h; exact absurd h.2.1 c2
      ·rw [if_neg c2] at h
       by_cases c3 : minL (back a (dig (2 ^ w) n (num (strOfNums (r2.take (need (n * w))))))) = a ∧ wd (dig (2 ^ w) n (num (strOfNums (r2.take (need (n * w)))))) = w
       ·rw [if_pos c3] at h
        obtain ⟨c3, c4⟩ := c3
        simp only [Prod.mk.injEq] at h
        obtain ⟨hl, _, hr'⟩ := h
        have hBt := hB2.take (need (n * w))
        obtain ⟨f1, f2⟩ := fitE_zero.1 (Classical.not_not.1 c2)
        obtain ⟨s, hs⟩ : ∃ s, strOfNums (r2.take (need (n * w))) = s := ⟨_, rfl⟩
        rw [hs] at c3 c4 hl f1 f2
        have hsb : bytesOf s = r2.take (need (n * w)) := by rw [← hs, bytesOf_strOfNums hBt]
        have hpk : pk w (dig (2 ^ w) n (num s)) = natsOf s := by
         unfold num at f2 ⊢
         exact pk_unpk (natsOf_lt s) (by rw [natsOf_len]; exact f1) f2
        have hdl : (dig (2 ^ w) n (num s)).length = n := dig_len _ _ _
        have hdlt := dig_lt (p2 w) n (num s)
        obtain ⟨o, ho⟩ : ∃ o, dig (2 ^ w) n (num s) = o := ⟨_, rfl⟩
        rw [ho] at c3 c4 hl hpk hdl hdlt
        have hll : l.length = n := by rw [← hl, back_len, hdl]
        have hne : l ≠ [] := by rintro rfl; simp at hll; omega
        have h64 : ∀ x ∈ o, x < 2 ^ 64 := fun x hx => Nat.lt_of_lt_of_le (hdlt x hx) (Nat.pow_le_pow_right (by omega) (by omega))
        rw [hl] at c3
        have hof : offs a l = o := by rw [← hl]; exact offs_back hia h64 (fun x hx => by rw [hl] at hx; have := minL_le hx; omega)
        refine ⟨hll, by rw [← hl]; exact back_I64 _ _, ?_⟩
        unfold packB
        rw [if_neg hne, c3, hof, c4, hpk, ints_natsOf, hsb, hr, ← hr', List.append_assoc, List.cons_append, List.take_append_drop]
       ·rw [if_neg c3] at h; simp at h
  ·rw [aByte_err he1] at h
   simp only at h
   rw [if_pos he1] at h
   simp at h; exact absurd h.2.1 he1
def body (a : Int) (n : Nat) (r : List Int) : List Int × Int × List Int :=
 if a = 0 then ((rp n r 0 []).1, (rp n r 0 []).2.2, (rp n r 0 []).2.1)
 else if a = 1 then (psum 0 (rp n r 0 []).1, (rp n r 0 []).2.2, (rp n r 0 []).2.1)
 else if a = 2 then rr n n r [] else bp n r
def enc (a : Int) (l : List Int) : List Int := if a = 0 then encL l else if a = 1 then encL (deltas 0 l) else if a = 2 then runsB l else packB l
theorem body_enc (a : Int) {l : List Int} (hI : I64 l) (hl : l.length ≤ 65536) (rest : List Int) : body a l.length (enc a l ++ rest) = (l, 0, rest) := by
 unfold body enc
 by_cases c0 : a = 0
 ·rw [if_pos c0, if_pos c0, rp_enc l rest [] hI]; rfl
 ·rw [if_neg c0, if_neg c0]
  by_cases c1 : a = 1
  ·have h := rp_enc (deltas 0 l) rest [] (deltas_I64 l 0)
   rw [deltas_len] at h
   rw [if_pos c1, if_pos c1, h, List.nil_append, psum_deltas l 0 hI]
  ·rw [if_neg c1, if_neg c1]
   by_cases c2 : a = 2
   ·rw [if_pos c2, if_pos c2]
    have := rr_enc l.length hl rest l.length l [] l.length (Nat.le_refl _) (by simp) (Nat.le_refl _) hI (by simp)
    simpa using this
   ·rw [if_neg c2, if_neg c2]; exact bp_enc hI hl rest
theorem body_dec (a : Int) {n : Nat} {r l r' : List Int} (hB : Bs r) (hn : n ≤ 65536) (h : body a n r = (l, 0, r')) : l.length = n ∧ I64 l ∧ r = enc a l ++ r' := by
 unfold body at h
 unfold enc
 by_cases c0 : a = 0
 ·rw [if_pos c0] at h ⊢
  simp only [Prod.mk.injEq] at h
  obtain ⟨h1, h2, h3⟩ := h
  obtain ⟨m, h4, h5, h6, h7⟩ := rp_dec n r [] l r' hB (Prod.ext h1 (Prod.ext h3 h2))
  rw [List.nil_append] at h4
  subst h4
  exact ⟨h5, h6, h7⟩
 ·rw [if_neg c0] at h ⊢
  by_cases c1 : a = 1
  ·rw [if_pos c1] at h ⊢
   simp only [Prod.mk.injEq] at h
   obtain ⟨h1, h2, h3⟩ := h
   obtain ⟨m, h4, h5, h6, h7⟩ := rp_dec n r [] _ r' hB (Prod.ext rfl (Prod.ext h3 h2))
   rw [List.nil_append] at h4
   replace h4 : (rp n r 0 []).fst = m := h4
   rw [h4] at h1
   subst h1
   exact ⟨by rw [psum_len, h5], psum_I64 m 0, by rw [deltas_psum m 0 h6]; exact h7⟩
  ·rw [if_neg c1] at h ⊢
   by_cases c2 : a = 2
   ·rw [if_pos c2] at h ⊢
    obtain ⟨m, h1, h2, h3, h4, _⟩ := rr_dec n n r [] l r' hB (by simp) (by simp) h
    rw [List.nil_append] at h1
    subst h1
    exact ⟨h2, h3, h4⟩
   ·rw [if_neg c2] at h ⊢
    exact bp_dec hB hn h
def EN (a : Int) (l : List Int) : List Int := a :: (encU (l.length : Int) ++ enc a l)
def DR (bs : List Int) : List Int × Int :=
 if (aByte bs 0).2.2 = 0 ∧ 4 ≤ (aByte bs 0).1 then ([], 4)
 else if (aUint (aByte bs 0).2.1 (aByte bs 0).2.2).2.2 ≠ 0 then ([], (aUint (aByte bs 0).2.1 (aByte bs 0).2.2).2.2)
 else if 65536 < (aUint (aByte bs 0).2.1 (aByte bs 0).2.2).1 then ([], 3)
 else DB (body (aByte bs 0).1 (aUint (aByte bs 0).2.1 (aByte bs 0).2.2).1.toNat (aUint (aByte bs 0).2.1 (aByte bs 0).2.2).2.1)
where DB (t : List Int × Int × List Int) : List Int × Int := if t.2.1 ≠ 0 then ([], t.2.1) else if t.2.2 = [] then (t.1, 0) else ([], 5)
theorem DR_EN {a : Int} (h0 : 0 ≤ a) (h4 : a < 4) {l : List Int} (hI : I64 l) (hl : l.length ≤ 65536) : DR (EN a l) = (l, 0) := by
 have hu : u64 (l.length : Int) := by unfold u64; omega
 have hb := body_enc a hI hl []
 rw [List.append_nil] at hb
 unfold DR EN
 rw [aByte_cons]
 simp only
 rw [if_neg (by omega), aUint_enc hu]
 simp only
 rw [if_neg (by simp), if_neg (by omega), Int.toNat_natCast, hb]
 rfl
theorem runsF_Bs : ∀ (f : Nat) (l : List Int), I64 l → l.length ≤ 65536 → Bs (runsF f l)
 | 0, _, _, _ => Bs.nil
 | f + 1, [], _, _ => Bs.nil
 | f + 1, x :: l, h, hl => by
  have hle := lead_le x l
  simp only [List.length_cons] at hl
  rw [runsF]
  exact ((encU_Bs (by unfold u64; omega)).app (encI_Bs h.head)).app (runsF_Bs f _ (fun y hy => h.tail y (List.mem_of_mem_drop hy)) (by rw [List.length_drop]; omega))
end Go.Proofs.Ytgeddoklmcjdcaa.G
namespace Go.Proofs.Ytgeddoklmcjdcaa.G
open Go.RowKit Go.Proofs.YtgeddoklmcjdcaaQ Go.Proofs.YtgeddoklmcjdcaaW.PrintWords Go.Proofs.YtgeddoklmcjdcaaW.PrintLast Go.Proofs.YtgeddoklmcjdcaaW.PrintMore
set_option linter.unusedVariables false
set_option linter.unusedSimpArgs false
theorem drop_rd {l : List Int} {i : Nat} (h : i < l.length) : l.drop i = rd l (i : Int) :: l.drop (i + 1) := by
 rw [List.drop_eq_getElem_cons h]
 unfold rd
 rw [Int.toNat_natCast, List.getD_eq_getElem?_getD, List.getElem?_eq_getElem h]; rfl
theorem rd_mem {l : List Int} {i : Nat} (h : i < l.length) : rd l (i : Int) ∈ l := by
 unfold rd
 rw [Int.toNat_natCast, List.getD_eq_getElem?_getD, List.getElem?_eq_getElem h]; exact List.getElem_mem h
theorem next_i {i n : Nat} (h : i ≤ 1000000000) : wrap64 ((i : Int) + 1) = ((i + 1 : Nat) : Int) := by rw [w64 (by omega) (by omega)]; rfl
theorem encI_len {x : Int} : (encI x).length ≤ 9 := (encU_len (fold x)).2
theorem Plain_l0 {l : List Int} (hI : I64 l) (hl : l.length ≤ 65536) : ∀ (d k i : Nat) (b : List Int), i + d = l.length → d + 12 < k → b.length + 9 * d ≤ 100000000 → ints_writePlain.l0 k b l (l.length : Int) i = some (b ++ encL (l.drop i)) := by
 intro d
 induction d with
 | zero =>
  intro k i b hi hk hb
  obtain ⟨k, rfl⟩ : ∃ m, k = m + 1 := ⟨k - 1, by omega⟩
  simp only [ints_writePlain.l0]
  rw [if_neg (by omega), List.drop_eq_nil_of_le (by omega)]
  simp [encL]
 | succ d ih =>
  intro k i b hi hk hb
  obtain ⟨k, rfl⟩ : ∃ m, k = m + 1 := ⟨k - 1, by omega⟩
  have hlt : i < l.length := by omega
  have h9 := encI_len (x := rd l (i : Int))
  simp only [ints_writePlain.l0]
  rw [if_pos (by omega), if_pos (by omega), if_pos (by omega), Int_f (by omega) (by omega) (hI _ (rd_mem hlt)), Option.bind_some, next_i (n := 0) (by omega), ih k (i + 1) _ (by omega) (by omega) (by rw [List.length_append]; omega), drop_rd hlt]
  simp [encL]
theorem Plain_f {l : List Int} (hI : I64 l) (hl : l.length ≤ 65536) {k : Nat} (hk : 70000 < k) {b : List Int} (hb : b.length ≤ 100) : ints_writePlain.f k b l = some (b ++ encL l) := by
 unfold ints_writePlain.f
 exact Plain_l0 hI hl l.length k 0 b (by omega) (by omega) (by omega)
theorem Delta_l0 {l : List Int} (hI : I64 l) (hl : l.length ≤ 65536) : ∀ (d k i : Nat) (a : Int) (b : List Int), i + d = l.length → d + 12 < k → b.length + 9 * d ≤ 100000000 → ints_writeDelta.l0 k b a l (l.length : Int) i = some (b ++ encL (deltas a (l.drop i))) := by
 intro d
 induction d with
 | zero =>
  intro k i a b hi hk hb
  obtain ⟨k, rfl⟩ : ∃ m, k = m + 1 := ⟨k - 1, by omega⟩
  simp only [ints_writeDelta.l0]
  rw [if_neg (by omega), List.drop_eq_nil_of_le (by omega)]
  simp [encL, deltas]
 | succ d ih =>
  intro k i a b hi hk hb
  obtain ⟨k, rfl⟩ : ∃ m, k = m + 1 := ⟨k - 1, by omega⟩
  have hlt : i < l.length := by omega
  have h9 := encI_len (x := wrap64 (rd l (i : Int) - a))
  simp only [ints_writeDelta.l0]
  rw [if_pos (by omega), if_pos (by omega), if_pos (by omega), Int_f (by omega) (by omega) (wrap_i64 _), Option.bind_some, next_i (n := 0) (by omega), ih k (i + 1) _ _ (by omega) (by omega) (by rw [List.length_append]; omega), drop_rd hlt, deltas]
  simp [encL]
theorem Delta_f {l : List Int} (hI : I64 l) (hl : l.length ≤ 65536) {k : Nat} (hk : 70000 < k) {b : List Int} (hb : b.length ≤ 100) : ints_writeDelta.f k b l = some (b ++ encL (deltas 0 l)) := by
 unfold ints_writeDelta.f
 exact Delta_l0 hI hl l.length k 0 0 b (by omega) (by omega) (by omega)
theorem lead_at (x : Int) : ∀ (l : List Int) (j : Nat), j < lead x l → rd (x :: l) ((j + 1 : Nat) : Int) = x
 | [], j, h => by simp [lead] at h
 | y :: l, j, h => by
  unfold lead at h
  split at h
  ·rename_i hy
   cases j with
   | zero => simp [rd, hy]
   | succ j =>
    have := lead_at x l j (by omega)
    simp only [rd, Int.toNat_natCast, List.getD_eq_getElem?_getD, List.getElem?_cons_succ] at this ⊢
    exact this
  ·omega
theorem lead_end (x : Int) : ∀ (l : List Int), lead x l < l.length → rd (x :: l) ((lead x l + 1 : Nat) : Int) ≠ x
 | [], h => by simp [lead] at h
 | y :: l, h => by
  unfold lead at h ⊢
  split
  ·rename_i hy
   rw [if_pos hy] at h
   have := lead_end x l (by simp at h; omega)
   simp only [rd, Int.toNat_natCast, List.getD_eq_getElem?_getD, List.getElem?_cons_succ] at this ⊢
   exact this
  ·rename_i hy
   simpa [rd] using hy
theorem Runs_l1 {x : Int} {l : List Int} (hI : I64 (x :: l)) (hl : l.length < 65536) (b : List Int) (hb : b.length ≤ 100000000) (k0 : Nat) (hk0 : 12 < k0) (R : List Int)
  (h0 : ∀ k, k0 ≤ k → ints_writeRuns.l0 k (b ++ encU ((lead x l + 1 : Nat) : Int) ++ encI x) (l.drop (lead x l)) = some R) :
  ∀ (d k i : Nat), i + d = lead x l → d + k0 < k → ints_writeRuns.l1 k b (x :: l) ((i + 1 : Nat) : Int) = some R := by
 have hle := lead_le x l
 have hx0 : rd (x :: l) 0 = x := rfl
 have hlen : (x :: l).length = l.length + 1 := rfl
 have hu : u64 ((lead x l + 1 : Nat) : Int) := by unfold u64; omega
 have h1 : ∀ k, 12 < k → ((tally_Uint.f k b (IntKind.u64.wrap ((lead x l + 1 : Nat) : Int))).bind fun t => (tally_Int.f k t (rd (x :: l) 0)).bind fun t2 => ints_writeRuns.l0 k t2 ((x :: l).drop (((lead x l + 1 : Nat) : Int)).toNat)) = ints_writeRuns.l0 k (b ++ encU ((lead x l + 1 : Nat) : Int) ++ encI x) (l.drop (lead x l)) := by
  intro k hk
  have h9 := encU_len ((lead x l + 1 : Nat) : Int)
  rw [wu64 (by omega) (by omega), Uint_f (by omega) (by omega) hu, Option.bind_some, hx0, Int_f (by omega) (by rw [List.length_append]; omega) hI.head, Option.bind_some, Int.toNat_natCast, List.drop_succ_cons]
 intro d
 induction d with
 | zero =>
  intro k i hi hk
  obtain ⟨k, rfl⟩ : ∃ m, k = m + 1 := ⟨k - 1, by omega⟩
  obtain rfl : i = lead x l := by omega
  simp only [ints_writeRuns.l1, hlen]
  by_cases hend : lead x l < l.length
  ·have hne := lead_end x l hend
   rw [if_pos (by omega), if_pos (by omega), if_pos (by omega), hx0, if_neg hne]
   have h2 := h1 k (by omega)
   rw [hx0] at h2
   have h3 := h2.trans (h0 k (by omega))
   rw [← h3]
   congr 1; funext t; congr 1; funext t2
   rw [if_pos (by omega)]
  ·rw [if_neg (by omega)]
   have h3 := (h1 k (by omega)).trans (h0 k (by omega))
   rw [← h3]
   congr 1; funext t
   rw [if_pos (by omega)]
   congr 1; funext t2
   rw [if_pos (by omega), if_pos (by omega)]
 | succ d ih =>
  intro k i hi hk
  obtain ⟨k, rfl⟩ : ∃ m, k = m + 1 := ⟨k - 1, by omega⟩
  simp only [ints_writeRuns.l1, hlen]
  rw [if_pos (by omega), if_pos (by omega), if_pos (by omega), hx0, if_pos (lead_at x l i (by omega)), next_i (n := 0) (by omega)]
  exact ih k (i + 1) (by omega) (by omega)
theorem Runs_l0 : ∀ (d : Nat) (l : List Int) (b : List Int) (k : Nat), l.length ≤ d → d ≤ 65536 → I64 l → b.length + 20 * d ≤ 100000000 → 2 * l.length + 20 < k → ints_writeRuns.l0 k b l = some (b ++ runsB l) := by
 intro d
 induction d with
 | zero =>
  intro l b k hl hd hI hb hk
  have : l = [] := List.length_eq_zero_iff.1 (by omega)
  subst this
  obtain ⟨k, rfl⟩ : ∃ m, k = m + 1 := ⟨k - 1, by omega⟩
  simp only [ints_writeRuns.l0]
  rw [if_neg (by simp)]; simp [runsB, runsF]
 | succ d ih =>
  intro l b k hl hd hI hb hk
  obtain ⟨k, rfl⟩ : ∃ m, k = m + 1 := ⟨k - 1, by omega⟩
  cases l with
  | nil =>
   simp only [ints_writeRuns.l0]
   rw [if_neg (by simp)]; simp [runsB, runsF]
  | cons x l =>
   simp only [List.length_cons] at hl hk
   have hle := lead_le x l
   have h9 := encU_len ((lead x l + 1 : Nat) : Int)
   have h9' := encI_len (x := x)
   have hI2 : I64 (l.drop (lead x l)) := fun y hy => hI.tail y (List.mem_of_mem_drop hy)
   simp only [ints_writeRuns.l0]
   rw [if_pos (by simp)]
   refine Runs_l1 hI (by omega) b (by omega) (2 * (l.length - lead x l) + 21) (by omega) _ (fun k' hk' => ?_) (lead x l) k 0 (by omega) (by omega)
   rw [ih (l.drop (lead x l)) (b ++ encU ((lead x l + 1 : Nat) : Int) ++ encI x) k' (by rw [List.length_drop]; omega) (by omega) hI2 (by rw [List.length_append, List.length_append]; omega) (by rw [List.length_drop]; omega), runsB_cons]
   simp only [List.append_assoc]
theorem Runs_f {l : List Int} (hI : I64 l) (hl : l.length ≤ 65536) {k : Nat} (hk : 140000 < k) {b : List Int} (hb : b.length ≤ 100) : ints_writeRuns.f k b l = some (b ++ runsB l) := by
 unfold ints_writeRuns.f
 exact Runs_l0 65536 l b k hl (Nat.le_refl _) hI (by omega) (by omega)
theorem Min_l0 {l : List Int} (hl : l.length ≤ 65536) : ∀ (d k i : Nat) (m : Int), i + d = l.length → d < k → slices_Min_int64_int64.l0 k l m i = some ((l.drop i).foldl mn m) := by
 intro d
 induction d with
 | zero =>
  intro k i m hi hk
  obtain ⟨k, rfl⟩ : ∃ m, k = m + 1 := ⟨k - 1, by omega⟩
  simp only [slices_Min_int64_int64.l0]
  rw [if_neg (by omega), List.drop_eq_nil_of_le (by omega)]; rfl
 | succ d ih =>
  intro k i m hi hk
  obtain ⟨k, rfl⟩ : ∃ m, k = m + 1 := ⟨k - 1, by omega⟩
  simp only [slices_Min_int64_int64.l0]
  rw [if_pos (by omega), if_pos (by omega), next_i (n := 0) (by omega), ih k (i + 1) _ (by omega) (by omega), drop_rd (l := l) (i := i) (by omega)]; rfl
theorem Min_f {l : List Int} (h0 : l ≠ []) (hl : l.length ≤ 65536) {k : Nat} (hk : 65540 < k) : slices_Min_int64_int64.f k l = some (minL l) := by
 cases l with
 | nil => exact absurd rfl h0
 | cons x l =>
  unfold slices_Min_int64_int64.f
  simp only [List.length_cons] at hl ⊢
  rw [if_neg (by omega), if_pos (by omega)]
  have := Min_l0 (l := x :: l) (by simpa using hl) l.length k 1 (rd (x :: l) 0) (by simp; omega) (by omega)
  exact this
theorem Above_l0 {l : List Int} {a : Int} (hI : I64 l) (ha : ∀ x ∈ l, a ≤ x) (hai : i64 a) (hl : l.length ≤ 65536) : ∀ (d k i : Nat) (b : List Int), i + d = l.length → d < k → b.length ≤ i → ints_above.l0 k a b l (l.length : Int) i = some (b ++ ints (offs a (l.drop i))) := by
 intro d
 induction d with
 | zero =>
  intro k i b hi hk hb
  obtain ⟨k, rfl⟩ : ∃ m, k = m + 1 := ⟨k - 1, by omega⟩
  simp only [ints_above.l0]
  rw [if_neg (by omega), List.drop_eq_nil_of_le (by omega)]; simp [offs, ints]
 | succ d ih =>
  intro k i b hi hk hb
  obtain ⟨k, rfl⟩ : ∃ m, k = m + 1 := ⟨k - 1, by omega⟩
  have hlt : i < l.length := by omega
  have h1 := hI _ (rd_mem hlt)
  have h2 := ha _ (rd_mem hlt)
  obtain ⟨x, hx⟩ : ∃ x, rd l (i : Int) = x := ⟨_, rfl⟩
  have e : IntKind.u64.wrap (wrap64 (x - a)) = (((x - a).toNat : Nat) : Int) := by
   rw [hx] at h1 h2
   obtain ⟨a0, a1⟩ := h1; obtain ⟨b0, b1⟩ := hai
   rw [wu64_def]; unfold wrap64; omega
  simp only [ints_above.l0]
  rw [if_pos (by omega), if_pos (by omega), if_pos (by omega), if_pos (by omega), next_i (n := 0) (by omega), hx, e, ih k (i + 1) _ (by omega) (by omega) (by simp; omega), drop_rd hlt, hx]
  simp [offs, ints]
theorem Above_f {l : List Int} {a : Int} (hI : I64 l) (ha : ∀ x ∈ l, a ≤ x) (hai : i64 a) (hl : l.length ≤ 65536) {k : Nat} (hk : 65540 < k) : ints_above.f k l a = some (ints (offs a l)) := by
 unfold ints_above.f
 exact Above_l0 hI ha hai hl l.length k 0 [] (by omega) (by omega) (by simp)
theorem Packed_f {l : List Int} (hI : I64 l) (hl : l.length ≤ 65536) {k : Nat} (hk : 70000 < k) {b : List Int} (hb : b.length ≤ 100) : ints_writePacked.f k b l = some (b ++ packB l) := by
 unfold ints_writePacked.f packB
 by_cases h0 : l = []
 ·subst h0; simp
 ·have hne : ¬ (l.length : Int) = 0 := fun h => h0 (List.length_eq_zero_iff.1 (by omega))
  have hw := wd_offs hI
  have ho := offs_64 hI
  have hln := offs_len (minL l) l
  have hmi := minL_i64 h0 hI
  have h9 := encI_len (x := minL l)
  have hU : U64 (ints (offs (minL l) l)) := ints_U64 (w := 64) (by omega) ho
  have hpl := pk_len (wd (offs (minL l) l)) (offs (minL l) l)
  have hnd : need (l.length * wd (offs (minL l) l)) ≤ 65536 * 64 := by
   have : l.length * wd (offs (minL l) l) ≤ 65536 * 64 := Nat.mul_le_mul hl hw
   unfold need; omega
  rw [if_neg hne, if_neg h0, Min_f h0 hl (by omega), Option.bind_some, Above_f hI (fun x hx => minL_le hx) hmi hl (by omega), Option.bind_some,
   bits_Pack.wid (by rw [ints_len, hln]; omega) hU (by rw [ints_len, hln]; omega), Option.bind_some, unats_ints, Pack_ok (by rw [ints_len, hln]; omega) hU hw (by rw [unats_ints]; exact Nat.le_refl _), Option.bind_some, unats_ints]
  rw [hln] at hpl
  simp only
  rw [Int_f (by omega) (by omega) hmi, Option.bind_some, if_pos (by rw [List.length_append]; omega), Option.bind_some, size_ints, hpl, if_pos (by rw [List.length_append, List.length_append]; simp; omega), bytesOf_strOfNums (ints_Bs (pk_lt _ _)), Int.emod_eq_of_lt (by omega) (by omega)]
  simp [List.append_assoc]
theorem With_f {l : List Int} (hI : I64 l) (a : Int) {k : Nat} (hk : 150000 < k) : ints_With.f k l a = some (if a < 0 ∨ 4 ≤ a then (⟨#[]⟩, 1) else if 65536 < l.length then (⟨#[]⟩, 3) else (strOfNums (EN a l), 0)) := by
 unfold ints_With.f
 by_cases c : a < 0 ∨ 4 ≤ a
 ·rw [if_pos c, if_pos c]
 ·rw [if_neg c, if_neg c]
  by_cases c2 : 65536 < l.length
  ·rw [if_pos c2, if_pos c2]
  ·rw [if_neg c2, if_neg c2]
   have h9 := encU_len (l.length : Int)
   have hb : ([a] ++ encU (l.length : Int)).length ≤ 100 := by rw [List.length_append]; simp; omega
   have hl : l.length ≤ 65536 := by omega
   rw [Uint_f (by omega) (by simp) (by unfold u64; omega), Option.bind_some]
   have e : ints_With.wr k a ([a] ++ encU (l.length : Int)) l = some (EN a l) := by
    unfold ints_With.wr EN enc
    split
    ·rw [Plain_f hI hl (by omega) hb]; simp
    ·split
     ·rw [Delta_f hI hl (by omega) hb]; simp
     ·split
      ·rw [Runs_f hI hl (by omega) hb]; simp
      ·rw [Packed_f hI hl (by omega) hb]; simp
   rw [e]; rfl
end Go.Proofs.Ytgeddoklmcjdcaa.G
