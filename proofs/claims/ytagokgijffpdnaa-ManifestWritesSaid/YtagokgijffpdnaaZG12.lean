import Derived.Test.YtagokgijffpdnaaZQA
import Derived.Test.YtagokgijffpdnaaZG10
import Derived.Test.YtagokgijffpdnaaZG5
namespace Go.Proofs.Ytagokgijffpdnaa.G
open Go.RowKit Go.Proofs.YtagokgijffpdnaaQ Go.Proofs.YtagokgijffpdnaaW.PrintWords Go.Proofs.YtagokgijffpdnaaW.PrintLast Go.Proofs.YtagokgijffpdnaaW.PrintMore
attribute [local go_sem] max2_int min2_int max_two min_two max_three min_three max_four min_four   -- for this text's walks alone
set_option linter.unusedVariables false
set_option linter.unusedSimpArgs false
mutual
def tithebarnref16_Right.j0 : Nat → Bool → List Int → List (S36) → Int → Int → Option (Bool)
 | 0, _, _, _, _, _ => none
 | k + 1, x26, x293000, x293001, x293002, x293003 => if x26 = true then (some false) else (tithebarnref16_Right.l0 k 0 x293000 x293001 x293002 x293003)
def tithebarnref16_Right.l0 : Nat → Int → List Int → List (S36) → Int → Int → Option (Bool)
 | 0, _, _, _, _, _ => none
 | k + 1, x3, x293000, x293001, x293002, x293003 => if x3 < (x293000.length : Int) then (if 0 ≤ x3 then ((tithebarnref16_number.f (rd x293000 x3)).bind fun t296 => (if t296 = true then (tithebarnref16_Right.l0 k (wrap64 (x3 + 1)) x293000 x293001 x293002 x293003) else (some false))) else (none)) else (tithebarnref16_Right.l1 k 0 x293000 x293001 x293002 x293003)
def tithebarnref16_Right.l1 : Nat → Int → List Int → List (S36) → Int → Int → Option (Bool)
 | 0, _, _, _, _, _ => none
 | k + 1, x4, x293000, x293001, x293002, x293003 => if x4 < (x293001.length : Int) then (if 0 ≤ x4 then ((tithebarnref16_part.f k ((rd_T36 x293001 x4).f0) ((rd_T36 x293001 x4).f1) ((rd_T36 x293001 x4).f2.f0) ((rd_T36 x293001 x4).f2.f1) ((rd_T36 x293001 x4).f2.f2) ((rd_T36 x293001 x4).f3.f0) ((rd_T36 x293001 x4).f3.f1) ((rd_T36 x293001 x4).f3.f2)).bind fun t298 => (if t298 = true then (tithebarnref16_Right.l1 k (wrap64 (x4 + 1)) x293000 x293001 x293002 x293003) else (some false))) else (none)) else (some true)
end
def tithebarnref16_Right.f (k : Nat) (l0_0 : List Int) (l0_1 : List (S36)) (a0_2 : Int) (a0_3 : Int) : Option (Bool) := if (l0_0.length : Int) > 1000 then (tithebarnref16_Right.j0 k true l0_0 l0_1 a0_2 a0_3) else (if (l0_1.length : Int) > 1000 then (tithebarnref16_Right.j0 k true l0_0 l0_1 a0_2 a0_3) else ((tithebarnref16_number.f a0_2).bind fun t293 => (if t293 = true then ((tithebarnref16_number.f a0_3).bind fun t294 => (tithebarnref16_Right.j0 k (!t294) l0_0 l0_1 a0_2 a0_3)) else (tithebarnref16_Right.j0 k true l0_0 l0_1 a0_2 a0_3))))
theorem tithebarnref16_Right.mono_l : ∀ k, (∀ y0 y1 y2 y3 y4, LeO (tithebarnref16_Right.j0 k y0 y1 y2 y3 y4) (tithebarnref16_Right.j0 (k + 1) y0 y1 y2 y3 y4)) ∧ (∀ y0 y1 y2 y3 y4, LeO (tithebarnref16_Right.l0 k y0 y1 y2 y3 y4) (tithebarnref16_Right.l0 (k + 1) y0 y1 y2 y3 y4)) ∧ (∀ y0 y1 y2 y3 y4, LeO (tithebarnref16_Right.l1 k y0 y1 y2 y3 y4) (tithebarnref16_Right.l1 (k + 1) y0 y1 y2 y3 y4))
 | 0 => ⟨fun _ _ _ _ _ r h => by simp [tithebarnref16_Right.j0] at h, fun _ _ _ _ _ r h => by simp [tithebarnref16_Right.l0] at h, fun _ _ _ _ _ r h => by simp [tithebarnref16_Right.l1] at h⟩
 | k + 1 => by
  obtain ⟨ih0, ih1, ih2⟩ := tithebarnref16_Right.mono_l k
  refine ⟨?_, ?_, ?_⟩
  ·intro y0 y1 y2 y3 y4
   unfold tithebarnref16_Right.j0
   repeat' first
   | (with_reducible exact ih0 _ _ _ _ _)
   | (with_reducible exact ih1 _ _ _ _ _)
   | (with_reducible exact ih2 _ _ _ _ _)
   | (with_reducible exact tithebarnref16_part.mono _ _ _ _ _ _ _ _ _)
   | (with_reducible exact LeO.refl _)
   | (with_reducible exact LeO.none _)
   | (with_reducible refine LeO.ite ?_ ?_)
   | (with_reducible refine LeO.bind ?_ (fun _ => ?_))
   | exact ih0 _ _ _ _ _
   | exact ih1 _ _ _ _ _
   | exact ih2 _ _ _ _ _
   | exact tithebarnref16_part.mono _ _ _ _ _ _ _ _ _
   | exact LeO.none _
   | refine LeO.ite ?_ ?_
   | refine LeO.bind ?_ (fun _ => ?_)
  ·intro y0 y1 y2 y3 y4
   unfold tithebarnref16_Right.l0
   repeat' first
   | (with_reducible exact ih0 _ _ _ _ _)
   | (with_reducible exact ih1 _ _ _ _ _)
   | (with_reducible exact ih2 _ _ _ _ _)
   | (with_reducible exact tithebarnref16_part.mono _ _ _ _ _ _ _ _ _)
   | (with_reducible exact LeO.refl _)
   | (with_reducible exact LeO.none _)
   | (with_reducible refine LeO.ite ?_ ?_)
   | (with_reducible refine LeO.bind ?_ (fun _ => ?_))
   | exact ih0 _ _ _ _ _
   | exact ih1 _ _ _ _ _
   | exact ih2 _ _ _ _ _
   | exact tithebarnref16_part.mono _ _ _ _ _ _ _ _ _
   | exact LeO.none _
   | refine LeO.ite ?_ ?_
   | refine LeO.bind ?_ (fun _ => ?_)
  ·intro y0 y1 y2 y3 y4
   unfold tithebarnref16_Right.l1
   repeat' first
   | (with_reducible exact ih0 _ _ _ _ _)
   | (with_reducible exact ih1 _ _ _ _ _)
   | (with_reducible exact ih2 _ _ _ _ _)
   | (with_reducible exact tithebarnref16_part.mono _ _ _ _ _ _ _ _ _)
   | (with_reducible exact LeO.refl _)
   | (with_reducible exact LeO.none _)
   | (with_reducible refine LeO.ite ?_ ?_)
   | (with_reducible refine LeO.bind ?_ (fun _ => ?_))
   | exact ih0 _ _ _ _ _
   | exact ih1 _ _ _ _ _
   | exact ih2 _ _ _ _ _
   | exact tithebarnref16_part.mono _ _ _ _ _ _ _ _ _
   | exact LeO.none _
   | refine LeO.ite ?_ ?_
   | refine LeO.bind ?_ (fun _ => ?_)
theorem tithebarnref16_Right.mono : ∀ a0 a1 a2 a3 k, LeO (tithebarnref16_Right.f k a0 a1 a2 a3) (tithebarnref16_Right.f (k + 1) a0 a1 a2 a3) := by
 intro a0 a1 a2 a3 k
 obtain ⟨ih0, ih1, ih2⟩ := tithebarnref16_Right.mono_l k
 unfold tithebarnref16_Right.f
 repeat' first
   | (with_reducible exact ih0 _ _ _ _ _)
   | (with_reducible exact ih1 _ _ _ _ _)
   | (with_reducible exact ih2 _ _ _ _ _)
   | (with_reducible exact tithebarnref16_part.mono _ _ _ _ _ _ _ _ _)
   | (with_reducible exact LeO.refl _)
   | (with_reducible exact LeO.none _)
   | (with_reducible refine LeO.ite ?_ ?_)
   | (with_reducible refine LeO.bind ?_ (fun _ => ?_))
   | exact ih0 _ _ _ _ _
   | exact ih1 _ _ _ _ _
   | exact ih2 _ _ _ _ _
   | exact tithebarnref16_part.mono _ _ _ _ _ _ _ _ _
   | exact LeO.none _
   | refine LeO.ite ?_ ?_
   | refine LeO.bind ?_ (fun _ => ?_)
set_option maxHeartbeats 8000000 in
set_option maxRecDepth 100000 in
theorem tithebarnref16_Right.calls (k : Nat) (A0_0 : Option Addr) (c0_0 : Nat) (l0_0 : List Int) (A0_1 : Option Addr) (c0_1 : Nat) (l0_1 : List (S36)) (a0_2 : Int) (a0_3 : Int) (r : Bool) (w : World) (hr0_0 : Kd.C (Kd.int .i64) w A0_0 l0_0.length l0_0) (hc0_0 : l0_0.length ≤ c0_0) (hr0_1 : Kd.C k36 w A0_1 l0_1.length l0_1) (hc0_1 : l0_1.length ≤ c0_1) (h : tithebarnref16_Right.f k l0_0 l0_1 a0_2 a0_3 = some r) :
  Calls Try.prog 23 #[.agg #[.slice A0_0 l0_0.length c0_0, .slice A0_1 l0_1.length c0_1, .int .i64 a0_2, .int .i64 a0_3]] w fun e w' => e = .returned (.bool r) ∧ Below w.heap.size w w' := by
 have hu32 := Try.underlying32
 have hu36 := Try.underlying36
 have HR0_0 := Aside0.mk hr0_0
 have HC0_0 := Aside0.mk hc0_0
 clear hr0_0 hc0_0
 have HR0_1 := Aside0.mk hr0_1
 have HC0_1 := Aside0.mk hc0_1
 clear hr0_1 hc0_1
 have HB := Aside0.mk (Below.refl w.heap.size w)
 have H : (if (l0_0.length : Int) > 1000 then (tithebarnref16_Right.j0 k true l0_0 l0_1 a0_2 a0_3) else (if (l0_1.length : Int) > 1000 then (tithebarnref16_Right.j0 k true l0_0 l0_1 a0_2 a0_3) else ((tithebarnref16_number.f a0_2).bind fun t293 => (if t293 = true then ((tithebarnref16_number.f a0_3).bind fun t294 => (tithebarnref16_Right.j0 k (!t294) l0_0 l0_1 a0_2 a0_3)) else (tithebarnref16_Right.j0 k true l0_0 l0_1 a0_2 a0_3))))) = some r := h
 clear h
 have HC2 := Aside0.mk H
 clear H
 go_enter Try.func23, Try.ntmps23
 go_upto_region 1 with (first | ((with_reducible refine gate_dst (N := 1) rfl ?_); (try (refine gate_guard (by rfl) ?_; dsimp only)); refine box_event ?hg (N := 1) ?hd (cs := #[.slice A0_0 l0_0.length c0_0, .slice A0_1 l0_1.length c0_1, .int .i64 a0_2, .int .i64 a0_3]) (t := 32) ?hr ?_; (case hd => rfl); (case hg => rfl); (case hr => first | (go_simp; done) | (go_simp; rfl)); intro gb292 hg w3 hbox hb; have n0_ := Aside0.mk (below_step z0_ hb); have n1_ := Aside0.mk (hbox); have n2_ := Aside0.mk ((by rw [hg]; exact (below_size z0_) : w.heap.size ≤ gb292)); have n3_ := Aside0.mk ((by rw [hg]; exact (below_size z0_) : w.heap.size ≤ gb292)); clear HB; have HB := n0_; have BK292 := n1_; have GW292 := n2_; have GE292 := n3_; clear n0_ n1_ n2_ n3_; clear hb hbox hg))
 (try simp only [Act.put, List.setIfInBounds_toArray, List.set_cons_zero, List.set_cons_succ])
 go_cut [26] (fun v26 wc => ∃ (kq : Nat) (x26_1 : Bool), v26 = .bool x26_1 ∧ Aside0 (tithebarnref16_Right.j0 kq x26_1 l0_0 l0_1 a0_2 a0_3 = some r) ∧ Aside0 (kq ≤ k) ∧ Aside0 (wc.heap[gb292]? = some (.cells #[(.slice A0_0 l0_0.length c0_0), (.slice A0_1 l0_1.length c0_1), .int .i64 a0_2, .int .i64 a0_3] 32 (0, 0))) ∧ Aside0 (Below w.heap.size w wc))
 case first =>
  have H := HC2.out
  clear HC2
  by_cases c4 : (l0_0.length : Int) > 1000
  ·rw [if_pos c4] at H
   have c4b0 : decide (1000 < (l0_0.length : Int)) = true := decide_eq_true c4
   have c4b1 : decide (1000 < l0_0.length) = true := decide_eq_true (by omega)
   clear c4
   (first | rw [c4b0] | (simp only [i64_w, i32_w]; rw [c4b0]) | skip)
   have H' := Aside0.mk H
   clear H
   have hcz5_0 : w3.cell? ⟨gb292, 0, none⟩ = some (.slice A0_0 l0_0.length c0_0) := (blk_cell BK292.out 0).trans rfl
   have hcz5_1 : w3.cell? ⟨gb292, 1, none⟩ = some (.slice A0_1 l0_1.length c0_1) := (blk_cell BK292.out 1).trans rfl
   have hcz5_2 : w3.cell? ⟨gb292, 2, none⟩ = some (.int .i64 a0_2) := (blk_cell BK292.out 2).trans rfl
   have hcz5_3 : w3.cell? ⟨gb292, 3, none⟩ = some (.int .i64 a0_3) := (blk_cell BK292.out 3).trans rfl
   have hfz5_0 := blk_frozen BK292.out 0
   have hfz5_1 := blk_frozen BK292.out 1
   have hfz5_2 := blk_frozen BK292.out 2
   have hfz5_3 := blk_frozen BK292.out 3
   go_wp2
   go_meet
   case rel => exact ⟨_, (true), z4_, H', ⟨by first | omega | exact Nat.le_refl _⟩, ⟨by (with_reducible repeat (first | refine blk_drewN ?_ _ | refine blk_drew ?_ | refine blk_alloc ?_ _)); exact BK292.out⟩, ⟨z9_⟩⟩
  ·rw [if_neg c4] at H
   have c4b0 : decide (1000 < (l0_0.length : Int)) = false := decide_eq_false c4
   have c4b1 : decide (1000 < l0_0.length) = false := decide_eq_false (by omega)
   clear c4
   (first | rw [c4b0] | (simp only [i64_w, i32_w]; rw [c4b0]) | skip)
   by_cases c6 : (l0_1.length : Int) > 1000
   ·rw [if_pos c6] at H
    have c6b0 : decide (1000 < (l0_1.length : Int)) = true := decide_eq_true c6
    have c6b1 : decide (1000 < l0_1.length) = true := decide_eq_true (by omega)
    clear c6
    have H' := Aside0.mk H
    clear H
    have hcz7_0 : w3.cell? ⟨gb292, 0, none⟩ = some (.slice A0_0 l0_0.length c0_0) := (blk_cell BK292.out 0).trans rfl
    have hcz7_1 : w3.cell? ⟨gb292, 1, none⟩ = some (.slice A0_1 l0_1.length c0_1) := (blk_cell BK292.out 1).trans rfl
    have hcz7_2 : w3.cell? ⟨gb292, 2, none⟩ = some (.int .i64 a0_2) := (blk_cell BK292.out 2).trans rfl
    have hcz7_3 : w3.cell? ⟨gb292, 3, none⟩ = some (.int .i64 a0_3) := (blk_cell BK292.out 3).trans rfl
    have hfz7_0 := blk_frozen BK292.out 0
    have hfz7_1 := blk_frozen BK292.out 1
    have hfz7_2 := blk_frozen BK292.out 2
    have hfz7_3 := blk_frozen BK292.out 3
    go_wp2
    go_meet
    case rel => exact ⟨_, (true), z4_, H', ⟨by first | omega | exact Nat.le_refl _⟩, ⟨by (with_reducible repeat (first | refine blk_drewN ?_ _ | refine blk_drew ?_ | refine blk_alloc ?_ _)); exact BK292.out⟩, ⟨z9_⟩⟩
   ·rw [if_neg c6] at H
    have c6b0 : decide (1000 < (l0_1.length : Int)) = false := decide_eq_false c6
    have c6b1 : decide (1000 < l0_1.length) = false := decide_eq_false (by omega)
    clear c6
    replace H := Option.bind_eq_some_iff.mp H
    obtain ⟨t293, A80, H⟩ := H
    replace H : (if t293 = true then ((tithebarnref16_number.f a0_3).bind fun t294 => (tithebarnref16_Right.j0 k (!t294) l0_0 l0_1 a0_2 a0_3)) else (tithebarnref16_Right.j0 k true l0_0 l0_1 a0_2 a0_3)) = some r := H
    have A8 := Aside0.mk A80
    clear A80
    by_cases c9 : t293 = true
    ·subst c9
     have H1 : ((tithebarnref16_number.f a0_3).bind fun t294 => (tithebarnref16_Right.j0 k (!t294) l0_0 l0_1 a0_2 a0_3)) = some r := by rw [if_pos rfl] at H; exact H
     clear H
     have H := H1
     clear H1
     replace H := Option.bind_eq_some_iff.mp H
     obtain ⟨t294, A100, H⟩ := H
     replace H : (tithebarnref16_Right.j0 k (!t294) l0_0 l0_1 a0_2 a0_3) = some r := H
     have A10 := Aside0.mk A100
     clear A100
     have H' := Aside0.mk H
     clear H
     have hcz11_0 : w3.cell? ⟨gb292, 0, none⟩ = some (.slice A0_0 l0_0.length c0_0) := (blk_cell BK292.out 0).trans rfl
     have hcz11_1 : w3.cell? ⟨gb292, 1, none⟩ = some (.slice A0_1 l0_1.length c0_1) := (blk_cell BK292.out 1).trans rfl
     have hcz11_2 : w3.cell? ⟨gb292, 2, none⟩ = some (.int .i64 a0_2) := (blk_cell BK292.out 2).trans rfl
     have hcz11_3 : w3.cell? ⟨gb292, 3, none⟩ = some (.int .i64 a0_3) := (blk_cell BK292.out 3).trans rfl
     have hfz11_0 := blk_frozen BK292.out 0
     have hfz11_1 := blk_frozen BK292.out 1
     have hfz11_2 := blk_frozen BK292.out 2
     have hfz11_3 := blk_frozen BK292.out 3
     go_wp2_with (first | (go_at_call 43; (with_reducible refine (tithebarnref16_number.calls a0_2 true _ A8.out).mono ?_); rintro e w' ⟨rfl, ⟨nd, rfl⟩⟩) | (go_at_call 43; (with_reducible refine (tithebarnref16_number.calls a0_3 t294 _ A10.out).mono ?_); rintro e w' ⟨rfl, ⟨nd, rfl⟩⟩))
     go_meet
     case rel => exact ⟨_, (!t294), z4_, H', ⟨by first | omega | exact Nat.le_refl _⟩, ⟨by (with_reducible repeat (first | refine blk_drewN ?_ _ | refine blk_drew ?_ | refine blk_alloc ?_ _)); exact BK292.out⟩, ⟨z9_⟩⟩
    ·replace c9 := Bool.eq_false_iff.mpr c9
     subst c9
     have H1 : (tithebarnref16_Right.j0 k true l0_0 l0_1 a0_2 a0_3) = some r := by rw [if_neg (show ¬ (false = true) by decide)] at H; exact H
     clear H
     have H := H1
     clear H1
     have H' := Aside0.mk H
     clear H
     have hcz12_0 : w3.cell? ⟨gb292, 0, none⟩ = some (.slice A0_0 l0_0.length c0_0) := (blk_cell BK292.out 0).trans rfl
     have hcz12_1 : w3.cell? ⟨gb292, 1, none⟩ = some (.slice A0_1 l0_1.length c0_1) := (blk_cell BK292.out 1).trans rfl
     have hcz12_2 : w3.cell? ⟨gb292, 2, none⟩ = some (.int .i64 a0_2) := (blk_cell BK292.out 2).trans rfl
     have hcz12_3 : w3.cell? ⟨gb292, 3, none⟩ = some (.int .i64 a0_3) := (blk_cell BK292.out 3).trans rfl
     have hfz12_0 := blk_frozen BK292.out 0
     have hfz12_1 := blk_frozen BK292.out 1
     have hfz12_2 := blk_frozen BK292.out 2
     have hfz12_3 := blk_frozen BK292.out 3
     go_wp2_with (first | (go_at_call 43; (with_reducible refine (tithebarnref16_number.calls a0_2 false _ A8.out).mono ?_); rintro e w' ⟨rfl, ⟨nd, rfl⟩⟩))
     go_meet
     case rel => exact ⟨_, (true), z4_, H', ⟨by first | omega | exact Nat.le_refl _⟩, ⟨by (with_reducible repeat (first | refine blk_drewN ?_ _ | refine blk_drew ?_ | refine blk_alloc ?_ _)); exact BK292.out⟩, ⟨z9_⟩⟩
 case rest =>
  clear HC2
  try clear c2
  try clear p2
  try clear c4
  try clear c4b0
  try clear c4b1
  try clear c6
  try clear c6b0
  try clear c6b1
  try clear c9
  try clear hcz11_0
  try clear hcz11_1
  try clear hcz11_2
  try clear hcz11_3
  try clear hcz12_0
  try clear hcz12_1
  try clear hcz12_2
  try clear hcz12_3
  try clear hcz5_0
  try clear hcz5_1
  try clear hcz5_2
  try clear hcz5_3
  try clear hcz7_0
  try clear hcz7_1
  try clear hcz7_2
  try clear hcz7_3
  try clear hfz11_0
  try clear hfz11_1
  try clear hfz11_2
  try clear hfz11_3
  try clear hfz12_0
  try clear hfz12_1
  try clear hfz12_2
  try clear hfz12_3
  try clear hfz5_0
  try clear hfz5_1
  try clear hfz5_2
  try clear hfz5_3
  try clear hfz7_0
  try clear hfz7_1
  try clear hfz7_2
  try clear hfz7_3
  obtain ⟨kq, x26_1, rfl, HA, HJ1, BK292, HB⟩ := hcut
  cases kq with
  | zero => exact absurd HA.out (by simp [tithebarnref16_Right.j0])
  | succ kj1 =>
   have H := HA.out
   clear HA
   simp only [tithebarnref16_Right.j0] at H
   by_cases c13 : x26_1 = true
   ·subst c13
    have H1 : (some false) = some r := by rw [if_pos rfl] at H; exact H
    clear H
    have H := H1
    clear H1
    obtain rfl := Option.some.inj H
    go_wp2
    go_ret
    exact ⟨z2_, z9_⟩
   ·replace c13 := Bool.eq_false_iff.mpr c13
    subst c13
    have H1 : (tithebarnref16_Right.l0 kj1 0 l0_0 l0_1 a0_2 a0_3) = some r := by rw [if_neg (show ¬ (false = true) by decide)] at H; exact H
    clear H
    have H := H1
    clear H1
    have H' := Aside0.mk H
    clear H
    go_wp2
    go_loopg [3] kj1 (fun kq v3 w' => ∃ (x3_2 : Int), v3 = .int .i64 x3_2 ∧ Aside0 (tithebarnref16_Right.l0 kq x3_2 l0_0 l0_1 a0_2 a0_3 = some r) ∧ Aside0 (kq ≤ kj1) ∧ Aside0 (w'.heap[gb292]? = some (.cells #[(.slice A0_0 l0_0.length c0_0), (.slice A0_1 l0_1.length c0_1), .int .i64 a0_2, .int .i64 a0_3] 32 (0, 0))) ∧ Aside0 (Below w.heap.size w w'))
    case atStart => exact ⟨(0), z4_, H', ⟨Nat.le_refl _⟩, ⟨by (with_reducible repeat (first | refine blk_drewN ?_ _ | refine blk_drew ?_ | refine blk_alloc ?_ _)); exact BK292.out⟩, ⟨z9_⟩⟩
    case round =>
     clear H'
     try clear c1
     try clear c2
     try clear p2
     try clear c4
     try clear c4b0
     try clear c4b1
     try clear c6
     try clear c6b0
     try clear c6b1
     try clear c9
     try clear c13
     try clear hcz11_0
     try clear hcz11_1
     try clear hcz11_2
     try clear hcz11_3
     try clear hcz12_0
     try clear hcz12_1
     try clear hcz12_2
     try clear hcz12_3
     try clear hcz5_0
     try clear hcz5_1
     try clear hcz5_2
     try clear hcz5_3
     try clear hcz7_0
     try clear hcz7_1
     try clear hcz7_2
     try clear hcz7_3
     try clear hfz11_0
     try clear hfz11_1
     try clear hfz11_2
     try clear hfz11_3
     try clear hfz12_0
     try clear hfz12_1
     try clear hfz12_2
     try clear hfz12_3
     try clear hfz5_0
     try clear hfz5_1
     try clear hfz5_2
     try clear hfz5_3
     try clear hfz7_0
     try clear hfz7_1
     try clear hfz7_2
     try clear hfz7_3
     try clear p2
     obtain ⟨x3_2, rfl, HA, HK2, BK292, HB⟩ := hrel
     cases gk with
     | zero => exact absurd HA.out (by simp [tithebarnref16_Right.l0])
     | succ k2 =>
      have H := HA.out
      clear HA
      simp only [tithebarnref16_Right.l0] at H
      by_cases c14 : x3_2 < (l0_0.length : Int)
      ·rw [if_pos c14] at H
       have c14b0 : decide (x3_2 < (l0_0.length : Int)) = true := decide_eq_true c14
       clear c14
       by_cases c15 : 0 ≤ x3_2
       ·rw [if_pos c15] at H
        have c15b0 : decide (0 ≤ x3_2) = true := decide_eq_true c15
        clear c15
        replace H := Option.bind_eq_some_iff.mp H
        obtain ⟨t296, A160, H⟩ := H
        replace H : (if t296 = true then (tithebarnref16_Right.l0 k2 (wrap64 (x3_2 + 1)) l0_0 l0_1 a0_2 a0_3) else (some false)) = some r := H
        have A16 := Aside0.mk A160
        clear A160
        by_cases c17 : t296 = true
        ·subst c17
         have H1 : (tithebarnref16_Right.l0 k2 (wrap64 (x3_2 + 1)) l0_0 l0_1 a0_2 a0_3) = some r := by rw [if_pos rfl] at H; exact H
         clear H
         have H := H1
         clear H1
         have H' := Aside0.mk H
         clear H
         have hcz18_0 : wr.cell? ⟨gb292, 0, none⟩ = some (.slice A0_0 l0_0.length c0_0) := (blk_cell BK292.out 0).trans rfl
         have hcz18_1 : wr.cell? ⟨gb292, 1, none⟩ = some (.slice A0_1 l0_1.length c0_1) := (blk_cell BK292.out 1).trans rfl
         have hcz18_2 : wr.cell? ⟨gb292, 2, none⟩ = some (.int .i64 a0_2) := (blk_cell BK292.out 2).trans rfl
         have hcz18_3 : wr.cell? ⟨gb292, 3, none⟩ = some (.int .i64 a0_3) := (blk_cell BK292.out 3).trans rfl
         have hfz18_0 := blk_frozen BK292.out 0
         have hfz18_1 := blk_frozen BK292.out 1
         have hfz18_2 := blk_frozen BK292.out 2
         have hfz18_3 := blk_frozen BK292.out 3
         have p295 : 0 ≤ (x3_2 : Int) := of_decide_eq_true z5_
         have q295 : x3_2 < (l0_0.length : Int) := of_decide_eq_true z5_
         obtain ⟨ad295, e295, hx295_0⟩ := Kd.at_int HR0_0.out x3_2 p295 q295
         cases e295
         replace hx295_0 := (HB.out.cell (World.block_lt_of_cell? w _ hx295_0)).trans hx295_0
         replace p295 := eq_true p295
         replace q295 := eq_true q295
         go_wp2_with (first | ((with_reducible refine gate_callee (f := 43) rfl ?_); refine goesL_ (some 39) rfl rfl Try.func43 (by kernel_rfl) rfl #[.int .i64 (rd l0_0 x3_2)] rfl (by (try simp only [List.map_toArray, List.map_cons, List.map_nil]); first | done | rfl | (simp only [List.length_drop, List.length_take]; rfl) | (go_simp; simp [IntKind.wrap, IntKind.bits, IntKind.signed]; omega)) ?_; (with_reducible refine (tithebarnref16_number.calls (rd l0_0 x3_2) true _ A16.out).mono ?_); rintro e w' ⟨rfl, ⟨nd, rfl⟩⟩; refine ⟨_, rfl, ?_⟩))
         go_roundg k2
         case measure => have := HJ1.out; have := HK2.out; omega
         case rel => exact ⟨(wrap64 (x3_2 + 1)), z4_, H', ⟨by have := HJ1.out; have := HK2.out; omega⟩, ⟨by (with_reducible repeat (first | refine blk_drewN ?_ _ | refine blk_drew ?_ | refine blk_alloc ?_ _)); exact BK292.out⟩, ⟨z9_⟩⟩
        ·replace c17 := Bool.eq_false_iff.mpr c17
         subst c17
         have H1 : (some false) = some r := by rw [if_neg (show ¬ (false = true) by decide)] at H; exact H
         clear H
         have H := H1
         clear H1
         obtain rfl := Option.some.inj H
         have hcz19_0 : wr.cell? ⟨gb292, 0, none⟩ = some (.slice A0_0 l0_0.length c0_0) := (blk_cell BK292.out 0).trans rfl
         have hcz19_1 : wr.cell? ⟨gb292, 1, none⟩ = some (.slice A0_1 l0_1.length c0_1) := (blk_cell BK292.out 1).trans rfl
         have hcz19_2 : wr.cell? ⟨gb292, 2, none⟩ = some (.int .i64 a0_2) := (blk_cell BK292.out 2).trans rfl
         have hcz19_3 : wr.cell? ⟨gb292, 3, none⟩ = some (.int .i64 a0_3) := (blk_cell BK292.out 3).trans rfl
         have hfz19_0 := blk_frozen BK292.out 0
         have hfz19_1 := blk_frozen BK292.out 1
         have hfz19_2 := blk_frozen BK292.out 2
         have hfz19_3 := blk_frozen BK292.out 3
         have p295 : 0 ≤ (x3_2 : Int) := of_decide_eq_true z5_
         have q295 : x3_2 < (l0_0.length : Int) := of_decide_eq_true z5_
         obtain ⟨ad295, e295, hx295_0⟩ := Kd.at_int HR0_0.out x3_2 p295 q295
         cases e295
         replace hx295_0 := (HB.out.cell (World.block_lt_of_cell? w _ hx295_0)).trans hx295_0
         replace p295 := eq_true p295
         replace q295 := eq_true q295
         go_wp2_with (first | ((with_reducible refine gate_callee (f := 43) rfl ?_); refine goesL_ (some 39) rfl rfl Try.func43 (by kernel_rfl) rfl #[.int .i64 (rd l0_0 x3_2)] rfl (by (try simp only [List.map_toArray, List.map_cons, List.map_nil]); first | done | rfl | (simp only [List.length_drop, List.length_take]; rfl) | (go_simp; simp [IntKind.wrap, IntKind.bits, IntKind.signed]; omega)) ?_; (with_reducible refine (tithebarnref16_number.calls (rd l0_0 x3_2) false _ A16.out).mono ?_); rintro e w' ⟨rfl, ⟨nd, rfl⟩⟩; refine ⟨_, rfl, ?_⟩))
         go_ret
         exact ⟨z2_, z9_⟩
       ·rw [if_neg c15] at H
        exact absurd H (by simp)
      ·rw [if_neg c14] at H
       have c14b0 : decide (x3_2 < (l0_0.length : Int)) = false := decide_eq_false c14
       clear c14
       have H' := Aside0.mk H
       clear H
       have hcz20_0 : wr.cell? ⟨gb292, 0, none⟩ = some (.slice A0_0 l0_0.length c0_0) := (blk_cell BK292.out 0).trans rfl
       have hcz20_1 : wr.cell? ⟨gb292, 1, none⟩ = some (.slice A0_1 l0_1.length c0_1) := (blk_cell BK292.out 1).trans rfl
       have hcz20_2 : wr.cell? ⟨gb292, 2, none⟩ = some (.int .i64 a0_2) := (blk_cell BK292.out 2).trans rfl
       have hcz20_3 : wr.cell? ⟨gb292, 3, none⟩ = some (.int .i64 a0_3) := (blk_cell BK292.out 3).trans rfl
       have hfz20_0 := blk_frozen BK292.out 0
       have hfz20_1 := blk_frozen BK292.out 1
       have hfz20_2 := blk_frozen BK292.out 2
       have hfz20_3 := blk_frozen BK292.out 3
       go_wp2
       go_loopg [4] k2 (fun kq v4 w' => ∃ (x4_3 : Int), v4 = .int .i64 x4_3 ∧ Aside0 (tithebarnref16_Right.l1 kq x4_3 l0_0 l0_1 a0_2 a0_3 = some r) ∧ Aside0 (kq ≤ k2) ∧ Aside0 (w'.heap[gb292]? = some (.cells #[(.slice A0_0 l0_0.length c0_0), (.slice A0_1 l0_1.length c0_1), .int .i64 a0_2, .int .i64 a0_3] 32 (0, 0))) ∧ Aside0 (Below w.heap.size w w'))
       case atStart => exact ⟨(0), z4_, H', ⟨Nat.le_refl _⟩, ⟨by (with_reducible repeat (first | refine blk_drewN ?_ _ | refine blk_drew ?_ | refine blk_alloc ?_ _)); exact BK292.out⟩, ⟨z9_⟩⟩
       case round =>
        clear H'
        try clear c1
        try clear c2
        try clear p2
        try clear q2
        try clear hx2
        try clear c4
        try clear c4b0
        try clear c4b1
        try clear c6
        try clear c6b0
        try clear c6b1
        try clear p6
        try clear c9
        try clear c13
        try clear c14
        try clear c14b0
        try clear c15
        try clear c15b0
        try clear c17
        try clear hcz11_0
        try clear hcz11_1
        try clear hcz11_2
        try clear hcz11_3
        try clear hcz12_0
        try clear hcz12_1
        try clear hcz12_2
        try clear hcz12_3
        try clear hcz18_0
        try clear hcz18_1
        try clear hcz18_2
        try clear hcz18_3
        try clear hcz19_0
        try clear hcz19_1
        try clear hcz19_2
        try clear hcz19_3
        try clear hcz20_0
        try clear hcz20_1
        try clear hcz20_2
        try clear hcz20_3
        try clear hcz5_0
        try clear hcz5_1
        try clear hcz5_2
        try clear hcz5_3
        try clear hcz7_0
        try clear hcz7_1
        try clear hcz7_2
        try clear hcz7_3
        try clear hfz11_0
        try clear hfz11_1
        try clear hfz11_2
        try clear hfz11_3
        try clear hfz12_0
        try clear hfz12_1
        try clear hfz12_2
        try clear hfz12_3
        try clear hfz18_0
        try clear hfz18_1
        try clear hfz18_2
        try clear hfz18_3
        try clear hfz19_0
        try clear hfz19_1
        try clear hfz19_2
        try clear hfz19_3
        try clear hfz20_0
        try clear hfz20_1
        try clear hfz20_2
        try clear hfz20_3
        try clear hfz5_0
        try clear hfz5_1
        try clear hfz5_2
        try clear hfz5_3
        try clear hfz7_0
        try clear hfz7_1
        try clear hfz7_2
        try clear hfz7_3
        try clear hx295_0
        try clear p2
        try clear p295
        try clear q295
        obtain ⟨x4_3, rfl, HA, HK3, BK292, HB⟩ := hrel
        cases gk with
        | zero => exact absurd HA.out (by simp [tithebarnref16_Right.l1])
        | succ k3 =>
         have H := HA.out
         clear HA
         simp only [tithebarnref16_Right.l1] at H
         by_cases c21 : x4_3 < (l0_1.length : Int)
         ·rw [if_pos c21] at H
          have c21b0 : decide (x4_3 < (l0_1.length : Int)) = true := decide_eq_true c21
          clear c21
          by_cases c22 : 0 ≤ x4_3
          ·rw [if_pos c22] at H
           have c22b0 : decide (0 ≤ x4_3) = true := decide_eq_true c22
           clear c22
           replace H := Option.bind_eq_some_iff.mp H
           obtain ⟨t298, A230, H⟩ := H
           replace H : (if t298 = true then (tithebarnref16_Right.l1 k3 (wrap64 (x4_3 + 1)) l0_0 l0_1 a0_2 a0_3) else (some false)) = some r := H
           have A23 := Aside0.mk A230
           clear A230
           by_cases c24 : t298 = true
           ·subst c24
            have H1 : (tithebarnref16_Right.l1 k3 (wrap64 (x4_3 + 1)) l0_0 l0_1 a0_2 a0_3) = some r := by rw [if_pos rfl] at H; exact H
            clear H
            have H := H1
            clear H1
            have H' := Aside0.mk H
            clear H
            have hcz25_0 : wr.cell? ⟨gb292, 0, none⟩ = some (.slice A0_0 l0_0.length c0_0) := (blk_cell BK292.out 0).trans rfl
            have hcz25_1 : wr.cell? ⟨gb292, 1, none⟩ = some (.slice A0_1 l0_1.length c0_1) := (blk_cell BK292.out 1).trans rfl
            have hcz25_2 : wr.cell? ⟨gb292, 2, none⟩ = some (.int .i64 a0_2) := (blk_cell BK292.out 2).trans rfl
            have hcz25_3 : wr.cell? ⟨gb292, 3, none⟩ = some (.int .i64 a0_3) := (blk_cell BK292.out 3).trans rfl
            have hfz25_0 := blk_frozen BK292.out 0
            have hfz25_1 := blk_frozen BK292.out 1
            have hfz25_2 := blk_frozen BK292.out 2
            have hfz25_3 := blk_frozen BK292.out 3
            have p297 : 0 ≤ (x4_3 : Int) := of_decide_eq_true z5_
            have q297 : x4_3 < (l0_1.length : Int) := of_decide_eq_true z5_
            obtain ⟨ad297, e297, hx297_0, hx297_1, hx297_2, hx297_3, hx297_4, hx297_5, hx297_6, hx297_7⟩ := at_T36 HR0_1.out x4_3 p297 q297
            cases e297
            replace hx297_0 := (HB.out.cell (World.block_lt_of_cell? w _ hx297_0)).trans hx297_0
            replace hx297_1 := (HB.out.cell (World.block_lt_of_cell? w _ hx297_1)).trans hx297_1
            replace hx297_2 := (HB.out.cell (World.block_lt_of_cell? w _ hx297_2)).trans hx297_2
            replace hx297_3 := (HB.out.cell (World.block_lt_of_cell? w _ hx297_3)).trans hx297_3
            replace hx297_4 := (HB.out.cell (World.block_lt_of_cell? w _ hx297_4)).trans hx297_4
            replace hx297_5 := (HB.out.cell (World.block_lt_of_cell? w _ hx297_5)).trans hx297_5
            replace hx297_6 := (HB.out.cell (World.block_lt_of_cell? w _ hx297_6)).trans hx297_6
            replace hx297_7 := (HB.out.cell (World.block_lt_of_cell? w _ hx297_7)).trans hx297_7
            replace p297 := eq_true p297
            replace q297 := eq_true q297
            go_wp2_with (first | ((with_reducible refine gate_callee (f := 44) rfl ?_); refine goesL_ (some 53) rfl rfl Try.func44 (by kernel_rfl) rfl #[.agg #[.int .i64 ((rd_T36 l0_1 x4_3).f0), .int .i64 ((rd_T36 l0_1 x4_3).f1), .bool ((rd_T36 l0_1 x4_3).f2.f0), .int .i64 ((rd_T36 l0_1 x4_3).f2.f1), .string ((rd_T36 l0_1 x4_3).f2.f2), .bool ((rd_T36 l0_1 x4_3).f3.f0), .int .i64 ((rd_T36 l0_1 x4_3).f3.f1), .string ((rd_T36 l0_1 x4_3).f3.f2)]] rfl (by (try simp only [List.map_toArray, List.map_cons, List.map_nil]); first | done | rfl | (simp only [List.length_drop, List.length_take]; rfl) | (go_simp; simp [IntKind.wrap, IntKind.bits, IntKind.signed]; omega)) ?_; (with_reducible refine (tithebarnref16_part.calls k3 ((rd_T36 l0_1 x4_3).f0) ((rd_T36 l0_1 x4_3).f1) ((rd_T36 l0_1 x4_3).f2.f0) ((rd_T36 l0_1 x4_3).f2.f1) ((rd_T36 l0_1 x4_3).f2.f2) ((rd_T36 l0_1 x4_3).f3.f0) ((rd_T36 l0_1 x4_3).f3.f1) ((rd_T36 l0_1 x4_3).f3.f2) true _ A23.out).mono ?_); rintro e w26 ⟨rfl, hb⟩; refine ⟨_, rfl, ?_⟩; have n0_ := Aside0.mk (blk_below (g := gb292) (o := .cells #[.slice A0_0 l0_0.length c0_0, .slice (some ad297) l0_1.length c0_1, .int .i64 a0_2, .int .i64 a0_3] 32 (0, 0)) (by (with_reducible repeat (first | refine blk_drewN ?_ _ | refine blk_drew ?_ | refine blk_alloc ?_ _)); exact BK292.out) hb); have n1_ := Aside0.mk (below_step z9_ hb); clear BK292; clear HB; have BK292 := n0_; have HB := n1_; clear n0_ n1_; (try clear hb); (try clear hb2); (try clear hk); (try clear hi)))
            go_roundg k3
            case measure => have := HJ1.out; have := HK2.out; have := HK3.out; omega
            case rel => exact ⟨(wrap64 (x4_3 + 1)), z4_, H', ⟨by have := HJ1.out; have := HK2.out; have := HK3.out; omega⟩, ⟨by (with_reducible repeat (first | refine blk_drewN ?_ _ | refine blk_drew ?_ | refine blk_alloc ?_ _)); exact BK292.out⟩, ⟨z9_⟩⟩
           ·replace c24 := Bool.eq_false_iff.mpr c24
            subst c24
            have H1 : (some false) = some r := by rw [if_neg (show ¬ (false = true) by decide)] at H; exact H
            clear H
            have H := H1
            clear H1
            obtain rfl := Option.some.inj H
            have hcz27_0 : wr.cell? ⟨gb292, 0, none⟩ = some (.slice A0_0 l0_0.length c0_0) := (blk_cell BK292.out 0).trans rfl
            have hcz27_1 : wr.cell? ⟨gb292, 1, none⟩ = some (.slice A0_1 l0_1.length c0_1) := (blk_cell BK292.out 1).trans rfl
            have hcz27_2 : wr.cell? ⟨gb292, 2, none⟩ = some (.int .i64 a0_2) := (blk_cell BK292.out 2).trans rfl
            have hcz27_3 : wr.cell? ⟨gb292, 3, none⟩ = some (.int .i64 a0_3) := (blk_cell BK292.out 3).trans rfl
            have hfz27_0 := blk_frozen BK292.out 0
            have hfz27_1 := blk_frozen BK292.out 1
            have hfz27_2 := blk_frozen BK292.out 2
            have hfz27_3 := blk_frozen BK292.out 3
            have p297 : 0 ≤ (x4_3 : Int) := of_decide_eq_true z5_
            have q297 : x4_3 < (l0_1.length : Int) := of_decide_eq_true z5_
            obtain ⟨ad297, e297, hx297_0, hx297_1, hx297_2, hx297_3, hx297_4, hx297_5, hx297_6, hx297_7⟩ := at_T36 HR0_1.out x4_3 p297 q297
            cases e297
            replace hx297_0 := (HB.out.cell (World.block_lt_of_cell? w _ hx297_0)).trans hx297_0
            replace hx297_1 := (HB.out.cell (World.block_lt_of_cell? w _ hx297_1)).trans hx297_1
            replace hx297_2 := (HB.out.cell (World.block_lt_of_cell? w _ hx297_2)).trans hx297_2
            replace hx297_3 := (HB.out.cell (World.block_lt_of_cell? w _ hx297_3)).trans hx297_3
            replace hx297_4 := (HB.out.cell (World.block_lt_of_cell? w _ hx297_4)).trans hx297_4
            replace hx297_5 := (HB.out.cell (World.block_lt_of_cell? w _ hx297_5)).trans hx297_5
            replace hx297_6 := (HB.out.cell (World.block_lt_of_cell? w _ hx297_6)).trans hx297_6
            replace hx297_7 := (HB.out.cell (World.block_lt_of_cell? w _ hx297_7)).trans hx297_7
            replace p297 := eq_true p297
            replace q297 := eq_true q297
            go_wp2_with (first | ((with_reducible refine gate_callee (f := 44) rfl ?_); refine goesL_ (some 53) rfl rfl Try.func44 (by kernel_rfl) rfl #[.agg #[.int .i64 ((rd_T36 l0_1 x4_3).f0), .int .i64 ((rd_T36 l0_1 x4_3).f1), .bool ((rd_T36 l0_1 x4_3).f2.f0), .int .i64 ((rd_T36 l0_1 x4_3).f2.f1), .string ((rd_T36 l0_1 x4_3).f2.f2), .bool ((rd_T36 l0_1 x4_3).f3.f0), .int .i64 ((rd_T36 l0_1 x4_3).f3.f1), .string ((rd_T36 l0_1 x4_3).f3.f2)]] rfl (by (try simp only [List.map_toArray, List.map_cons, List.map_nil]); first | done | rfl | (simp only [List.length_drop, List.length_take]; rfl) | (go_simp; simp [IntKind.wrap, IntKind.bits, IntKind.signed]; omega)) ?_; (with_reducible refine (tithebarnref16_part.calls k3 ((rd_T36 l0_1 x4_3).f0) ((rd_T36 l0_1 x4_3).f1) ((rd_T36 l0_1 x4_3).f2.f0) ((rd_T36 l0_1 x4_3).f2.f1) ((rd_T36 l0_1 x4_3).f2.f2) ((rd_T36 l0_1 x4_3).f3.f0) ((rd_T36 l0_1 x4_3).f3.f1) ((rd_T36 l0_1 x4_3).f3.f2) false _ A23.out).mono ?_); rintro e w28 ⟨rfl, hb⟩; refine ⟨_, rfl, ?_⟩; have n0_ := Aside0.mk (blk_below (g := gb292) (o := .cells #[.slice A0_0 l0_0.length c0_0, .slice (some ad297) l0_1.length c0_1, .int .i64 a0_2, .int .i64 a0_3] 32 (0, 0)) (by (with_reducible repeat (first | refine blk_drewN ?_ _ | refine blk_drew ?_ | refine blk_alloc ?_ _)); exact BK292.out) hb); have n1_ := Aside0.mk (below_step z9_ hb); clear BK292; clear HB; have BK292 := n0_; have HB := n1_; clear n0_ n1_; (try clear hb); (try clear hb2); (try clear hk); (try clear hi)))
            go_ret
            exact ⟨z2_, z9_⟩
          ·rw [if_neg c22] at H
           exact absurd H (by simp)
         ·rw [if_neg c21] at H
          have c21b0 : decide (x4_3 < (l0_1.length : Int)) = false := decide_eq_false c21
          clear c21
          obtain rfl := Option.some.inj H
          have hcz29_0 : wr.cell? ⟨gb292, 0, none⟩ = some (.slice A0_0 l0_0.length c0_0) := (blk_cell BK292.out 0).trans rfl
          have hcz29_1 : wr.cell? ⟨gb292, 1, none⟩ = some (.slice A0_1 l0_1.length c0_1) := (blk_cell BK292.out 1).trans rfl
          have hcz29_2 : wr.cell? ⟨gb292, 2, none⟩ = some (.int .i64 a0_2) := (blk_cell BK292.out 2).trans rfl
          have hcz29_3 : wr.cell? ⟨gb292, 3, none⟩ = some (.int .i64 a0_3) := (blk_cell BK292.out 3).trans rfl
          have hfz29_0 := blk_frozen BK292.out 0
          have hfz29_1 := blk_frozen BK292.out 1
          have hfz29_2 := blk_frozen BK292.out 2
          have hfz29_3 := blk_frozen BK292.out 3
          go_wp2
          go_ret
          exact ⟨z2_, z9_⟩
mutual
def tithebarnref01_Uint.j0 : Nat → Int → Int → Int → Option (ByteArray)
 | 0, _, _, _ => none
 | k + 1, x0, x3, x4 => tithebarnref01_Uint.l0 k x0 x3 x4 ([] : List Int) (wrap64 (x3 - 1))
def tithebarnref01_Uint.l0 : Nat → Int → Int → Int → List Int → Int → Option (ByteArray)
 | 0, _, _, _, _, _ => none
 | k + 1, x0, x3, x4, x5, x6 => if x6 ≥ 0 then (if x6 < 8 then (if 0 ≤ (IntKind.u64.wrap (wrap64 (8 * x6))) then (if x6 = (wrap64 (x3 - 1)) then (if x5.length < 140737488355328 then (tithebarnref01_Uint.l0 k x0 x3 x4 (x5 ++ [((shr .u64 x0 (IntKind.u64.wrap (wrap64 (8 * x6)))) + x4) % 256]) (wrap64 (x6 - 1))) else (none)) else (if x5.length < 140737488355328 then (tithebarnref01_Uint.l0 k x0 x3 x4 (x5 ++ [(shr .u64 x0 (IntKind.u64.wrap (wrap64 (8 * x6)))) % 256]) (wrap64 (x6 - 1))) else (none))) else (none)) else (if x6 = (wrap64 (x3 - 1)) then (if x5.length < 140737488355328 then (tithebarnref01_Uint.l0 k x0 x3 x4 (x5 ++ [(x4) % 256]) (wrap64 (x6 - 1))) else (none)) else (if x5.length < 140737488355328 then (tithebarnref01_Uint.l0 k x0 x3 x4 (x5 ++ [0]) (wrap64 (x6 - 1))) else (none)))) else (some (strOfNums x5))
end
def tithebarnref01_Uint.f (k : Nat) (a0 : Int) : Option (ByteArray) := if a0 < 64 then (tithebarnref01_Uint.j0 k a0 1 0) else (if a0 < 16384 then (tithebarnref01_Uint.j0 k a0 2 64) else (if a0 < 1073741824 then (tithebarnref01_Uint.j0 k a0 4 128) else (tithebarnref01_Uint.j0 k a0 9 192)))
theorem tithebarnref01_Uint.mono_l : ∀ k, (∀ y0 y1 y2, LeO (tithebarnref01_Uint.j0 k y0 y1 y2) (tithebarnref01_Uint.j0 (k + 1) y0 y1 y2)) ∧ (∀ y0 y1 y2 y3 y4, LeO (tithebarnref01_Uint.l0 k y0 y1 y2 y3 y4) (tithebarnref01_Uint.l0 (k + 1) y0 y1 y2 y3 y4))
 | 0 => ⟨fun _ _ _ r h => by simp [tithebarnref01_Uint.j0] at h, fun _ _ _ _ _ r h => by simp [tithebarnref01_Uint.l0] at h⟩
 | k + 1 => by
  obtain ⟨ih0, ih1⟩ := tithebarnref01_Uint.mono_l k
  refine ⟨?_, ?_⟩
  ·intro y0 y1 y2
   unfold tithebarnref01_Uint.j0
   repeat' first
   | (with_reducible exact ih0 _ _ _)
   | (with_reducible exact ih1 _ _ _ _ _)
   | (with_reducible exact LeO.refl _)
   | (with_reducible exact LeO.none _)
   | (with_reducible refine LeO.ite ?_ ?_)
   | (with_reducible refine LeO.bind ?_ (fun _ => ?_))
   | exact ih0 _ _ _
   | exact ih1 _ _ _ _ _
   | exact LeO.none _
   | refine LeO.ite ?_ ?_
   | refine LeO.bind ?_ (fun _ => ?_)
  ·intro y0 y1 y2 y3 y4
   unfold tithebarnref01_Uint.l0
   repeat' first
   | (with_reducible exact ih0 _ _ _)
   | (with_reducible exact ih1 _ _ _ _ _)
   | (with_reducible exact LeO.refl _)
   | (with_reducible exact LeO.none _)
   | (with_reducible refine LeO.ite ?_ ?_)
   | (with_reducible refine LeO.bind ?_ (fun _ => ?_))
   | exact ih0 _ _ _
   | exact ih1 _ _ _ _ _
   | exact LeO.none _
   | refine LeO.ite ?_ ?_
   | refine LeO.bind ?_ (fun _ => ?_)
theorem tithebarnref01_Uint.mono : ∀ a0 k, LeO (tithebarnref01_Uint.f k a0) (tithebarnref01_Uint.f (k + 1) a0) := by
 intro a0 k
 obtain ⟨ih0, ih1⟩ := tithebarnref01_Uint.mono_l k
 unfold tithebarnref01_Uint.f
 repeat' first
   | (with_reducible exact ih0 _ _ _)
   | (with_reducible exact ih1 _ _ _ _ _)
   | (with_reducible exact LeO.refl _)
   | (with_reducible exact LeO.none _)
   | (with_reducible refine LeO.ite ?_ ?_)
   | (with_reducible refine LeO.bind ?_ (fun _ => ?_))
   | exact ih0 _ _ _
   | exact ih1 _ _ _ _ _
   | exact LeO.none _
   | refine LeO.ite ?_ ?_
   | refine LeO.bind ?_ (fun _ => ?_)
set_option maxHeartbeats 8000000 in
set_option maxRecDepth 100000 in
theorem tithebarnref01_Uint.calls (k : Nat) (a0 : Int) (r : ByteArray) (w : World) (h : tithebarnref01_Uint.f k a0 = some r) :
  Calls Try.prog 45 #[.int .u64 a0] w fun e w' => e = .returned (.string r) ∧ Below w.heap.size w w' := by
 have HB := Aside0.mk (Below.refl w.heap.size w)
 have H : (if a0 < 64 then (tithebarnref01_Uint.j0 k a0 1 0) else (if a0 < 16384 then (tithebarnref01_Uint.j0 k a0 2 64) else (if a0 < 1073741824 then (tithebarnref01_Uint.j0 k a0 4 128) else (tithebarnref01_Uint.j0 k a0 9 192)))) = some r := h
 clear h
 have HC2 := Aside0.mk H
 clear H
 go_enter Try.func45, Try.ntmps45
 go_upto_block 0 with (fail)
 go_cut [3, 4] (fun v3 v4 wc => ∃ (kq : Nat) (x3_1 : Int) (x4_1 : Int), v3 = .int .i64 x3_1 ∧ v4 = .int .u64 x4_1 ∧ Aside0 (tithebarnref01_Uint.j0 kq a0 x3_1 x4_1 = some r) ∧ Aside0 (kq ≤ k) ∧ Aside0 (Below w.heap.size w wc))
 case first =>
  have H := HC2.out
  clear HC2
  by_cases c3 : a0 < 64
  ·rw [if_pos c3] at H
   have c3b0 : decide (a0 < 64) = true := decide_eq_true c3
   clear c3
   (first | rw [c3b0] | (simp only [i64_w, i32_w]; rw [c3b0]) | skip)
   have H' := Aside0.mk H
   clear H
   go_wp2
   go_meet
   case rel => exact ⟨_, (1), (0), z4_, z4_, H', ⟨by first | omega | exact Nat.le_refl _⟩, ⟨z0_⟩⟩
  ·rw [if_neg c3] at H
   have c3b0 : decide (a0 < 64) = false := decide_eq_false c3
   clear c3
   (first | rw [c3b0] | (simp only [i64_w, i32_w]; rw [c3b0]) | skip)
   by_cases c4 : a0 < 16384
   ·rw [if_pos c4] at H
    have c4b0 : decide (a0 < 16384) = true := decide_eq_true c4
    clear c4
    have H' := Aside0.mk H
    clear H
    go_wp2
    go_meet
    case rel => exact ⟨_, (2), (64), z4_, z4_, H', ⟨by first | omega | exact Nat.le_refl _⟩, ⟨z0_⟩⟩
   ·rw [if_neg c4] at H
    have c4b0 : decide (a0 < 16384) = false := decide_eq_false c4
    clear c4
    by_cases c5 : a0 < 1073741824
    ·rw [if_pos c5] at H
     have c5b0 : decide (a0 < 1073741824) = true := decide_eq_true c5
     clear c5
     have H' := Aside0.mk H
     clear H
     go_wp2
     go_meet
     case rel => exact ⟨_, (4), (128), z4_, z4_, H', ⟨by first | omega | exact Nat.le_refl _⟩, ⟨z0_⟩⟩
    ·rw [if_neg c5] at H
     have c5b0 : decide (a0 < 1073741824) = false := decide_eq_false c5
     clear c5
     have H' := Aside0.mk H
     clear H
     go_wp2
     go_meet
     case rel => exact ⟨_, (9), (192), z4_, z4_, H', ⟨by first | omega | exact Nat.le_refl _⟩, ⟨z0_⟩⟩
 case rest =>
  clear HC2
  try clear p2
  try clear c3
  try clear c3b0
  try clear c4
  try clear c4b0
  try clear c5
  try clear c5b0
  obtain ⟨kq, x3_1, x4_1, rfl, rfl, HA, HJ1, HB⟩ := hcut
  cases kq with
  | zero => exact absurd HA.out (by simp [tithebarnref01_Uint.j0])
  | succ kj1 =>
   have H := HA.out
   clear HA
   simp only [tithebarnref01_Uint.j0] at H
   have H' := Aside0.mk H
   clear H
   go_wp2
   go_loopg [5, 6] kj1 (fun kq v5 v6 w' => ∃ (x5_2 : List Int) (x6_2 : Int), v6 = .int .i64 x6_2 ∧ Aside0 (tithebarnref01_Uint.l0 kq a0 x3_1 x4_1 x5_2 x6_2 = some r) ∧ Aside0 (kq ≤ kj1) ∧ Aside0 (Kd.R (Kd.int .u8) 5 w' w.heap.size (fun _ => True) v5 x5_2) ∧ Aside0 (Below w.heap.size w w'))
   case atStart => exact ⟨(([] : List Int)), (wrap64 (x3_1 - 1)), z4_, H', ⟨Nat.le_refl _⟩, ⟨z22_⟩, ⟨z0_⟩⟩
   case round =>
    clear H'
    try clear p2
    try clear c3
    try clear c3b0
    try clear c4
    try clear c4b0
    try clear c5
    try clear c5b0
    try clear p2
    obtain ⟨x5_2, x6_2, rfl, HA, HK2, HO_5, HB⟩ := hrel
    cases gk with
    | zero => exact absurd HA.out (by simp [tithebarnref01_Uint.l0])
    | succ k2 =>
     have H := HA.out
     clear HA
     simp only [tithebarnref01_Uint.l0] at H
     by_cases c6 : x6_2 ≥ 0
     ·rw [if_pos c6] at H
      have c6b0 : decide (0 ≤ x6_2) = true := decide_eq_true c6
      clear c6
      by_cases c7 : x6_2 < 8
      ·rw [if_pos c7] at H
       have c7b0 : decide (x6_2 < 8) = true := decide_eq_true c7
       clear c7
       obtain ⟨ji8, hji8⟩ : ∃ j_ : Int, (IntKind.u64.wrap (wrap64 (8 * x6_2))) = j_ := ⟨_, rfl⟩
       replace H : (if 0 ≤ (ji8) then (if x6_2 = (wrap64 (x3_1 - 1)) then (if x5_2.length < 140737488355328 then (tithebarnref01_Uint.l0 k2 a0 x3_1 x4_1 (x5_2 ++ [((shr .u64 a0 (ji8)) + x4_1) % 256]) (wrap64 (x6_2 - 1))) else (none)) else (if x5_2.length < 140737488355328 then (tithebarnref01_Uint.l0 k2 a0 x3_1 x4_1 (x5_2 ++ [(shr .u64 a0 (ji8)) % 256]) (wrap64 (x6_2 - 1))) else (none))) else (none)) = some r := by first | (rw [hji8] at H; exact H) | (simp only [hji8] at H ⊢; exact H)
       by_cases c9 : 0 ≤ (ji8)
       ·rw [if_pos c9] at H
        have c9b0 := eq_true c9
        have c9b1 : decide (0 ≤ (ji8)) = true := decide_eq_true c9
        clear c9
        obtain ⟨ji10, hji10⟩ : ∃ j_ : Int, (shr .u64 a0 (ji8)) = j_ := ⟨_, rfl⟩
        replace H : (if x6_2 = (wrap64 (x3_1 - 1)) then (if x5_2.length < 140737488355328 then (tithebarnref01_Uint.l0 k2 a0 x3_1 x4_1 (x5_2 ++ [((ji10) + x4_1) % 256]) (wrap64 (x6_2 - 1))) else (none)) else (if x5_2.length < 140737488355328 then (tithebarnref01_Uint.l0 k2 a0 x3_1 x4_1 (x5_2 ++ [(ji10) % 256]) (wrap64 (x6_2 - 1))) else (none))) = some r := by first | (rw [hji10] at H; exact H) | (simp only [hji10] at H ⊢; exact H)
        have hji10_ : (a0 / 2 ^ min (ji8).toNat 64) = ji10 := hji10
        have hji10z : (ji8) ≤ 64 → (a0 / 2 ^ (ji8).toNat) = ji10 := shr_small hji10
        by_cases c11 : x6_2 = (wrap64 (x3_1 - 1))
        ·rw [if_pos c11] at H
         have c11b0 : (x6_2 == (wrap64 (x3_1 - 1))) = true := beq_iff_eq.mpr c11
         have c11b1 : (x6_2 != (wrap64 (x3_1 - 1))) = false := bne_eq_false_iff_eq.mpr c11
         clear c11
         by_cases c12 : x5_2.length < 140737488355328
         ·rw [if_pos c12] at H
          have LMc12 := Aside0.mk c12
          clear c12
          obtain ⟨y299, hy299⟩ : ∃ y_ : List Int, y_ = (x5_2 ++ [((ji10) + x4_1) % 256]) := ⟨_, rfl⟩
          replace H : (tithebarnref01_Uint.l0 k2 a0 x3_1 x4_1 y299 (wrap64 (x6_2 - 1))) = some r := by first | (rw [hy299]; with_reducible exact H) | (have H2_ := (Option.bind_some _ _).symm.trans H; rw [hy299]; with_reducible exact H2_) | (have H2_ := (Option.bind_some _ _).symm.trans H; with_reducible exact H2_) | with_reducible exact H | (rw [hy299]; exact H) | exact H
          have Ny299 := Aside0.mk hy299
          clear hy299
          have H' := Aside0.mk H
          clear H
          go_wp2_with (first | ((with_reducible refine gate_builtin (b := .append) (xs := #[.tmp 39, .tmp 41]) rfl ?_); at_builtin; refine Kd.R_append (Kd.int .u8) (w0 := w) w.heap.size rfl (.tmp 39) (.tmp 41) 51 5 (.int .u8 0) 1 rfl Try.underlying51 info5 rfl (by decide) (by omega) u5 x5_2 (((ji10) + x4_1) % 256) [.int .u8 (((ji10) + x4_1) % 256)] (fun _ => True) (fun _ => False) rfl rfl ?aP (fun _ hk => hk.elim) ?aF ?aO ?aB ?aS ?aL ?_; (case aP => exact rfl); (case aB => exact z0_); (case aF => exact (fun _ _ => trivial)); (case aO => exact (by (with_reducible repeat (first | apply Kd.R_alloc | apply Kd.R_drewN | apply Kd.R_drew)); exact HO_5.out)); (case aS => exact (below_size z0_)); (case aL => have := LMc12.out; omega); intro v300 w13 ho hb hg hat; rw [← Ny299.out] at ho; have n0_ := Aside0.mk (hb); have n1_ := Aside0.mk (ho); clear HB; clear HO_5; have HB := n0_; have HO301 := n1_; clear n0_ n1_; clear ho hb hg hat))
          go_roundg k2
          case measure => have := HJ1.out; have := HK2.out; omega
          case rel => exact ⟨(y299), (wrap64 (x6_2 - 1)), z4_, H', ⟨by have := HJ1.out; have := HK2.out; omega⟩, ⟨by (with_reducible repeat (first | apply Kd.R_alloc | apply Kd.R_drewN | apply Kd.R_drew)); exact HO301.out⟩, ⟨z0_⟩⟩
         ·rw [if_neg c12] at H
          exact absurd H (by simp)
        ·rw [if_neg c11] at H
         have c11b0 : (x6_2 == (wrap64 (x3_1 - 1))) = false := beq_eq_false_iff_ne.mpr c11
         have c11b1 : (x6_2 != (wrap64 (x3_1 - 1))) = true := bne_iff_ne.mpr c11
         by_cases c14 : x5_2.length < 140737488355328
         ·rw [if_pos c14] at H
          have LMc14 := Aside0.mk c14
          clear c14
          obtain ⟨y302, hy302⟩ : ∃ y_ : List Int, y_ = (x5_2 ++ [(ji10) % 256]) := ⟨_, rfl⟩
          replace H : (tithebarnref01_Uint.l0 k2 a0 x3_1 x4_1 y302 (wrap64 (x6_2 - 1))) = some r := by first | (rw [hy302]; with_reducible exact H) | (have H2_ := (Option.bind_some _ _).symm.trans H; rw [hy302]; with_reducible exact H2_) | (have H2_ := (Option.bind_some _ _).symm.trans H; with_reducible exact H2_) | with_reducible exact H | (rw [hy302]; exact H) | exact H
          have Ny302 := Aside0.mk hy302
          clear hy302
          have H' := Aside0.mk H
          clear H
          go_wp2_with (first | ((with_reducible refine gate_builtin (b := .append) (xs := #[.tmp 39, .tmp 41]) rfl ?_); at_builtin; refine Kd.R_append (Kd.int .u8) (w0 := w) w.heap.size rfl (.tmp 39) (.tmp 41) 51 5 (.int .u8 0) 1 rfl Try.underlying51 info5 rfl (by decide) (by omega) u5 x5_2 ((ji10) % 256) [.int .u8 ((ji10) % 256)] (fun _ => True) (fun _ => False) rfl rfl ?aP (fun _ hk => hk.elim) ?aF ?aO ?aB ?aS ?aL ?_; (case aP => exact rfl); (case aB => exact z0_); (case aF => exact (fun _ _ => trivial)); (case aO => exact (by (with_reducible repeat (first | apply Kd.R_alloc | apply Kd.R_drewN | apply Kd.R_drew)); exact HO_5.out)); (case aS => exact (below_size z0_)); (case aL => have := LMc14.out; omega); intro v303 w15 ho hb hg hat; rw [← Ny302.out] at ho; have n0_ := Aside0.mk (hb); have n1_ := Aside0.mk (ho); clear HB; clear HO_5; have HB := n0_; have HO304 := n1_; clear n0_ n1_; clear ho hb hg hat))
          go_roundg k2
          case measure => have := HJ1.out; have := HK2.out; omega
          case rel => exact ⟨(y302), (wrap64 (x6_2 - 1)), z4_, H', ⟨by have := HJ1.out; have := HK2.out; omega⟩, ⟨by (with_reducible repeat (first | apply Kd.R_alloc | apply Kd.R_drewN | apply Kd.R_drew)); exact HO304.out⟩, ⟨z0_⟩⟩
         ·rw [if_neg c14] at H
          exact absurd H (by simp)
       ·rw [if_neg c9] at H
        exact absurd H (by simp)
      ·rw [if_neg c7] at H
       have c7b0 : decide (x6_2 < 8) = false := decide_eq_false c7
       clear c7
       by_cases c16 : x6_2 = (wrap64 (x3_1 - 1))
       ·rw [if_pos c16] at H
        have c16b0 : (x6_2 == (wrap64 (x3_1 - 1))) = true := beq_iff_eq.mpr c16
        have c16b1 : (x6_2 != (wrap64 (x3_1 - 1))) = false := bne_eq_false_iff_eq.mpr c16
        clear c16
        by_cases c17 : x5_2.length < 140737488355328
        ·rw [if_pos c17] at H
         have LMc17 := Aside0.mk c17
         clear c17
         obtain ⟨y305, hy305⟩ : ∃ y_ : List Int, y_ = (x5_2 ++ [(x4_1) % 256]) := ⟨_, rfl⟩
         replace H : (tithebarnref01_Uint.l0 k2 a0 x3_1 x4_1 y305 (wrap64 (x6_2 - 1))) = some r := by first | (rw [hy305]; with_reducible exact H) | (have H2_ := (Option.bind_some _ _).symm.trans H; rw [hy305]; with_reducible exact H2_) | (have H2_ := (Option.bind_some _ _).symm.trans H; with_reducible exact H2_) | with_reducible exact H | (rw [hy305]; exact H) | exact H
         have Ny305 := Aside0.mk hy305
         clear hy305
         have H' := Aside0.mk H
         clear H
         go_wp2_with (first | ((with_reducible refine gate_builtin (b := .append) (xs := #[.tmp 39, .tmp 41]) rfl ?_); at_builtin; refine Kd.R_append (Kd.int .u8) (w0 := w) w.heap.size rfl (.tmp 39) (.tmp 41) 51 5 (.int .u8 0) 1 rfl Try.underlying51 info5 rfl (by decide) (by omega) u5 x5_2 ((x4_1) % 256) [.int .u8 ((x4_1) % 256)] (fun _ => True) (fun _ => False) rfl rfl ?aP (fun _ hk => hk.elim) ?aF ?aO ?aB ?aS ?aL ?_; (case aP => exact rfl); (case aB => exact z0_); (case aF => exact (fun _ _ => trivial)); (case aO => exact (by (with_reducible repeat (first | apply Kd.R_alloc | apply Kd.R_drewN | apply Kd.R_drew)); exact HO_5.out)); (case aS => exact (below_size z0_)); (case aL => have := LMc17.out; omega); intro v306 w18 ho hb hg hat; rw [← Ny305.out] at ho; have n0_ := Aside0.mk (hb); have n1_ := Aside0.mk (ho); clear HB; clear HO_5; have HB := n0_; have HO307 := n1_; clear n0_ n1_; clear ho hb hg hat))
         go_roundg k2
         case measure => have := HJ1.out; have := HK2.out; omega
         case rel => exact ⟨(y305), (wrap64 (x6_2 - 1)), z4_, H', ⟨by have := HJ1.out; have := HK2.out; omega⟩, ⟨by (with_reducible repeat (first | apply Kd.R_alloc | apply Kd.R_drewN | apply Kd.R_drew)); exact HO307.out⟩, ⟨z0_⟩⟩
        ·rw [if_neg c17] at H
         exact absurd H (by simp)
       ·rw [if_neg c16] at H
        have c16b0 : (x6_2 == (wrap64 (x3_1 - 1))) = false := beq_eq_false_iff_ne.mpr c16
        have c16b1 : (x6_2 != (wrap64 (x3_1 - 1))) = true := bne_iff_ne.mpr c16
        by_cases c19 : x5_2.length < 140737488355328
        ·rw [if_pos c19] at H
         have LMc19 := Aside0.mk c19
         clear c19
         obtain ⟨y308, hy308⟩ : ∃ y_ : List Int, y_ = (x5_2 ++ [0]) := ⟨_, rfl⟩
         replace H : (tithebarnref01_Uint.l0 k2 a0 x3_1 x4_1 y308 (wrap64 (x6_2 - 1))) = some r := by first | (rw [hy308]; with_reducible exact H) | (have H2_ := (Option.bind_some _ _).symm.trans H; rw [hy308]; with_reducible exact H2_) | (have H2_ := (Option.bind_some _ _).symm.trans H; with_reducible exact H2_) | with_reducible exact H | (rw [hy308]; exact H) | exact H
         have Ny308 := Aside0.mk hy308
         clear hy308
         have H' := Aside0.mk H
         clear H
         go_wp2_with (first | ((with_reducible refine gate_builtin (b := .append) (xs := #[.tmp 39, .tmp 41]) rfl ?_); at_builtin; refine Kd.R_append (Kd.int .u8) (w0 := w) w.heap.size rfl (.tmp 39) (.tmp 41) 51 5 (.int .u8 0) 1 rfl Try.underlying51 info5 rfl (by decide) (by omega) u5 x5_2 0 [.int .u8 0] (fun _ => True) (fun _ => False) rfl rfl ?aP (fun _ hk => hk.elim) ?aF ?aO ?aB ?aS ?aL ?_; (case aP => exact rfl); (case aB => exact z0_); (case aF => exact (fun _ _ => trivial)); (case aO => exact (by (with_reducible repeat (first | apply Kd.R_alloc | apply Kd.R_drewN | apply Kd.R_drew)); exact HO_5.out)); (case aS => exact (below_size z0_)); (case aL => have := LMc19.out; omega); intro v309 w20 ho hb hg hat; rw [← Ny308.out] at ho; have n0_ := Aside0.mk (hb); have n1_ := Aside0.mk (ho); clear HB; clear HO_5; have HB := n0_; have HO310 := n1_; clear n0_ n1_; clear ho hb hg hat))
         go_roundg k2
         case measure => have := HJ1.out; have := HK2.out; omega
         case rel => exact ⟨(y308), (wrap64 (x6_2 - 1)), z4_, H', ⟨by have := HJ1.out; have := HK2.out; omega⟩, ⟨by (with_reducible repeat (first | apply Kd.R_alloc | apply Kd.R_drewN | apply Kd.R_drew)); exact HO310.out⟩, ⟨z0_⟩⟩
        ·rw [if_neg c19] at H
         exact absurd H (by simp)
     ·rw [if_neg c6] at H
      have c6b0 : decide (0 ≤ x6_2) = false := decide_eq_false c6
      clear c6
      obtain rfl := Option.some.inj H
      have hcv21 := own_string (P := Try.prog) Try.underlying51 Try.underlying5 Try.underlying9 (Kd.own_of_R HO_5.out)
      go_wp2
      go_ret
      exact ⟨z2_, z0_⟩
def tithebarnref16_num.f (k : Nat) (a0 : Int) : Option (ByteArray) := (tithebarnref01_Uint.f k (IntKind.u64.wrap (a0))).bind fun t311 => (some t311)
theorem tithebarnref16_num.mono : ∀ a0 k, LeO (tithebarnref16_num.f k a0) (tithebarnref16_num.f (k + 1) a0) := by
 intro a0 k
 unfold tithebarnref16_num.f
 repeat' first
   | (with_reducible exact tithebarnref01_Uint.mono _ _)
   | (with_reducible exact LeO.refl _)
   | (with_reducible exact LeO.none _)
   | (with_reducible refine LeO.ite ?_ ?_)
   | (with_reducible refine LeO.bind ?_ (fun _ => ?_))
   | exact tithebarnref01_Uint.mono _ _
   | exact LeO.none _
   | refine LeO.ite ?_ ?_
   | refine LeO.bind ?_ (fun _ => ?_)
set_option maxHeartbeats 8000000 in
set_option maxRecDepth 100000 in
theorem tithebarnref16_num.calls (k : Nat) (a0 : Int) (r : ByteArray) (w : World) (h : tithebarnref16_num.f k a0 = some r) :
  Calls Try.prog 24 #[.int .i64 a0] w fun e w' => e = .returned (.string r) ∧ Below w.heap.size w w' := by
 have HB := Aside0.mk (Below.refl w.heap.size w)
 have H : ((tithebarnref01_Uint.f k (IntKind.u64.wrap (a0))).bind fun t311 => (some t311)) = some r := h
 clear h
 replace H := Option.bind_eq_some_iff.mp H
 obtain ⟨t311, A20, H⟩ := H
 replace H : (some t311) = some r := H
 have A2 := Aside0.mk A20
 clear A20
 obtain rfl := Option.some.inj H
 go_enter Try.func24, Try.ntmps24
 go_wp2_with (first | ((with_reducible refine gate_callee (f := 45) rfl ?_); refine goesL_ (some 5) rfl rfl Try.func45 (by kernel_rfl) rfl #[.int .u64 (IntKind.u64.wrap (a0))] rfl (by (try simp only [List.map_toArray, List.map_cons, List.map_nil]); first | done | rfl | (simp only [List.length_drop, List.length_take]; rfl) | (go_simp; simp [IntKind.wrap, IntKind.bits, IntKind.signed]; omega)) ?_; (with_reducible refine (tithebarnref01_Uint.calls k (IntKind.u64.wrap (a0)) t311 _ A2.out).mono ?_); rintro e w3 ⟨rfl, hb⟩; refine ⟨_, rfl, ?_⟩; have n0_ := Aside0.mk (below_step z0_ hb); clear HB; have HB := n0_; clear n0_; (try clear hb); (try clear hb2); (try clear hk); (try clear hi)))
 go_ret
 exact ⟨z2_, z0_⟩
end Go.Proofs.Ytagokgijffpdnaa.G
namespace Go.Proofs.Ytagokgijffpdnaa.G
open Go.RowKit Go.Proofs.YtagokgijffpdnaaQ Go.Proofs.YtagokgijffpdnaaW.PrintWords Go.Proofs.YtagokgijffpdnaaW.PrintLast Go.Proofs.YtagokgijffpdnaaW.PrintMore
set_option linter.unusedVariables false
set_option linter.unusedSimpArgs false
theorem number_f (n : Int) : tithebarnref16_number.f n = some (!oddI n) := by
 unfold tithebarnref16_number.f oddI
 by_cases h : n ≥ 0
 ·rw [if_pos h, decide_eq_false (show ¬ n < 0 by omega), Bool.false_or]
  congr 1
  by_cases h2 : n ≤ 999999999
  ·rw [decide_eq_true h2, decide_eq_false (by omega)]; rfl
  ·rw [decide_eq_false h2, decide_eq_true (by omega)]; rfl
 ·rw [if_neg h, decide_eq_true (show n < 0 by omega)]; rfl
theorem key_f (v : SV) : tithebarnref16_key.f v.f0 v.f1 v.f2 = some (!badV v) := by
 unfold tithebarnref16_key.f badV
 cases v.f0
 ·rw [if_neg (by decide), Bool.false_or]
  congr 1
  by_cases h : v.f2.size ≤ 64
  ·rw [decide_eq_true (by omega), decide_eq_false (by omega)]; rfl
  ·rw [decide_eq_false (by omega), decide_eq_true (by omega)]; rfl
 ·rfl
def aheadI : List Int → List Int → Bool
 | [], [] => false
 | [], _ :: _ => true
 | _ :: _, [] => false
 | a :: l, b :: m => if a = b then aheadI l m else decide (a < b)
theorem ahead_l0 (a b : ByteArray) (ha : a.size ≤ 4611686018427387904) (hb : b.size ≤ 4611686018427387904) : ∀ (m i k : Nat), i + m = a.size → 2 * m + 2 ≤ k → i ≤ b.size → tithebarnref02_ahead.l0 k a b (i : Int) = some (aheadI ((bytesOf a).drop i) ((bytesOf b).drop i)) := by
 have sa := bytesOf_size a
 have sb := bytesOf_size b
 intro m
 induction m with
 | zero =>
  intro i k hi hk hib
  obtain ⟨k, rfl⟩ : ∃ m, k = m + 2 := ⟨k - 2, by omega⟩
  simp only [tithebarnref02_ahead.l0, tithebarnref02_ahead.j1]
  have e1 : (bytesOf a).drop i = [] := List.drop_eq_nil_of_le (by omega)
  rw [if_neg (by omega), if_neg (show ¬ (false = true) by decide), e1]
  by_cases h : i < b.size
  ·rw [List.drop_eq_getElem_cons (show i < (bytesOf b).length by omega)]
   unfold aheadI
   rw [decide_eq_true (by omega)]
  ·rw [List.drop_eq_nil_of_le (show (bytesOf b).length ≤ i by omega)]
   unfold aheadI
   rw [decide_eq_false (by omega)]
 | succ m ih =>
  intro i k hi hk hib
  obtain ⟨k, rfl⟩ : ∃ m, k = m + 2 := ⟨k - 2, by omega⟩
  simp only [tithebarnref02_ahead.l0, tithebarnref02_ahead.j1]
  rw [if_pos (by omega)]
  have ew : wrap64 ((i : Int) + 1) = ((i + 1 : Nat) : Int) := by rw [w64 (by omega) (by omega)]; omega
  have da := List.drop_eq_getElem_cons (show i < (bytesOf a).length by omega)
  have ba : bt a (i : Int) = (bytesOf a)[i]'(by omega) := by
   rw [bt_rd]; unfold rd
   rw [Int.toNat_natCast, List.getD_eq_getElem?_getD, List.getElem?_eq_getElem (by omega)]; rfl
  by_cases h : i < b.size
  ·have db := List.drop_eq_getElem_cons (show i < (bytesOf b).length by omega)
   have bb : bt b (i : Int) = (bytesOf b)[i]'(by omega) := by
    rw [bt_rd]; unfold rd
    rw [Int.toNat_natCast, List.getD_eq_getElem?_getD, List.getElem?_eq_getElem (by omega)]; rfl
   rw [decide_eq_true (by omega), if_pos rfl, if_pos (by omega), if_pos (by omega), if_pos (by omega), da, db, ba, bb]
   unfold aheadI
   by_cases e : (bytesOf a)[i]'(by omega) = (bytesOf b)[i]'(by omega)
   ·rw [if_pos e, if_pos e, ew]; exact ih (i + 1) k (by omega) (by omega) (by omega)
   ·rw [if_neg e, if_neg e]
  ·rw [decide_eq_false (by omega), if_neg (show ¬ (false = true) by decide), da, List.drop_eq_nil_of_le (show (bytesOf b).length ≤ i by omega)]
   unfold aheadI
   rw [decide_eq_false (by omega)]
theorem aheadI_less : ∀ (a b : List UInt8), aheadI (a.map fun x => (x.toNat : Int)) (b.map fun x => (x.toNat : Int)) = Op.bytesLess a b
 | [], [] => rfl
 | [], _ :: _ => rfl
 | _ :: _, [] => rfl
 | x :: a, y :: b => by
  simp only [List.map_cons]
  unfold aheadI Op.bytesLess
  have ih := aheadI_less a b
  by_cases h : x = y
  ·subst h; simp [ih]
  ·have hne : ¬ ((x.toNat : Int) = (y.toNat : Int)) := fun e => h (UInt8.toNat_inj.mp (by omega))
   rw [if_neg hne]
   have h1 : (x == y) = false := by simpa using h
   simp only [h1, Bool.false_and, Bool.or_false]
   simp [UInt8.lt_iff_toNat_lt]
theorem bytesOf_map (a : ByteArray) : bytesOf a = a.toList.map fun x => (x.toNat : Int) := by rw [ByteArray.toList_eq]; rfl
theorem ahead_f {a b : ByteArray} (ha : a.size ≤ 64) (hb : b.size ≤ 64) {k : Nat} (hk : 200 ≤ k) : tithebarnref02_ahead.f k a b = some (Op.bytesLess a.toList b.toList) := by
 unfold tithebarnref02_ahead.f
 have := ahead_l0 a b (by omega) (by omega) a.size 0 k (by omega) (by omega) (by omega)
 rw [show ((0 : Nat) : Int) = 0 from rfl, List.drop_zero, List.drop_zero, bytesOf_map, bytesOf_map, aheadI_less] at this
 exact this
theorem less_total : ∀ (a b : List UInt8), Op.bytesLess b a = (!Op.bytesLess a b && !(a == b))
 | [], [] => rfl
 | [], _ :: _ => rfl
 | _ :: _, [] => rfl
 | x :: a, y :: b => by
  unfold Op.bytesLess
  have ih := less_total a b
  by_cases h : x = y
  ·subst h; simp [ih]
  ·have h1 : (x == y) = false := by simpa using h
   have h2 : (y == x) = false := by simpa using Ne.symm h
   have h3 : ((x :: a) == (y :: b)) = false := by simp [h]
   rw [h3]
   simp only [h1, h2, Bool.false_and, Bool.or_false, Bool.not_false, Bool.and_true]
   have : x.toNat ≠ y.toNat := fun e => h (UInt8.toNat_inj.mp e)
   by_cases c : x < y
   ·have : ¬ y < x := by rw [UInt8.lt_iff_toNat_lt] at c ⊢; omega
    simp [c, this]
   ·have : y < x := by rw [UInt8.lt_iff_toNat_lt] at c ⊢; omega
    simp [c, this]
theorem Ahead_f {a b : SV} (ha : badV a = false) (hb : badV b = false) {k : Nat} (hk : 201 ≤ k) : tithebarnref02_Ahead.f k b.f0 b.f1 b.f2 a.f0 a.f1 a.f2 = some (decide (0 < cmpV a b)) := by
 obtain ⟨k, rfl⟩ : ∃ m, k = m + 1 := ⟨k - 1, by omega⟩
 unfold badV at ha hb
 simp only [Bool.or_eq_false_iff, decide_eq_false_iff_not] at ha hb
 obtain ⟨ha0, ha1⟩ := ha
 obtain ⟨hb0, hb1⟩ := hb
 unfold tithebarnref02_Ahead.f cmpV
 rw [ha0, hb0]
 simp only [Bool.false_eq_true, if_false, tithebarnref02_Ahead.j0]
 by_cases h : b.f1 = a.f1
 ·rw [if_pos h, ahead_f (by omega) (by omega) (by omega), Option.bind_some, if_neg (by omega), if_neg (by omega), less_total]
  unfold cmpStr
  cases Op.bytesLess a.f2.toList b.f2.toList <;> cases (a.f2.toList == b.f2.toList) <;> rfl
 ·rw [if_neg h]
  by_cases c : a.f1 < b.f1
  ·rw [if_pos c, decide_eq_false (by omega)]; rfl
  ·rw [if_neg c, if_pos (by omega), decide_eq_true (by omega)]; rfl
theorem part_f (p : SP) {k : Nat} (hk : 201 ≤ k) : tithebarnref16_part.f k p.f0 p.f1 p.f2.f0 p.f2.f1 p.f2.f2 p.f3.f0 p.f3.f1 p.f3.f2 = some (!oddP p) := by
 unfold tithebarnref16_part.f oddP
 rw [number_f, Option.bind_some]
 cases oddI p.f0
 ·rw [if_pos (by decide)]
  by_cases h1 : p.f1 ≥ 0
  ·rw [if_pos h1, decide_eq_false (show ¬ p.f1 < 0 by omega)]
   by_cases h2 : p.f1 < 4
   ·rw [if_pos h2, decide_eq_false (show ¬ 4 ≤ p.f1 by omega), key_f, Option.bind_some]
    cases h3 : badV p.f2
    ·rw [if_pos (by decide), key_f, Option.bind_some]
     cases h4 : badV p.f3
     ·rw [if_pos (by decide), Ahead_f h3 h4 hk]; simp
     ·rw [if_neg (by decide)]; simp
    ·rw [if_neg (by decide)]; simp
   ·rw [if_neg h2, decide_eq_true (show 4 ≤ p.f1 by omega)]; simp
  ·rw [if_neg h1, decide_eq_true (show p.f1 < 0 by omega)]; simp
 ·rw [if_neg (by decide)]; simp
theorem rRight_l1 (d : List Int) (a : List SP) (fl nx : Int) (ha : a.length ≤ 1000) : ∀ (m i k : Nat), i + m = a.length → m + 210 ≤ k → tithebarnref16_Right.l1 k (i : Int) d a fl nx = some ((a.drop i).all fun p => !oddP p) := by
 intro m
 induction m with
 | zero =>
  intro i k hi hk
  obtain ⟨k, rfl⟩ : ∃ m, k = m + 1 := ⟨k - 1, by omega⟩
  simp only [tithebarnref16_Right.l1]
  rw [if_neg (by omega), List.drop_eq_nil_of_le (by omega)]; rfl
 | succ m ih =>
  intro i k hi hk
  obtain ⟨k, rfl⟩ : ∃ m, k = m + 1 := ⟨k - 1, by omega⟩
  simp only [tithebarnref16_Right.l1]
  have ew : wrap64 ((i : Int) + 1) = ((i + 1 : Nat) : Int) := by rw [w64 (by omega) (by omega)]; omega
  rw [if_pos (by omega), if_pos (by omega), part_f _ (by omega), Option.bind_some, rdP_drop (show i < a.length by omega), List.all_cons, ew]
  cases oddP (rd_T36 a (i : Int))
  ·rw [if_pos (by decide), ih (i + 1) k (by omega) (by omega)]; simp
  ·rw [if_neg (by decide)]; simp
theorem rRight_l0 (d : List Int) (a : List SP) (fl nx : Int) (ha : a.length ≤ 1000) (hd : d.length ≤ 1000) : ∀ (m i k : Nat), i + m = d.length → m + 1220 ≤ k → tithebarnref16_Right.l0 k (i : Int) d a fl nx = some (((d.drop i).all fun x => !oddI x) && (a.all fun p => !oddP p)) := by
 intro m
 induction m with
 | zero =>
  intro i k hi hk
  obtain ⟨k, rfl⟩ : ∃ m, k = m + 1 := ⟨k - 1, by omega⟩
  simp only [tithebarnref16_Right.l0]
  have := rRight_l1 d a fl nx ha a.length 0 k (by omega) (by omega)
  rw [show ((0 : Nat) : Int) = 0 from rfl, List.drop_zero] at this
  rw [if_neg (by omega), List.drop_eq_nil_of_le (show d.length ≤ i by omega), this]; rfl
 | succ m ih =>
  intro i k hi hk
  obtain ⟨k, rfl⟩ : ∃ m, k = m + 1 := ⟨k - 1, by omega⟩
  simp only [tithebarnref16_Right.l0]
  have ew : wrap64 ((i : Int) + 1) = ((i + 1 : Nat) : Int) := by rw [w64 (by omega) (by omega)]; omega
  have hdr : d.drop i = rd d (i : Int) :: d.drop (i + 1) := by
   rw [List.drop_eq_getElem_cons (show i < d.length by omega)]
   unfold rd
   rw [Int.toNat_natCast, List.getD_eq_getElem?_getD, List.getElem?_eq_getElem (show i < d.length by omega)]; rfl
  rw [if_pos (by omega), if_pos (by omega), number_f, Option.bind_some, hdr, List.all_cons, ew]
  cases oddI (rd d (i : Int))
  ·rw [if_pos (by decide), ih (i + 1) k (by omega) (by omega)]; simp
  ·rw [if_neg (by decide)]; simp
theorem rRight_f (d : List Int) (a : List SP) (fl nx : Int) {k : Nat} (hk : 3000 ≤ k) : tithebarnref16_Right.f k d a fl nx = some (rightB d a fl nx) := by
 obtain ⟨k, rfl⟩ : ∃ m, k = m + 1 := ⟨k - 1, by omega⟩
 unfold tithebarnref16_Right.f rightB
 have j1 : tithebarnref16_Right.j0 (k + 1) true d a fl nx = some false := by simp only [tithebarnref16_Right.j0, if_true]
 by_cases h1 : d.length ≤ 1000
 ·rw [if_neg (by omega), decide_eq_true h1]
  by_cases h2 : a.length ≤ 1000
  ·rw [if_neg (by omega), decide_eq_true h2, number_f, Option.bind_some]
   cases oddI fl
   ·rw [if_pos (by decide), number_f, Option.bind_some]
    cases oddI nx
    ·simp only [tithebarnref16_Right.j0]
     rw [if_neg (by decide)]
     have := rRight_l0 d a fl nx h2 h1 d.length 0 k (by omega) (by omega)
     rw [show ((0 : Nat) : Int) = 0 from rfl, List.drop_zero] at this
     rw [this]; simp
    ·rw [show (!!true) = true from rfl, j1]; simp
   ·rw [if_neg (by decide), j1]; simp
  ·rw [if_pos (by omega), decide_eq_false h2, j1]; simp
 ·rw [if_pos (by omega), decide_eq_false h1, j1]; simp
end Go.Proofs.Ytagokgijffpdnaa.G
namespace Go.Proofs.Ytagokgijffpdnaa.G
open Go.RowKit Go.Proofs.YtagokgijffpdnaaQ Go.Proofs.YtagokgijffpdnaaW.PrintWords Go.Proofs.YtagokgijffpdnaaW.PrintLast Go.Proofs.YtagokgijffpdnaaW.PrintMore
set_option linter.unusedVariables false
set_option linter.unusedSimpArgs false
theorem w64' (x : Int) (h0 : -9223372036854775808 ≤ x) (h1 : x < 9223372036854775808) : wrap64 x = x := w64 h0 h1
theorem big_step (k : Nat) (l : List Int) (x : Int) (i : Nat) (hi : i ≤ 7) (hl : l.length < 140737488355328) :
  tally_big.l0 (k + 1) l x i = tally_big.l0 k (l ++ [x / 256 ^ i % 256]) x ((i : Int) - 1) := by
 simp only [tally_big.l0]
 rw [if_pos (by omega), w64' (8 * (i : Int)) (by omega) (by omega), if_pos (by omega), if_pos hl, w64' ((i : Int) - 1) (by omega) (by omega)]
 have e : (8 * (i : Int)) = ((8 * i : Nat) : Int) := by omega
 rw [e, shr_u64_lit x (8 * i) (by omega)]
 have e2 : (256 : Int) ^ i = 2 ^ (8 * i) := by rw [Int.pow_mul]; rfl
 rw [e2]
theorem big_end (k : Nat) (l : List Int) (x : Int) : tally_big.l0 (k + 1) l x (-1) = some l := by
 simp only [tally_big.l0]; rw [if_neg (by omega)]
def bigs (x : Int) : Nat → List Int
 | 0 => []
 | n + 1 => x / 256 ^ n % 256 :: bigs x n
theorem big_f (n : Nat) (hn : n ≤ 8) : ∀ (k : Nat) (l : List Int) (x : Int), n < k → l.length + n ≤ 140737488355328 → tally_big.l0 k l x ((n : Int) - 1) = some (l ++ bigs x n) := by
 induction n with
 | zero =>
  intro k l x hk hl
  obtain ⟨k, rfl⟩ : ∃ m, k = m + 1 := ⟨k - 1, by omega⟩
  have e : ((0 : Nat) : Int) - 1 = -1 := by omega
  rw [e, big_end]; simp [bigs]
 | succ n ih =>
  intro k l x hk hl
  obtain ⟨k, rfl⟩ : ∃ m, k = m + 1 := ⟨k - 1, by omega⟩
  have e : ((n + 1 : Nat) : Int) - 1 = (n : Int) := by omega
  rw [e, big_step k l x n (by omega) (by omega), ih (by omega) k _ x (by omega) (by simp; omega)]
  simp [bigs]
theorem Uint_f {k : Nat} (hk : 10 ≤ k) {l : List Int} (hl : l.length + 9 ≤ 140737488355328) {x : Int} (hx : u64 x) : tally_Uint.f k l x = some (l ++ encU x) := by
 obtain ⟨h0, h1⟩ := hx
 unfold tally_Uint.f encU
 by_cases c1 : x < 64
 ·rw [if_pos (by omega), if_pos (by omega), if_pos c1]
  simp; omega
 ·rw [if_neg (by omega), if_neg c1]
  by_cases c2 : x < 16384
  ·rw [if_pos (by omega), if_pos c2, or_join' 16384 x 14 (by omega) (by omega) (by omega) (by omega) (by decide) (by simp; omega)]
   unfold tally_big.f
   have e : wrap64 (2 - 1) = ((2 : Nat) : Int) - 1 := by unfold wrap64; decide
   rw [e, big_f 2 (by omega) k l _ (by omega) (by omega)]
   simp [bigs]; omega
  ·rw [if_neg (by omega), if_neg c2]
   by_cases c3 : x < 1073741824
   ·rw [if_pos (by omega), if_pos c3, or_join' 2147483648 x 30 (by omega) (by omega) (by omega) (by omega) (by decide) (by simp; omega)]
    unfold tally_big.f
    have e : wrap64 (4 - 1) = ((4 : Nat) : Int) - 1 := by unfold wrap64; decide
    rw [e, big_f 4 (by omega) k l _ (by omega) (by omega)]
    simp [bigs]; omega
   ·rw [if_neg (by omega), if_neg c3, if_pos (by omega)]
    unfold tally_big.f
    have e : wrap64 (8 - 1) = ((8 : Nat) : Int) - 1 := by unfold wrap64; decide
    rw [e, big_f 8 (by omega) k _ _ (by omega) (by simp; omega)]
    simp [bigs]
theorem Int_f {k : Nat} (hk : 10 ≤ k) {l : List Int} (hl : l.length + 9 ≤ 140737488355328) {x : Int} (hx : i64 x) : tally_Int.f k l x = some (l ++ encI x) := by
 unfold tally_Int.f
 rw [zig x hx, Uint_f hk hl (fold_u64 hx)]; rfl
theorem Text_f {k : Nat} (hk : 10 ≤ k) {l : List Int} {s : ByteArray} (hl : l.length + 9 + s.size < 140737488355328) : tally_Text.f k l s = some (l ++ encT (bytesOf s)) := by
 unfold tally_Text.f
 have hu : u64 (s.size : Int) := by unfold u64; omega
 rw [wu64 hu.1 hu.2, Uint_f hk (by omega) hu]
 have := encU_len (s.size : Int)
 simp only [Option.bind_some]
 rw [if_pos (by simp; omega)]
 simp [encT, bytesOf_size]
theorem put_f {k : Nat} (hk : 5 ≤ k) {l : List Int} (hl : l.length + 4 ≤ 140737488355328) (n : Int) : frame_put.f k l n = some (l ++ le4 n) := by
 obtain ⟨k, rfl⟩ : ∃ m, k = m + 5 := ⟨k - 5, by omega⟩
 unfold frame_put.f
 simp only [frame_put.l0]
 have e1 : wrap64 (0 + 1) = 1 := by unfold wrap64; decide
 have e2 : wrap64 (1 + 1) = 2 := by unfold wrap64; decide
 have e3 : wrap64 (2 + 1) = 3 := by unfold wrap64; decide
 have e4 : wrap64 (3 + 1) = 4 := by unfold wrap64; decide
 simp only [e1, e2, e3, e4, List.length_append, List.length_cons, List.length_nil]
 rw [if_pos (by omega), if_pos (by omega), if_pos (by omega), if_pos (by omega), if_pos (by omega), if_pos (by omega), if_pos (by omega), if_pos (by omega), if_neg (by omega)]
 have d1 : n / 256 / 256 = n / 65536 := by omega
 have d2 : n / 65536 / 256 = n / 16777216 := by omega
 rw [d1, d2]
 simp [le4]
theorem sum_f {s : ByteArray} (hs : s.size ≤ 4611686018427387904) : frame_Sum.f s = some ((crc (bytesOf s) : Nat) : Int) := by unfold frame_Sum.f; rw [if_pos hs]
theorem Write_f {k : Nat} (hk : 5 ≤ k) {s : ByteArray} (hs : s.size + 8 < 140737488355328) : frame_Write.f k s = some (strOfNums (frm (bytesOf s))) := by
 unfold frame_Write.f
 rw [put_f hk (by simp)]
 simp only [Option.bind_some, List.nil_append]
 rw [if_pos (by rw [le4_len]; omega), sum_f (by omega)]
 simp only [Option.bind_some]
 rw [put_f hk (by simp [le4_len, bytesOf_size]; omega)]
 simp only [Option.bind_some, frm, bytesOf_size]
def valB (v : SV) : List Int := encI v.f1 ++ encT (bytesOf v.f2)
def partB (p : SP) : List Int := encU p.f0 ++ (encU p.f1 ++ (valB p.f2 ++ valB p.f3))
def editB (d : List Int) (a : List SP) (fl nx : Int) : List Int := encU (d.length : Int) ++ (d.flatMap encU ++ (encU (a.length : Int) ++ (a.flatMap partB ++ (encU fl ++ encU nx))))
def writeL (d : List Int) (a : List SP) (fl nx : Int) : ByteArray × Int := if rightB d a fl nx = true then (strOfNums (frm (editB d a fl nx)), 0) else (⟨#[]⟩, 1)
theorem nums_l0 (l : List Int) (hl : l.length ≤ 1000) (hu : ∀ x ∈ l, u64 x) : ∀ (m i k : Nat) (b : List Int), i + m = l.length → m + 12 ≤ k → b.length + 9 * m + 9 ≤ 140737488355328 → manifest_nums.l0 k b l (l.length : Int) (i : Int) = some (b ++ (l.drop i).flatMap encU) := by
 intro m
 induction m with
 | zero =>
  intro i k b hi hk hb
  obtain ⟨k, rfl⟩ : ∃ m, k = m + 1 := ⟨k - 1, by omega⟩
  simp only [manifest_nums.l0]
  rw [if_neg (by omega), List.drop_eq_nil_of_le (show l.length ≤ i by omega)]; simp
 | succ m ih =>
  intro i k b hi hk hb
  obtain ⟨k, rfl⟩ : ∃ m, k = m + 1 := ⟨k - 1, by omega⟩
  simp only [manifest_nums.l0]
  have EW : Aside0 (wrap64 ((i : Int) + 1) = ((i + 1 : Nat) : Int)) := ⟨by rw [w64 (by omega) (by omega)]; omega⟩
  have hdr : l.drop i = rd l (i : Int) :: l.drop (i + 1) := by
   rw [List.drop_eq_getElem_cons (show i < l.length by omega)]
   unfold rd
   rw [Int.toNat_natCast, List.getD_eq_getElem?_getD, List.getElem?_eq_getElem (show i < l.length by omega)]; rfl
  have hx := hu (rd l (i : Int)) (by have := List.mem_of_mem_drop (hdr ▸ List.mem_cons_self : rd l (i : Int) ∈ l.drop i); exact this)
  have hw := wu64 hx.1 hx.2
  have he := (encU_len (rd l (i : Int))).2
  rw [if_pos (by omega), if_pos (by omega), if_pos (by omega), hw, Uint_f (by omega) (by omega) hx, Option.bind_some, EW.out, ih (i + 1) k _ (by omega) (by omega) (by rw [List.length_append]; omega), hdr]
  simp
theorem nums_f {l b : List Int} (hl : l.length ≤ 1000) (hu : ∀ x ∈ l, u64 x) (hb : b.length ≤ 100000000) {k : Nat} (hk : 1100 ≤ k) : manifest_nums.f k b l = some (b ++ l.flatMap encU) := by
 unfold manifest_nums.f
 have := nums_l0 l hl hu l.length 0 k b (by omega) (by omega) (by omega)
 rw [show ((0 : Nat) : Int) = 0 from rfl, List.drop_zero] at this
 exact this
theorem bounds_f {v u : SV} {b : List Int} (hv : i64 v.f1) (hu : i64 u.f1) (hvs : v.f2.size ≤ 64) (hus : u.f2.size ≤ 64) (hb : b.length ≤ 100000000) {k : Nat} (hk : 20 ≤ k) : manifest_bounds.f k b [v, u] = some (b ++ (valB v ++ valB u)) := by
 obtain ⟨k, rfl⟩ : ∃ m, k = m + 3 := ⟨k - 3, by omega⟩
 unfold manifest_bounds.f
 have e0 : wrap64 (0 + 1) = 1 := by unfold wrap64; decide
 have e1 : wrap64 (1 + 1) = 2 := by unfold wrap64; decide
 have r0 : rd_T34 [v, u] 0 = v := rfl
 have r1 : rd_T34 [v, u] 1 = u := rfl
 have lv : (encI v.f1).length ≤ 9 := (encU_len _).2
 have lu : (encI u.f1).length ≤ 9 := (encU_len _).2
 have lt : (encT (bytesOf v.f2)).length ≤ 73 := by have := (encU_len ((bytesOf v.f2).length : Int)).2; unfold encT; rw [List.length_append, bytesOf_size]; rw [bytesOf_size] at this; omega
 have h1 := Int_f (k := k + 2) (by omega) (l := b) (by omega) hv
 have h2 := Text_f (k := k + 2) (by omega) (l := b ++ encI v.f1) (s := v.f2) (by rw [List.length_append]; omega)
 have h3 := Int_f (k := k + 1) (by omega) (l := b ++ encI v.f1 ++ encT (bytesOf v.f2)) (by rw [List.length_append, List.length_append]; omega) hu
 have h4 := Text_f (k := k + 1) (by omega) (l := b ++ encI v.f1 ++ encT (bytesOf v.f2) ++ encI u.f1) (s := u.f2) (by rw [List.length_append, List.length_append, List.length_append]; omega)
 simp only [manifest_bounds.l0, List.length_cons, List.length_nil]
 rw [if_pos (by decide), if_pos (by decide), if_pos (by decide), r0, h1, Option.bind_some, h2, Option.bind_some, e0]
 rw [if_pos (by decide), if_pos (by decide), if_pos (by decide), r1, h3, Option.bind_some, h4, Option.bind_some, e1]
 rw [if_neg (by decide)]
 simp [valB]
theorem not_odd {n : Int} (h : oddI n = false) : u64 n := by unfold oddI at h; simp at h; unfold u64; omega
theorem not_oddP {p : SP} (h : oddP p = false) : u64 p.f0 ∧ u64 p.f1 ∧ p.f2.f2.size ≤ 64 ∧ p.f3.f2.size ≤ 64 := by
 unfold oddP badV at h
 simp only [Bool.or_eq_false_iff, decide_eq_false_iff_not] at h
 exact ⟨not_odd h.1, by unfold u64; omega, by omega, by omega⟩
theorem partB_len {p : SP} (h : oddP p = false) : (partB p).length ≤ 200 := by
 obtain ⟨h0, h1, h2, h3⟩ := not_oddP h
 have a0 := (encU_len p.f0).2
 have a1 := (encU_len p.f1).2
 have v : ∀ v : SV, v.f2.size ≤ 64 → (valB v).length ≤ 82 := fun v hv => by
  have b0 : (encI v.f1).length ≤ 9 := (encU_len _).2
  have b1 := (encU_len ((bytesOf v.f2).length : Int)).2
  unfold valB encT
  rw [List.length_append, List.length_append]
  have := bytesOf_size v.f2
  omega
 have v2 := v p.f2 h2
 have v3 := v p.f3 h3
 unfold partB
 rw [List.length_append, List.length_append, List.length_append]
 omega
theorem OkP.ints {p : SP} (h : OkP p) : i64 p.f2.f1 ∧ i64 p.f3.f1 := by
 have h1 := bounds_i64 h.2.2.1.1
 have h2 := bounds_i64 h.2.2.2.1
 unfold i64; omega
theorem flat_len (l : List Int) : (l.flatMap encU).length ≤ 9 * l.length := by
 induction l with
 | nil => simp
 | cons x l ih => have := (encU_len x).2; rw [List.flatMap_cons, List.length_append, List.length_cons]; omega
theorem Write_l0 (d : List Int) (a : List SP) (fl nx : Int) (ha : a.length ≤ 1000) (hp : (a.all fun p => !oddP p) = true) (hok : ∀ p ∈ a, OkP p) (hfl : u64 fl) (hnx : u64 nx) : ∀ (m i k : Nat) (b : List Int), i + m = a.length → m + 1200 ≤ k → b.length + 200 * m ≤ 1000000 →
  manifest_Write.l0 k b a (a.length : Int) (i : Int) d a fl nx = some (strOfNums (frm (bytesOf (strOfNums (b ++ ((a.drop i).flatMap partB ++ (encU fl ++ encU nx)))))), 0) := by
 intro m
 induction m with
 | zero =>
  intro i k b hi hk hb
  obtain ⟨k, rfl⟩ : ∃ m, k = m + 1 := ⟨k - 1, by omega⟩
  simp only [manifest_Write.l0]
  have l1 := (encU_len fl).2
  have l2 := (encU_len nx).2
  rw [if_neg (by omega), nums_f (by simp) (by simp [hfl, hnx]) (by omega) (by omega), Option.bind_some, Write_f (by omega) (by rw [size_strOfNums]; simp; omega), Option.bind_some, List.drop_eq_nil_of_le (show a.length ≤ i by omega)]
  simp
 | succ m ih =>
  intro i k b hi hk hb
  obtain ⟨k, rfl⟩ : ∃ m, k = m + 1 := ⟨k - 1, by omega⟩
  simp only [manifest_Write.l0]
  have EW : Aside0 (wrap64 ((i : Int) + 1) = ((i + 1 : Nat) : Int)) := ⟨by rw [w64 (by omega) (by omega)]; omega⟩
  have hdr := rdP_drop (show i < a.length by omega)
  have hm : rd_T36 a (i : Int) ∈ a := List.mem_of_mem_drop (hdr ▸ List.mem_cons_self : rd_T36 a (i : Int) ∈ a.drop i)
  obtain ⟨p, hpe⟩ : ∃ p, rd_T36 a (i : Int) = p := ⟨_, rfl⟩
  rw [hpe] at hdr hm
  have hodd : oddP p = false := by have := List.all_eq_true.mp hp p hm; simpa using this
  obtain ⟨h0, h1, h2, h3⟩ := not_oddP hodd
  obtain ⟨g2, g3⟩ := (hok p hm).ints
  have l0 := (encU_len p.f0).2
  have l1 := (encU_len p.f1).2
  have lp := partB_len hodd
  have hn := nums_f (l := [p.f0, p.f1]) (b := b) (by simp) (by simp [h0, h1]) (by omega) (k := k) (by omega)
  have hbd := bounds_f (v := p.f2) (u := p.f3) (b := b ++ [p.f0, p.f1].flatMap encU) g2 g3 h2 h3 (by simp; omega) (k := k) (by omega)
  rw [if_pos (by omega), if_pos (by omega), if_pos (by omega), hpe, hn, Option.bind_some]
  refine (congrArg (fun o => Option.bind o _) hbd).trans ?_
  rw [Option.bind_some, EW.out, ih (i + 1) k _ (by omega) (by omega) (by
   have e : (b ++ [p.f0, p.f1].flatMap encU ++ (valB p.f2 ++ valB p.f3)).length = b.length + (partB p).length   := by simp [partB] <;> omega
   rw [e]; omega), hdr]
  simp [partB]
theorem editB_Bs {d : List Int} {a : List SP} {fl nx : Int} (h : rightB d a fl nx = true) (hok : ∀ p ∈ a, OkP p) : Bs (editB d a fl nx) := by
 unfold rightB at h
 simp only [Bool.and_eq_true, decide_eq_true_eq, Bool.not_eq_true', List.all_eq_true] at h
 obtain ⟨h1, h2, h3, h4, h5, h6⟩ := h
 have fm : ∀ {α : Type} (l : List α) (f : α → List Int), (∀ x ∈ l, Bs (f x)) → Bs (l.flatMap f) := fun l f hf y hy => by
  obtain ⟨x, hx, hy⟩ := List.mem_flatMap.mp hy
  exact hf x hx y hy
 have vb : ∀ v : SV, i64 v.f1 → v.f2.size ≤ 64 → Bs (valB v) := fun v hv hs => (encI_Bs hv).app ((encU_Bs (by unfold u64; rw [bytesOf_size]; omega)).app (Bs.bytesOf _))
 refine (encU_Bs (by unfold u64; omega)).app ((fm _ _ fun x hx => encU_Bs (not_odd (h5 x hx))).app ((encU_Bs (by unfold u64; omega)).app ((fm _ _ fun p hp => ?_).app ((encU_Bs (not_odd h3)).app (encU_Bs (not_odd h4))))))
 obtain ⟨q0, q1, q2, q3⟩ := not_oddP (h6 p hp)
 obtain ⟨g2, g3⟩ := (hok p hp).ints
 exact (encU_Bs q0).app ((encU_Bs q1).app ((vb _ g2 q2).app (vb _ g3 q3)))
theorem Write_is (d : List Int) (a : List SP) (fl nx : Int) (hok : ∀ p ∈ a, OkP p) {k : Nat} (hk : 3000 ≤ k) : manifest_Write.f k d a fl nx = some (writeL d a fl nx) := by
 unfold manifest_Write.f manifest_right.f writeL
 rw [Option.bind_some]
 cases hr : rightB d a fl nx
 ·rfl
 ·have hB := editB_Bs hr hok
  rw [if_pos rfl, if_pos rfl]
  have h := hr
  unfold rightB at h
  simp only [Bool.and_eq_true, decide_eq_true_eq, Bool.not_eq_true'] at h
  obtain ⟨h1, h2, h3, h4, h5, h6⟩ := h
  have l1 := (encU_len (d.length : Int)).2
  have l2 := (encU_len (a.length : Int)).2
  have l5 := flat_len d
  have hu : ∀ x ∈ d, u64 x := fun x hx => not_odd (by have := List.all_eq_true.mp h5 x hx; simpa using this)
  have n1 := nums_f (l := [(d.length : Int)]) (b := []) (by simp) (by simp [u64]; omega) (by simp) (k := k) (by omega)
  have n2 := nums_f (l := d) (b := [] ++ [(d.length : Int)].flatMap encU) h1 hu (by simp; omega) (k := k) (by omega)
  have n3 := nums_f (l := [(a.length : Int)]) (b := [] ++ [(d.length : Int)].flatMap encU ++ d.flatMap encU) (by simp) (by simp [u64]; omega) (by simp only [List.nil_append, List.flatMap_cons, List.flatMap_nil, List.append_nil, List.length_append]; omega) (k := k) (by omega)
  have w := Write_l0 d a fl nx h2 h6 hok (not_odd h3) (not_odd h4) a.length 0 k ([] ++ [(d.length : Int)].flatMap encU ++ d.flatMap encU ++ [(a.length : Int)].flatMap encU) (by omega) (by omega) (by simp only [List.nil_append, List.flatMap_cons, List.flatMap_nil, List.append_nil, List.length_append]; omega)
  rw [show ((0 : Nat) : Int) = 0 from rfl, List.drop_zero] at w
  rw [n1, Option.bind_some, n2, Option.bind_some, n3, Option.bind_some, w]
  have e : [] ++ [(d.length : Int)].flatMap encU ++ d.flatMap encU ++ [(a.length : Int)].flatMap encU ++ (a.flatMap partB ++ (encU fl ++ encU nx)) = editB d a fl nx := by simp [editB]
  rw [e, bytesOf_strOfNums hB]
end Go.Proofs.Ytagokgijffpdnaa.G
namespace Go.Proofs.Ytagokgijffpdnaa.G
open Go.RowKit Go.Proofs.YtagokgijffpdnaaQ Go.Proofs.YtagokgijffpdnaaW.PrintWords Go.Proofs.YtagokgijffpdnaaW.PrintLast Go.Proofs.YtagokgijffpdnaaW.PrintMore
attribute [local go_sem] max2_int min2_int max_two min_two max_three min_three max_four min_four   -- for this text's walks alone
set_option linter.unusedVariables false
set_option linter.unusedSimpArgs false
def tithebarnref01_Fold.f (a0 : Int) : Option (Int) := if a0 < 0 then (some (IntKind.u64.wrap ((IntKind.u64.wrap (2 * (IntKind.u64.wrap (wrap64 (-(wrap64 (a0 + 1))))))) + 1))) else (some (IntKind.u64.wrap (2 * (IntKind.u64.wrap (a0)))))
set_option maxHeartbeats 8000000 in
set_option maxRecDepth 100000 in
theorem tithebarnref01_Fold.calls (a0 : Int) (r : Int) (w : World) (h : tithebarnref01_Fold.f a0 = some r) :
  Calls Try.prog 67 #[.int .i64 a0] w fun e w' => e = .returned (.int .u64 r) ∧ Drawn0 w w' := by
 have H : (if a0 < 0 then (some (IntKind.u64.wrap ((IntKind.u64.wrap (2 * (IntKind.u64.wrap (wrap64 (-(wrap64 (a0 + 1))))))) + 1))) else (some (IntKind.u64.wrap (2 * (IntKind.u64.wrap (a0)))))) = some r := h
 clear h
 by_cases c2 : a0 < 0
 ·rw [if_pos c2] at H
  have c2b0 : decide (a0 < 0) = true := decide_eq_true c2
  clear c2
  obtain rfl := Option.some.inj H
  go_enter Try.func67, Try.ntmps67
  go_wp2
  go_ret
  exact ⟨z4_, z11_⟩
 ·rw [if_neg c2] at H
  have c2b0 : decide (a0 < 0) = false := decide_eq_false c2
  clear c2
  obtain rfl := Option.some.inj H
  go_enter Try.func67, Try.ntmps67
  go_wp2
  go_ret
  exact ⟨z4_, z11_⟩
def tithebarnref01_Int.f (k : Nat) (a0 : Int) : Option (ByteArray) := (tithebarnref01_Fold.f a0).bind fun t312 => ((tithebarnref01_Uint.f k t312).bind fun t313 => (some t313))
theorem tithebarnref01_Int.mono : ∀ a0 k, LeO (tithebarnref01_Int.f k a0) (tithebarnref01_Int.f (k + 1) a0) := by
 intro a0 k
 unfold tithebarnref01_Int.f
 repeat' first
   | (with_reducible exact tithebarnref01_Uint.mono _ _)
   | (with_reducible exact LeO.refl _)
   | (with_reducible exact LeO.none _)
   | (with_reducible refine LeO.ite ?_ ?_)
   | (with_reducible refine LeO.bind ?_ (fun _ => ?_))
   | exact tithebarnref01_Uint.mono _ _
   | exact LeO.none _
   | refine LeO.ite ?_ ?_
   | refine LeO.bind ?_ (fun _ => ?_)
set_option maxHeartbeats 8000000 in
set_option maxRecDepth 100000 in
theorem tithebarnref01_Int.calls (k : Nat) (a0 : Int) (r : ByteArray) (w : World) (h : tithebarnref01_Int.f k a0 = some r) :
  Calls Try.prog 46 #[.int .i64 a0] w fun e w' => e = .returned (.string r) ∧ Below w.heap.size w w' := by
 have HB := Aside0.mk (Below.refl w.heap.size w)
 have H : ((tithebarnref01_Fold.f a0).bind fun t312 => ((tithebarnref01_Uint.f k t312).bind fun t313 => (some t313))) = some r := h
 clear h
 replace H := Option.bind_eq_some_iff.mp H
 obtain ⟨t312, A20, H⟩ := H
 replace H : ((tithebarnref01_Uint.f k t312).bind fun t313 => (some t313)) = some r := H
 have A2 := Aside0.mk A20
 clear A20
 replace H := Option.bind_eq_some_iff.mp H
 obtain ⟨t313, A30, H⟩ := H
 replace H : (some t313) = some r := H
 have A3 := Aside0.mk A30
 clear A30
 obtain rfl := Option.some.inj H
 go_enter Try.func46, Try.ntmps46
 go_wp2_with (first | ((with_reducible refine gate_callee (f := 67) rfl ?_); refine goesL_ (some 4) rfl rfl Try.func67 (by kernel_rfl) rfl #[.int .i64 a0] rfl (by (try simp only [List.map_toArray, List.map_cons, List.map_nil]); first | done | rfl | (simp only [List.length_drop, List.length_take]; rfl) | (go_simp; simp [IntKind.wrap, IntKind.bits, IntKind.signed]; omega)) ?_; (with_reducible refine (tithebarnref01_Fold.calls a0 t312 _ A2.out).mono ?_); rintro e w' ⟨rfl, ⟨nd, rfl⟩⟩; refine ⟨_, rfl, ?_⟩) | ((with_reducible refine gate_callee (f := 45) rfl ?_); refine goesL_ (some 5) rfl rfl Try.func45 (by kernel_rfl) rfl #[.int .u64 t312] rfl (by (try simp only [List.map_toArray, List.map_cons, List.map_nil]); first | done | rfl | (simp only [List.length_drop, List.length_take]; rfl) | (go_simp; simp [IntKind.wrap, IntKind.bits, IntKind.signed]; omega)) ?_; (with_reducible refine (tithebarnref01_Uint.calls k t312 t313 _ A3.out).mono ?_); rintro e w4 ⟨rfl, hb⟩; refine ⟨_, rfl, ?_⟩; have n0_ := Aside0.mk (below_step z0_ hb); clear HB; have HB := n0_; clear n0_; (try clear hb); (try clear hb2); (try clear hk); (try clear hi)))
 go_ret
 exact ⟨z2_, z0_⟩
def tithebarnref01_Text.f (k : Nat) (a0 : ByteArray) : Option (ByteArray) := (tithebarnref01_Uint.f k (IntKind.u64.wrap ((a0.size : Int)))).bind fun t314 => (if t314.size + a0.size ≤ 9223372036854775807 then (some (t314 ++ a0)) else (none))
theorem tithebarnref01_Text.mono : ∀ a0 k, LeO (tithebarnref01_Text.f k a0) (tithebarnref01_Text.f (k + 1) a0) := by
 intro a0 k
 unfold tithebarnref01_Text.f
 repeat' first
   | (with_reducible exact tithebarnref01_Uint.mono _ _)
   | (with_reducible exact LeO.refl _)
   | (with_reducible exact LeO.none _)
   | (with_reducible refine LeO.ite ?_ ?_)
   | (with_reducible refine LeO.bind ?_ (fun _ => ?_))
   | exact tithebarnref01_Uint.mono _ _
   | exact LeO.none _
   | refine LeO.ite ?_ ?_
   | refine LeO.bind ?_ (fun _ => ?_)
set_option maxHeartbeats 8000000 in
set_option maxRecDepth 100000 in
theorem tithebarnref01_Text.calls (k : Nat) (a0 : ByteArray) (r : ByteArray) (w : World) (h : tithebarnref01_Text.f k a0 = some r) :
  Calls Try.prog 47 #[.string a0] w fun e w' => e = .returned (.string r) ∧ Below w.heap.size w w' := by
 have HB := Aside0.mk (Below.refl w.heap.size w)
 have H : ((tithebarnref01_Uint.f k (IntKind.u64.wrap ((a0.size : Int)))).bind fun t314 => (if t314.size + a0.size ≤ 9223372036854775807 then (some (t314 ++ a0)) else (none))) = some r := h
 clear h
 replace H := Option.bind_eq_some_iff.mp H
 obtain ⟨t314, A20, H⟩ := H
 replace H : (if t314.size + a0.size ≤ 9223372036854775807 then (some (t314 ++ a0)) else (none)) = some r := H
 have A2 := Aside0.mk A20
 clear A20
 by_cases c3 : t314.size + a0.size ≤ 9223372036854775807
 ·rw [if_pos c3] at H
  have c3b0 := eq_true c3
  have c3b1 : decide (t314.size + a0.size ≤ 9223372036854775807) = true := decide_eq_true c3
  try have c3b2 : (9223372036854775807 < t314.size + a0.size) = False := eq_false (Nat.not_lt.2 c3)
  try (have c3b3 := c3b2; simp only [ByteArray.size_append] at c3b3)
  try (have c3b4 := c3b0; simp only [ByteArray.size_append] at c3b4)
  try (have c3b5 := c3b1; simp only [ByteArray.size_append] at c3b5)
  obtain rfl := Option.some.inj H
  go_enter Try.func47, Try.ntmps47
  go_wp2_with (first | ((with_reducible refine gate_callee (f := 45) rfl ?_); refine goesL_ (some 6) rfl rfl Try.func45 (by kernel_rfl) rfl #[.int .u64 (IntKind.u64.wrap ((a0.size : Int)))] rfl (by (try simp only [List.map_toArray, List.map_cons, List.map_nil]); first | done | rfl | (simp only [List.length_drop, List.length_take]; rfl) | (go_simp; simp [IntKind.wrap, IntKind.bits, IntKind.signed]; omega)) ?_; (with_reducible refine (tithebarnref01_Uint.calls k (IntKind.u64.wrap ((a0.size : Int))) t314 _ A2.out).mono ?_); rintro e w4 ⟨rfl, hb⟩; refine ⟨_, rfl, ?_⟩; have n0_ := Aside0.mk (below_step z0_ hb); clear HB; have HB := n0_; clear n0_; (try clear hb); (try clear hb2); (try clear hk); (try clear hi)))
  go_ret
  exact ⟨z2_, z0_⟩
 ·rw [if_neg c3] at H
  exact absurd H (by simp)
def tithebarnref16_value.f (k : Nat) (a0_0 : Bool) (a0_1 : Int) (a0_2 : ByteArray) : Option (ByteArray) := (tithebarnref01_Int.f k a0_1).bind fun t316 => ((tithebarnref01_Text.f k a0_2).bind fun t317 => (if t316.size + t317.size ≤ 9223372036854775807 then (some (t316 ++ t317)) else (none)))
theorem tithebarnref16_value.mono : ∀ a0 a1 a2 k, LeO (tithebarnref16_value.f k a0 a1 a2) (tithebarnref16_value.f (k + 1) a0 a1 a2) := by
 intro a0 a1 a2 k
 unfold tithebarnref16_value.f
 repeat' first
   | (with_reducible exact tithebarnref01_Int.mono _ _)
   | (with_reducible exact tithebarnref01_Text.mono _ _)
   | (with_reducible exact LeO.refl _)
   | (with_reducible exact LeO.none _)
   | (with_reducible refine LeO.ite ?_ ?_)
   | (with_reducible refine LeO.bind ?_ (fun _ => ?_))
   | exact tithebarnref01_Int.mono _ _
   | exact tithebarnref01_Text.mono _ _
   | exact LeO.none _
   | refine LeO.ite ?_ ?_
   | refine LeO.bind ?_ (fun _ => ?_)
def tithebarnref16_value.T1 : Bool × List (List Nat × List Nat) := (true, [([], []), ([0], [0]), ([1], [1]), ([], []), ([3], [3]), ([4, 2], [4]), ([2, 5], [2, 5]), ([6, 5, 0, 1, 2, 3, 4, 5, 6], [6])])
def tithebarnref16_value.B1 : List Nat := [0, 1, 3, 0, 8, 31, 63, 127]
theorem tithebarnref16_value.tab1 : rtab .any (opsOf Try.f25 1) = tithebarnref16_value.T1 := by kernel_rfl
theorem tithebarnref16_value.bits1 : waitsOk tithebarnref16_value.T1.2 tithebarnref16_value.B1 = true := by kernel_rfl
set_option maxHeartbeats 8000000 in
set_option maxRecDepth 100000 in
theorem tithebarnref16_value.calls (k : Nat) (a0_0 : Bool) (a0_1 : Int) (a0_2 : ByteArray) (r : ByteArray) (w : World) (h : tithebarnref16_value.f k a0_0 a0_1 a0_2 = some r) :
  Calls Try.prog 25 #[.agg #[.bool a0_0, .int .i64 a0_1, .string a0_2]] w fun e w' => e = .returned (.string r) ∧ Below w.heap.size w w' := by
 have hu34 := Try.underlying34
 have HB := Aside0.mk (Below.refl w.heap.size w)
 have H : ((tithebarnref01_Int.f k a0_1).bind fun t316 => ((tithebarnref01_Text.f k a0_2).bind fun t317 => (if t316.size + t317.size ≤ 9223372036854775807 then (some (t316 ++ t317)) else (none)))) = some r := h
 clear h
 replace H := Option.bind_eq_some_iff.mp H
 obtain ⟨t316, A20, H⟩ := H
 replace H : ((tithebarnref01_Text.f k a0_2).bind fun t317 => (if t316.size + t317.size ≤ 9223372036854775807 then (some (t316 ++ t317)) else (none))) = some r := H
 have A2 := Aside0.mk A20
 clear A20
 replace H := Option.bind_eq_some_iff.mp H
 obtain ⟨t317, A30, H⟩ := H
 replace H : (if t316.size + t317.size ≤ 9223372036854775807 then (some (t316 ++ t317)) else (none)) = some r := H
 have A3 := Aside0.mk A30
 clear A30
 by_cases c4 : t316.size + t317.size ≤ 9223372036854775807
 ·rw [if_pos c4] at H
  have c4b0 := eq_true c4
  have c4b1 : decide (t316.size + t317.size ≤ 9223372036854775807) = true := decide_eq_true c4
  try have c4b2 : (9223372036854775807 < t316.size + t317.size) = False := eq_false (Nat.not_lt.2 c4)
  try (have c4b3 := c4b2; simp only [ByteArray.size_append] at c4b3)
  try (have c4b4 := c4b0; simp only [ByteArray.size_append] at c4b4)
  try (have c4b5 := c4b1; simp only [ByteArray.size_append] at c4b5)
  obtain rfl := Option.some.inj H
  go_enter Try.func25, Try.ntmps25
  try go_wp2_with (first | ((with_reducible refine gate_dst (N := 1) rfl ?_); refine box_event ?hg (N := 1) ?hd (cs := #[.bool a0_0, .int .i64 a0_1, .string a0_2]) (t := 34) ?hr ?_; (case hd => rfl); (case hg => rfl); (case hr => first | (go_simp; done) | (go_simp; rfl)); intro gb315 hg w5 hbox hb; have n0_ := Aside0.mk (below_step z0_ hb); have n1_ := Aside0.mk (hbox); have n2_ := Aside0.mk ((by rw [hg]; exact (below_size z0_) : w.heap.size ≤ gb315)); have n3_ := Aside0.mk ((by rw [hg]; exact (below_size z0_) : w.heap.size ≤ gb315)); clear HB; have HB := n0_; have BK315 := n1_; have GW315 := n2_; have GE315 := n3_; clear n0_ n1_ n2_ n3_; clear hb hbox hg))
  have n0_ := Aside0.mk (blk_drew BK315.out)
  have n1_ := Aside0.mk (below_drew1 HB.out)
  clear BK315
  clear HB
  have BK315 := n0_
  have HB := n1_
  clear n0_ n1_
  refine start_ (n := 8) (S := fun w' => w'.cell? ⟨gb315, 0, none⟩ = some (.bool a0_0) ∧ w'.cell? ⟨gb315, 1, none⟩ = some (.int .i64 a0_1) ∧ w'.cell? ⟨gb315, 2, none⟩ = some (.string a0_2)) (ds := []) (bs_ 8 0) (by kernel_rfl) rfl rfl ⟨(blk_cell BK315.out 0).trans rfl, (blk_cell BK315.out 1).trans rfl, (blk_cell BK315.out 2).trans rfl⟩ (fun hHeld => ?_); refine with_tabW tithebarnref16_value.tab1 tithebarnref16_value.bits1 (fun HT_ HW_ => ?_)
  generalize w5.drew = w6 at BK315 HB hHeld ⊢
  refine pA_ 0 (some 3) (bs_ 8 1) HT_ ?_ ?_ ?_ ?_ ?_
  rotate_left; (intro w'; go_simp; with_reducible rfl); rotate_left; (simp only [PT_]; rfl)
  refine pA_ 3 (some 6) (bs_ 8 9) HT_ ?_ ?_ ?_ ?_ ?_
  rotate_left; (intro w'; go_simp; with_reducible rfl); rotate_left; (simp only [PT_]; rfl)
  refine take_ (i := 1) (N := some 4) (v := ?_) (a' := ?_) (bs_ 8 11) rfl rfl (take_ofW HT_.out HW_.out (by kernel_rfl)) (fun _ _ _ h => h) (Or.inl ⟨by rfl, ?_⟩) hHeld ?_ ?_
  rotate_left
  ·rintro w' ⟨s0, s1, s2⟩
   go_simp
   with_reducible rfl
  rotate_left
  ·simp only [PT_]
   rfl
  refine take_ (i := 4) (N := some 7) (v := ?_) (a' := ?_) (bs_ 8 27) rfl rfl (take_ofW HT_.out HW_.out (by kernel_rfl)) (fun _ _ _ h => h) (Or.inl ⟨by rfl, ?_⟩) hHeld ?_ ?_
  rotate_left
  ·rintro w' ⟨s0, s1, s2⟩
   go_simp
   with_reducible rfl
  rotate_left
  ·simp only [PT_]
   rfl
  refine oA_ 2 (some 5) (bs_ 8 31) HT_ (fun K hK => ?_)
  refine goes_ Try.func46 (by kernel_rfl) rfl #[.int .i64 a0_1] (by rfl) rfl rfl (by (try simp only [List.map_toArray, List.map_cons, List.map_nil]); first | done | rfl | (simp only [List.length_drop, List.length_take]; rfl)) ?_
  with_reducible refine (tithebarnref01_Int.calls k a0_1 t316 _ A2.out).mono ?_
  rintro e w7 ⟨rfl, hb⟩
  refine ⟨_, rfl, ?_⟩
  have n0_ := Aside0.mk (blk_below (g := gb315) (o := .cells #[.bool a0_0, .int .i64 a0_1, .string a0_2] 34 (0, 0)) (by (with_reducible repeat (first | refine blk_drewN ?_ _ | refine blk_drew ?_ | refine blk_alloc ?_ _)); exact BK315.out) hb)
  have n1_ := Aside0.mk (below_step z28_ hb)
  clear BK315
  clear HB
  have BK315 := n0_
  have HB := n1_
  clear n0_ n1_
  (try clear hb)
  (try clear hb2)
  (try clear hk)
  (try clear hi)
  refine hK.out _ _ ⟨(blk_cell BK315.out 0).trans rfl, (blk_cell BK315.out 1).trans rfl, (blk_cell BK315.out 2).trans rfl⟩ (fun hHeld => ?_)
  clear hK K
  refine norm_ (a' := ?_) ?_ ?_; rotate_left; (show Act.put _ (some 5) _ = _; simp only [PT_]; rfl)
  refine oA_ 5 (some 8) (bs_ 8 63) HT_ (fun K hK => ?_)
  refine goes_ Try.func47 (by kernel_rfl) rfl #[.string a0_2] (by rfl) rfl rfl (by (try simp only [List.map_toArray, List.map_cons, List.map_nil]); first | done | rfl | (simp only [List.length_drop, List.length_take]; rfl)) ?_
  with_reducible refine (tithebarnref01_Text.calls k a0_2 t317 _ A3.out).mono ?_
  rintro e w8 ⟨rfl, hb⟩
  refine ⟨_, rfl, ?_⟩
  have n0_ := Aside0.mk (blk_below (g := gb315) (o := .cells #[.bool a0_0, .int .i64 a0_1, .string a0_2] 34 (0, 0)) (by (with_reducible repeat (first | refine blk_drewN ?_ _ | refine blk_drew ?_ | refine blk_alloc ?_ _)); exact BK315.out) hb)
  have n1_ := Aside0.mk (below_step z28_ hb)
  clear BK315
  clear HB
  have BK315 := n0_
  have HB := n1_
  clear n0_ n1_
  (try clear hb)
  (try clear hb2)
  (try clear hk)
  (try clear hi)
  refine hK.out _ _ ⟨(blk_cell BK315.out 0).trans rfl, (blk_cell BK315.out 1).trans rfl, (blk_cell BK315.out 2).trans rfl⟩ (fun hHeld => ?_)
  clear hK K
  refine norm_ (a' := ?_) ?_ ?_; rotate_left; (show Act.put _ (some 8) _ = _; simp only [PT_]; rfl)
  refine pA_ 6 (some 9) (bs_ 8 127) HT_ ?_ ?_ ?_ ?_ ?_
  rotate_left; (intro w'; go_simp; with_reducible rfl); rotate_left; (simp only [PT_]; rfl)
  refine pA_ 7 (some 2) (bs_ 8 255) HT_ ?_ ?_ ?_ ?_ ?_
  rotate_left; (intro w'; go_simp; with_reducible rfl); rotate_left; (simp only [PT_]; rfl)
  refine done_ (done_of HT_.out (by kernel_rfl)) ?_
  try go_wp2
  go_ret
  exact ⟨z2_, z28_⟩
 ·rw [if_neg c4] at H
  exact absurd H (by simp)
def tithebarnref08_four.f (a0 : Int) : Option (ByteArray) := some (strOfNums (([(a0) % 256, (a0 / 256) % 256, (a0 / 65536) % 256, (a0 / 16777216) % 256] : List Int)))
set_option maxHeartbeats 8000000 in
set_option maxRecDepth 100000 in
theorem tithebarnref08_four.calls (a0 : Int) (r : ByteArray) (w : World) (h : tithebarnref08_four.f a0 = some r) :
  Calls Try.prog 48 #[.int .u32 a0] w fun e w' => e = .returned (.string r) ∧ Below w.heap.size w w' := by
 have HB := Aside0.mk (Below.refl w.heap.size w)
 have H : (some (strOfNums (([(a0) % 256, (a0 / 256) % 256, (a0 / 65536) % 256, (a0 / 16777216) % 256] : List Int)))) = some r := h
 clear h
 obtain ⟨y318, hy318⟩ : ∃ y_ : List Int, y_ = (([(a0) % 256, (a0 / 256) % 256, (a0 / 65536) % 256, (a0 / 16777216) % 256] : List Int)) := ⟨_, rfl⟩
 replace H : (some (strOfNums y318)) = some r := by first | (rw [hy318]; with_reducible exact H) | (have H2_ := (Option.bind_some _ _).symm.trans H; rw [hy318]; with_reducible exact H2_) | (have H2_ := (Option.bind_some _ _).symm.trans H; with_reducible exact H2_) | with_reducible exact H | (rw [hy318]; exact H) | exact H
 have Ny318 := Aside0.mk hy318
 clear hy318
 obtain rfl := Option.some.inj H
 go_enter Try.func48, Try.ntmps48
 go_wp2_with (first | ((with_reducible refine gate_dst (N := 14) rfl ?_); refine Kd.R_lit (Kd.int .u8) _ 5 ?hg (N := 14) ?hd (xs := ([(a0) % 256, (a0 / 256) % 256, (a0 / 65536) % 256, (a0 / 16777216) % 256] : List Int)) (inner := [.int .u8 ((a0) % 256), .int .u8 ((a0 / 256) % 256), .int .u8 ((a0 / 65536) % 256), .int .u8 ((a0 / 16777216) % 256)]) (ok := fun _ => True) (okp := fun _ => True) ?hr ?hp (fun _ hk => hk) trivial (Below.refl _ _) (Nat.le_refl _) (by simp) ?_; (case hd => rfl); (case hg => rfl); (case hr => first | (go_simp; done) | (go_simp; rfl)); (case hp => exact (Reps.one (show Kd.M (Kd.int .u8) _ _ _ ((a0) % 256) [.int .u8 ((a0) % 256)] from rfl) (Reps.one (show Kd.M (Kd.int .u8) _ _ _ ((a0 / 256) % 256) [.int .u8 ((a0 / 256) % 256)] from rfl) (Reps.one (show Kd.M (Kd.int .u8) _ _ _ ((a0 / 65536) % 256) [.int .u8 ((a0 / 65536) % 256)] from rfl) (Reps.one (show Kd.M (Kd.int .u8) _ _ _ ((a0 / 16777216) % 256) [.int .u8 ((a0 / 16777216) % 256)] from rfl) (Reps.none _ _)))))); intro v319 w2 ho3 hb hg_ hnew_; clear hg_ hnew_; (first | rw [← Ny318.out] at ho3 | (simp only [Int.reduceToNat] at ho3; rw [← Ny318.out] at ho3)); have n0_ := Aside0.mk (Kd.R_lower ho3 (below_size z0_)); have n1_ := Aside0.mk (below_step z0_ hb); clear HB; have HO320 := n0_; have HB := n1_; clear n0_ n1_; clear hb ho3; have hcv4 := own_string (P := Try.prog) Try.underlying51 Try.underlying5 Try.underlying9 (Kd.own_of_R HO320.out)))
 go_ret
 exact ⟨z2_, z0_⟩
def tithebarnref08_Sum.f (a0 : ByteArray) : Option Int := if a0.size ≤ 4611686018427387904 then some ((crc (bytesOf a0) : Nat) : Int) else none
theorem tithebarnref08_Sum.calls (a0 : ByteArray) (r : Int) (w : World) (h : tithebarnref08_Sum.f a0 = some r) :
  Calls Try.prog 49 #[.string a0] w fun e w' => e = .returned (.int .u32 r) ∧ Drawn0 w w' := by
 unfold tithebarnref08_Sum.f at h
 split at h
 ·rename_i hs
  obtain rfl := Option.some.inj h
  refine (RSum_calls a0 w hs).mono ?_
  rintro e w' ⟨rfl, rfl⟩
  exact ⟨rfl, Drawn0.refl _⟩
 ·exact absurd h (by simp)
def tithebarnref08_Write.f (a0 : ByteArray) : Option (ByteArray) := (tithebarnref08_four.f (((a0.size : Int)) % 4294967296)).bind fun t321 => (if t321.size + a0.size ≤ 9223372036854775807 then ((tithebarnref08_Sum.f a0).bind fun t322 => ((tithebarnref08_four.f t322).bind fun t323 => (if (t321 ++ a0).size + t323.size ≤ 9223372036854775807 then (some ((t321 ++ a0) ++ t323)) else (none)))) else (none))
set_option maxHeartbeats 8000000 in
set_option maxRecDepth 100000 in
theorem tithebarnref08_Write.calls (a0 : ByteArray) (r : ByteArray) (w : World) (h : tithebarnref08_Write.f a0 = some r) :
  Calls Try.prog 26 #[.string a0] w fun e w' => e = .returned (.string r) ∧ Below w.heap.size w w' := by
 have HB := Aside0.mk (Below.refl w.heap.size w)
 have H : ((tithebarnref08_four.f (((a0.size : Int)) % 4294967296)).bind fun t321 => (if t321.size + a0.size ≤ 9223372036854775807 then ((tithebarnref08_Sum.f a0).bind fun t322 => ((tithebarnref08_four.f t322).bind fun t323 => (if (t321 ++ a0).size + t323.size ≤ 9223372036854775807 then (some ((t321 ++ a0) ++ t323)) else (none)))) else (none))) = some r := h
 clear h
 replace H := Option.bind_eq_some_iff.mp H
 obtain ⟨t321, A20, H⟩ := H
 replace H : (if t321.size + a0.size ≤ 9223372036854775807 then ((tithebarnref08_Sum.f a0).bind fun t322 => ((tithebarnref08_four.f t322).bind fun t323 => (if (t321 ++ a0).size + t323.size ≤ 9223372036854775807 then (some ((t321 ++ a0) ++ t323)) else (none)))) else (none)) = some r := H
 have A2 := Aside0.mk A20
 clear A20
 by_cases c3 : t321.size + a0.size ≤ 9223372036854775807
 ·rw [if_pos c3] at H
  have c3b0 := eq_true c3
  have c3b1 : decide (t321.size + a0.size ≤ 9223372036854775807) = true := decide_eq_true c3
  try have c3b2 : (9223372036854775807 < t321.size + a0.size) = False := eq_false (Nat.not_lt.2 c3)
  try (have c3b3 := c3b2; simp only [ByteArray.size_append] at c3b3)
  try (have c3b4 := c3b0; simp only [ByteArray.size_append] at c3b4)
  try (have c3b5 := c3b1; simp only [ByteArray.size_append] at c3b5)
  replace H := Option.bind_eq_some_iff.mp H
  obtain ⟨t322, A40, H⟩ := H
  replace H : ((tithebarnref08_four.f t322).bind fun t323 => (if (t321 ++ a0).size + t323.size ≤ 9223372036854775807 then (some ((t321 ++ a0) ++ t323)) else (none))) = some r := H
  have A4 := Aside0.mk A40
  clear A40
  replace H := Option.bind_eq_some_iff.mp H
  obtain ⟨t323, A50, H⟩ := H
  replace H : (if (t321 ++ a0).size + t323.size ≤ 9223372036854775807 then (some ((t321 ++ a0) ++ t323)) else (none)) = some r := H
  have A5 := Aside0.mk A50
  clear A50
  by_cases c6 : (t321 ++ a0).size + t323.size ≤ 9223372036854775807
  ·rw [if_pos c6] at H
   have c6b0 := eq_true c6
   have c6b1 : decide ((t321 ++ a0).size + t323.size ≤ 9223372036854775807) = true := decide_eq_true c6
   try have c6b2 : (9223372036854775807 < (t321 ++ a0).size + t323.size) = False := eq_false (Nat.not_lt.2 c6)
   try (have c6b3 := c6b2; simp only [ByteArray.size_append] at c6b3)
   try (have c6b4 := c6b0; simp only [ByteArray.size_append] at c6b4)
   try (have c6b5 := c6b1; simp only [ByteArray.size_append] at c6b5)
   obtain rfl := Option.some.inj H
   go_enter Try.func26, Try.ntmps26
   go_wp2_with (first | ((with_reducible refine gate_callee (f := 48) rfl ?_); refine goesL_ (some 6) rfl rfl Try.func48 (by kernel_rfl) rfl #[.int .u32 (((a0.size : Int)) % 4294967296)] rfl (by (try simp only [List.map_toArray, List.map_cons, List.map_nil]); first | done | rfl | (simp only [List.length_drop, List.length_take]; rfl) | (go_simp; simp [IntKind.wrap, IntKind.bits, IntKind.signed]; omega)) ?_; (with_reducible refine (tithebarnref08_four.calls (((a0.size : Int)) % 4294967296) t321 _ A2.out).mono ?_); rintro e w7 ⟨rfl, hb⟩; refine ⟨_, rfl, ?_⟩; have n0_ := Aside0.mk (below_step z0_ hb); clear HB; have HB := n0_; clear n0_; (try clear hb); (try clear hb2); (try clear hk); (try clear hi)) | ((with_reducible refine gate_callee (f := 49) rfl ?_); refine goesL_ (some 10) rfl rfl Try.func49 (by kernel_rfl) rfl #[.string a0] rfl (by (try simp only [List.map_toArray, List.map_cons, List.map_nil]); first | done | rfl | (simp only [List.length_drop, List.length_take]; rfl) | (go_simp; simp [IntKind.wrap, IntKind.bits, IntKind.signed]; omega)) ?_; (with_reducible refine (tithebarnref08_Sum.calls a0 t322 _ A4.out).mono ?_); rintro e w' ⟨rfl, ⟨nd, rfl⟩⟩; refine ⟨_, rfl, ?_⟩) | ((with_reducible refine gate_callee (f := 48) rfl ?_); refine goesL_ (some 11) rfl rfl Try.func48 (by kernel_rfl) rfl #[.int .u32 t322] rfl (by (try simp only [List.map_toArray, List.map_cons, List.map_nil]); first | done | rfl | (simp only [List.length_drop, List.length_take]; rfl) | (go_simp; simp [IntKind.wrap, IntKind.bits, IntKind.signed]; omega)) ?_; (with_reducible refine (tithebarnref08_four.calls t322 t323 _ A5.out).mono ?_); rintro e w8 ⟨rfl, hb⟩; refine ⟨_, rfl, ?_⟩; have n0_ := Aside0.mk (below_step z0_ hb); clear HB; have HB := n0_; clear n0_; (try clear hb); (try clear hb2); (try clear hk); (try clear hi)))
   go_ret
   exact ⟨z2_, z0_⟩
  ·rw [if_neg c6] at H
   exact absurd H (by simp)
 ·rw [if_neg c3] at H
  exact absurd H (by simp)
end Go.Proofs.Ytagokgijffpdnaa.G
namespace Go.Proofs.Ytagokgijffpdnaa.G
open Go.RowKit Go.Proofs.YtagokgijffpdnaaQ Go.Proofs.YtagokgijffpdnaaW.PrintWords Go.Proofs.YtagokgijffpdnaaW.PrintLast Go.Proofs.YtagokgijffpdnaaW.PrintMore
set_option linter.unusedVariables false
set_option linter.unusedSimpArgs false
theorem rUint_l0 (n : Nat) : ∀ (k : Nat) (a size mark : Int) (l : List Int), n ≤ 9 → (size = 1 ∨ size = 2 ∨ size = 4 ∨ size = 9) → (n : Int) ≤ size → n < k → l.length + n ≤ 140737488355328 →
  tithebarnref01_Uint.l0 k a size mark l ((n : Int) - 1) = some (strOfNums (l ++ (List.range n).reverse.map fun (i : Nat) => if (i : Int) = size - 1 then ((if i < 8 then a / 256 ^ i else 0) + mark) % 256 else (if i < 8 then a / 256 ^ i else 0) % 256)) := by
 induction n with
 | zero =>
  intro k a size mark l _ _ _ hk hl
  obtain ⟨k, rfl⟩ : ∃ m, k = m + 1 := ⟨k - 1, by omega⟩
  simp only [tithebarnref01_Uint.l0]
  rw [if_neg (by omega)]; simp
 | succ n ih =>
  intro k a size mark l h9 hsz hn hk hl
  obtain ⟨k, rfl⟩ : ∃ m, k = m + 1 := ⟨k - 1, by omega⟩
  have e : ((n + 1 : Nat) : Int) - 1 = (n : Int) := by omega
  rw [e]
  simp only [tithebarnref01_Uint.l0]
  have hs1 : wrap64 (size - 1) = size - 1 := w64 (by omega) (by omega)
  have hn1 : wrap64 ((n : Int) - 1) = (n : Int) - 1 := w64 (by omega) (by omega)
  rw [if_pos (by omega), hs1, hn1]
  rw [List.range_succ, List.reverse_append, List.reverse_singleton, List.singleton_append, List.map_cons]
  by_cases c : n < 8
  ·have h8 : IntKind.u64.wrap (wrap64 (8 * (n : Int))) = ((8 * n : Nat) : Int) := by rw [w64 (by omega) (by omega), wu64 (by omega) (by omega)]; omega
   rw [if_pos (by omega), h8, if_pos (by omega), shr_u64_lit a (8 * n) (by omega)]
   have e2 : (2 : Int) ^ (8 * n) = 256 ^ n := by rw [Int.pow_mul]; rfl
   rw [e2]
   by_cases d : (n : Int) = size - 1
   ·rw [if_pos d, if_pos (by omega), ih k a size mark _ (by omega) hsz (by omega) (by omega) (by simp; omega)]
    rw [List.append_assoc, List.singleton_append, if_pos d, if_pos c]
   ·rw [if_neg d, if_pos (by omega), ih k a size mark _ (by omega) hsz (by omega) (by omega) (by simp; omega)]
    rw [List.append_assoc, List.singleton_append, if_neg d, if_pos c]
  ·have h8 : n = 8 := by omega
   rw [if_neg (by omega)]
   by_cases d : (n : Int) = size - 1
   ·rw [if_pos d, if_pos (by omega), ih k a size mark _ (by omega) hsz (by omega) (by omega) (by simp; omega)]
    rw [List.append_assoc, List.singleton_append, if_pos d, if_neg c]; simp
   ·rw [if_neg d, if_pos (by omega), ih k a size mark _ (by omega) hsz (by omega) (by omega) (by simp; omega)]
    rw [List.append_assoc, List.singleton_append, if_neg d, if_neg c]; simp
theorem rUint_f {k : Nat} (hk : 12 ≤ k) {x : Int} (hx : u64 x) : tithebarnref01_Uint.f k x = some (strOfNums (encU x)) := by
 obtain ⟨h0, h1⟩ := hx
 obtain ⟨k, rfl⟩ : ∃ m, k = m + 1 := ⟨k - 1, by omega⟩
 have go : ∀ (n : Nat) (mark : Int), n ≤ 9 → (n = 1 ∨ n = 2 ∨ n = 4 ∨ n = 9) → tithebarnref01_Uint.j0 (k + 1) x n mark = some (strOfNums ((List.range n).reverse.map fun (i : Nat) => if (i : Int) = n - 1 then ((if i < 8 then x / 256 ^ i else 0) + mark) % 256 else (if i < 8 then x / 256 ^ i else 0) % 256)) := by
  intro n mark hn hs
  simp only [tithebarnref01_Uint.j0]
  rw [w64 (by omega) (by omega), rUint_l0 n k x n mark [] hn (by omega) (by omega) (by omega) (by simp; omega)]
  rfl
 unfold tithebarnref01_Uint.f encU
 by_cases c1 : x < 64
 ·rw [if_pos c1, if_pos c1]
  refine (go 1 0 (by omega) (by omega)).trans ?_
  simp [List.range_succ]; congr 2; omega
 ·rw [if_neg c1, if_neg c1]
  by_cases c2 : x < 16384
  ·rw [if_pos c2, if_pos c2]
   refine (go 2 64 (by omega) (by omega)).trans ?_
   simp [List.range_succ]; congr 2; omega
  ·rw [if_neg c2, if_neg c2]
   by_cases c3 : x < 1073741824
   ·rw [if_pos c3, if_pos c3]
    refine (go 4 128 (by omega) (by omega)).trans ?_
    simp [List.range_succ]; congr 2; omega
   ·rw [if_neg c3, if_neg c3]
    refine (go 9 192 (by omega) (by omega)).trans ?_
    simp [List.range_succ]
theorem rFold_f {x : Int} (hx : i64 x) : tithebarnref01_Fold.f x = some (fold x) := by
 obtain ⟨h0, h1⟩ := hx
 unfold tithebarnref01_Fold.f fold
 by_cases c : x < 0
 ·rw [if_pos c, if_pos c, w64 (x := x + 1) (by omega) (by omega), w64 (x := -(x + 1)) (by omega) (by omega), wu64 (x := -(x + 1)) (by omega) (by omega), wu64 (x := 2 * -(x + 1)) (by omega) (by omega), wu64 (by omega) (by omega)]
  congr 1; omega
 ·rw [if_neg c, if_neg c, wu64 (x := x) (by omega) (by omega), wu64 (by omega) (by omega)]
theorem rInt_f {k : Nat} (hk : 12 ≤ k) {x : Int} (hx : i64 x) : tithebarnref01_Int.f k x = some (strOfNums (encI x)) := by
 unfold tithebarnref01_Int.f
 rw [rFold_f hx]
 simp only [Option.bind_some]
 rw [rUint_f hk (fold_u64 hx)]; rfl
theorem rText_f {k : Nat} (hk : 12 ≤ k) {s : ByteArray} (hl : s.size < 9223372036854775000) : tithebarnref01_Text.f k s = some (strOfNums (encT (bytesOf s))) := by
 unfold tithebarnref01_Text.f
 have hu : u64 (s.size : Int) := by unfold u64; omega
 rw [wu64 hu.1 hu.2, rUint_f hk hu]
 have := encU_len (s.size : Int)
 simp only [Option.bind_some]
 rw [if_pos (by rw [size_strOfNums]; omega), encT, strOfNums_append, strOfNums_bytesOf, bytesOf_size]
end Go.Proofs.Ytagokgijffpdnaa.G
namespace Go.Proofs.Ytagokgijffpdnaa.G
open Go.RowKit Go.Proofs.YtagokgijffpdnaaQ Go.Proofs.YtagokgijffpdnaaW.PrintWords Go.Proofs.YtagokgijffpdnaaW.PrintLast Go.Proofs.YtagokgijffpdnaaW.PrintMore
attribute [local go_sem] max2_int min2_int max_two min_two max_three min_three max_four min_four   -- for this text's walks alone
set_option linter.unusedVariables false
set_option linter.unusedSimpArgs false
mutual
def tithebarnref16_Write.l0 : Nat → ByteArray → Int → List Int → List (S36) → Int → Int → Option (ByteArray × Int)
 | 0, _, _, _, _, _, _ => none
 | k + 1, x4, x5, x325000, x325001, x325002, x325003 => if x5 < (x325000.length : Int) then (if 0 ≤ x5 then ((tithebarnref16_num.f k (rd x325000 x5)).bind fun t328 => (if x4.size + t328.size ≤ 9223372036854775807 then (tithebarnref16_Write.l0 k (x4 ++ t328) (wrap64 (x5 + 1)) x325000 x325001 x325002 x325003) else (none))) else (none)) else ((tithebarnref16_num.f k (x325001.length : Int)).bind fun t329 => (if x4.size + t329.size ≤ 9223372036854775807 then (tithebarnref16_Write.l1 k (x4 ++ t329) 0 x325000 x325001 x325002 x325003) else (none)))
def tithebarnref16_Write.l1 : Nat → ByteArray → Int → List Int → List (S36) → Int → Int → Option (ByteArray × Int)
 | 0, _, _, _, _, _, _ => none
 | k + 1, x4, x6, x325000, x325001, x325002, x325003 => if x6 < (x325001.length : Int) then (if 0 ≤ x6 then ((tithebarnref16_num.f k ((rd_T36 x325001 x6).f0)).bind fun t335 => ((tithebarnref16_num.f k ((rd_T36 x325001 x6).f1)).bind fun t336 => (if t335.size + t336.size ≤ 9223372036854775807 then ((tithebarnref16_value.f k ((rd_T36 x325001 x6).f2.f0) ((rd_T36 x325001 x6).f2.f1) ((rd_T36 x325001 x6).f2.f2)).bind fun t337 => (if (t335 ++ t336).size + t337.size ≤ 9223372036854775807 then ((tithebarnref16_value.f k ((rd_T36 x325001 x6).f3.f0) ((rd_T36 x325001 x6).f3.f1) ((rd_T36 x325001 x6).f3.f2)).bind fun t338 => (if ((t335 ++ t336) ++ t337).size + t338.size ≤ 9223372036854775807 then (if x4.size + (((t335 ++ t336) ++ t337) ++ t338).size ≤ 9223372036854775807 then (tithebarnref16_Write.l1 k (x4 ++ (((t335 ++ t336) ++ t337) ++ t338)) (wrap64 (x6 + 1)) x325000 x325001 x325002 x325003) else (none)) else (none))) else (none))) else (none)))) else (none)) else ((tithebarnref16_num.f k x325002).bind fun t330 => (if x4.size + t330.size ≤ 9223372036854775807 then ((tithebarnref16_num.f k x325003).bind fun t331 => (if (x4 ++ t330).size + t331.size ≤ 9223372036854775807 then ((tithebarnref08_Write.f ((x4 ++ t330) ++ t331)).bind fun t332 => (some (t332, 0))) else (none))) else (none)))
end
def tithebarnref16_Write.f (k : Nat) (l0_0 : List Int) (l0_1 : List (S36)) (a0_2 : Int) (a0_3 : Int) : Option (ByteArray × Int) := (tithebarnref16_Right.f k l0_0 l0_1 a0_2 a0_3).bind fun t325 => (if t325 = true then ((tithebarnref16_num.f k (l0_0.length : Int)).bind fun t326 => (tithebarnref16_Write.l0 k t326 0 l0_0 l0_1 a0_2 a0_3)) else (some ((⟨#[]⟩ : ByteArray), 1)))
theorem tithebarnref16_Write.mono_l : ∀ k, (∀ y0 y1 y2 y3 y4 y5, LeO (tithebarnref16_Write.l0 k y0 y1 y2 y3 y4 y5) (tithebarnref16_Write.l0 (k + 1) y0 y1 y2 y3 y4 y5)) ∧ (∀ y0 y1 y2 y3 y4 y5, LeO (tithebarnref16_Write.l1 k y0 y1 y2 y3 y4 y5) (tithebarnref16_Write.l1 (k + 1) y0 y1 y2 y3 y4 y5))
 | 0 => ⟨fun _ _ _ _ _ _ r h => by simp [tithebarnref16_Write.l0] at h, fun _ _ _ _ _ _ r h => by simp [tithebarnref16_Write.l1] at h⟩
 | k + 1 => by
  obtain ⟨ih0, ih1⟩ := tithebarnref16_Write.mono_l k
  refine ⟨?_, ?_⟩
  ·intro y0 y1 y2 y3 y4 y5
   unfold tithebarnref16_Write.l0
   repeat' first
   | (with_reducible exact ih0 _ _ _ _ _ _)
   | (with_reducible exact ih1 _ _ _ _ _ _)
   | (with_reducible exact tithebarnref16_Right.mono _ _ _ _ _)
   | (with_reducible exact tithebarnref16_num.mono _ _)
   | (with_reducible exact tithebarnref16_value.mono _ _ _ _)
   | (with_reducible exact LeO.refl _)
   | (with_reducible exact LeO.none _)
   | (with_reducible refine LeO.ite ?_ ?_)
   | (with_reducible refine LeO.bind ?_ (fun _ => ?_))
   | exact ih0 _ _ _ _ _ _
   | exact ih1 _ _ _ _ _ _
   | exact tithebarnref16_Right.mono _ _ _ _ _
   | exact tithebarnref16_num.mono _ _
   | exact tithebarnref16_value.mono _ _ _ _
   | exact LeO.none _
   | refine LeO.ite ?_ ?_
   | refine LeO.bind ?_ (fun _ => ?_)
  ·intro y0 y1 y2 y3 y4 y5
   unfold tithebarnref16_Write.l1
   repeat' first
   | (with_reducible exact ih0 _ _ _ _ _ _)
   | (with_reducible exact ih1 _ _ _ _ _ _)
   | (with_reducible exact tithebarnref16_Right.mono _ _ _ _ _)
   | (with_reducible exact tithebarnref16_num.mono _ _)
   | (with_reducible exact tithebarnref16_value.mono _ _ _ _)
   | (with_reducible exact LeO.refl _)
   | (with_reducible exact LeO.none _)
   | (with_reducible refine LeO.ite ?_ ?_)
   | (with_reducible refine LeO.bind ?_ (fun _ => ?_))
   | exact ih0 _ _ _ _ _ _
   | exact ih1 _ _ _ _ _ _
   | exact tithebarnref16_Right.mono _ _ _ _ _
   | exact tithebarnref16_num.mono _ _
   | exact tithebarnref16_value.mono _ _ _ _
   | exact LeO.none _
   | refine LeO.ite ?_ ?_
   | refine LeO.bind ?_ (fun _ => ?_)
theorem tithebarnref16_Write.mono : ∀ a0 a1 a2 a3 k, LeO (tithebarnref16_Write.f k a0 a1 a2 a3) (tithebarnref16_Write.f (k + 1) a0 a1 a2 a3) := by
 intro a0 a1 a2 a3 k
 obtain ⟨ih0, ih1⟩ := tithebarnref16_Write.mono_l k
 unfold tithebarnref16_Write.f
 repeat' first
   | (with_reducible exact ih0 _ _ _ _ _ _)
   | (with_reducible exact ih1 _ _ _ _ _ _)
   | (with_reducible exact tithebarnref16_Right.mono _ _ _ _ _)
   | (with_reducible exact tithebarnref16_num.mono _ _)
   | (with_reducible exact tithebarnref16_value.mono _ _ _ _)
   | (with_reducible exact LeO.refl _)
   | (with_reducible exact LeO.none _)
   | (with_reducible refine LeO.ite ?_ ?_)
   | (with_reducible refine LeO.bind ?_ (fun _ => ?_))
   | exact ih0 _ _ _ _ _ _
   | exact ih1 _ _ _ _ _ _
   | exact tithebarnref16_Right.mono _ _ _ _ _
   | exact tithebarnref16_num.mono _ _
   | exact tithebarnref16_value.mono _ _ _ _
   | exact LeO.none _
   | refine LeO.ite ?_ ?_
   | refine LeO.bind ?_ (fun _ => ?_)
def tithebarnref16_Write.T13 : Bool × List (List Nat × List Nat) := (true, [([], []), ([], []), ([1], [1]), ([2], [2]), ([], []), ([4], [4]), ([5, 3], [5]), ([3, 6], [3, 6]), ([], []), ([8], [8]), ([9, 6], [9]), ([7, 10], [7, 10]), ([], []), ([12], [12]), ([13, 10], [13]), ([11, 14], [11, 14]), ([0, 15], [0, 15]), ([16, 14, 0, 1, 2, 3, 4, 5, 6, 7, 8, 9, 10, 11, 12, 13, 14, 15, 16], [0, 16])])
def tithebarnref16_Write.B13 : List Nat := [0, 0, 2, 6, 0, 16, 62, 126, 0, 256, 894, 2046, 0, 4096, 14206, 32766, 65535, 131071]
theorem tithebarnref16_Write.tab13 : rtab .any (opsOf Try.f13 13) = tithebarnref16_Write.T13 := by kernel_rfl
theorem tithebarnref16_Write.bits13 : waitsOk tithebarnref16_Write.T13.2 tithebarnref16_Write.B13 = true := by kernel_rfl
def tithebarnref16_Write.T14 : Bool × List (List Nat × List Nat) := (true, [([], []), ([], []), ([1], [1]), ([2], [2]), ([0, 3], [0, 3]), ([], []), ([5], [5]), ([6, 3], [6]), ([4, 7], [4, 7]), ([8, 7], [8]), ([9, 9, 0, 1, 2, 3, 4, 5, 6, 7, 8, 9], [9]), ([10, 0, 1, 2, 3, 4, 5, 6, 7, 8, 9, 10], [])])
def tithebarnref16_Write.B14 : List Nat := [0, 0, 2, 6, 15, 0, 32, 110, 255, 511, 1023, 2047]
theorem tithebarnref16_Write.tab14 : rtab .any (opsOf Try.f13 14) = tithebarnref16_Write.T14 := by kernel_rfl
theorem tithebarnref16_Write.bits14 : waitsOk tithebarnref16_Write.T14.2 tithebarnref16_Write.B14 = true := by kernel_rfl
set_option maxHeartbeats 8000000 in
set_option maxRecDepth 100000 in
theorem tithebarnref16_Write.calls (k : Nat) (A0_0 : Option Addr) (c0_0 : Nat) (l0_0 : List Int) (A0_1 : Option Addr) (c0_1 : Nat) (l0_1 : List (S36)) (a0_2 : Int) (a0_3 : Int) (r1 : ByteArray) (r2 : Int) (w : World) (hr0_0 : Kd.C (Kd.int .i64) w A0_0 l0_0.length l0_0) (hc0_0 : l0_0.length ≤ c0_0) (hr0_1 : Kd.C k36 w A0_1 l0_1.length l0_1) (hc0_1 : l0_1.length ≤ c0_1) (h : tithebarnref16_Write.f k l0_0 l0_1 a0_2 a0_3 = some (r1, r2)) :
  Calls Try.prog 13 #[.agg #[.slice A0_0 l0_0.length c0_0, .slice A0_1 l0_1.length c0_1, .int .i64 a0_2, .int .i64 a0_3]] w fun e w' => e = .returned (.tuple #[.string r1, .int .i64 r2]) ∧ Below w.heap.size w w' := by
 have hu32 := Try.underlying32
 have hu36 := Try.underlying36
 have hu34 := Try.underlying34
 have HR0_0 := Aside0.mk hr0_0
 have HC0_0 := Aside0.mk hc0_0
 clear hr0_0 hc0_0
 have HR0_1 := Aside0.mk hr0_1
 have HC0_1 := Aside0.mk hc0_1
 clear hr0_1 hc0_1
 have HB := Aside0.mk (Below.refl w.heap.size w)
 have H : ((tithebarnref16_Right.f k l0_0 l0_1 a0_2 a0_3).bind fun t325 => (if t325 = true then ((tithebarnref16_num.f k (l0_0.length : Int)).bind fun t326 => (tithebarnref16_Write.l0 k t326 0 l0_0 l0_1 a0_2 a0_3)) else (some ((⟨#[]⟩ : ByteArray), 1)))) = some (r1, r2) := h
 clear h
 replace H := Option.bind_eq_some_iff.mp H
 obtain ⟨t325, A20, H⟩ := H
 replace H : (if t325 = true then ((tithebarnref16_num.f k (l0_0.length : Int)).bind fun t326 => (tithebarnref16_Write.l0 k t326 0 l0_0 l0_1 a0_2 a0_3)) else (some ((⟨#[]⟩ : ByteArray), 1))) = some (r1, r2) := H
 have A2 := Aside0.mk A20
 clear A20
 by_cases c3 : t325 = true
 ·subst c3
  have H1 : ((tithebarnref16_num.f k (l0_0.length : Int)).bind fun t326 => (tithebarnref16_Write.l0 k t326 0 l0_0 l0_1 a0_2 a0_3)) = some (r1, r2) := by rw [if_pos rfl] at H; exact H
  clear H
  have H := H1
  clear H1
  replace H := Option.bind_eq_some_iff.mp H
  obtain ⟨t326, A40, H⟩ := H
  replace H : (tithebarnref16_Write.l0 k t326 0 l0_0 l0_1 a0_2 a0_3) = some (r1, r2) := H
  have A4 := Aside0.mk A40
  clear A40
  have H' := Aside0.mk H
  clear H
  go_enter Try.func13, Try.ntmps13
  go_wp2_with (first | ((with_reducible refine gate_dst (N := 1) rfl ?_); refine box_event ?hg (N := 1) ?hd (cs := #[.slice A0_0 l0_0.length c0_0, .slice A0_1 l0_1.length c0_1, .int .i64 a0_2, .int .i64 a0_3]) (t := 32) ?hr ?_; (case hd => rfl); (case hg => rfl); (case hr => first | (go_simp; done) | (go_simp; rfl)); intro gb324 hg w5 hbox hb; have n0_ := Aside0.mk (below_step z0_ hb); have n1_ := Aside0.mk (hbox); have n2_ := Aside0.mk ((by rw [hg]; exact (below_size z0_) : w.heap.size ≤ gb324)); have n3_ := Aside0.mk ((by rw [hg]; exact (below_size z0_) : w.heap.size ≤ gb324)); clear HB; have HB := n0_; have BK324 := n1_; have GW324 := n2_; have GE324 := n3_; clear n0_ n1_ n2_ n3_; clear hb hbox hg; have hcz6_0 : w5.cell? ⟨gb324, 0, none⟩ = some (.slice A0_0 l0_0.length c0_0) := (blk_cell BK324.out 0).trans rfl; have hcz6_1 : w5.cell? ⟨gb324, 1, none⟩ = some (.slice A0_1 l0_1.length c0_1) := (blk_cell BK324.out 1).trans rfl; have hcz6_2 : w5.cell? ⟨gb324, 2, none⟩ = some (.int .i64 a0_2) := (blk_cell BK324.out 2).trans rfl; have hcz6_3 : w5.cell? ⟨gb324, 3, none⟩ = some (.int .i64 a0_3) := (blk_cell BK324.out 3).trans rfl; have hfz6_0 := blk_frozen BK324.out 0; have hfz6_1 := blk_frozen BK324.out 1; have hfz6_2 := blk_frozen BK324.out 2; have hfz6_3 := blk_frozen BK324.out 3) | ((with_reducible refine gate_callee (f := 23) rfl ?_); refine goesL_ (some 9) rfl rfl Try.func23 (by kernel_rfl) rfl #[.agg #[.slice A0_0 l0_0.length c0_0, .slice A0_1 l0_1.length c0_1, .int .i64 a0_2, .int .i64 a0_3]] rfl (by (try simp only [List.map_toArray, List.map_cons, List.map_nil]); first | done | rfl | (simp only [List.length_drop, List.length_take]; rfl) | (go_simp; simp [IntKind.wrap, IntKind.bits, IntKind.signed]; omega)) ?_; (with_reducible refine (tithebarnref16_Right.calls k _ _ l0_0 _ _ l0_1 a0_2 a0_3 true _ ?side1 ?side2 ?side3 ?side4 A2.out).mono ?_); (case side1 => repeat (first | exact (Kd.C_below HR0_0.out HB.out) | (with_reducible refine Kd.C_alloc ?_ _) | (with_reducible refine Kd.C_drewN ?_ _) | (with_reducible refine Kd.C_drew ?_))); (case side2 => exact HC0_0.out); (case side3 => repeat (first | exact (Kd.C_below HR0_1.out HB.out) | (with_reducible refine Kd.C_alloc ?_ _) | (with_reducible refine Kd.C_drewN ?_ _) | (with_reducible refine Kd.C_drew ?_))); (case side4 => exact HC0_1.out); rintro e w7 ⟨rfl, hb⟩; refine ⟨_, rfl, ?_⟩; have n0_ := Aside0.mk (blk_below (g := gb324) (o := .cells #[.slice A0_0 l0_0.length c0_0, .slice A0_1 l0_1.length c0_1, .int .i64 a0_2, .int .i64 a0_3] 32 (0, 0)) (by (with_reducible repeat (first | refine blk_drewN ?_ _ | refine blk_drew ?_ | refine blk_alloc ?_ _)); exact BK324.out) hb); have n1_ := Aside0.mk (below_step z8_ hb); clear BK324; clear HB; have BK324 := n0_; have HB := n1_; clear n0_ n1_; (try clear hb); (try clear hb2); (try clear hk); (try clear hi); have hcz8_0 : w7.cell? ⟨gb324, 0, none⟩ = some (.slice A0_0 l0_0.length c0_0) := (blk_cell BK324.out 0).trans rfl; have hcz8_1 : w7.cell? ⟨gb324, 1, none⟩ = some (.slice A0_1 l0_1.length c0_1) := (blk_cell BK324.out 1).trans rfl; have hcz8_2 : w7.cell? ⟨gb324, 2, none⟩ = some (.int .i64 a0_2) := (blk_cell BK324.out 2).trans rfl; have hcz8_3 : w7.cell? ⟨gb324, 3, none⟩ = some (.int .i64 a0_3) := (blk_cell BK324.out 3).trans rfl; have hfz8_0 := blk_frozen BK324.out 0; have hfz8_1 := blk_frozen BK324.out 1; have hfz8_2 := blk_frozen BK324.out 2; have hfz8_3 := blk_frozen BK324.out 3) | ((with_reducible refine gate_callee (f := 24) rfl ?_); refine goesL_ (some 14) rfl rfl Try.func24 (by kernel_rfl) rfl #[.int .i64 (l0_0.length : Int)] rfl (by (try simp only [List.map_toArray, List.map_cons, List.map_nil]); first | done | rfl | (simp only [List.length_drop, List.length_take]; rfl) | (go_simp; simp [IntKind.wrap, IntKind.bits, IntKind.signed]; omega)) ?_; (with_reducible refine (tithebarnref16_num.calls k (l0_0.length : Int) t326 _ A4.out).mono ?_); rintro e w9 ⟨rfl, hb⟩; refine ⟨_, rfl, ?_⟩; have n0_ := Aside0.mk (blk_below (g := gb324) (o := .cells #[.slice A0_0 l0_0.length c0_0, .slice A0_1 l0_1.length c0_1, .int .i64 a0_2, .int .i64 a0_3] 32 (0, 0)) (by (with_reducible repeat (first | refine blk_drewN ?_ _ | refine blk_drew ?_ | refine blk_alloc ?_ _)); exact BK324.out) hb); have n1_ := Aside0.mk (below_step z8_ hb); clear BK324; clear HB; have BK324 := n0_; have HB := n1_; clear n0_ n1_; (try clear hb); (try clear hb2); (try clear hk); (try clear hi)))
  go_loopg [4, 5] k (fun kq v4 v5 w' => ∃ (x4_1 : ByteArray) (x5_1 : Int), v4 = .string x4_1 ∧ v5 = .int .i64 x5_1 ∧ Aside0 (tithebarnref16_Write.l0 kq x4_1 x5_1 l0_0 l0_1 a0_2 a0_3 = some (r1, r2)) ∧ Aside0 (kq ≤ k) ∧ Aside0 (w'.heap[gb324]? = some (.cells #[(.slice A0_0 l0_0.length c0_0), (.slice A0_1 l0_1.length c0_1), .int .i64 a0_2, .int .i64 a0_3] 32 (0, 0))) ∧ Aside0 (Below w.heap.size w w'))
  case atStart => exact ⟨(t326), (0), z4_, z4_, H', ⟨Nat.le_refl _⟩, ⟨by (with_reducible repeat (first | refine blk_drewN ?_ _ | refine blk_drew ?_ | refine blk_alloc ?_ _)); exact BK324.out⟩, ⟨z8_⟩⟩
  case round =>
   clear H'
   try clear c1
   try clear c2
   try clear p2
   try clear c3
   try clear hcz6_0
   try clear hcz6_1
   try clear hcz6_2
   try clear hcz6_3
   try clear hcz8_0
   try clear hcz8_1
   try clear hcz8_2
   try clear hcz8_3
   try clear hfz6_0
   try clear hfz6_1
   try clear hfz6_2
   try clear hfz6_3
   try clear hfz8_0
   try clear hfz8_1
   try clear hfz8_2
   try clear hfz8_3
   obtain ⟨x4_1, x5_1, rfl, rfl, HA, HK1, BK324, HB⟩ := hrel
   cases gk with
   | zero => exact absurd HA.out (by simp [tithebarnref16_Write.l0])
   | succ k1 =>
    have H := HA.out
    clear HA
    simp only [tithebarnref16_Write.l0] at H
    by_cases c10 : x5_1 < (l0_0.length : Int)
    ·rw [if_pos c10] at H
     have c10b0 : decide (x5_1 < (l0_0.length : Int)) = true := decide_eq_true c10
     clear c10
     by_cases c11 : 0 ≤ x5_1
     ·rw [if_pos c11] at H
      have c11b0 : decide (0 ≤ x5_1) = true := decide_eq_true c11
      clear c11
      replace H := Option.bind_eq_some_iff.mp H
      obtain ⟨t328, A120, H⟩ := H
      replace H : (if x4_1.size + t328.size ≤ 9223372036854775807 then (tithebarnref16_Write.l0 k1 (x4_1 ++ t328) (wrap64 (x5_1 + 1)) l0_0 l0_1 a0_2 a0_3) else (none)) = some (r1, r2) := H
      have A12 := Aside0.mk A120
      clear A120
      by_cases c13 : x4_1.size + t328.size ≤ 9223372036854775807
      ·rw [if_pos c13] at H
       have c13b0 := eq_true c13
       have c13b1 : decide (x4_1.size + t328.size ≤ 9223372036854775807) = true := decide_eq_true c13
       try have c13b2 : (9223372036854775807 < x4_1.size + t328.size) = False := eq_false (Nat.not_lt.2 c13)
       try (have c13b3 := c13b2; simp only [ByteArray.size_append] at c13b3)
       try (have c13b4 := c13b0; simp only [ByteArray.size_append] at c13b4)
       try (have c13b5 := c13b1; simp only [ByteArray.size_append] at c13b5)
       have H' := Aside0.mk H
       clear H
       have hcz14_0 : wr.cell? ⟨gb324, 0, none⟩ = some (.slice A0_0 l0_0.length c0_0) := (blk_cell BK324.out 0).trans rfl
       have hcz14_1 : wr.cell? ⟨gb324, 1, none⟩ = some (.slice A0_1 l0_1.length c0_1) := (blk_cell BK324.out 1).trans rfl
       have hcz14_2 : wr.cell? ⟨gb324, 2, none⟩ = some (.int .i64 a0_2) := (blk_cell BK324.out 2).trans rfl
       have hcz14_3 : wr.cell? ⟨gb324, 3, none⟩ = some (.int .i64 a0_3) := (blk_cell BK324.out 3).trans rfl
       have hfz14_0 := blk_frozen BK324.out 0
       have hfz14_1 := blk_frozen BK324.out 1
       have hfz14_2 := blk_frozen BK324.out 2
       have hfz14_3 := blk_frozen BK324.out 3
       have p327 : 0 ≤ (x5_1 : Int) := of_decide_eq_true z5_
       have q327 : x5_1 < (l0_0.length : Int) := of_decide_eq_true z5_
       obtain ⟨ad327, e327, hx327_0⟩ := Kd.at_int HR0_0.out x5_1 p327 q327
       cases e327
       replace hx327_0 := (HB.out.cell (World.block_lt_of_cell? w _ hx327_0)).trans hx327_0
       replace p327 := eq_true p327
       replace q327 := eq_true q327
       go_wp2_with (first | ((with_reducible refine gate_callee (f := 24) rfl ?_); refine goesL_ (some 28) rfl rfl Try.func24 (by kernel_rfl) rfl #[.int .i64 (rd l0_0 x5_1)] rfl (by (try simp only [List.map_toArray, List.map_cons, List.map_nil]); first | done | rfl | (simp only [List.length_drop, List.length_take]; rfl) | (go_simp; simp [IntKind.wrap, IntKind.bits, IntKind.signed]; omega)) ?_; (with_reducible refine (tithebarnref16_num.calls k1 (rd l0_0 x5_1) t328 _ A12.out).mono ?_); rintro e w15 ⟨rfl, hb⟩; refine ⟨_, rfl, ?_⟩; have n0_ := Aside0.mk (blk_below (g := gb324) (o := .cells #[.slice (some ad327) l0_0.length c0_0, .slice A0_1 l0_1.length c0_1, .int .i64 a0_2, .int .i64 a0_3] 32 (0, 0)) (by (with_reducible repeat (first | refine blk_drewN ?_ _ | refine blk_drew ?_ | refine blk_alloc ?_ _)); exact BK324.out) hb); have n1_ := Aside0.mk (below_step z8_ hb); clear BK324; clear HB; have BK324 := n0_; have HB := n1_; clear n0_ n1_; (try clear hb); (try clear hb2); (try clear hk); (try clear hi)))
       go_roundg k1
       case measure => have := HK1.out; omega
       case rel => exact ⟨(x4_1 ++ t328), (wrap64 (x5_1 + 1)), z4_, z4_, H', ⟨by have := HK1.out; omega⟩, ⟨by (with_reducible repeat (first | refine blk_drewN ?_ _ | refine blk_drew ?_ | refine blk_alloc ?_ _)); exact BK324.out⟩, ⟨z8_⟩⟩
      ·rw [if_neg c13] at H
       exact absurd H (by simp)
     ·rw [if_neg c11] at H
      exact absurd H (by simp)
    ·rw [if_neg c10] at H
     have c10b0 : decide (x5_1 < (l0_0.length : Int)) = false := decide_eq_false c10
     clear c10
     replace H := Option.bind_eq_some_iff.mp H
     obtain ⟨t329, A160, H⟩ := H
     replace H : (if x4_1.size + t329.size ≤ 9223372036854775807 then (tithebarnref16_Write.l1 k1 (x4_1 ++ t329) 0 l0_0 l0_1 a0_2 a0_3) else (none)) = some (r1, r2) := H
     have A16 := Aside0.mk A160
     clear A160
     by_cases c17 : x4_1.size + t329.size ≤ 9223372036854775807
     ·rw [if_pos c17] at H
      have c17b0 := eq_true c17
      have c17b1 : decide (x4_1.size + t329.size ≤ 9223372036854775807) = true := decide_eq_true c17
      try have c17b2 : (9223372036854775807 < x4_1.size + t329.size) = False := eq_false (Nat.not_lt.2 c17)
      try (have c17b3 := c17b2; simp only [ByteArray.size_append] at c17b3)
      try (have c17b4 := c17b0; simp only [ByteArray.size_append] at c17b4)
      try (have c17b5 := c17b1; simp only [ByteArray.size_append] at c17b5)
      have H' := Aside0.mk H
      clear H
      have hcz18_0 : wr.cell? ⟨gb324, 0, none⟩ = some (.slice A0_0 l0_0.length c0_0) := (blk_cell BK324.out 0).trans rfl
      have hcz18_1 : wr.cell? ⟨gb324, 1, none⟩ = some (.slice A0_1 l0_1.length c0_1) := (blk_cell BK324.out 1).trans rfl
      have hcz18_2 : wr.cell? ⟨gb324, 2, none⟩ = some (.int .i64 a0_2) := (blk_cell BK324.out 2).trans rfl
      have hcz18_3 : wr.cell? ⟨gb324, 3, none⟩ = some (.int .i64 a0_3) := (blk_cell BK324.out 3).trans rfl
      have hfz18_0 := blk_frozen BK324.out 0
      have hfz18_1 := blk_frozen BK324.out 1
      have hfz18_2 := blk_frozen BK324.out 2
      have hfz18_3 := blk_frozen BK324.out 3
      go_wp2_with (first | ((with_reducible refine gate_callee (f := 24) rfl ?_); refine goesL_ (some 34) rfl rfl Try.func24 (by kernel_rfl) rfl #[.int .i64 (l0_1.length : Int)] rfl (by (try simp only [List.map_toArray, List.map_cons, List.map_nil]); first | done | rfl | (simp only [List.length_drop, List.length_take]; rfl) | (go_simp; simp [IntKind.wrap, IntKind.bits, IntKind.signed]; omega)) ?_; (with_reducible refine (tithebarnref16_num.calls k1 (l0_1.length : Int) t329 _ A16.out).mono ?_); rintro e w19 ⟨rfl, hb⟩; refine ⟨_, rfl, ?_⟩; have n0_ := Aside0.mk (blk_below (g := gb324) (o := .cells #[.slice A0_0 l0_0.length c0_0, .slice A0_1 l0_1.length c0_1, .int .i64 a0_2, .int .i64 a0_3] 32 (0, 0)) (by (with_reducible repeat (first | refine blk_drewN ?_ _ | refine blk_drew ?_ | refine blk_alloc ?_ _)); exact BK324.out) hb); have n1_ := Aside0.mk (below_step z8_ hb); clear BK324; clear HB; have BK324 := n0_; have HB := n1_; clear n0_ n1_; (try clear hb); (try clear hb2); (try clear hk); (try clear hi)))
      go_loopg [4, 6] k1 (fun kq v4 v6 w' => ∃ (x4_2 : ByteArray) (x6_2 : Int), v4 = .string x4_2 ∧ v6 = .int .i64 x6_2 ∧ Aside0 (tithebarnref16_Write.l1 kq x4_2 x6_2 l0_0 l0_1 a0_2 a0_3 = some (r1, r2)) ∧ Aside0 (kq ≤ k1) ∧ Aside0 (w'.heap[gb324]? = some (.cells #[(.slice A0_0 l0_0.length c0_0), (.slice A0_1 l0_1.length c0_1), .int .i64 a0_2, .int .i64 a0_3] 32 (0, 0))) ∧ Aside0 (Below w.heap.size w w'))
      case atStart => exact ⟨(x4_1 ++ t329), (0), z4_, z4_, H', ⟨Nat.le_refl _⟩, ⟨by (with_reducible repeat (first | refine blk_drewN ?_ _ | refine blk_drew ?_ | refine blk_alloc ?_ _)); exact BK324.out⟩, ⟨z8_⟩⟩
      case round =>
       clear H'
       try clear c1
       try clear c2
       try clear p2
       try clear c3
       try clear p3
       try clear q3
       try clear hx3
       try clear p6
       try clear c10
       try clear c10b0
       try clear c11
       try clear c11b0
       try clear c13
       try clear c13b0
       try clear c13b1
       try clear c13b2
       try clear c17
       try clear c17b0
       try clear c17b1
       try clear c17b2
       try clear hcz14_0
       try clear hcz14_1
       try clear hcz14_2
       try clear hcz14_3
       try clear hcz18_0
       try clear hcz18_1
       try clear hcz18_2
       try clear hcz18_3
       try clear hcz6_0
       try clear hcz6_1
       try clear hcz6_2
       try clear hcz6_3
       try clear hcz8_0
       try clear hcz8_1
       try clear hcz8_2
       try clear hcz8_3
       try clear hfz14_0
       try clear hfz14_1
       try clear hfz14_2
       try clear hfz14_3
       try clear hfz18_0
       try clear hfz18_1
       try clear hfz18_2
       try clear hfz18_3
       try clear hfz6_0
       try clear hfz6_1
       try clear hfz6_2
       try clear hfz6_3
       try clear hfz8_0
       try clear hfz8_1
       try clear hfz8_2
       try clear hfz8_3
       try clear hx327_0
       try clear p2
       try clear p327
       try clear q327
       obtain ⟨x4_2, x6_2, rfl, rfl, HA, HK2, BK324, HB⟩ := hrel
       cases gk with
       | zero => exact absurd HA.out (by simp [tithebarnref16_Write.l1])
       | succ k2 =>
        have H := HA.out
        clear HA
        simp only [tithebarnref16_Write.l1] at H
        by_cases c20 : x6_2 < (l0_1.length : Int)
        ·rw [if_pos c20] at H
         have c20b0 : decide (x6_2 < (l0_1.length : Int)) = true := decide_eq_true c20
         clear c20
         by_cases c21 : 0 ≤ x6_2
         ·rw [if_pos c21] at H
          have c21b0 : decide (0 ≤ x6_2) = true := decide_eq_true c21
          clear c21
          replace H := Option.bind_eq_some_iff.mp H
          obtain ⟨t335, A220, H⟩ := H
          replace H : ((tithebarnref16_num.f k2 ((rd_T36 l0_1 x6_2).f1)).bind fun t336 => (if t335.size + t336.size ≤ 9223372036854775807 then ((tithebarnref16_value.f k2 ((rd_T36 l0_1 x6_2).f2.f0) ((rd_T36 l0_1 x6_2).f2.f1) ((rd_T36 l0_1 x6_2).f2.f2)).bind fun t337 => (if (t335 ++ t336).size + t337.size ≤ 9223372036854775807 then ((tithebarnref16_value.f k2 ((rd_T36 l0_1 x6_2).f3.f0) ((rd_T36 l0_1 x6_2).f3.f1) ((rd_T36 l0_1 x6_2).f3.f2)).bind fun t338 => (if ((t335 ++ t336) ++ t337).size + t338.size ≤ 9223372036854775807 then (if x4_2.size + (((t335 ++ t336) ++ t337) ++ t338).size ≤ 9223372036854775807 then (tithebarnref16_Write.l1 k2 (x4_2 ++ (((t335 ++ t336) ++ t337) ++ t338)) (wrap64 (x6_2 + 1)) l0_0 l0_1 a0_2 a0_3) else (none)) else (none))) else (none))) else (none))) = some (r1, r2) := H
          have A22 := Aside0.mk A220
          clear A220
          replace H := Option.bind_eq_some_iff.mp H
          obtain ⟨t336, A230, H⟩ := H
          replace H : (if t335.size + t336.size ≤ 9223372036854775807 then ((tithebarnref16_value.f k2 ((rd_T36 l0_1 x6_2).f2.f0) ((rd_T36 l0_1 x6_2).f2.f1) ((rd_T36 l0_1 x6_2).f2.f2)).bind fun t337 => (if (t335 ++ t336).size + t337.size ≤ 9223372036854775807 then ((tithebarnref16_value.f k2 ((rd_T36 l0_1 x6_2).f3.f0) ((rd_T36 l0_1 x6_2).f3.f1) ((rd_T36 l0_1 x6_2).f3.f2)).bind fun t338 => (if ((t335 ++ t336) ++ t337).size + t338.size ≤ 9223372036854775807 then (if x4_2.size + (((t335 ++ t336) ++ t337) ++ t338).size ≤ 9223372036854775807 then (tithebarnref16_Write.l1 k2 (x4_2 ++ (((t335 ++ t336) ++ t337) ++ t338)) (wrap64 (x6_2 + 1)) l0_0 l0_1 a0_2 a0_3) else (none)) else (none))) else (none))) else (none)) = some (r1, r2) := H
          have A23 := Aside0.mk A230
          clear A230
          by_cases c24 : t335.size + t336.size ≤ 9223372036854775807
          ·rw [if_pos c24] at H
           have c24b0 := eq_true c24
           have c24b1 : decide (t335.size + t336.size ≤ 9223372036854775807) = true := decide_eq_true c24
           try have c24b2 : (9223372036854775807 < t335.size + t336.size) = False := eq_false (Nat.not_lt.2 c24)
           try (have c24b3 := c24b2; simp only [ByteArray.size_append] at c24b3)
           try (have c24b4 := c24b0; simp only [ByteArray.size_append] at c24b4)
           try (have c24b5 := c24b1; simp only [ByteArray.size_append] at c24b5)
           replace H := Option.bind_eq_some_iff.mp H
           obtain ⟨t337, A250, H⟩ := H
           replace H : (if (t335 ++ t336).size + t337.size ≤ 9223372036854775807 then ((tithebarnref16_value.f k2 ((rd_T36 l0_1 x6_2).f3.f0) ((rd_T36 l0_1 x6_2).f3.f1) ((rd_T36 l0_1 x6_2).f3.f2)).bind fun t338 => (if ((t335 ++ t336) ++ t337).size + t338.size ≤ 9223372036854775807 then (if x4_2.size + (((t335 ++ t336) ++ t337) ++ t338).size ≤ 9223372036854775807 then (tithebarnref16_Write.l1 k2 (x4_2 ++ (((t335 ++ t336) ++ t337) ++ t338)) (wrap64 (x6_2 + 1)) l0_0 l0_1 a0_2 a0_3) else (none)) else (none))) else (none)) = some (r1, r2) := H
           have A25 := Aside0.mk A250
           clear A250
           by_cases c26 : (t335 ++ t336).size + t337.size ≤ 9223372036854775807
           ·rw [if_pos c26] at H
            have c26b0 := eq_true c26
            have c26b1 : decide ((t335 ++ t336).size + t337.size ≤ 9223372036854775807) = true := decide_eq_true c26
            try have c26b2 : (9223372036854775807 < (t335 ++ t336).size + t337.size) = False := eq_false (Nat.not_lt.2 c26)
            try (have c26b3 := c26b2; simp only [ByteArray.size_append] at c26b3)
            try (have c26b4 := c26b0; simp only [ByteArray.size_append] at c26b4)
            try (have c26b5 := c26b1; simp only [ByteArray.size_append] at c26b5)
            replace H := Option.bind_eq_some_iff.mp H
            obtain ⟨t338, A270, H⟩ := H
            replace H : (if ((t335 ++ t336) ++ t337).size + t338.size ≤ 9223372036854775807 then (if x4_2.size + (((t335 ++ t336) ++ t337) ++ t338).size ≤ 9223372036854775807 then (tithebarnref16_Write.l1 k2 (x4_2 ++ (((t335 ++ t336) ++ t337) ++ t338)) (wrap64 (x6_2 + 1)) l0_0 l0_1 a0_2 a0_3) else (none)) else (none)) = some (r1, r2) := H
            have A27 := Aside0.mk A270
            clear A270
            by_cases c28 : ((t335 ++ t336) ++ t337).size + t338.size ≤ 9223372036854775807
            ·rw [if_pos c28] at H
             have c28b0 := eq_true c28
             have c28b1 : decide (((t335 ++ t336) ++ t337).size + t338.size ≤ 9223372036854775807) = true := decide_eq_true c28
             try have c28b2 : (9223372036854775807 < ((t335 ++ t336) ++ t337).size + t338.size) = False := eq_false (Nat.not_lt.2 c28)
             try (have c28b3 := c28b2; simp only [ByteArray.size_append] at c28b3)
             try (have c28b4 := c28b0; simp only [ByteArray.size_append] at c28b4)
             try (have c28b5 := c28b1; simp only [ByteArray.size_append] at c28b5)
             by_cases c29 : x4_2.size + (((t335 ++ t336) ++ t337) ++ t338).size ≤ 9223372036854775807
             ·rw [if_pos c29] at H
              have c29b0 := eq_true c29
              have c29b1 : decide (x4_2.size + (((t335 ++ t336) ++ t337) ++ t338).size ≤ 9223372036854775807) = true := decide_eq_true c29
              try have c29b2 : (9223372036854775807 < x4_2.size + (((t335 ++ t336) ++ t337) ++ t338).size) = False := eq_false (Nat.not_lt.2 c29)
              try (have c29b3 := c29b2; simp only [ByteArray.size_append] at c29b3)
              try (have c29b4 := c29b0; simp only [ByteArray.size_append] at c29b4)
              try (have c29b5 := c29b1; simp only [ByteArray.size_append] at c29b5)
              have H' := Aside0.mk H
              clear H
              have hcz30_0 : wr.cell? ⟨gb324, 0, none⟩ = some (.slice A0_0 l0_0.length c0_0) := (blk_cell BK324.out 0).trans rfl
              have hcz30_1 : wr.cell? ⟨gb324, 1, none⟩ = some (.slice A0_1 l0_1.length c0_1) := (blk_cell BK324.out 1).trans rfl
              have hcz30_2 : wr.cell? ⟨gb324, 2, none⟩ = some (.int .i64 a0_2) := (blk_cell BK324.out 2).trans rfl
              have hcz30_3 : wr.cell? ⟨gb324, 3, none⟩ = some (.int .i64 a0_3) := (blk_cell BK324.out 3).trans rfl
              have hfz30_0 := blk_frozen BK324.out 0
              have hfz30_1 := blk_frozen BK324.out 1
              have hfz30_2 := blk_frozen BK324.out 2
              have hfz30_3 := blk_frozen BK324.out 3
              have p333 : 0 ≤ (x6_2 : Int) := of_decide_eq_true z5_
              have q333 : x6_2 < (l0_1.length : Int) := of_decide_eq_true z5_
              obtain ⟨ad333, e333, hx333_0, hx333_1, hx333_2, hx333_3, hx333_4, hx333_5, hx333_6, hx333_7⟩ := at_T36 HR0_1.out x6_2 p333 q333
              cases e333
              replace hx333_0 := (HB.out.cell (World.block_lt_of_cell? w _ hx333_0)).trans hx333_0
              replace hx333_1 := (HB.out.cell (World.block_lt_of_cell? w _ hx333_1)).trans hx333_1
              replace hx333_2 := (HB.out.cell (World.block_lt_of_cell? w _ hx333_2)).trans hx333_2
              replace hx333_3 := (HB.out.cell (World.block_lt_of_cell? w _ hx333_3)).trans hx333_3
              replace hx333_4 := (HB.out.cell (World.block_lt_of_cell? w _ hx333_4)).trans hx333_4
              replace hx333_5 := (HB.out.cell (World.block_lt_of_cell? w _ hx333_5)).trans hx333_5
              replace hx333_6 := (HB.out.cell (World.block_lt_of_cell? w _ hx333_6)).trans hx333_6
              replace hx333_7 := (HB.out.cell (World.block_lt_of_cell? w _ hx333_7)).trans hx333_7
              replace p333 := eq_true p333
              replace q333 := eq_true q333
              try go_wp2_with (first | ((with_reducible refine gate_dst (N := 7) rfl ?_); refine box_event ?hg (N := 7) ?hd (cs := #[.int .i64 0, .int .i64 0, .bool false, .int .i64 0, .string (⟨#[]⟩ : ByteArray), .bool false, .int .i64 0, .string (⟨#[]⟩ : ByteArray)]) (t := 36) ?hr ?_; (case hd => rfl); (case hg => rfl); (case hr => first | (go_simp; done) | (go_simp; rfl)); intro gb334 hg w31 hbox hb; have n0_ := Aside0.mk (blk_below (g := gb324) (o := .cells #[.slice A0_0 l0_0.length c0_0, .slice (some ad333) l0_1.length c0_1, .int .i64 a0_2, .int .i64 a0_3] 32 (0, 0)) (by (with_reducible repeat (first | refine blk_drewN ?_ _ | refine blk_drew ?_ | refine blk_alloc ?_ _)); exact BK324.out) hb); have n1_ := Aside0.mk (below_step z8_ hb); have n2_ := Aside0.mk (hbox); have n3_ := Aside0.mk ((by rw [hg]; exact (below_size z8_) : w.heap.size ≤ gb334)); have n4_ := Aside0.mk ((by rw [hg]; exact (below_size z8_) : w.heap.size ≤ gb334)); have n5_ := Aside0.mk ((by rw [hg]; exact Nat.ne_of_lt (blk_lt (g := gb324) (o := .cells #[.slice A0_0 l0_0.length c0_0, .slice (some ad333) l0_1.length c0_1, .int .i64 a0_2, .int .i64 a0_3] 32 (0, 0)) (by (with_reducible repeat (first | refine blk_drewN ?_ _ | refine blk_drew ?_ | refine blk_alloc ?_ _)); exact BK324.out)) : gb324 ≠ gb334)); have n6_ := Aside0.mk ((by rw [hg]; exact Nat.ne_of_gt (blk_lt (g := gb324) (o := .cells #[.slice A0_0 l0_0.length c0_0, .slice (some ad333) l0_1.length c0_1, .int .i64 a0_2, .int .i64 a0_3] 32 (0, 0)) (by (with_reducible repeat (first | refine blk_drewN ?_ _ | refine blk_drew ?_ | refine blk_alloc ?_ _)); exact BK324.out)) : gb334 ≠ gb324)); clear BK324; clear HB; have BK324 := n0_; have HB := n1_; have BK334 := n2_; have GW334 := n3_; have GE334 := n4_; have NB324_334 := n5_; have NB334_324 := n6_; clear n0_ n1_ n2_ n3_ n4_ n5_ n6_; clear hb hbox hg; have hnb32 := NB334_324.out; have hnc32 := NB324_334.out; have hcz33_0 : w31.cell? ⟨gb334, 0, none⟩ = some (.int .i64 0) := (blk_cell BK334.out 0).trans rfl; have hcz33_1 : w31.cell? ⟨gb334, 1, none⟩ = some (.int .i64 0) := (blk_cell BK334.out 1).trans rfl; have hcz33_2 : w31.cell? ⟨gb334, 2, none⟩ = some (.bool false) := (blk_cell BK334.out 2).trans rfl; have hcz33_3 : w31.cell? ⟨gb334, 3, none⟩ = some (.int .i64 0) := (blk_cell BK334.out 3).trans rfl; have hcz33_4 : w31.cell? ⟨gb334, 4, none⟩ = some (.string (⟨#[]⟩ : ByteArray)) := (blk_cell BK334.out 4).trans rfl; have hcz33_5 : w31.cell? ⟨gb334, 5, none⟩ = some (.bool false) := (blk_cell BK334.out 5).trans rfl; have hcz33_6 : w31.cell? ⟨gb334, 6, none⟩ = some (.int .i64 0) := (blk_cell BK334.out 6).trans rfl; have hcz33_7 : w31.cell? ⟨gb334, 7, none⟩ = some (.string (⟨#[]⟩ : ByteArray)) := (blk_cell BK334.out 7).trans rfl; have hfz33_0 := blk_frozen BK334.out 0; have hfz33_1 := blk_frozen BK334.out 1; have hfz33_2 := blk_frozen BK334.out 2; have hfz33_3 := blk_frozen BK334.out 3; have hfz33_4 := blk_frozen BK334.out 4; have hfz33_5 := blk_frozen BK334.out 5; have hfz33_6 := blk_frozen BK334.out 6; have hfz33_7 := blk_frozen BK334.out 7))
              have n0_ : Aside0 (((((((((w31.setCell ⟨gb334, 0, none⟩ (.int .i64 ((rd_T36 l0_1 x6_2).f0))).setCell ⟨gb334, 1, none⟩ (.int .i64 ((rd_T36 l0_1 x6_2).f1))).setCell ⟨gb334, 2, none⟩ (.bool ((rd_T36 l0_1 x6_2).f2.f0))).setCell ⟨gb334, 3, none⟩ (.int .i64 ((rd_T36 l0_1 x6_2).f2.f1))).setCell ⟨gb334, 4, none⟩ (.string ((rd_T36 l0_1 x6_2).f2.f2))).setCell ⟨gb334, 5, none⟩ (.bool ((rd_T36 l0_1 x6_2).f3.f0))).setCell ⟨gb334, 6, none⟩ (.int .i64 ((rd_T36 l0_1 x6_2).f3.f1))).setCell ⟨gb334, 7, none⟩ (.string ((rd_T36 l0_1 x6_2).f3.f2))).heap[gb324]? = some (.cells #[.slice A0_0 l0_0.length c0_0, .slice (some ad333) l0_1.length c0_1, .int .i64 a0_2, .int .i64 a0_3] 32 (0, 0))) := ⟨by (with_reducible repeat (first | refine blk_drewN ?_ _ | refine blk_drew ?_ | refine blk_alloc ?_ _)); refine blk_far ?_ NB324_334.out _; (with_reducible repeat (first | refine blk_drewN ?_ _ | refine blk_drew ?_ | refine blk_alloc ?_ _)); refine blk_far ?_ NB324_334.out _; (with_reducible repeat (first | refine blk_drewN ?_ _ | refine blk_drew ?_ | refine blk_alloc ?_ _)); refine blk_far ?_ NB324_334.out _; (with_reducible repeat (first | refine blk_drewN ?_ _ | refine blk_drew ?_ | refine blk_alloc ?_ _)); refine blk_far ?_ NB324_334.out _; (with_reducible repeat (first | refine blk_drewN ?_ _ | refine blk_drew ?_ | refine blk_alloc ?_ _)); refine blk_far ?_ NB324_334.out _; (with_reducible repeat (first | refine blk_drewN ?_ _ | refine blk_drew ?_ | refine blk_alloc ?_ _)); refine blk_far ?_ NB324_334.out _; (with_reducible repeat (first | refine blk_drewN ?_ _ | refine blk_drew ?_ | refine blk_alloc ?_ _)); refine blk_far ?_ NB324_334.out _; (with_reducible repeat (first | refine blk_drewN ?_ _ | refine blk_drew ?_ | refine blk_alloc ?_ _)); refine blk_far ?_ NB324_334.out _; (with_reducible repeat (first | refine blk_drewN ?_ _ | refine blk_drew ?_ | refine blk_alloc ?_ _)); exact BK324.out⟩
              have n1_ : Aside0 (((((((((w31.setCell ⟨gb334, 0, none⟩ (.int .i64 ((rd_T36 l0_1 x6_2).f0))).setCell ⟨gb334, 1, none⟩ (.int .i64 ((rd_T36 l0_1 x6_2).f1))).setCell ⟨gb334, 2, none⟩ (.bool ((rd_T36 l0_1 x6_2).f2.f0))).setCell ⟨gb334, 3, none⟩ (.int .i64 ((rd_T36 l0_1 x6_2).f2.f1))).setCell ⟨gb334, 4, none⟩ (.string ((rd_T36 l0_1 x6_2).f2.f2))).setCell ⟨gb334, 5, none⟩ (.bool ((rd_T36 l0_1 x6_2).f3.f0))).setCell ⟨gb334, 6, none⟩ (.int .i64 ((rd_T36 l0_1 x6_2).f3.f1))).setCell ⟨gb334, 7, none⟩ (.string ((rd_T36 l0_1 x6_2).f3.f2))).heap[gb334]? = some (.cells #[.int .i64 ((rd_T36 l0_1 x6_2).f0), .int .i64 ((rd_T36 l0_1 x6_2).f1), .bool ((rd_T36 l0_1 x6_2).f2.f0), .int .i64 ((rd_T36 l0_1 x6_2).f2.f1), .string ((rd_T36 l0_1 x6_2).f2.f2), .bool ((rd_T36 l0_1 x6_2).f3.f0), .int .i64 ((rd_T36 l0_1 x6_2).f3.f1), .string ((rd_T36 l0_1 x6_2).f3.f2)] 36 (0, 0))) := ⟨by (with_reducible repeat (first | refine blk_drewN ?_ _ | refine blk_drew ?_ | refine blk_alloc ?_ _)); refine blk_put (cs := #[.int .i64 ((rd_T36 l0_1 x6_2).f0), .int .i64 ((rd_T36 l0_1 x6_2).f1), .bool ((rd_T36 l0_1 x6_2).f2.f0), .int .i64 ((rd_T36 l0_1 x6_2).f2.f1), .string ((rd_T36 l0_1 x6_2).f2.f2), .bool ((rd_T36 l0_1 x6_2).f3.f0), .int .i64 ((rd_T36 l0_1 x6_2).f3.f1), .string (⟨#[]⟩ : ByteArray)]) ?_ 7 _ rfl; (with_reducible repeat (first | refine blk_drewN ?_ _ | refine blk_drew ?_ | refine blk_alloc ?_ _)); refine blk_put (cs := #[.int .i64 ((rd_T36 l0_1 x6_2).f0), .int .i64 ((rd_T36 l0_1 x6_2).f1), .bool ((rd_T36 l0_1 x6_2).f2.f0), .int .i64 ((rd_T36 l0_1 x6_2).f2.f1), .string ((rd_T36 l0_1 x6_2).f2.f2), .bool ((rd_T36 l0_1 x6_2).f3.f0), .int .i64 0, .string (⟨#[]⟩ : ByteArray)]) ?_ 6 _ rfl; (with_reducible repeat (first | refine blk_drewN ?_ _ | refine blk_drew ?_ | refine blk_alloc ?_ _)); refine blk_put (cs := #[.int .i64 ((rd_T36 l0_1 x6_2).f0), .int .i64 ((rd_T36 l0_1 x6_2).f1), .bool ((rd_T36 l0_1 x6_2).f2.f0), .int .i64 ((rd_T36 l0_1 x6_2).f2.f1), .string ((rd_T36 l0_1 x6_2).f2.f2), .bool false, .int .i64 0, .string (⟨#[]⟩ : ByteArray)]) ?_ 5 _ rfl; (with_reducible repeat (first | refine blk_drewN ?_ _ | refine blk_drew ?_ | refine blk_alloc ?_ _)); refine blk_put (cs := #[.int .i64 ((rd_T36 l0_1 x6_2).f0), .int .i64 ((rd_T36 l0_1 x6_2).f1), .bool ((rd_T36 l0_1 x6_2).f2.f0), .int .i64 ((rd_T36 l0_1 x6_2).f2.f1), .string (⟨#[]⟩ : ByteArray), .bool false, .int .i64 0, .string (⟨#[]⟩ : ByteArray)]) ?_ 4 _ rfl; (with_reducible repeat (first | refine blk_drewN ?_ _ | refine blk_drew ?_ | refine blk_alloc ?_ _)); refine blk_put (cs := #[.int .i64 ((rd_T36 l0_1 x6_2).f0), .int .i64 ((rd_T36 l0_1 x6_2).f1), .bool ((rd_T36 l0_1 x6_2).f2.f0), .int .i64 0, .string (⟨#[]⟩ : ByteArray), .bool false, .int .i64 0, .string (⟨#[]⟩ : ByteArray)]) ?_ 3 _ rfl; (with_reducible repeat (first | refine blk_drewN ?_ _ | refine blk_drew ?_ | refine blk_alloc ?_ _)); refine blk_put (cs := #[.int .i64 ((rd_T36 l0_1 x6_2).f0), .int .i64 ((rd_T36 l0_1 x6_2).f1), .bool false, .int .i64 0, .string (⟨#[]⟩ : ByteArray), .bool false, .int .i64 0, .string (⟨#[]⟩ : ByteArray)]) ?_ 2 _ rfl; (with_reducible repeat (first | refine blk_drewN ?_ _ | refine blk_drew ?_ | refine blk_alloc ?_ _)); refine blk_put (cs := #[.int .i64 ((rd_T36 l0_1 x6_2).f0), .int .i64 0, .bool false, .int .i64 0, .string (⟨#[]⟩ : ByteArray), .bool false, .int .i64 0, .string (⟨#[]⟩ : ByteArray)]) ?_ 1 _ rfl; (with_reducible repeat (first | refine blk_drewN ?_ _ | refine blk_drew ?_ | refine blk_alloc ?_ _)); refine blk_put (cs := #[.int .i64 0, .int .i64 0, .bool false, .int .i64 0, .string (⟨#[]⟩ : ByteArray), .bool false, .int .i64 0, .string (⟨#[]⟩ : ByteArray)]) ?_ 0 _ rfl; (with_reducible repeat (first | refine blk_drewN ?_ _ | refine blk_drew ?_ | refine blk_alloc ?_ _)); exact BK334.out⟩
              have n2_ : Aside0 (Below w.heap.size w ((((((((w31.setCell ⟨gb334, 0, none⟩ (.int .i64 ((rd_T36 l0_1 x6_2).f0))).setCell ⟨gb334, 1, none⟩ (.int .i64 ((rd_T36 l0_1 x6_2).f1))).setCell ⟨gb334, 2, none⟩ (.bool ((rd_T36 l0_1 x6_2).f2.f0))).setCell ⟨gb334, 3, none⟩ (.int .i64 ((rd_T36 l0_1 x6_2).f2.f1))).setCell ⟨gb334, 4, none⟩ (.string ((rd_T36 l0_1 x6_2).f2.f2))).setCell ⟨gb334, 5, none⟩ (.bool ((rd_T36 l0_1 x6_2).f3.f0))).setCell ⟨gb334, 6, none⟩ (.int .i64 ((rd_T36 l0_1 x6_2).f3.f1))).setCell ⟨gb334, 7, none⟩ (.string ((rd_T36 l0_1 x6_2).f3.f2)))) := ⟨z20_⟩
              (try clear BK324)
              (try clear BK334)
              (try clear HB)
              generalize ((((((((w31.setCell ⟨gb334, 0, none⟩ (.int .i64 ((rd_T36 l0_1 x6_2).f0))).setCell ⟨gb334, 1, none⟩ (.int .i64 ((rd_T36 l0_1 x6_2).f1))).setCell ⟨gb334, 2, none⟩ (.bool ((rd_T36 l0_1 x6_2).f2.f0))).setCell ⟨gb334, 3, none⟩ (.int .i64 ((rd_T36 l0_1 x6_2).f2.f1))).setCell ⟨gb334, 4, none⟩ (.string ((rd_T36 l0_1 x6_2).f2.f2))).setCell ⟨gb334, 5, none⟩ (.bool ((rd_T36 l0_1 x6_2).f3.f0))).setCell ⟨gb334, 6, none⟩ (.int .i64 ((rd_T36 l0_1 x6_2).f3.f1))).setCell ⟨gb334, 7, none⟩ (.string ((rd_T36 l0_1 x6_2).f3.f2))) = w34 at n0_ n1_ n2_ ⊢
              have BK324 := n0_
              have BK334 := n1_
              have HB := n2_
              clear n0_ n1_ n2_
              have n0_ := Aside0.mk (blk_drew BK324.out)
              have n1_ := Aside0.mk (blk_drew BK334.out)
              have n2_ := Aside0.mk (below_drew1 HB.out)
              clear BK324
              clear BK334
              clear HB
              have BK324 := n0_
              have BK334 := n1_
              have HB := n2_
              clear n0_ n1_ n2_
              refine start_ (n := 18) (S := fun w' => w'.cell? ⟨gb334, 0, none⟩ = some (.int .i64 ((rd_T36 l0_1 x6_2).f0)) ∧ w'.cell? ⟨gb334, 1, none⟩ = some (.int .i64 ((rd_T36 l0_1 x6_2).f1)) ∧ w'.cell? ⟨gb334, 2, none⟩ = some (.bool ((rd_T36 l0_1 x6_2).f2.f0)) ∧ w'.cell? ⟨gb334, 3, none⟩ = some (.int .i64 ((rd_T36 l0_1 x6_2).f2.f1)) ∧ w'.cell? ⟨gb334, 4, none⟩ = some (.string ((rd_T36 l0_1 x6_2).f2.f2)) ∧ w'.cell? ⟨gb334, 5, none⟩ = some (.bool ((rd_T36 l0_1 x6_2).f3.f0)) ∧ w'.cell? ⟨gb334, 6, none⟩ = some (.int .i64 ((rd_T36 l0_1 x6_2).f3.f1)) ∧ w'.cell? ⟨gb334, 7, none⟩ = some (.string ((rd_T36 l0_1 x6_2).f3.f2))) (ds := []) (bs_ 18 0) (by kernel_rfl) rfl rfl ⟨(blk_cell BK334.out 0).trans rfl, (blk_cell BK334.out 1).trans rfl, (blk_cell BK334.out 2).trans rfl, (blk_cell BK334.out 3).trans rfl, (blk_cell BK334.out 4).trans rfl, (blk_cell BK334.out 5).trans rfl, (blk_cell BK334.out 6).trans rfl, (blk_cell BK334.out 7).trans rfl⟩ (fun hHeld => ?_); refine with_tabW tithebarnref16_Write.tab13 tithebarnref16_Write.bits13 (fun HT_ HW_ => ?_)
              generalize w34.drew = w35 at BK324 BK334 HB hHeld ⊢
              refine pA_ 0 (some 48) (bs_ 18 1) HT_ ?_ ?_ ?_ ?_ ?_
              rotate_left; (intro w'; go_simp; with_reducible rfl); rotate_left; (simp only [PT_]; rfl)
              refine pA_ 1 (some 49) (bs_ 18 3) HT_ ?_ ?_ ?_ ?_ ?_
              rotate_left; (intro w'; go_simp; with_reducible rfl); rotate_left; (simp only [PT_]; rfl)
              refine pA_ 4 (some 52) (bs_ 18 19) HT_ ?_ ?_ ?_ ?_ ?_
              rotate_left; (intro w'; go_simp; with_reducible rfl); rotate_left; (simp only [PT_]; rfl)
              refine pA_ 8 (some 56) (bs_ 18 275) HT_ ?_ ?_ ?_ ?_ ?_
              rotate_left; (intro w'; go_simp; with_reducible rfl); rotate_left; (simp only [PT_]; rfl)
              refine pA_ 12 (some 60) (bs_ 18 4371) HT_ ?_ ?_ ?_ ?_ ?_
              rotate_left; (intro w'; go_simp; with_reducible rfl); rotate_left; (simp only [PT_]; rfl)
              refine take_ (i := 2) (N := some 50) (v := ?_) (a' := ?_) (bs_ 18 4375) rfl rfl (take_ofW HT_.out HW_.out (by kernel_rfl)) (fun _ _ _ h => h) (Or.inl ⟨by rfl, ?_⟩) hHeld ?_ ?_
              rotate_left
              ·rintro w' ⟨s0, s1, s2, s3, s4, s5, s6, s7⟩
               go_simp
               with_reducible rfl
              rotate_left
              ·simp only [PT_]
               rfl
              refine take_ (i := 5) (N := some 53) (v := ?_) (a' := ?_) (bs_ 18 4407) rfl rfl (take_ofW HT_.out HW_.out (by kernel_rfl)) (fun _ _ _ h => h) (Or.inl ⟨by rfl, ?_⟩) hHeld ?_ ?_
              rotate_left
              ·rintro w' ⟨s0, s1, s2, s3, s4, s5, s6, s7⟩
               go_simp
               with_reducible rfl
              rotate_left
              ·simp only [PT_]
               rfl
              refine take_ (i := 9) (N := some 57) (v := ?_) (a' := ?_) (bs_ 18 4919) rfl rfl (take_ofW HT_.out HW_.out (by kernel_rfl)) (fun _ _ _ h => h) (Or.inl ⟨by rfl, ?_⟩) hHeld ?_ ?_
              rotate_left
              ·rintro w' ⟨s0, s1, s2, s3, s4, s5, s6, s7⟩
               go_simp
               with_reducible rfl
              rotate_left
              ·simp only [PT_]
               rfl
              refine take_ (i := 13) (N := some 61) (v := ?_) (a' := ?_) (bs_ 18 13111) rfl rfl (take_ofW HT_.out HW_.out (by kernel_rfl)) (fun _ _ _ h => h) (Or.inl ⟨by rfl, ?_⟩) hHeld ?_ ?_
              rotate_left
              ·rintro w' ⟨s0, s1, s2, s3, s4, s5, s6, s7⟩
               go_simp
               with_reducible rfl
              rotate_left
              ·simp only [PT_]
               rfl
              refine oA_ 3 (some 51) (bs_ 18 13119) HT_ (fun K hK => ?_)
              refine goes_ Try.func24 (by kernel_rfl) rfl #[.int .i64 ((rd_T36 l0_1 x6_2).f0)] (by rfl) rfl rfl (by (try simp only [List.map_toArray, List.map_cons, List.map_nil]); first | done | rfl | (simp only [List.length_drop, List.length_take]; rfl)) ?_
              with_reducible refine (tithebarnref16_num.calls k2 ((rd_T36 l0_1 x6_2).f0) t335 _ A22.out).mono ?_
              rintro e w36 ⟨rfl, hb⟩
              refine ⟨_, rfl, ?_⟩
              have n0_ := Aside0.mk (blk_below (g := gb324) (o := .cells #[.slice A0_0 l0_0.length c0_0, .slice (some ad333) l0_1.length c0_1, .int .i64 a0_2, .int .i64 a0_3] 32 (0, 0)) (by (with_reducible repeat (first | refine blk_drewN ?_ _ | refine blk_drew ?_ | refine blk_alloc ?_ _)); exact BK324.out) hb)
              have n1_ := Aside0.mk (blk_below (g := gb334) (o := .cells #[.int .i64 ((rd_T36 l0_1 x6_2).f0), .int .i64 ((rd_T36 l0_1 x6_2).f1), .bool ((rd_T36 l0_1 x6_2).f2.f0), .int .i64 ((rd_T36 l0_1 x6_2).f2.f1), .string ((rd_T36 l0_1 x6_2).f2.f2), .bool ((rd_T36 l0_1 x6_2).f3.f0), .int .i64 ((rd_T36 l0_1 x6_2).f3.f1), .string ((rd_T36 l0_1 x6_2).f3.f2)] 36 (0, 0)) (by (with_reducible repeat (first | refine blk_drewN ?_ _ | refine blk_drew ?_ | refine blk_alloc ?_ _)); exact BK334.out) hb)
              have n2_ := Aside0.mk (below_step z20_ hb)
              clear BK324
              clear BK334
              clear HB
              have BK324 := n0_
              have BK334 := n1_
              have HB := n2_
              clear n0_ n1_ n2_
              (try clear hb)
              (try clear hb2)
              (try clear hk)
              (try clear hi)
              refine hK.out _ _ ⟨(blk_cell BK334.out 0).trans rfl, (blk_cell BK334.out 1).trans rfl, (blk_cell BK334.out 2).trans rfl, (blk_cell BK334.out 3).trans rfl, (blk_cell BK334.out 4).trans rfl, (blk_cell BK334.out 5).trans rfl, (blk_cell BK334.out 6).trans rfl, (blk_cell BK334.out 7).trans rfl⟩ (fun hHeld => ?_)
              clear hK K
              refine norm_ (a' := ?_) ?_ ?_; rotate_left; (show Act.put _ (some 51) _ = _; simp only [PT_]; rfl)
              refine oA_ 6 (some 54) (bs_ 18 13183) HT_ (fun K hK => ?_)
              refine goes_ Try.func24 (by kernel_rfl) rfl #[.int .i64 ((rd_T36 l0_1 x6_2).f1)] (by rfl) rfl rfl (by (try simp only [List.map_toArray, List.map_cons, List.map_nil]); first | done | rfl | (simp only [List.length_drop, List.length_take]; rfl)) ?_
              with_reducible refine (tithebarnref16_num.calls k2 ((rd_T36 l0_1 x6_2).f1) t336 _ A23.out).mono ?_
              rintro e w37 ⟨rfl, hb⟩
              refine ⟨_, rfl, ?_⟩
              have n0_ := Aside0.mk (blk_below (g := gb324) (o := .cells #[.slice A0_0 l0_0.length c0_0, .slice (some ad333) l0_1.length c0_1, .int .i64 a0_2, .int .i64 a0_3] 32 (0, 0)) (by (with_reducible repeat (first | refine blk_drewN ?_ _ | refine blk_drew ?_ | refine blk_alloc ?_ _)); exact BK324.out) hb)
              have n1_ := Aside0.mk (blk_below (g := gb334) (o := .cells #[.int .i64 ((rd_T36 l0_1 x6_2).f0), .int .i64 ((rd_T36 l0_1 x6_2).f1), .bool ((rd_T36 l0_1 x6_2).f2.f0), .int .i64 ((rd_T36 l0_1 x6_2).f2.f1), .string ((rd_T36 l0_1 x6_2).f2.f2), .bool ((rd_T36 l0_1 x6_2).f3.f0), .int .i64 ((rd_T36 l0_1 x6_2).f3.f1), .string ((rd_T36 l0_1 x6_2).f3.f2)] 36 (0, 0)) (by (with_reducible repeat (first | refine blk_drewN ?_ _ | refine blk_drew ?_ | refine blk_alloc ?_ _)); exact BK334.out) hb)
              have n2_ := Aside0.mk (below_step z20_ hb)
              clear BK324
              clear BK334
              clear HB
              have BK324 := n0_
              have BK334 := n1_
              have HB := n2_
              clear n0_ n1_ n2_
              (try clear hb)
              (try clear hb2)
              (try clear hk)
              (try clear hi)
              refine hK.out _ _ ⟨(blk_cell BK334.out 0).trans rfl, (blk_cell BK334.out 1).trans rfl, (blk_cell BK334.out 2).trans rfl, (blk_cell BK334.out 3).trans rfl, (blk_cell BK334.out 4).trans rfl, (blk_cell BK334.out 5).trans rfl, (blk_cell BK334.out 6).trans rfl, (blk_cell BK334.out 7).trans rfl⟩ (fun hHeld => ?_)
              clear hK K
              refine norm_ (a' := ?_) ?_ ?_; rotate_left; (show Act.put _ (some 54) _ = _; simp only [PT_]; rfl)
              refine pA_ 7 (some 55) (bs_ 18 13311) HT_ ?_ ?_ ?_ ?_ ?_
              rotate_left; (intro w'; go_simp; with_reducible rfl); rotate_left; (simp only [PT_]; rfl)
              refine oA_ 10 (some 58) (bs_ 18 14335) HT_ (fun K hK => ?_)
              refine goes_ Try.func25 (by kernel_rfl) rfl #[.agg #[.bool ((rd_T36 l0_1 x6_2).f2.f0), .int .i64 ((rd_T36 l0_1 x6_2).f2.f1), .string ((rd_T36 l0_1 x6_2).f2.f2)]] (by rfl) rfl rfl (by (try simp only [List.map_toArray, List.map_cons, List.map_nil]); first | done | rfl | (simp only [List.length_drop, List.length_take]; rfl)) ?_
              with_reducible refine (tithebarnref16_value.calls k2 ((rd_T36 l0_1 x6_2).f2.f0) ((rd_T36 l0_1 x6_2).f2.f1) ((rd_T36 l0_1 x6_2).f2.f2) t337 _ A25.out).mono ?_
              rintro e w38 ⟨rfl, hb⟩
              refine ⟨_, rfl, ?_⟩
              have n0_ := Aside0.mk (blk_below (g := gb324) (o := .cells #[.slice A0_0 l0_0.length c0_0, .slice (some ad333) l0_1.length c0_1, .int .i64 a0_2, .int .i64 a0_3] 32 (0, 0)) (by (with_reducible repeat (first | refine blk_drewN ?_ _ | refine blk_drew ?_ | refine blk_alloc ?_ _)); exact BK324.out) hb)
              have n1_ := Aside0.mk (blk_below (g := gb334) (o := .cells #[.int .i64 ((rd_T36 l0_1 x6_2).f0), .int .i64 ((rd_T36 l0_1 x6_2).f1), .bool ((rd_T36 l0_1 x6_2).f2.f0), .int .i64 ((rd_T36 l0_1 x6_2).f2.f1), .string ((rd_T36 l0_1 x6_2).f2.f2), .bool ((rd_T36 l0_1 x6_2).f3.f0), .int .i64 ((rd_T36 l0_1 x6_2).f3.f1), .string ((rd_T36 l0_1 x6_2).f3.f2)] 36 (0, 0)) (by (with_reducible repeat (first | refine blk_drewN ?_ _ | refine blk_drew ?_ | refine blk_alloc ?_ _)); exact BK334.out) hb)
              have n2_ := Aside0.mk (below_step z20_ hb)
              clear BK324
              clear BK334
              clear HB
              have BK324 := n0_
              have BK334 := n1_
              have HB := n2_
              clear n0_ n1_ n2_
              (try clear hb)
              (try clear hb2)
              (try clear hk)
              (try clear hi)
              refine hK.out _ _ ⟨(blk_cell BK334.out 0).trans rfl, (blk_cell BK334.out 1).trans rfl, (blk_cell BK334.out 2).trans rfl, (blk_cell BK334.out 3).trans rfl, (blk_cell BK334.out 4).trans rfl, (blk_cell BK334.out 5).trans rfl, (blk_cell BK334.out 6).trans rfl, (blk_cell BK334.out 7).trans rfl⟩ (fun hHeld => ?_)
              clear hK K
              refine norm_ (a' := ?_) ?_ ?_; rotate_left; (show Act.put _ (some 58) _ = _; simp only [PT_]; rfl)
              refine pA_ 11 (some 59) (bs_ 18 16383) HT_ ?_ ?_ ?_ ?_ ?_
              rotate_left; (intro w'; go_simp; with_reducible rfl); rotate_left; (simp only [PT_]; rfl)
              refine oA_ 14 (some 62) (bs_ 18 32767) HT_ (fun K hK => ?_)
              refine goes_ Try.func25 (by kernel_rfl) rfl #[.agg #[.bool ((rd_T36 l0_1 x6_2).f3.f0), .int .i64 ((rd_T36 l0_1 x6_2).f3.f1), .string ((rd_T36 l0_1 x6_2).f3.f2)]] (by rfl) rfl rfl (by (try simp only [List.map_toArray, List.map_cons, List.map_nil]); first | done | rfl | (simp only [List.length_drop, List.length_take]; rfl)) ?_
              with_reducible refine (tithebarnref16_value.calls k2 ((rd_T36 l0_1 x6_2).f3.f0) ((rd_T36 l0_1 x6_2).f3.f1) ((rd_T36 l0_1 x6_2).f3.f2) t338 _ A27.out).mono ?_
              rintro e w39 ⟨rfl, hb⟩
              refine ⟨_, rfl, ?_⟩
              have n0_ := Aside0.mk (blk_below (g := gb324) (o := .cells #[.slice A0_0 l0_0.length c0_0, .slice (some ad333) l0_1.length c0_1, .int .i64 a0_2, .int .i64 a0_3] 32 (0, 0)) (by (with_reducible repeat (first | refine blk_drewN ?_ _ | refine blk_drew ?_ | refine blk_alloc ?_ _)); exact BK324.out) hb)
              have n1_ := Aside0.mk (blk_below (g := gb334) (o := .cells #[.int .i64 ((rd_T36 l0_1 x6_2).f0), .int .i64 ((rd_T36 l0_1 x6_2).f1), .bool ((rd_T36 l0_1 x6_2).f2.f0), .int .i64 ((rd_T36 l0_1 x6_2).f2.f1), .string ((rd_T36 l0_1 x6_2).f2.f2), .bool ((rd_T36 l0_1 x6_2).f3.f0), .int .i64 ((rd_T36 l0_1 x6_2).f3.f1), .string ((rd_T36 l0_1 x6_2).f3.f2)] 36 (0, 0)) (by (with_reducible repeat (first | refine blk_drewN ?_ _ | refine blk_drew ?_ | refine blk_alloc ?_ _)); exact BK334.out) hb)
              have n2_ := Aside0.mk (below_step z20_ hb)
              clear BK324
              clear BK334
              clear HB
              have BK324 := n0_
              have BK334 := n1_
              have HB := n2_
              clear n0_ n1_ n2_
              (try clear hb)
              (try clear hb2)
              (try clear hk)
              (try clear hi)
              refine hK.out _ _ ⟨(blk_cell BK334.out 0).trans rfl, (blk_cell BK334.out 1).trans rfl, (blk_cell BK334.out 2).trans rfl, (blk_cell BK334.out 3).trans rfl, (blk_cell BK334.out 4).trans rfl, (blk_cell BK334.out 5).trans rfl, (blk_cell BK334.out 6).trans rfl, (blk_cell BK334.out 7).trans rfl⟩ (fun hHeld => ?_)
              clear hK K
              refine norm_ (a' := ?_) ?_ ?_; rotate_left; (show Act.put _ (some 62) _ = _; simp only [PT_]; rfl)
              refine pA_ 15 (some 63) (bs_ 18 65535) HT_ ?_ ?_ ?_ ?_ ?_
              rotate_left; (intro w'; go_simp; with_reducible rfl); rotate_left; (simp only [PT_]; rfl)
              refine pA_ 16 (some 64) (bs_ 18 131071) HT_ ?_ ?_ ?_ ?_ ?_
              rotate_left; (intro w'; go_simp; with_reducible rfl); rotate_left; (simp only [PT_]; rfl)
              refine pA_ 17 (some 4) (bs_ 18 262143) HT_ ?_ ?_ ?_ ?_ ?_
              rotate_left; (intro w'; go_simp; with_reducible rfl); rotate_left; (simp only [PT_]; rfl)
              refine done_ (done_of HT_.out (by kernel_rfl)) ?_
              try go_wp2
              go_roundg k2
              case measure => have := HK1.out; have := HK2.out; omega
              case rel => exact ⟨(x4_2 ++ (((t335 ++ t336) ++ t337) ++ t338)), (wrap64 (x6_2 + 1)), z4_, z4_, H', ⟨by have := HK1.out; have := HK2.out; omega⟩, ⟨by (with_reducible repeat (first | refine blk_drewN ?_ _ | refine blk_drew ?_ | refine blk_alloc ?_ _)); exact BK324.out⟩, ⟨z20_⟩⟩
             ·rw [if_neg c29] at H
              exact absurd H (by simp)
            ·rw [if_neg c28] at H
             exact absurd H (by simp)
           ·rw [if_neg c26] at H
            exact absurd H (by simp)
          ·rw [if_neg c24] at H
           exact absurd H (by simp)
         ·rw [if_neg c21] at H
          exact absurd H (by simp)
        ·rw [if_neg c20] at H
         have c20b0 : decide (x6_2 < (l0_1.length : Int)) = false := decide_eq_false c20
         clear c20
         replace H := Option.bind_eq_some_iff.mp H
         obtain ⟨t330, A400, H⟩ := H
         replace H : (if x4_2.size + t330.size ≤ 9223372036854775807 then ((tithebarnref16_num.f k2 a0_3).bind fun t331 => (if (x4_2 ++ t330).size + t331.size ≤ 9223372036854775807 then ((tithebarnref08_Write.f ((x4_2 ++ t330) ++ t331)).bind fun t332 => (some (t332, 0))) else (none))) else (none)) = some (r1, r2) := H
         have A40 := Aside0.mk A400
         clear A400
         by_cases c41 : x4_2.size + t330.size ≤ 9223372036854775807
         ·rw [if_pos c41] at H
          have c41b0 := eq_true c41
          have c41b1 : decide (x4_2.size + t330.size ≤ 9223372036854775807) = true := decide_eq_true c41
          try have c41b2 : (9223372036854775807 < x4_2.size + t330.size) = False := eq_false (Nat.not_lt.2 c41)
          try (have c41b3 := c41b2; simp only [ByteArray.size_append] at c41b3)
          try (have c41b4 := c41b0; simp only [ByteArray.size_append] at c41b4)
          try (have c41b5 := c41b1; simp only [ByteArray.size_append] at c41b5)
          replace H := Option.bind_eq_some_iff.mp H
          obtain ⟨t331, A420, H⟩ := H
          replace H : (if (x4_2 ++ t330).size + t331.size ≤ 9223372036854775807 then ((tithebarnref08_Write.f ((x4_2 ++ t330) ++ t331)).bind fun t332 => (some (t332, 0))) else (none)) = some (r1, r2) := H
          have A42 := Aside0.mk A420
          clear A420
          by_cases c43 : (x4_2 ++ t330).size + t331.size ≤ 9223372036854775807
          ·rw [if_pos c43] at H
           have c43b0 := eq_true c43
           have c43b1 : decide ((x4_2 ++ t330).size + t331.size ≤ 9223372036854775807) = true := decide_eq_true c43
           try have c43b2 : (9223372036854775807 < (x4_2 ++ t330).size + t331.size) = False := eq_false (Nat.not_lt.2 c43)
           try (have c43b3 := c43b2; simp only [ByteArray.size_append] at c43b3)
           try (have c43b4 := c43b0; simp only [ByteArray.size_append] at c43b4)
           try (have c43b5 := c43b1; simp only [ByteArray.size_append] at c43b5)
           replace H := Option.bind_eq_some_iff.mp H
           obtain ⟨t332, A440, H⟩ := H
           replace H : (some (t332, 0)) = some (r1, r2) := H
           have A44 := Aside0.mk A440
           clear A440
           simp only [Option.some.injEq, Prod.mk.injEq] at H
           obtain ⟨rfl, rfl⟩ := H
           have hcz45_0 : wr.cell? ⟨gb324, 0, none⟩ = some (.slice A0_0 l0_0.length c0_0) := (blk_cell BK324.out 0).trans rfl
           have hcz45_1 : wr.cell? ⟨gb324, 1, none⟩ = some (.slice A0_1 l0_1.length c0_1) := (blk_cell BK324.out 1).trans rfl
           have hcz45_2 : wr.cell? ⟨gb324, 2, none⟩ = some (.int .i64 a0_2) := (blk_cell BK324.out 2).trans rfl
           have hcz45_3 : wr.cell? ⟨gb324, 3, none⟩ = some (.int .i64 a0_3) := (blk_cell BK324.out 3).trans rfl
           have hfz45_0 := blk_frozen BK324.out 0
           have hfz45_1 := blk_frozen BK324.out 1
           have hfz45_2 := blk_frozen BK324.out 2
           have hfz45_3 := blk_frozen BK324.out 3
           try go_wp2
           have n0_ := Aside0.mk (blk_drew BK324.out)
           have n1_ := Aside0.mk (below_drew1 HB.out)
           clear BK324
           clear HB
           have BK324 := n0_
           have HB := n1_
           clear n0_ n1_
           refine start_ (n := 12) (S := fun w' => w'.cell? ⟨gb324, 0, none⟩ = some (.slice A0_0 l0_0.length c0_0) ∧ w'.cell? ⟨gb324, 1, none⟩ = some (.slice A0_1 l0_1.length c0_1) ∧ w'.cell? ⟨gb324, 2, none⟩ = some (.int .i64 a0_2) ∧ w'.cell? ⟨gb324, 3, none⟩ = some (.int .i64 a0_3)) (ds := []) (bs_ 12 0) (by kernel_rfl) rfl rfl ⟨(blk_cell BK324.out 0).trans rfl, (blk_cell BK324.out 1).trans rfl, (blk_cell BK324.out 2).trans rfl, (blk_cell BK324.out 3).trans rfl⟩ (fun hHeld => ?_); refine with_tabW tithebarnref16_Write.tab14 tithebarnref16_Write.bits14 (fun HT_ HW_ => ?_)
           generalize wr.drew = w46 at BK324 HB hHeld ⊢
           refine pA_ 0 (some 65) (bs_ 12 1) HT_ ?_ ?_ ?_ ?_ ?_
           rotate_left; (intro w'; go_simp; with_reducible rfl); rotate_left; (simp only [PT_]; rfl)
           refine pA_ 1 (some 66) (bs_ 12 3) HT_ ?_ ?_ ?_ ?_ ?_
           rotate_left; (intro w'; go_simp; with_reducible rfl); rotate_left; (simp only [PT_]; rfl)
           refine pA_ 5 (some 70) (bs_ 12 35) HT_ ?_ ?_ ?_ ?_ ?_
           rotate_left; (intro w'; go_simp; with_reducible rfl); rotate_left; (simp only [PT_]; rfl)
           refine take_ (i := 2) (N := some 67) (v := ?_) (a' := ?_) (bs_ 12 39) rfl rfl (take_ofW HT_.out HW_.out (by kernel_rfl)) (fun _ _ _ h => h) (Or.inl ⟨by rfl, ?_⟩) hHeld ?_ ?_
           rotate_left
           ·rintro w' ⟨s0, s1, s2, s3⟩
            go_simp
            with_reducible rfl
           rotate_left
           ·simp only [PT_]
            rfl
           refine take_ (i := 6) (N := some 71) (v := ?_) (a' := ?_) (bs_ 12 103) rfl rfl (take_ofW HT_.out HW_.out (by kernel_rfl)) (fun _ _ _ h => h) (Or.inl ⟨by rfl, ?_⟩) hHeld ?_ ?_
           rotate_left
           ·rintro w' ⟨s0, s1, s2, s3⟩
            go_simp
            with_reducible rfl
           rotate_left
           ·simp only [PT_]
            rfl
           refine oA_ 3 (some 68) (bs_ 12 111) HT_ (fun K hK => ?_)
           refine goes_ Try.func24 (by kernel_rfl) rfl #[.int .i64 a0_2] (by rfl) rfl rfl (by (try simp only [List.map_toArray, List.map_cons, List.map_nil]); first | done | rfl | (simp only [List.length_drop, List.length_take]; rfl)) ?_
           with_reducible refine (tithebarnref16_num.calls k2 a0_2 t330 _ A40.out).mono ?_
           rintro e w47 ⟨rfl, hb⟩
           refine ⟨_, rfl, ?_⟩
           have n0_ := Aside0.mk (blk_below (g := gb324) (o := .cells #[.slice A0_0 l0_0.length c0_0, .slice A0_1 l0_1.length c0_1, .int .i64 a0_2, .int .i64 a0_3] 32 (0, 0)) (by (with_reducible repeat (first | refine blk_drewN ?_ _ | refine blk_drew ?_ | refine blk_alloc ?_ _)); exact BK324.out) hb)
           have n1_ := Aside0.mk (below_step z8_ hb)
           clear BK324
           clear HB
           have BK324 := n0_
           have HB := n1_
           clear n0_ n1_
           (try clear hb)
           (try clear hb2)
           (try clear hk)
           (try clear hi)
           refine hK.out _ _ ⟨(blk_cell BK324.out 0).trans rfl, (blk_cell BK324.out 1).trans rfl, (blk_cell BK324.out 2).trans rfl, (blk_cell BK324.out 3).trans rfl⟩ (fun hHeld => ?_)
           clear hK K
           refine norm_ (a' := ?_) ?_ ?_; rotate_left; (show Act.put _ (some 68) _ = _; simp only [PT_]; rfl)
           refine pA_ 4 (some 69) (bs_ 12 127) HT_ ?_ ?_ ?_ ?_ ?_
           rotate_left; (intro w'; go_simp; with_reducible rfl); rotate_left; (simp only [PT_]; rfl)
           refine oA_ 7 (some 72) (bs_ 12 255) HT_ (fun K hK => ?_)
           refine goes_ Try.func24 (by kernel_rfl) rfl #[.int .i64 a0_3] (by rfl) rfl rfl (by (try simp only [List.map_toArray, List.map_cons, List.map_nil]); first | done | rfl | (simp only [List.length_drop, List.length_take]; rfl)) ?_
           with_reducible refine (tithebarnref16_num.calls k2 a0_3 t331 _ A42.out).mono ?_
           rintro e w48 ⟨rfl, hb⟩
           refine ⟨_, rfl, ?_⟩
           have n0_ := Aside0.mk (blk_below (g := gb324) (o := .cells #[.slice A0_0 l0_0.length c0_0, .slice A0_1 l0_1.length c0_1, .int .i64 a0_2, .int .i64 a0_3] 32 (0, 0)) (by (with_reducible repeat (first | refine blk_drewN ?_ _ | refine blk_drew ?_ | refine blk_alloc ?_ _)); exact BK324.out) hb)
           have n1_ := Aside0.mk (below_step z8_ hb)
           clear BK324
           clear HB
           have BK324 := n0_
           have HB := n1_
           clear n0_ n1_
           (try clear hb)
           (try clear hb2)
           (try clear hk)
           (try clear hi)
           refine hK.out _ _ ⟨(blk_cell BK324.out 0).trans rfl, (blk_cell BK324.out 1).trans rfl, (blk_cell BK324.out 2).trans rfl, (blk_cell BK324.out 3).trans rfl⟩ (fun hHeld => ?_)
           clear hK K
           refine norm_ (a' := ?_) ?_ ?_; rotate_left; (show Act.put _ (some 72) _ = _; simp only [PT_]; rfl)
           refine pA_ 8 (some 73) (bs_ 12 511) HT_ ?_ ?_ ?_ ?_ ?_
           rotate_left; (intro w'; go_simp; with_reducible rfl); rotate_left; (simp only [PT_]; rfl)
           refine oA_ 9 (some 74) (bs_ 12 1023) HT_ (fun K hK => ?_)
           refine goes_ Try.func26 (by kernel_rfl) rfl #[.string ((x4_2 ++ t330) ++ t331)] (by rfl) rfl rfl (by (try simp only [List.map_toArray, List.map_cons, List.map_nil]); first | done | rfl | (simp only [List.length_drop, List.length_take]; rfl)) ?_
           with_reducible refine (tithebarnref08_Write.calls ((x4_2 ++ t330) ++ t331) t332 _ A44.out).mono ?_
           rintro e w49 ⟨rfl, hb⟩
           refine ⟨_, rfl, ?_⟩
           have n0_ := Aside0.mk (blk_below (g := gb324) (o := .cells #[.slice A0_0 l0_0.length c0_0, .slice A0_1 l0_1.length c0_1, .int .i64 a0_2, .int .i64 a0_3] 32 (0, 0)) (by (with_reducible repeat (first | refine blk_drewN ?_ _ | refine blk_drew ?_ | refine blk_alloc ?_ _)); exact BK324.out) hb)
           have n1_ := Aside0.mk (below_step z8_ hb)
           clear BK324
           clear HB
           have BK324 := n0_
           have HB := n1_
           clear n0_ n1_
           (try clear hb)
           (try clear hb2)
           (try clear hk)
           (try clear hi)
           refine hK.out _ _ ⟨(blk_cell BK324.out 0).trans rfl, (blk_cell BK324.out 1).trans rfl, (blk_cell BK324.out 2).trans rfl, (blk_cell BK324.out 3).trans rfl⟩ (fun hHeld => ?_)
           clear hK K
           refine norm_ (a' := ?_) ?_ ?_; rotate_left; (show Act.put _ (some 74) _ = _; simp only [PT_]; rfl)
           refine pA_ 10 (some 2) (bs_ 12 2047) HT_ ?_ ?_ ?_ ?_ ?_
           rotate_left; (intro w'; go_simp; with_reducible rfl); rotate_left; (simp only [PT_]; rfl)
           refine pA_ 11 (some 3) (bs_ 12 4095) HT_ ?_ ?_ ?_ ?_ ?_
           rotate_left; (intro w'; go_simp; with_reducible rfl); rotate_left; (simp only [PT_]; rfl)
           refine done_ (done_of HT_.out (by kernel_rfl)) ?_
           try go_wp2
           go_ret2
           exact ⟨z2_, z8_⟩
          ·rw [if_neg c43] at H
           exact absurd H (by simp)
         ·rw [if_neg c41] at H
          exact absurd H (by simp)
     ·rw [if_neg c17] at H
      exact absurd H (by simp)
 ·replace c3 := Bool.eq_false_iff.mpr c3
  subst c3
  have H1 : (some ((⟨#[]⟩ : ByteArray), 1)) = some (r1, r2) := by rw [if_neg (show ¬ (false = true) by decide)] at H; exact H
  clear H
  have H := H1
  clear H1
  simp only [Option.some.injEq, Prod.mk.injEq] at H
  obtain ⟨rfl, rfl⟩ := H
  go_enter Try.func13, Try.ntmps13
  go_wp2_with (first | ((with_reducible refine gate_dst (N := 1) rfl ?_); refine box_event ?hg (N := 1) ?hd (cs := #[.slice A0_0 l0_0.length c0_0, .slice A0_1 l0_1.length c0_1, .int .i64 a0_2, .int .i64 a0_3]) (t := 32) ?hr ?_; (case hd => rfl); (case hg => rfl); (case hr => first | (go_simp; done) | (go_simp; rfl)); intro gb324 hg w50 hbox hb; have n0_ := Aside0.mk (below_step z0_ hb); have n1_ := Aside0.mk (hbox); have n2_ := Aside0.mk ((by rw [hg]; exact (below_size z0_) : w.heap.size ≤ gb324)); have n3_ := Aside0.mk ((by rw [hg]; exact (below_size z0_) : w.heap.size ≤ gb324)); clear HB; have HB := n0_; have BK324 := n1_; have GW324 := n2_; have GE324 := n3_; clear n0_ n1_ n2_ n3_; clear hb hbox hg; have hcz51_0 : w50.cell? ⟨gb324, 0, none⟩ = some (.slice A0_0 l0_0.length c0_0) := (blk_cell BK324.out 0).trans rfl; have hcz51_1 : w50.cell? ⟨gb324, 1, none⟩ = some (.slice A0_1 l0_1.length c0_1) := (blk_cell BK324.out 1).trans rfl; have hcz51_2 : w50.cell? ⟨gb324, 2, none⟩ = some (.int .i64 a0_2) := (blk_cell BK324.out 2).trans rfl; have hcz51_3 : w50.cell? ⟨gb324, 3, none⟩ = some (.int .i64 a0_3) := (blk_cell BK324.out 3).trans rfl; have hfz51_0 := blk_frozen BK324.out 0; have hfz51_1 := blk_frozen BK324.out 1; have hfz51_2 := blk_frozen BK324.out 2; have hfz51_3 := blk_frozen BK324.out 3) | ((with_reducible refine gate_callee (f := 23) rfl ?_); refine goesL_ (some 9) rfl rfl Try.func23 (by kernel_rfl) rfl #[.agg #[.slice A0_0 l0_0.length c0_0, .slice A0_1 l0_1.length c0_1, .int .i64 a0_2, .int .i64 a0_3]] rfl (by (try simp only [List.map_toArray, List.map_cons, List.map_nil]); first | done | rfl | (simp only [List.length_drop, List.length_take]; rfl) | (go_simp; simp [IntKind.wrap, IntKind.bits, IntKind.signed]; omega)) ?_; (with_reducible refine (tithebarnref16_Right.calls k _ _ l0_0 _ _ l0_1 a0_2 a0_3 false _ ?side1 ?side2 ?side3 ?side4 A2.out).mono ?_); (case side1 => repeat (first | exact (Kd.C_below HR0_0.out HB.out) | (with_reducible refine Kd.C_alloc ?_ _) | (with_reducible refine Kd.C_drewN ?_ _) | (with_reducible refine Kd.C_drew ?_))); (case side2 => exact HC0_0.out); (case side3 => repeat (first | exact (Kd.C_below HR0_1.out HB.out) | (with_reducible refine Kd.C_alloc ?_ _) | (with_reducible refine Kd.C_drewN ?_ _) | (with_reducible refine Kd.C_drew ?_))); (case side4 => exact HC0_1.out); rintro e w52 ⟨rfl, hb⟩; refine ⟨_, rfl, ?_⟩; have n0_ := Aside0.mk (blk_below (g := gb324) (o := .cells #[.slice A0_0 l0_0.length c0_0, .slice A0_1 l0_1.length c0_1, .int .i64 a0_2, .int .i64 a0_3] 32 (0, 0)) (by (with_reducible repeat (first | refine blk_drewN ?_ _ | refine blk_drew ?_ | refine blk_alloc ?_ _)); exact BK324.out) hb); have n1_ := Aside0.mk (below_step z8_ hb); clear BK324; clear HB; have BK324 := n0_; have HB := n1_; clear n0_ n1_; (try clear hb); (try clear hb2); (try clear hk); (try clear hi)))
  go_ret2
  exact ⟨z2_, z8_⟩
end Go.Proofs.Ytagokgijffpdnaa.G
namespace Go.Proofs.Ytagokgijffpdnaa.G
open Go.RowKit Go.Proofs.YtagokgijffpdnaaQ Go.Proofs.YtagokgijffpdnaaW.PrintWords Go.Proofs.YtagokgijffpdnaaW.PrintLast Go.Proofs.YtagokgijffpdnaaW.PrintMore
set_option linter.unusedVariables false
set_option linter.unusedSimpArgs false
theorem rsum_f {s : ByteArray} (hs : s.size ≤ 4611686018427387904) : tithebarnref08_Sum.f s = some ((crc (bytesOf s) : Nat) : Int) := by unfold tithebarnref08_Sum.f; rw [if_pos hs]
theorem rWrite_f {s : ByteArray} (hs : s.size + 8 < 140737488355328) : tithebarnref08_Write.f s = some (strOfNums (frm (bytesOf s))) := by
 unfold tithebarnref08_Write.f tithebarnref08_four.f
 simp only [Option.bind_some]
 rw [if_pos (by rw [size_strOfNums]; simp; omega), rsum_f (by omega)]
 simp only [Option.bind_some]
 rw [if_pos (by rw [ByteArray.size_append, size_strOfNums, size_strOfNums]; simp; omega)]
 unfold frm le4
 rw [strOfNums_append, strOfNums_append, strOfNums_bytesOf, bytesOf_size]
theorem num_f {n : Int} (h : u64 n) {k : Nat} (hk : 12 ≤ k) : tithebarnref16_num.f k n = some (strOfNums (encU n)) := by
 unfold tithebarnref16_num.f
 rw [wu64 h.1 h.2, rUint_f hk h]; rfl
theorem value_f (v : SV) (hv : i64 v.f1) (hs : v.f2.size ≤ 64) {k : Nat} (hk : 12 ≤ k) : tithebarnref16_value.f k v.f0 v.f1 v.f2 = some (strOfNums (valB v)) := by
 unfold tithebarnref16_value.f
 have h1 : (encI v.f1).length ≤ 9 := (encU_len _).2
 have h2 := (encU_len ((bytesOf v.f2).length : Int)).2
 have h3 := bytesOf_size v.f2
 rw [rInt_f hk hv, Option.bind_some, rText_f hk (by omega), Option.bind_some, if_pos (by rw [size_strOfNums, size_strOfNums]; unfold encT; rw [List.length_append]; omega), ← strOfNums_append]
 rfl
theorem sapp (b c : List Int) : strOfNums b ++ strOfNums c = strOfNums (b ++ c) := (strOfNums_append b c).symm
theorem rWrite_l1 (d : List Int) (a : List SP) (fl nx : Int) (ha : a.length ≤ 1000) (hp : (a.all fun p => !oddP p) = true) (hok : ∀ p ∈ a, OkP p) (hfl : u64 fl) (hnx : u64 nx) : ∀ (m i k : Nat) (b : List Int), i + m = a.length → m + 20 ≤ k → b.length + 200 * m ≤ 1000000 →
  tithebarnref16_Write.l1 k (strOfNums b) (i : Int) d a fl nx = some (strOfNums (frm (bytesOf (strOfNums (b ++ ((a.drop i).flatMap partB ++ (encU fl ++ encU nx)))))), 0) := by
 intro m
 induction m with
 | zero =>
  intro i k b hi hk hb
  obtain ⟨k, rfl⟩ : ∃ m, k = m + 1 := ⟨k - 1, by omega⟩
  simp only [tithebarnref16_Write.l1]
  have l1 := (encU_len fl).2
  have l2 := (encU_len nx).2
  rw [if_neg (by omega), num_f hfl (by omega), Option.bind_some, if_pos (by rw [size_strOfNums, size_strOfNums]; omega), sapp, num_f hnx (by omega), Option.bind_some, if_pos (by rw [size_strOfNums, size_strOfNums, List.length_append]; omega), sapp, rWrite_f (by rw [size_strOfNums, List.length_append, List.length_append]; omega), Option.bind_some, List.drop_eq_nil_of_le (show a.length ≤ i by omega)]
  simp
 | succ m ih =>
  intro i k b hi hk hb
  obtain ⟨k, rfl⟩ : ∃ m, k = m + 1 := ⟨k - 1, by omega⟩
  simp only [tithebarnref16_Write.l1]
  have EW : Aside0 (wrap64 ((i : Int) + 1) = ((i + 1 : Nat) : Int)) := ⟨by rw [w64 (by omega) (by omega)]; omega⟩
  have hdr := rdP_drop (show i < a.length by omega)
  have hm : rd_T36 a (i : Int) ∈ a := List.mem_of_mem_drop (hdr ▸ List.mem_cons_self : rd_T36 a (i : Int) ∈ a.drop i)
  obtain ⟨p, hpe⟩ : ∃ p, rd_T36 a (i : Int) = p := ⟨_, rfl⟩
  rw [hpe] at hdr hm ⊢
  have hodd : oddP p = false := by have := List.all_eq_true.mp hp p hm; simpa using this
  obtain ⟨h0, h1, h2, h3⟩ := not_oddP hodd
  obtain ⟨g2, g3⟩ := (hok p hm).ints
  have lp := partB_len hodd
  have lq := lp
  unfold partB at lq
  simp only [List.length_append] at lq
  rw [if_pos (by omega), if_pos (by omega), num_f h0 (by omega), Option.bind_some, num_f h1 (by omega), Option.bind_some, if_pos (by rw [size_strOfNums, size_strOfNums]; omega), sapp, value_f p.f2 g2 h2 (by omega), Option.bind_some, if_pos (by rw [size_strOfNums, size_strOfNums, List.length_append]; omega), sapp, value_f p.f3 g3 h3 (by omega), Option.bind_some,
   if_pos (by rw [size_strOfNums, size_strOfNums, List.length_append, List.length_append]; omega), sapp, if_pos (by rw [size_strOfNums, size_strOfNums, List.length_append, List.length_append, List.length_append]; omega), sapp, EW.out, ih (i + 1) k _ (by omega) (by omega) (by simp only [List.length_append]; omega), hdr]
  simp [partB]
theorem rWrite_l0 (d : List Int) (a : List SP) (fl nx : Int) (ha : a.length ≤ 1000) (hp : (a.all fun p => !oddP p) = true) (hok : ∀ p ∈ a, OkP p) (hfl : u64 fl) (hnx : u64 nx) (hd : d.length ≤ 1000) (hu : ∀ x ∈ d, u64 x) : ∀ (m i k : Nat) (b : List Int), i + m = d.length → m + 1100 ≤ k → b.length + 9 * m ≤ 100000 →
  tithebarnref16_Write.l0 k (strOfNums b) (i : Int) d a fl nx = some (strOfNums (frm (bytesOf (strOfNums (b ++ ((d.drop i).flatMap encU ++ (encU (a.length : Int) ++ (a.flatMap partB ++ (encU fl ++ encU nx)))))))), 0) := by
 intro m
 induction m with
 | zero =>
  intro i k b hi hk hb
  obtain ⟨k, rfl⟩ : ∃ m, k = m + 1 := ⟨k - 1, by omega⟩
  simp only [tithebarnref16_Write.l0]
  have l1 := (encU_len (a.length : Int)).2
  have w := rWrite_l1 d a fl nx ha hp hok hfl hnx a.length 0 k (b ++ encU (a.length : Int)) (by omega) (by omega) (by rw [List.length_append]; omega)
  rw [show ((0 : Nat) : Int) = 0 from rfl, List.drop_zero] at w
  rw [if_neg (by omega), num_f (by unfold u64; omega) (by omega), Option.bind_some, if_pos (by rw [size_strOfNums, size_strOfNums]; omega), sapp, w, List.drop_eq_nil_of_le (show d.length ≤ i by omega)]
  simp
 | succ m ih =>
  intro i k b hi hk hb
  obtain ⟨k, rfl⟩ : ∃ m, k = m + 1 := ⟨k - 1, by omega⟩
  simp only [tithebarnref16_Write.l0]
  have EW : Aside0 (wrap64 ((i : Int) + 1) = ((i + 1 : Nat) : Int)) := ⟨by rw [w64 (by omega) (by omega)]; omega⟩
  have hdr : d.drop i = rd d (i : Int) :: d.drop (i + 1) := by
   rw [List.drop_eq_getElem_cons (show i < d.length by omega)]
   unfold rd
   rw [Int.toNat_natCast, List.getD_eq_getElem?_getD, List.getElem?_eq_getElem (show i < d.length by omega)]; rfl
  have hx := hu (rd d (i : Int)) (by have := List.mem_of_mem_drop (hdr ▸ List.mem_cons_self : rd d (i : Int) ∈ d.drop i); exact this)
  have he := (encU_len (rd d (i : Int))).2
  rw [if_pos (by omega), if_pos (by omega), num_f hx (by omega), Option.bind_some, if_pos (by rw [size_strOfNums, size_strOfNums]; omega), sapp, EW.out, ih (i + 1) k _ (by omega) (by omega) (by rw [List.length_append]; omega), hdr]
  simp
theorem rWrite_is (d : List Int) (a : List SP) (fl nx : Int) (hok : ∀ p ∈ a, OkP p) {k : Nat} (hk : 3000 ≤ k) : tithebarnref16_Write.f k d a fl nx = some (writeL d a fl nx) := by
 unfold tithebarnref16_Write.f writeL
 rw [rRight_f d a fl nx hk, Option.bind_some]
 cases hr : rightB d a fl nx
 ·rfl
 ·have hB := editB_Bs hr hok
  rw [if_pos rfl, if_pos rfl]
  have h := hr
  unfold rightB at h
  simp only [Bool.and_eq_true, decide_eq_true_eq, Bool.not_eq_true'] at h
  obtain ⟨h1, h2, h3, h4, h5, h6⟩ := h
  have l1 := (encU_len (d.length : Int)).2
  have hu : ∀ x ∈ d, u64 x := fun x hx => not_odd (by have := List.all_eq_true.mp h5 x hx; simpa using this)
  have w := rWrite_l0 d a fl nx h2 h6 hok (not_odd h3) (not_odd h4) h1 hu d.length 0 k (encU (d.length : Int)) (by omega) (by omega) (by omega)
  rw [show ((0 : Nat) : Int) = 0 from rfl, List.drop_zero] at w
  rw [num_f (by unfold u64; omega) (by omega), Option.bind_some, w]
  have e : encU (d.length : Int) ++ (d.flatMap encU ++ (encU (a.length : Int) ++ (a.flatMap partB ++ (encU fl ++ encU nx)))) = editB d a fl nx := rfl
  rw [e, bytesOf_strOfNums hB]
end Go.Proofs.Ytagokgijffpdnaa.G
namespace Go.Proofs.Ytagokgijffpdnaa.G
open Go.RowKit Go.Proofs.YtagokgijffpdnaaQ Go.Proofs.YtagokgijffpdnaaW.PrintWords Go.Proofs.YtagokgijffpdnaaW.PrintLast Go.Proofs.YtagokgijffpdnaaW.PrintMore
attribute [local go_sem] max2_int min2_int max_two min_two max_three min_three max_four min_four   -- for this text's walks alone
set_option linter.unusedVariables false
set_option linter.unusedSimpArgs false
def tithebarnref16_at.l0 : Nat → List (S36) → Int → Int → Option (Int)
 | 0, _, _, _ => none
 | k + 1, x0, x1, x5 => if x5 < (x0.length : Int) then (if 0 ≤ x5 then (if ((rd_T36 x0 x5).f0) = x1 then (some x5) else (tithebarnref16_at.l0 k x0 x1 (wrap64 (x5 + 1)))) else (none)) else (some (-1))
def tithebarnref16_at.f (k : Nat) (l0 : List (S36)) (a1 : Int) : Option (Int) := tithebarnref16_at.l0 k l0 a1 0
theorem tithebarnref16_at.mono_l : ∀ k, (∀ y0 y1 y2, LeO (tithebarnref16_at.l0 k y0 y1 y2) (tithebarnref16_at.l0 (k + 1) y0 y1 y2))
 | 0 => fun _ _ _ r h => by simp [tithebarnref16_at.l0] at h
 | k + 1 => by
  have ih0 := tithebarnref16_at.mono_l k
  ·intro y0 y1 y2
   unfold tithebarnref16_at.l0
   repeat' first
   | (with_reducible exact ih0 _ _ _)
   | (with_reducible exact LeO.refl _)
   | (with_reducible exact LeO.none _)
   | (with_reducible refine LeO.ite ?_ ?_)
   | (with_reducible refine LeO.bind ?_ (fun _ => ?_))
   | exact ih0 _ _ _
   | exact LeO.none _
   | refine LeO.ite ?_ ?_
   | refine LeO.bind ?_ (fun _ => ?_)
theorem tithebarnref16_at.mono : ∀ a0 a1 k, LeO (tithebarnref16_at.f k a0 a1) (tithebarnref16_at.f (k + 1) a0 a1) := by
 intro a0 a1 k
 have ih0 := tithebarnref16_at.mono_l k
 unfold tithebarnref16_at.f
 repeat' first
   | (with_reducible exact ih0 _ _ _)
   | (with_reducible exact LeO.refl _)
   | (with_reducible exact LeO.none _)
   | (with_reducible refine LeO.ite ?_ ?_)
   | (with_reducible refine LeO.bind ?_ (fun _ => ?_))
   | exact ih0 _ _ _
   | exact LeO.none _
   | refine LeO.ite ?_ ?_
   | refine LeO.bind ?_ (fun _ => ?_)
set_option maxHeartbeats 8000000 in
set_option maxRecDepth 100000 in
theorem tithebarnref16_at.calls (k : Nat) (A0 : Option Addr) (c0 : Nat) (l0 : List (S36)) (a1 : Int) (r : Int) (w : World) (hr0 : Kd.C k36 w A0 l0.length l0) (hc0 : l0.length ≤ c0) (h : tithebarnref16_at.f k l0 a1 = some r) :
  Calls Try.prog 27 #[.slice A0 l0.length c0, .int .i64 a1] w fun e w' => e = .returned (.int .i64 r) ∧ Drawn0 w w' := by
 have HR0 := Aside0.mk hr0
 have HC0 := Aside0.mk hc0
 clear hr0 hc0
 have H : (tithebarnref16_at.l0 k l0 a1 0) = some r := h
 clear h
 have H' := Aside0.mk H
 clear H
 go_enter Try.func27, Try.ntmps27
 go_wp2
 go_loopg [5] k (fun kq v5 w' => ∃ (x5_1 : Int), v5 = .int .i64 x5_1 ∧ Aside0 (tithebarnref16_at.l0 kq l0 a1 x5_1 = some r) ∧ Aside0 (kq ≤ k) ∧ Drawn0 w w')
 case atStart => exact ⟨(0), z4_, H', ⟨Nat.le_refl _⟩, z11_⟩
 case round =>
  clear H'
  try clear c2
  try clear p2
  obtain ⟨x5_1, rfl, HA, HK1, ⟨m1, rfl⟩⟩ := hrel
  cases gk with
  | zero => exact absurd HA.out (by simp [tithebarnref16_at.l0])
  | succ k1 =>
   have H := HA.out
   clear HA
   simp only [tithebarnref16_at.l0] at H
   by_cases c3 : x5_1 < (l0.length : Int)
   ·rw [if_pos c3] at H
    have c3b0 : decide (x5_1 < (l0.length : Int)) = true := decide_eq_true c3
    clear c3
    by_cases c4 : 0 ≤ x5_1
    ·rw [if_pos c4] at H
     have c4b0 : decide (0 ≤ x5_1) = true := decide_eq_true c4
     clear c4
     by_cases c5 : ((rd_T36 l0 x5_1).f0) = a1
     ·rw [if_pos c5] at H
      have c5b0 : (((rd_T36 l0 x5_1).f0) == a1) = true := beq_iff_eq.mpr c5
      have c5b1 : (((rd_T36 l0 x5_1).f0) != a1) = false := bne_eq_false_iff_eq.mpr c5
      clear c5
      obtain rfl := Option.some.inj H
      have p339 : 0 ≤ (x5_1 : Int) := of_decide_eq_true z5_
      have q339 : x5_1 < (l0.length : Int) := of_decide_eq_true z5_
      obtain ⟨ad339, e339, hx339_0, hx339_1, hx339_2, hx339_3, hx339_4, hx339_5, hx339_6, hx339_7⟩ := at_T36 HR0.out x5_1 p339 q339
      cases e339
      replace p339 := eq_true p339
      replace q339 := eq_true q339
      go_wp2
      go_ret
      exact ⟨z4_, z11_⟩
     ·rw [if_neg c5] at H
      have c5b0 : (((rd_T36 l0 x5_1).f0) == a1) = false := beq_eq_false_iff_ne.mpr c5
      have c5b1 : (((rd_T36 l0 x5_1).f0) != a1) = true := bne_iff_ne.mpr c5
      have H' := Aside0.mk H
      clear H
      have p339 : 0 ≤ (x5_1 : Int) := of_decide_eq_true z5_
      have q339 : x5_1 < (l0.length : Int) := of_decide_eq_true z5_
      obtain ⟨ad339, e339, hx339_0, hx339_1, hx339_2, hx339_3, hx339_4, hx339_5, hx339_6, hx339_7⟩ := at_T36 HR0.out x5_1 p339 q339
      cases e339
      replace p339 := eq_true p339
      replace q339 := eq_true q339
      go_wp2
      go_roundg k1
      case measure => have := HK1.out; omega
      case rel => exact ⟨(wrap64 (x5_1 + 1)), z4_, H', ⟨by have := HK1.out; omega⟩, z11_⟩
    ·rw [if_neg c4] at H
     exact absurd H (by simp)
   ·rw [if_neg c3] at H
    have c3b0 : decide (x5_1 < (l0.length : Int)) = false := decide_eq_false c3
    clear c3
    obtain rfl := Option.some.inj H
    go_wp2
    go_ret
    exact ⟨z4_, z11_⟩
end Go.Proofs.Ytagokgijffpdnaa.G
