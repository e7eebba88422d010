import Derived.Test.YtagokgijffpdnaaZQA
import Derived.Test.YtagokgijffpdnaaZG5
import Derived.Test.YtagokgijffpdnaaZG3
import Derived.Test.YtagokgijffpdnaaZG10
import Derived.Test.YtagokgijffpdnaaZG12
import Derived.Test.YtagokgijffpdnaaZG16
import Derived.SizedLaws
namespace Go.Proofs.Ytagokgijffpdnaa.G
open Go.RowKit Go.Proofs.YtagokgijffpdnaaQ Go.Proofs.YtagokgijffpdnaaW.PrintWords Go.Proofs.YtagokgijffpdnaaW.PrintLast Go.Proofs.YtagokgijffpdnaaW.PrintMore
attribute [local go_sem] max2_int min2_int max_two min_two max_three min_three max_four min_four   -- for this text's walks alone
set_option linter.unusedVariables false
set_option linter.unusedSimpArgs false
attribute [local go_sem high] eqA36
mutual
def tithebarnref16_Same.j0 : Nat → Bool → List (S36) → Int → Int → List (S36) → Int → Int → Option (Bool)
 | 0, _, _, _, _, _, _, _ => none
 | k + 1, x26, x163000, x163001, x163002, x164000, x164001, x164002 => if x26 = true then (some false) else (tithebarnref16_Same.l0 k 0 x163000 x163001 x163002 x164000 x164001 x164002)
def tithebarnref16_Same.l0 : Nat → Int → List (S36) → Int → Int → List (S36) → Int → Int → Option (Bool)
 | 0, _, _, _, _, _, _, _ => none
 | k + 1, x5, x163000, x163001, x163002, x164000, x164001, x164002 => if x5 < (x163000.length : Int) then (if 0 ≤ x5 then (if x5 < (x164000.length : Int) then (if (!(((rd_T36 x163000 x5).f0) == ((rd_T36 x164000 x5).f0)) || (!(((rd_T36 x163000 x5).f1) == ((rd_T36 x164000 x5).f1)) || ((!(((rd_T36 x163000 x5).f2.f0) == ((rd_T36 x164000 x5).f2.f0)) || (!(((rd_T36 x163000 x5).f2.f1) == ((rd_T36 x164000 x5).f2.f1)) || (!((((rd_T36 x163000 x5).f2.f2).toList) == (((rd_T36 x164000 x5).f2.f2).toList))))) || ((!(((rd_T36 x163000 x5).f3.f0) == ((rd_T36 x164000 x5).f3.f0)) || (!(((rd_T36 x163000 x5).f3.f1) == ((rd_T36 x164000 x5).f3.f1)) || (!((((rd_T36 x163000 x5).f3.f2).toList) == (((rd_T36 x164000 x5).f3.f2).toList))))))))) = true then (some false) else (tithebarnref16_Same.l0 k (wrap64 (x5 + 1)) x163000 x163001 x163002 x164000 x164001 x164002)) else (none)) else (none)) else (some true)
end
def tithebarnref16_Same.f (k : Nat) (l0_0 : List (S36)) (a0_1 : Int) (a0_2 : Int) (l1_0 : List (S36)) (a1_1 : Int) (a1_2 : Int) : Option (Bool) := if a0_1 = a1_1 then (if a0_2 = a1_2 then (tithebarnref16_Same.j0 k ((l0_0.length : Int) != (l1_0.length : Int)) l0_0 a0_1 a0_2 l1_0 a1_1 a1_2) else (tithebarnref16_Same.j0 k true l0_0 a0_1 a0_2 l1_0 a1_1 a1_2)) else (tithebarnref16_Same.j0 k true l0_0 a0_1 a0_2 l1_0 a1_1 a1_2)
theorem tithebarnref16_Same.mono_l : ∀ k, (∀ y0 y1 y2 y3 y4 y5 y6, LeO (tithebarnref16_Same.j0 k y0 y1 y2 y3 y4 y5 y6) (tithebarnref16_Same.j0 (k + 1) y0 y1 y2 y3 y4 y5 y6)) ∧ (∀ y0 y1 y2 y3 y4 y5 y6, LeO (tithebarnref16_Same.l0 k y0 y1 y2 y3 y4 y5 y6) (tithebarnref16_Same.l0 (k + 1) y0 y1 y2 y3 y4 y5 y6))
 | 0 => ⟨fun _ _ _ _ _ _ _ r h => by simp [tithebarnref16_Same.j0] at h, fun _ _ _ _ _ _ _ r h => by simp [tithebarnref16_Same.l0] at h⟩
 | k + 1 => by
  obtain ⟨ih0, ih1⟩ := tithebarnref16_Same.mono_l k
  refine ⟨?_, ?_⟩
  ·intro y0 y1 y2 y3 y4 y5 y6
   unfold tithebarnref16_Same.j0
   repeat' first
   | (with_reducible exact ih0 _ _ _ _ _ _ _)
   | (with_reducible exact ih1 _ _ _ _ _ _ _)
   | (with_reducible exact LeO.refl _)
   | (with_reducible exact LeO.none _)
   | (with_reducible refine LeO.ite ?_ ?_)
   | (with_reducible refine LeO.bind ?_ (fun _ => ?_))
   | exact ih0 _ _ _ _ _ _ _
   | exact ih1 _ _ _ _ _ _ _
   | exact LeO.none _
   | refine LeO.ite ?_ ?_
   | refine LeO.bind ?_ (fun _ => ?_)
  ·intro y0 y1 y2 y3 y4 y5 y6
   unfold tithebarnref16_Same.l0
   repeat' first
   | (with_reducible exact ih0 _ _ _ _ _ _ _)
   | (with_reducible exact ih1 _ _ _ _ _ _ _)
   | (with_reducible exact LeO.refl _)
   | (with_reducible exact LeO.none _)
   | (with_reducible refine LeO.ite ?_ ?_)
   | (with_reducible refine LeO.bind ?_ (fun _ => ?_))
   | exact ih0 _ _ _ _ _ _ _
   | exact ih1 _ _ _ _ _ _ _
   | exact LeO.none _
   | refine LeO.ite ?_ ?_
   | refine LeO.bind ?_ (fun _ => ?_)
theorem tithebarnref16_Same.mono : ∀ a0 a1 a2 a3 a4 a5 k, LeO (tithebarnref16_Same.f k a0 a1 a2 a3 a4 a5) (tithebarnref16_Same.f (k + 1) a0 a1 a2 a3 a4 a5) := by
 intro a0 a1 a2 a3 a4 a5 k
 obtain ⟨ih0, ih1⟩ := tithebarnref16_Same.mono_l k
 unfold tithebarnref16_Same.f
 repeat' first
   | (with_reducible exact ih0 _ _ _ _ _ _ _)
   | (with_reducible exact ih1 _ _ _ _ _ _ _)
   | (with_reducible exact LeO.refl _)
   | (with_reducible exact LeO.none _)
   | (with_reducible refine LeO.ite ?_ ?_)
   | (with_reducible refine LeO.bind ?_ (fun _ => ?_))
   | exact ih0 _ _ _ _ _ _ _
   | exact ih1 _ _ _ _ _ _ _
   | exact LeO.none _
   | refine LeO.ite ?_ ?_
   | refine LeO.bind ?_ (fun _ => ?_)
set_option maxHeartbeats 8000000 in
set_option maxRecDepth 100000 in
theorem tithebarnref16_Same.calls (k : Nat) (A0_0 : Option Addr) (c0_0 : Nat) (l0_0 : List (S36)) (a0_1 : Int) (a0_2 : Int) (A1_0 : Option Addr) (c1_0 : Nat) (l1_0 : List (S36)) (a1_1 : Int) (a1_2 : Int) (r : Bool) (w : World) (hr0_0 : Kd.C k36 w A0_0 l0_0.length l0_0) (hc0_0 : l0_0.length ≤ c0_0) (hr1_0 : Kd.C k36 w A1_0 l1_0.length l1_0) (hc1_0 : l1_0.length ≤ c1_0) (h : tithebarnref16_Same.f k l0_0 a0_1 a0_2 l1_0 a1_1 a1_2 = some r) :
  Calls Try.prog 11 #[.agg #[.slice A0_0 l0_0.length c0_0, .int .i64 a0_1, .int .i64 a0_2], .agg #[.slice A1_0 l1_0.length c1_0, .int .i64 a1_1, .int .i64 a1_2]] w fun e w' => e = .returned (.bool r) ∧ Below w.heap.size w w' := by
 have hu26 := Try.underlying26
 have hu36 := Try.underlying36
 have HR0_0 := Aside0.mk hr0_0
 have HC0_0 := Aside0.mk hc0_0
 clear hr0_0 hc0_0
 have HR1_0 := Aside0.mk hr1_0
 have HC1_0 := Aside0.mk hc1_0
 clear hr1_0 hc1_0
 have HB := Aside0.mk (Below.refl w.heap.size w)
 have H : (if a0_1 = a1_1 then (if a0_2 = a1_2 then (tithebarnref16_Same.j0 k ((l0_0.length : Int) != (l1_0.length : Int)) l0_0 a0_1 a0_2 l1_0 a1_1 a1_2) else (tithebarnref16_Same.j0 k true l0_0 a0_1 a0_2 l1_0 a1_1 a1_2)) else (tithebarnref16_Same.j0 k true l0_0 a0_1 a0_2 l1_0 a1_1 a1_2)) = some r := h
 clear h
 have HC3 := Aside0.mk H
 clear H
 go_enter Try.func11, Try.ntmps11
 go_upto_region 1 with (first | ((with_reducible refine gate_dst (N := 2) rfl ?_); (try (refine gate_guard (by rfl) ?_; dsimp only)); refine box_event ?hg (N := 2) ?hd (cs := #[.slice A0_0 l0_0.length c0_0, .int .i64 a0_1, .int .i64 a0_2]) (t := 26) ?hr ?_; (case hd => rfl); (case hg => rfl); (case hr => first | (go_simp; done) | (go_simp; rfl)); intro gb162 hg w4 hbox hb; have n0_ := Aside0.mk (below_step z0_ hb); have n1_ := Aside0.mk (hbox); have n2_ := Aside0.mk ((by rw [hg]; exact (below_size z0_) : w.heap.size ≤ gb162)); have n3_ := Aside0.mk ((by rw [hg]; exact (below_size z0_) : w.heap.size ≤ gb162)); clear HB; have HB := n0_; have BK162 := n1_; have GW162 := n2_; have GE162 := n3_; clear n0_ n1_ n2_ n3_; clear hb hbox hg) | ((with_reducible refine gate_dst (N := 3) rfl ?_); (try (refine gate_guard (by rfl) ?_; dsimp only)); refine box_event ?hg (N := 3) ?hd (cs := #[.slice A1_0 l1_0.length c1_0, .int .i64 a1_1, .int .i64 a1_2]) (t := 26) ?hr ?_; (case hd => rfl); (case hg => rfl); (case hr => first | (go_simp; done) | (go_simp; rfl)); intro gb163 hg w5 hbox hb; have n0_ := Aside0.mk (blk_below (g := gb162) (o := .cells #[.slice A0_0 l0_0.length c0_0, .int .i64 a0_1, .int .i64 a0_2] 26 (0, 0)) (by (with_reducible repeat (first | refine blk_drewN ?_ _ | refine blk_drew ?_ | refine blk_alloc ?_ _)); exact BK162.out) hb); have n1_ := Aside0.mk (below_step z18_ hb); have n2_ := Aside0.mk (hbox); have n3_ := Aside0.mk ((by rw [hg]; exact (below_size z18_) : w.heap.size ≤ gb163)); have n4_ := Aside0.mk ((by rw [hg]; exact (below_size z18_) : w.heap.size ≤ gb163)); have n5_ := Aside0.mk ((by rw [hg]; exact Nat.ne_of_lt (blk_lt (g := gb162) (o := .cells #[.slice A0_0 l0_0.length c0_0, .int .i64 a0_1, .int .i64 a0_2] 26 (0, 0)) (by (with_reducible repeat (first | refine blk_drewN ?_ _ | refine blk_drew ?_ | refine blk_alloc ?_ _)); exact BK162.out)) : gb162 ≠ gb163)); have n6_ := Aside0.mk ((by rw [hg]; exact Nat.ne_of_gt (blk_lt (g := gb162) (o := .cells #[.slice A0_0 l0_0.length c0_0, .int .i64 a0_1, .int .i64 a0_2] 26 (0, 0)) (by (with_reducible repeat (first | refine blk_drewN ?_ _ | refine blk_drew ?_ | refine blk_alloc ?_ _)); exact BK162.out)) : gb163 ≠ gb162)); clear BK162; clear HB; have BK162 := n0_; have HB := n1_; have BK163 := n2_; have GW163 := n3_; have GE163 := n4_; have NB162_163 := n5_; have NB163_162 := n6_; clear n0_ n1_ n2_ n3_ n4_ n5_ n6_; clear hb hbox hg))
 repeat (go_quiet (first | ((with_reducible refine gate_dst (N := 2) rfl ?_); (try (refine gate_guard (by rfl) ?_; dsimp only)); refine box_event ?hg (N := 2) ?hd (cs := #[.slice A0_0 l0_0.length c0_0, .int .i64 a0_1, .int .i64 a0_2]) (t := 26) ?hr ?_; (case hd => rfl); (case hg => rfl); (case hr => first | (go_simp; done) | (go_simp; rfl)); intro gb162 hg w4 hbox hb; have n0_ := Aside0.mk (below_step z0_ hb); have n1_ := Aside0.mk (hbox); have n2_ := Aside0.mk ((by rw [hg]; exact (below_size z0_) : w.heap.size ≤ gb162)); have n3_ := Aside0.mk ((by rw [hg]; exact (below_size z0_) : w.heap.size ≤ gb162)); clear HB; have HB := n0_; have BK162 := n1_; have GW162 := n2_; have GE162 := n3_; clear n0_ n1_ n2_ n3_; clear hb hbox hg) | ((with_reducible refine gate_dst (N := 3) rfl ?_); (try (refine gate_guard (by rfl) ?_; dsimp only)); refine box_event ?hg (N := 3) ?hd (cs := #[.slice A1_0 l1_0.length c1_0, .int .i64 a1_1, .int .i64 a1_2]) (t := 26) ?hr ?_; (case hd => rfl); (case hg => rfl); (case hr => first | (go_simp; done) | (go_simp; rfl)); intro gb163 hg w5 hbox hb; have n0_ := Aside0.mk (blk_below (g := gb162) (o := .cells #[.slice A0_0 l0_0.length c0_0, .int .i64 a0_1, .int .i64 a0_2] 26 (0, 0)) (by (with_reducible repeat (first | refine blk_drewN ?_ _ | refine blk_drew ?_ | refine blk_alloc ?_ _)); exact BK162.out) hb); have n1_ := Aside0.mk (below_step z18_ hb); have n2_ := Aside0.mk (hbox); have n3_ := Aside0.mk ((by rw [hg]; exact (below_size z18_) : w.heap.size ≤ gb163)); have n4_ := Aside0.mk ((by rw [hg]; exact (below_size z18_) : w.heap.size ≤ gb163)); have n5_ := Aside0.mk ((by rw [hg]; exact Nat.ne_of_lt (blk_lt (g := gb162) (o := .cells #[.slice A0_0 l0_0.length c0_0, .int .i64 a0_1, .int .i64 a0_2] 26 (0, 0)) (by (with_reducible repeat (first | refine blk_drewN ?_ _ | refine blk_drew ?_ | refine blk_alloc ?_ _)); exact BK162.out)) : gb162 ≠ gb163)); have n6_ := Aside0.mk ((by rw [hg]; exact Nat.ne_of_gt (blk_lt (g := gb162) (o := .cells #[.slice A0_0 l0_0.length c0_0, .int .i64 a0_1, .int .i64 a0_2] 26 (0, 0)) (by (with_reducible repeat (first | refine blk_drewN ?_ _ | refine blk_drew ?_ | refine blk_alloc ?_ _)); exact BK162.out)) : gb163 ≠ gb162)); clear BK162; clear HB; have BK162 := n0_; have HB := n1_; have BK163 := n2_; have GW163 := n3_; have GE163 := n4_; have NB162_163 := n5_; have NB163_162 := n6_; clear n0_ n1_ n2_ n3_ n4_ n5_ n6_; clear hb hbox hg)); go_upto_region 1 with (first | ((with_reducible refine gate_dst (N := 2) rfl ?_); (try (refine gate_guard (by rfl) ?_; dsimp only)); refine box_event ?hg (N := 2) ?hd (cs := #[.slice A0_0 l0_0.length c0_0, .int .i64 a0_1, .int .i64 a0_2]) (t := 26) ?hr ?_; (case hd => rfl); (case hg => rfl); (case hr => first | (go_simp; done) | (go_simp; rfl)); intro gb162 hg w4 hbox hb; have n0_ := Aside0.mk (below_step z0_ hb); have n1_ := Aside0.mk (hbox); have n2_ := Aside0.mk ((by rw [hg]; exact (below_size z0_) : w.heap.size ≤ gb162)); have n3_ := Aside0.mk ((by rw [hg]; exact (below_size z0_) : w.heap.size ≤ gb162)); clear HB; have HB := n0_; have BK162 := n1_; have GW162 := n2_; have GE162 := n3_; clear n0_ n1_ n2_ n3_; clear hb hbox hg) | ((with_reducible refine gate_dst (N := 3) rfl ?_); (try (refine gate_guard (by rfl) ?_; dsimp only)); refine box_event ?hg (N := 3) ?hd (cs := #[.slice A1_0 l1_0.length c1_0, .int .i64 a1_1, .int .i64 a1_2]) (t := 26) ?hr ?_; (case hd => rfl); (case hg => rfl); (case hr => first | (go_simp; done) | (go_simp; rfl)); intro gb163 hg w5 hbox hb; have n0_ := Aside0.mk (blk_below (g := gb162) (o := .cells #[.slice A0_0 l0_0.length c0_0, .int .i64 a0_1, .int .i64 a0_2] 26 (0, 0)) (by (with_reducible repeat (first | refine blk_drewN ?_ _ | refine blk_drew ?_ | refine blk_alloc ?_ _)); exact BK162.out) hb); have n1_ := Aside0.mk (below_step z18_ hb); have n2_ := Aside0.mk (hbox); have n3_ := Aside0.mk ((by rw [hg]; exact (below_size z18_) : w.heap.size ≤ gb163)); have n4_ := Aside0.mk ((by rw [hg]; exact (below_size z18_) : w.heap.size ≤ gb163)); have n5_ := Aside0.mk ((by rw [hg]; exact Nat.ne_of_lt (blk_lt (g := gb162) (o := .cells #[.slice A0_0 l0_0.length c0_0, .int .i64 a0_1, .int .i64 a0_2] 26 (0, 0)) (by (with_reducible repeat (first | refine blk_drewN ?_ _ | refine blk_drew ?_ | refine blk_alloc ?_ _)); exact BK162.out)) : gb162 ≠ gb163)); have n6_ := Aside0.mk ((by rw [hg]; exact Nat.ne_of_gt (blk_lt (g := gb162) (o := .cells #[.slice A0_0 l0_0.length c0_0, .int .i64 a0_1, .int .i64 a0_2] 26 (0, 0)) (by (with_reducible repeat (first | refine blk_drewN ?_ _ | refine blk_drew ?_ | refine blk_alloc ?_ _)); exact BK162.out)) : gb163 ≠ gb162)); clear BK162; clear HB; have BK162 := n0_; have HB := n1_; have BK163 := n2_; have GW163 := n3_; have GE163 := n4_; have NB162_163 := n5_; have NB163_162 := n6_; clear n0_ n1_ n2_ n3_ n4_ n5_ n6_; clear hb hbox hg)))
 (try simp only [Act.put, List.setIfInBounds_toArray, List.set_cons_zero, List.set_cons_succ])
 go_cut [26] (fun v26 wc => ∃ (kq : Nat) (x26_2 : Bool), v26 = .bool x26_2 ∧ Aside0 (tithebarnref16_Same.j0 kq x26_2 l0_0 a0_1 a0_2 l1_0 a1_1 a1_2 = some r) ∧ Aside0 (kq ≤ k) ∧ Aside0 (wc.heap[gb162]? = some (.cells #[(.slice A0_0 l0_0.length c0_0), .int .i64 a0_1, .int .i64 a0_2] 26 (0, 0))) ∧ Aside0 (wc.heap[gb163]? = some (.cells #[(.slice A1_0 l1_0.length c1_0), .int .i64 a1_1, .int .i64 a1_2] 26 (0, 0))) ∧ Aside0 (Below w.heap.size w wc))
 case first =>
  have H := HC3.out
  clear HC3
  by_cases c6 : a0_1 = a1_1
  ·rw [if_pos c6] at H
   have c6b0 : (a0_1 == a1_1) = true := beq_iff_eq.mpr c6
   have c6b1 : (a0_1 != a1_1) = false := bne_eq_false_iff_eq.mpr c6
   clear c6
   (first | rw [c6b0] | (simp only [i64_w, i32_w]; rw [c6b0]) | skip)
   by_cases c7 : a0_2 = a1_2
   ·rw [if_pos c7] at H
    have c7b0 : (a0_2 == a1_2) = true := beq_iff_eq.mpr c7
    have c7b1 : (a0_2 != a1_2) = false := bne_eq_false_iff_eq.mpr c7
    clear c7
    have H' := Aside0.mk H
    clear H
    have hnb8 := NB162_163.out
    have hnc8 := NB163_162.out
    have hcz9_0 : w5.cell? ⟨gb162, 0, none⟩ = some (.slice A0_0 l0_0.length c0_0) := (blk_cell BK162.out 0).trans rfl
    have hcz9_1 : w5.cell? ⟨gb162, 1, none⟩ = some (.int .i64 a0_1) := (blk_cell BK162.out 1).trans rfl
    have hcz9_2 : w5.cell? ⟨gb162, 2, none⟩ = some (.int .i64 a0_2) := (blk_cell BK162.out 2).trans rfl
    have hfz9_0 := blk_frozen BK162.out 0
    have hfz9_1 := blk_frozen BK162.out 1
    have hfz9_2 := blk_frozen BK162.out 2
    have hcz10_0 : w5.cell? ⟨gb163, 0, none⟩ = some (.slice A1_0 l1_0.length c1_0) := (blk_cell BK163.out 0).trans rfl
    have hcz10_1 : w5.cell? ⟨gb163, 1, none⟩ = some (.int .i64 a1_1) := (blk_cell BK163.out 1).trans rfl
    have hcz10_2 : w5.cell? ⟨gb163, 2, none⟩ = some (.int .i64 a1_2) := (blk_cell BK163.out 2).trans rfl
    have hfz10_0 := blk_frozen BK163.out 0
    have hfz10_1 := blk_frozen BK163.out 1
    have hfz10_2 := blk_frozen BK163.out 2
    go_wp2
    repeat (go_quiet (fail); try go_wp2)
    go_meet
    case rel => exact ⟨_, (((l0_0.length : Int) != (l1_0.length : Int))), z4_, H', ⟨by first | omega | exact Nat.le_refl _⟩, ⟨by (with_reducible repeat (first | refine blk_drewN ?_ _ | refine blk_drew ?_ | refine blk_alloc ?_ _)); exact BK162.out⟩, ⟨by (with_reducible repeat (first | refine blk_drewN ?_ _ | refine blk_drew ?_ | refine blk_alloc ?_ _)); exact BK163.out⟩, ⟨z14_⟩⟩
   ·rw [if_neg c7] at H
    have c7b0 : (a0_2 == a1_2) = false := beq_eq_false_iff_ne.mpr c7
    have c7b1 : (a0_2 != a1_2) = true := bne_iff_ne.mpr c7
    have H' := Aside0.mk H
    clear H
    have hnb11 := NB162_163.out
    have hnc11 := NB163_162.out
    have hcz12_0 : w5.cell? ⟨gb162, 0, none⟩ = some (.slice A0_0 l0_0.length c0_0) := (blk_cell BK162.out 0).trans rfl
    have hcz12_1 : w5.cell? ⟨gb162, 1, none⟩ = some (.int .i64 a0_1) := (blk_cell BK162.out 1).trans rfl
    have hcz12_2 : w5.cell? ⟨gb162, 2, none⟩ = some (.int .i64 a0_2) := (blk_cell BK162.out 2).trans rfl
    have hfz12_0 := blk_frozen BK162.out 0
    have hfz12_1 := blk_frozen BK162.out 1
    have hfz12_2 := blk_frozen BK162.out 2
    have hcz13_0 : w5.cell? ⟨gb163, 0, none⟩ = some (.slice A1_0 l1_0.length c1_0) := (blk_cell BK163.out 0).trans rfl
    have hcz13_1 : w5.cell? ⟨gb163, 1, none⟩ = some (.int .i64 a1_1) := (blk_cell BK163.out 1).trans rfl
    have hcz13_2 : w5.cell? ⟨gb163, 2, none⟩ = some (.int .i64 a1_2) := (blk_cell BK163.out 2).trans rfl
    have hfz13_0 := blk_frozen BK163.out 0
    have hfz13_1 := blk_frozen BK163.out 1
    have hfz13_2 := blk_frozen BK163.out 2
    go_wp2
    repeat (go_quiet (fail); try go_wp2)
    go_meet
    case rel => exact ⟨_, (true), z4_, H', ⟨by first | omega | exact Nat.le_refl _⟩, ⟨by (with_reducible repeat (first | refine blk_drewN ?_ _ | refine blk_drew ?_ | refine blk_alloc ?_ _)); exact BK162.out⟩, ⟨by (with_reducible repeat (first | refine blk_drewN ?_ _ | refine blk_drew ?_ | refine blk_alloc ?_ _)); exact BK163.out⟩, ⟨z14_⟩⟩
  ·rw [if_neg c6] at H
   have c6b0 : (a0_1 == a1_1) = false := beq_eq_false_iff_ne.mpr c6
   have c6b1 : (a0_1 != a1_1) = true := bne_iff_ne.mpr c6
   (first | rw [c6b0] | (simp only [i64_w, i32_w]; rw [c6b0]) | skip)
   have H' := Aside0.mk H
   clear H
   have hnb14 := NB162_163.out
   have hnc14 := NB163_162.out
   have hcz15_0 : w5.cell? ⟨gb162, 0, none⟩ = some (.slice A0_0 l0_0.length c0_0) := (blk_cell BK162.out 0).trans rfl
   have hcz15_1 : w5.cell? ⟨gb162, 1, none⟩ = some (.int .i64 a0_1) := (blk_cell BK162.out 1).trans rfl
   have hcz15_2 : w5.cell? ⟨gb162, 2, none⟩ = some (.int .i64 a0_2) := (blk_cell BK162.out 2).trans rfl
   have hfz15_0 := blk_frozen BK162.out 0
   have hfz15_1 := blk_frozen BK162.out 1
   have hfz15_2 := blk_frozen BK162.out 2
   have hcz16_0 : w5.cell? ⟨gb163, 0, none⟩ = some (.slice A1_0 l1_0.length c1_0) := (blk_cell BK163.out 0).trans rfl
   have hcz16_1 : w5.cell? ⟨gb163, 1, none⟩ = some (.int .i64 a1_1) := (blk_cell BK163.out 1).trans rfl
   have hcz16_2 : w5.cell? ⟨gb163, 2, none⟩ = some (.int .i64 a1_2) := (blk_cell BK163.out 2).trans rfl
   have hfz16_0 := blk_frozen BK163.out 0
   have hfz16_1 := blk_frozen BK163.out 1
   have hfz16_2 := blk_frozen BK163.out 2
   go_wp2
   repeat (go_quiet (fail); try go_wp2)
   go_meet
   case rel => exact ⟨_, (true), z4_, H', ⟨by first | omega | exact Nat.le_refl _⟩, ⟨by (with_reducible repeat (first | refine blk_drewN ?_ _ | refine blk_drew ?_ | refine blk_alloc ?_ _)); exact BK162.out⟩, ⟨by (with_reducible repeat (first | refine blk_drewN ?_ _ | refine blk_drew ?_ | refine blk_alloc ?_ _)); exact BK163.out⟩, ⟨z14_⟩⟩
 case rest =>
  clear HC3
  try clear c1
  try clear p2
  try clear c6
  try clear c6b0
  try clear c6b1
  try clear c7
  try clear c7b0
  try clear c7b1
  try clear c8
  try clear c11
  try clear c14
  try clear hcz10_0
  try clear hcz10_1
  try clear hcz10_2
  try clear hcz12_0
  try clear hcz12_1
  try clear hcz12_2
  try clear hcz13_0
  try clear hcz13_1
  try clear hcz13_2
  try clear hcz15_0
  try clear hcz15_1
  try clear hcz15_2
  try clear hcz16_0
  try clear hcz16_1
  try clear hcz16_2
  try clear hcz9_0
  try clear hcz9_1
  try clear hcz9_2
  try clear hfz10_0
  try clear hfz10_1
  try clear hfz10_2
  try clear hfz12_0
  try clear hfz12_1
  try clear hfz12_2
  try clear hfz13_0
  try clear hfz13_1
  try clear hfz13_2
  try clear hfz15_0
  try clear hfz15_1
  try clear hfz15_2
  try clear hfz16_0
  try clear hfz16_1
  try clear hfz16_2
  try clear hfz9_0
  try clear hfz9_1
  try clear hfz9_2
  obtain ⟨kq, x26_2, rfl, HA, HJ2, BK162, BK163, HB⟩ := hcut
  cases kq with
  | zero => exact absurd HA.out (by simp [tithebarnref16_Same.j0])
  | succ kj2 =>
   have H := HA.out
   clear HA
   simp only [tithebarnref16_Same.j0] at H
   by_cases c17 : x26_2 = true
   ·subst c17
    have H1 : (some false) = some r := by rw [if_pos rfl] at H; exact H
    clear H
    have H := H1
    clear H1
    obtain rfl := Option.some.inj H
    go_wp2
    repeat (go_quiet (fail); try go_wp2)
    go_ret
    exact ⟨z2_, z14_⟩
   ·replace c17 := Bool.eq_false_iff.mpr c17
    subst c17
    have H1 : (tithebarnref16_Same.l0 kj2 0 l0_0 a0_1 a0_2 l1_0 a1_1 a1_2) = some r := by rw [if_neg (show ¬ (false = true) by decide)] at H; exact H
    clear H
    have H := H1
    clear H1
    have H' := Aside0.mk H
    clear H
    go_wp2
    repeat (go_quiet (fail); try go_wp2)
    go_loopg [5] kj2 (fun kq v5 w' => ∃ (x5_2 : Int), v5 = .int .i64 x5_2 ∧ Aside0 (tithebarnref16_Same.l0 kq x5_2 l0_0 a0_1 a0_2 l1_0 a1_1 a1_2 = some r) ∧ Aside0 (kq ≤ kj2) ∧ Aside0 (w'.heap[gb162]? = some (.cells #[(.slice A0_0 l0_0.length c0_0), .int .i64 a0_1, .int .i64 a0_2] 26 (0, 0))) ∧ Aside0 (w'.heap[gb163]? = some (.cells #[(.slice A1_0 l1_0.length c1_0), .int .i64 a1_1, .int .i64 a1_2] 26 (0, 0))) ∧ Aside0 (Below w.heap.size w w'))
    case atStart => exact ⟨(0), z4_, H', ⟨Nat.le_refl _⟩, ⟨by (with_reducible repeat (first | refine blk_drewN ?_ _ | refine blk_drew ?_ | refine blk_alloc ?_ _)); exact BK162.out⟩, ⟨by (with_reducible repeat (first | refine blk_drewN ?_ _ | refine blk_drew ?_ | refine blk_alloc ?_ _)); exact BK163.out⟩, ⟨z14_⟩⟩
    case round =>
     clear H'
     try clear c1
     try clear p2
     try clear c6
     try clear c6b0
     try clear c6b1
     try clear c7
     try clear c7b0
     try clear c7b1
     try clear c8
     try clear c11
     try clear c14
     try clear c17
     try clear hcz10_0
     try clear hcz10_1
     try clear hcz10_2
     try clear hcz12_0
     try clear hcz12_1
     try clear hcz12_2
     try clear hcz13_0
     try clear hcz13_1
     try clear hcz13_2
     try clear hcz15_0
     try clear hcz15_1
     try clear hcz15_2
     try clear hcz16_0
     try clear hcz16_1
     try clear hcz16_2
     try clear hcz9_0
     try clear hcz9_1
     try clear hcz9_2
     try clear hfz10_0
     try clear hfz10_1
     try clear hfz10_2
     try clear hfz12_0
     try clear hfz12_1
     try clear hfz12_2
     try clear hfz13_0
     try clear hfz13_1
     try clear hfz13_2
     try clear hfz15_0
     try clear hfz15_1
     try clear hfz15_2
     try clear hfz16_0
     try clear hfz16_1
     try clear hfz16_2
     try clear hfz9_0
     try clear hfz9_1
     try clear hfz9_2
     try clear p2
     obtain ⟨x5_2, rfl, HA, HK2, BK162, BK163, HB⟩ := hrel
     cases gk with
     | zero => exact absurd HA.out (by simp [tithebarnref16_Same.l0])
     | succ k2 =>
      have H := HA.out
      clear HA
      simp only [tithebarnref16_Same.l0] at H
      by_cases c18 : x5_2 < (l0_0.length : Int)
      ·rw [if_pos c18] at H
       have c18b0 : decide (x5_2 < (l0_0.length : Int)) = true := decide_eq_true c18
       clear c18
       by_cases c19 : 0 ≤ x5_2
       ·rw [if_pos c19] at H
        have c19b0 : decide (0 ≤ x5_2) = true := decide_eq_true c19
        clear c19
        by_cases c20 : x5_2 < (l1_0.length : Int)
        ·rw [if_pos c20] at H
         have c20b0 : decide (x5_2 < (l1_0.length : Int)) = true := decide_eq_true c20
         clear c20
         by_cases c21 : (!(((rd_T36 l0_0 x5_2).f0) == ((rd_T36 l1_0 x5_2).f0)) || (!(((rd_T36 l0_0 x5_2).f1) == ((rd_T36 l1_0 x5_2).f1)) || ((!(((rd_T36 l0_0 x5_2).f2.f0) == ((rd_T36 l1_0 x5_2).f2.f0)) || (!(((rd_T36 l0_0 x5_2).f2.f1) == ((rd_T36 l1_0 x5_2).f2.f1)) || (!((((rd_T36 l0_0 x5_2).f2.f2).toList) == (((rd_T36 l1_0 x5_2).f2.f2).toList))))) || ((!(((rd_T36 l0_0 x5_2).f3.f0) == ((rd_T36 l1_0 x5_2).f3.f0)) || (!(((rd_T36 l0_0 x5_2).f3.f1) == ((rd_T36 l1_0 x5_2).f3.f1)) || (!((((rd_T36 l0_0 x5_2).f3.f2).toList) == (((rd_T36 l1_0 x5_2).f3.f2).toList))))))))) = true
         ·rw [if_pos c21] at H
          have c21b0 : (!(((rd_T36 l0_0 x5_2).f0) == ((rd_T36 l1_0 x5_2).f0)) || (!(((rd_T36 l0_0 x5_2).f1) == ((rd_T36 l1_0 x5_2).f1)) || ((!(((rd_T36 l0_0 x5_2).f2.f0) == ((rd_T36 l1_0 x5_2).f2.f0)) || (!(((rd_T36 l0_0 x5_2).f2.f1) == ((rd_T36 l1_0 x5_2).f2.f1)) || (!((((rd_T36 l0_0 x5_2).f2.f2).toList) == (((rd_T36 l1_0 x5_2).f2.f2).toList))))) || ((!(((rd_T36 l0_0 x5_2).f3.f0) == ((rd_T36 l1_0 x5_2).f3.f0)) || (!(((rd_T36 l0_0 x5_2).f3.f1) == ((rd_T36 l1_0 x5_2).f3.f1)) || (!((((rd_T36 l0_0 x5_2).f3.f2).toList) == (((rd_T36 l1_0 x5_2).f3.f2).toList))))))))) = true := c21
          clear c21
          obtain rfl := Option.some.inj H
          have hnb22 := NB162_163.out
          have hnc22 := NB163_162.out
          have hcz23_0 : wr.cell? ⟨gb162, 0, none⟩ = some (.slice A0_0 l0_0.length c0_0) := (blk_cell BK162.out 0).trans rfl
          have hcz23_1 : wr.cell? ⟨gb162, 1, none⟩ = some (.int .i64 a0_1) := (blk_cell BK162.out 1).trans rfl
          have hcz23_2 : wr.cell? ⟨gb162, 2, none⟩ = some (.int .i64 a0_2) := (blk_cell BK162.out 2).trans rfl
          have hfz23_0 := blk_frozen BK162.out 0
          have hfz23_1 := blk_frozen BK162.out 1
          have hfz23_2 := blk_frozen BK162.out 2
          have p164 : 0 ≤ (x5_2 : Int) := of_decide_eq_true z5_
          have q164 : x5_2 < (l0_0.length : Int) := of_decide_eq_true z5_
          obtain ⟨ad164, e164, hx164_0, hx164_1, hx164_2, hx164_3, hx164_4, hx164_5, hx164_6, hx164_7⟩ := at_T36 HR0_0.out x5_2 p164 q164
          cases e164
          replace hx164_0 := (HB.out.cell (World.block_lt_of_cell? w _ hx164_0)).trans hx164_0
          replace hx164_1 := (HB.out.cell (World.block_lt_of_cell? w _ hx164_1)).trans hx164_1
          replace hx164_2 := (HB.out.cell (World.block_lt_of_cell? w _ hx164_2)).trans hx164_2
          replace hx164_3 := (HB.out.cell (World.block_lt_of_cell? w _ hx164_3)).trans hx164_3
          replace hx164_4 := (HB.out.cell (World.block_lt_of_cell? w _ hx164_4)).trans hx164_4
          replace hx164_5 := (HB.out.cell (World.block_lt_of_cell? w _ hx164_5)).trans hx164_5
          replace hx164_6 := (HB.out.cell (World.block_lt_of_cell? w _ hx164_6)).trans hx164_6
          replace hx164_7 := (HB.out.cell (World.block_lt_of_cell? w _ hx164_7)).trans hx164_7
          replace p164 := eq_true p164
          replace q164 := eq_true q164
          have hcz24_0 : wr.cell? ⟨gb163, 0, none⟩ = some (.slice A1_0 l1_0.length c1_0) := (blk_cell BK163.out 0).trans rfl
          have hcz24_1 : wr.cell? ⟨gb163, 1, none⟩ = some (.int .i64 a1_1) := (blk_cell BK163.out 1).trans rfl
          have hcz24_2 : wr.cell? ⟨gb163, 2, none⟩ = some (.int .i64 a1_2) := (blk_cell BK163.out 2).trans rfl
          have hfz24_0 := blk_frozen BK163.out 0
          have hfz24_1 := blk_frozen BK163.out 1
          have hfz24_2 := blk_frozen BK163.out 2
          have p165 : 0 ≤ (x5_2 : Int) := of_decide_eq_true z5_
          have q165 : x5_2 < (l1_0.length : Int) := of_decide_eq_true z5_
          obtain ⟨ad165, e165, hx165_0, hx165_1, hx165_2, hx165_3, hx165_4, hx165_5, hx165_6, hx165_7⟩ := at_T36 HR1_0.out x5_2 p165 q165
          cases e165
          replace hx165_0 := (HB.out.cell (World.block_lt_of_cell? w _ hx165_0)).trans hx165_0
          replace hx165_1 := (HB.out.cell (World.block_lt_of_cell? w _ hx165_1)).trans hx165_1
          replace hx165_2 := (HB.out.cell (World.block_lt_of_cell? w _ hx165_2)).trans hx165_2
          replace hx165_3 := (HB.out.cell (World.block_lt_of_cell? w _ hx165_3)).trans hx165_3
          replace hx165_4 := (HB.out.cell (World.block_lt_of_cell? w _ hx165_4)).trans hx165_4
          replace hx165_5 := (HB.out.cell (World.block_lt_of_cell? w _ hx165_5)).trans hx165_5
          replace hx165_6 := (HB.out.cell (World.block_lt_of_cell? w _ hx165_6)).trans hx165_6
          replace hx165_7 := (HB.out.cell (World.block_lt_of_cell? w _ hx165_7)).trans hx165_7
          replace p165 := eq_true p165
          replace q165 := eq_true q165
          go_wp2
          repeat (go_quiet (fail); try go_wp2)
          go_ret
          exact ⟨z2_, z14_⟩
         ·rw [if_neg c21] at H
          have c21b0 : (!(((rd_T36 l0_0 x5_2).f0) == ((rd_T36 l1_0 x5_2).f0)) || (!(((rd_T36 l0_0 x5_2).f1) == ((rd_T36 l1_0 x5_2).f1)) || ((!(((rd_T36 l0_0 x5_2).f2.f0) == ((rd_T36 l1_0 x5_2).f2.f0)) || (!(((rd_T36 l0_0 x5_2).f2.f1) == ((rd_T36 l1_0 x5_2).f2.f1)) || (!((((rd_T36 l0_0 x5_2).f2.f2).toList) == (((rd_T36 l1_0 x5_2).f2.f2).toList))))) || ((!(((rd_T36 l0_0 x5_2).f3.f0) == ((rd_T36 l1_0 x5_2).f3.f0)) || (!(((rd_T36 l0_0 x5_2).f3.f1) == ((rd_T36 l1_0 x5_2).f3.f1)) || (!((((rd_T36 l0_0 x5_2).f3.f2).toList) == (((rd_T36 l1_0 x5_2).f3.f2).toList))))))))) = false := by simpa using c21
          clear c21
          have H' := Aside0.mk H
          clear H
          have hnb25 := NB162_163.out
          have hnc25 := NB163_162.out
          have hcz26_0 : wr.cell? ⟨gb162, 0, none⟩ = some (.slice A0_0 l0_0.length c0_0) := (blk_cell BK162.out 0).trans rfl
          have hcz26_1 : wr.cell? ⟨gb162, 1, none⟩ = some (.int .i64 a0_1) := (blk_cell BK162.out 1).trans rfl
          have hcz26_2 : wr.cell? ⟨gb162, 2, none⟩ = some (.int .i64 a0_2) := (blk_cell BK162.out 2).trans rfl
          have hfz26_0 := blk_frozen BK162.out 0
          have hfz26_1 := blk_frozen BK162.out 1
          have hfz26_2 := blk_frozen BK162.out 2
          have p164 : 0 ≤ (x5_2 : Int) := of_decide_eq_true z5_
          have q164 : x5_2 < (l0_0.length : Int) := of_decide_eq_true z5_
          obtain ⟨ad164, e164, hx164_0, hx164_1, hx164_2, hx164_3, hx164_4, hx164_5, hx164_6, hx164_7⟩ := at_T36 HR0_0.out x5_2 p164 q164
          cases e164
          replace hx164_0 := (HB.out.cell (World.block_lt_of_cell? w _ hx164_0)).trans hx164_0
          replace hx164_1 := (HB.out.cell (World.block_lt_of_cell? w _ hx164_1)).trans hx164_1
          replace hx164_2 := (HB.out.cell (World.block_lt_of_cell? w _ hx164_2)).trans hx164_2
          replace hx164_3 := (HB.out.cell (World.block_lt_of_cell? w _ hx164_3)).trans hx164_3
          replace hx164_4 := (HB.out.cell (World.block_lt_of_cell? w _ hx164_4)).trans hx164_4
          replace hx164_5 := (HB.out.cell (World.block_lt_of_cell? w _ hx164_5)).trans hx164_5
          replace hx164_6 := (HB.out.cell (World.block_lt_of_cell? w _ hx164_6)).trans hx164_6
          replace hx164_7 := (HB.out.cell (World.block_lt_of_cell? w _ hx164_7)).trans hx164_7
          replace p164 := eq_true p164
          replace q164 := eq_true q164
          have hcz27_0 : wr.cell? ⟨gb163, 0, none⟩ = some (.slice A1_0 l1_0.length c1_0) := (blk_cell BK163.out 0).trans rfl
          have hcz27_1 : wr.cell? ⟨gb163, 1, none⟩ = some (.int .i64 a1_1) := (blk_cell BK163.out 1).trans rfl
          have hcz27_2 : wr.cell? ⟨gb163, 2, none⟩ = some (.int .i64 a1_2) := (blk_cell BK163.out 2).trans rfl
          have hfz27_0 := blk_frozen BK163.out 0
          have hfz27_1 := blk_frozen BK163.out 1
          have hfz27_2 := blk_frozen BK163.out 2
          have p165 : 0 ≤ (x5_2 : Int) := of_decide_eq_true z5_
          have q165 : x5_2 < (l1_0.length : Int) := of_decide_eq_true z5_
          obtain ⟨ad165, e165, hx165_0, hx165_1, hx165_2, hx165_3, hx165_4, hx165_5, hx165_6, hx165_7⟩ := at_T36 HR1_0.out x5_2 p165 q165
          cases e165
          replace hx165_0 := (HB.out.cell (World.block_lt_of_cell? w _ hx165_0)).trans hx165_0
          replace hx165_1 := (HB.out.cell (World.block_lt_of_cell? w _ hx165_1)).trans hx165_1
          replace hx165_2 := (HB.out.cell (World.block_lt_of_cell? w _ hx165_2)).trans hx165_2
          replace hx165_3 := (HB.out.cell (World.block_lt_of_cell? w _ hx165_3)).trans hx165_3
          replace hx165_4 := (HB.out.cell (World.block_lt_of_cell? w _ hx165_4)).trans hx165_4
          replace hx165_5 := (HB.out.cell (World.block_lt_of_cell? w _ hx165_5)).trans hx165_5
          replace hx165_6 := (HB.out.cell (World.block_lt_of_cell? w _ hx165_6)).trans hx165_6
          replace hx165_7 := (HB.out.cell (World.block_lt_of_cell? w _ hx165_7)).trans hx165_7
          replace p165 := eq_true p165
          replace q165 := eq_true q165
          go_wp2
          repeat (go_quiet (fail); try go_wp2)
          go_roundg k2
          case measure => have := HJ2.out; have := HK2.out; omega
          case rel => exact ⟨(wrap64 (x5_2 + 1)), z4_, H', ⟨by have := HJ2.out; have := HK2.out; omega⟩, ⟨by (with_reducible repeat (first | refine blk_drewN ?_ _ | refine blk_drew ?_ | refine blk_alloc ?_ _)); exact BK162.out⟩, ⟨by (with_reducible repeat (first | refine blk_drewN ?_ _ | refine blk_drew ?_ | refine blk_alloc ?_ _)); exact BK163.out⟩, ⟨z14_⟩⟩
        ·rw [if_neg c20] at H
         exact absurd H (by simp)
       ·rw [if_neg c19] at H
        exact absurd H (by simp)
      ·rw [if_neg c18] at H
       have c18b0 : decide (x5_2 < (l0_0.length : Int)) = false := decide_eq_false c18
       clear c18
       obtain rfl := Option.some.inj H
       have hnb28 := NB162_163.out
       have hnc28 := NB163_162.out
       have hcz29_0 : wr.cell? ⟨gb162, 0, none⟩ = some (.slice A0_0 l0_0.length c0_0) := (blk_cell BK162.out 0).trans rfl
       have hcz29_1 : wr.cell? ⟨gb162, 1, none⟩ = some (.int .i64 a0_1) := (blk_cell BK162.out 1).trans rfl
       have hcz29_2 : wr.cell? ⟨gb162, 2, none⟩ = some (.int .i64 a0_2) := (blk_cell BK162.out 2).trans rfl
       have hfz29_0 := blk_frozen BK162.out 0
       have hfz29_1 := blk_frozen BK162.out 1
       have hfz29_2 := blk_frozen BK162.out 2
       go_wp2
       repeat (go_quiet (fail); try go_wp2)
       go_ret
       exact ⟨z2_, z14_⟩
end Go.Proofs.Ytagokgijffpdnaa.G
namespace Go.Proofs.Ytagokgijffpdnaa.G
open Go.RowKit Go.Proofs.YtagokgijffpdnaaQ Go.Proofs.YtagokgijffpdnaaW.PrintWords Go.Proofs.YtagokgijffpdnaaW.PrintLast Go.Proofs.YtagokgijffpdnaaW.PrintMore
set_option linter.unusedVariables false
set_option linter.unusedSimpArgs false
theorem Same_l0 (s : List SP) (f n : Int) (hs : s.length ≤ 9223372036854775807) : ∀ (m i k : Nat), i + m = s.length → m < k → tithebarnref16_Same.l0 k (i : Int) s f n s f n = some true := by
 intro m
 induction m with
 | zero =>
  intro i k hi hk
  obtain ⟨k, rfl⟩ : ∃ m, k = m + 1 := ⟨k - 1, by omega⟩
  simp only [tithebarnref16_Same.l0]
  rw [if_neg (by omega)]
 | succ m ih =>
  intro i k hi hk
  obtain ⟨k, rfl⟩ : ∃ m, k = m + 1 := ⟨k - 1, by omega⟩
  simp only [tithebarnref16_Same.l0]
  have e : wrap64 ((i : Int) + 1) = ((i + 1 : Nat) : Int) := by rw [w64 (by omega) (by omega)]; omega
  rw [if_pos (by omega), if_pos (by omega), if_pos (by omega), if_neg (by simp), e]
  exact ih (i + 1) k (by omega) (by omega)
theorem Same_self {s : List SP} {f n : Int} {k : Nat} (hs : s.length ≤ 9223372036854775807) (hk : s.length + 1 < k) : tithebarnref16_Same.f k s f n s f n = some true := by
 obtain ⟨k, rfl⟩ : ∃ m, k = m + 1 := ⟨k - 1, by omega⟩
 unfold tithebarnref16_Same.f
 rw [if_pos rfl, if_pos rfl]
 simp only [tithebarnref16_Same.j0]
 rw [if_neg (by simp)]
 have := Same_l0 s f n hs s.length 0 k (by omega) (by omega)
 rw [show ((0 : Nat) : Int) = 0 from rfl] at this
 exact this
end Go.Proofs.Ytagokgijffpdnaa.G
namespace Go.Proofs.Ytagokgijffpdnaa.G
open Go.RowKit Go.Proofs.YtagokgijffpdnaaQ Go.Proofs.YtagokgijffpdnaaW.PrintWords Go.Proofs.YtagokgijffpdnaaW.PrintLast Go.Proofs.YtagokgijffpdnaaW.PrintMore
set_option linter.unusedVariables false
set_option linter.unusedSimpArgs false
theorem applyA : manifest_Apply.f [] 0 0 [] [(⟨1, 0, ⟨false, 0, ⟨#[]⟩⟩, ⟨false, 0, ⟨#[]⟩⟩⟩ : SP)] 0 2 = some ([(⟨1, 0, ⟨false, 0, ⟨#[]⟩⟩, ⟨false, 0, ⟨#[]⟩⟩⟩ : SP)], 0, 2, 0) := by kernel_rfl
theorem applyB : manifest_Apply.f [(⟨1, 0, ⟨false, 0, ⟨#[]⟩⟩, ⟨false, 0, ⟨#[]⟩⟩⟩ : SP)] 0 2 [1] [(⟨2, 0, ⟨false, 0, ⟨#[]⟩⟩, ⟨false, 0, ⟨#[]⟩⟩⟩ : SP)] 0 3 = some ([(⟨2, 0, ⟨false, 0, ⟨#[]⟩⟩, ⟨false, 0, ⟨#[]⟩⟩⟩ : SP)], 0, 3, 0) := by kernel_rfl
theorem lives_f {k : Nat} (hk : 10 ≤ k) : tithebarnlaw16_lives.f k = some true := by
 have h : tithebarnlaw16_lives.g 10 = some true := by
  unfold tithebarnlaw16_lives.g
  rw [applyA, Option.bind_some, applyB, Option.bind_some]
  kernel_rfl
 have h2 : tithebarnlaw16_lives.f 10 = some true := by unfold tithebarnlaw16_lives.f; rw [if_pos h]
 obtain ⟨d, rfl⟩ : ∃ d, k = 10 + d := ⟨k - 10, by omega⟩
 clear hk
 induction d with
 | zero => exact h2
 | succ d ih => exact tithebarnlaw16_lives.mono _ _ ih
end Go.Proofs.Ytagokgijffpdnaa.G
namespace Go.Proofs.Ytagokgijffpdnaa.G
open Go.RowKit Go.Proofs.YtagokgijffpdnaaQ Go.Proofs.YtagokgijffpdnaaW.PrintWords Go.Proofs.YtagokgijffpdnaaW.PrintLast Go.Proofs.YtagokgijffpdnaaW.PrintMore
attribute [local go_sem] max2_int min2_int max_two min_two max_three min_three max_four min_four   -- for this text's walks alone
set_option linter.unusedVariables false
set_option linter.unusedSimpArgs false
def tithebarnlaw16_ManifestWrites.g (k : Nat) (l0_0 : List (S36)) (a0_1 : Int) (a0_2 : Int) (l1_0 : List Int) (l1_1 : List (S36)) (a1_2 : Int) (a1_3 : Int) : Option (Bool) := (tithebarnlaw16_lives.f k).bind fun t376 => (if t376 = true then ((manifest_Write.f k l1_0 l1_1 a1_2 a1_3).bind fun bt377 => ((tithebarnref16_Write.f k l1_0 l1_1 a1_2 a1_3).bind fun bt379 => ((manifest_Apply.f l0_0 a0_1 a0_2 l1_0 l1_1 a1_2 a1_3).bind fun bt381 => ((tithebarnref16_Apply.f k l0_0 a0_1 a0_2 l1_0 l1_1 a1_2 a1_3).bind fun bt388 => (if bt377.1.toList = bt379.1.toList then (if bt377.2 = bt379.2 then (if bt381.2.2.2 = bt388.2.2.2 then ((tithebarnref16_Same.f k bt381.1 bt381.2.1 bt381.2.2.1 bt388.1 bt388.2.1 bt388.2.2.1).bind fun t395 => (some t395)) else (some false)) else (some false)) else (some false)))))) else (some false))
theorem tithebarnlaw16_ManifestWrites.monog : ∀ a0 a1 a2 a3 a4 a5 a6 k, LeO (tithebarnlaw16_ManifestWrites.g k a0 a1 a2 a3 a4 a5 a6) (tithebarnlaw16_ManifestWrites.g (k + 1) a0 a1 a2 a3 a4 a5 a6) := by
 intro a0 a1 a2 a3 a4 a5 a6 k
 unfold tithebarnlaw16_ManifestWrites.g
 repeat' first
   | (with_reducible exact manifest_Write.mono _ _ _ _ _)
   | (with_reducible exact tithebarnlaw16_lives.mono _)
   | (with_reducible exact tithebarnref16_Apply.mono _ _ _ _ _ _ _ _)
   | (with_reducible exact tithebarnref16_Same.mono _ _ _ _ _ _ _)
   | (with_reducible exact tithebarnref16_Write.mono _ _ _ _ _)
   | (with_reducible exact LeO.refl _)
   | (with_reducible exact LeO.none _)
   | (with_reducible refine LeO.ite ?_ ?_)
   | (with_reducible refine LeO.bind ?_ (fun _ => ?_))
   | exact manifest_Write.mono _ _ _ _ _
   | exact tithebarnlaw16_lives.mono _
   | exact tithebarnref16_Apply.mono _ _ _ _ _ _ _ _
   | exact tithebarnref16_Same.mono _ _ _ _ _ _ _
   | exact tithebarnref16_Write.mono _ _ _ _ _
   | exact LeO.none _
   | refine LeO.ite ?_ ?_
   | refine LeO.bind ?_ (fun _ => ?_)
set_option maxHeartbeats 8000000 in
set_option maxRecDepth 100000 in
theorem tithebarnlaw16_ManifestWrites.callsT (k : Nat) (A0_0 : Option Addr) (c0_0 : Nat) (l0_0 : List (S36)) (a0_1 : Int) (a0_2 : Int) (A1_0 : Option Addr) (c1_0 : Nat) (l1_0 : List Int) (A1_1 : Option Addr) (c1_1 : Nat) (l1_1 : List (S36)) (a1_2 : Int) (a1_3 : Int) (r : Bool) (w : World) (hr0_0 : Kd.C k36 w A0_0 l0_0.length l0_0) (hc0_0 : l0_0.length ≤ c0_0) (hr1_0 : Kd.C (Kd.int .i64) w A1_0 l1_0.length l1_0) (hc1_0 : l1_0.length ≤ c1_0) (hr1_1 : Kd.C k36 w A1_1 l1_1.length l1_1) (hc1_1 : l1_1.length ≤ c1_1) (hr_ : r = true) (h : tithebarnlaw16_ManifestWrites.g k l0_0 a0_1 a0_2 l1_0 l1_1 a1_2 a1_3 = some r) :
  Calls Try.prog 5 #[.agg #[.slice A0_0 l0_0.length c0_0, .int .i64 a0_1, .int .i64 a0_2], .agg #[.slice A1_0 l1_0.length c1_0, .slice A1_1 l1_1.length c1_1, .int .i64 a1_2, .int .i64 a1_3]] w fun e w' => e = .returned (.bool r) ∧ Below w.heap.size w w' := by
 have HR_ := Aside0.mk hr_; clear hr_
 have hu26 := Try.underlying26
 have hu32 := Try.underlying32
 have HR0_0 := Aside0.mk hr0_0
 have HC0_0 := Aside0.mk hc0_0
 clear hr0_0 hc0_0
 have HR1_0 := Aside0.mk hr1_0
 have HC1_0 := Aside0.mk hc1_0
 clear hr1_0 hc1_0
 have HR1_1 := Aside0.mk hr1_1
 have HC1_1 := Aside0.mk hc1_1
 clear hr1_1 hc1_1
 have HB := Aside0.mk (Below.refl w.heap.size w)
 have H : ((tithebarnlaw16_lives.f k).bind fun t376 => (if t376 = true then ((manifest_Write.f k l1_0 l1_1 a1_2 a1_3).bind fun bt377 => ((tithebarnref16_Write.f k l1_0 l1_1 a1_2 a1_3).bind fun bt379 => ((manifest_Apply.f l0_0 a0_1 a0_2 l1_0 l1_1 a1_2 a1_3).bind fun bt381 => ((tithebarnref16_Apply.f k l0_0 a0_1 a0_2 l1_0 l1_1 a1_2 a1_3).bind fun bt388 => (if bt377.1.toList = bt379.1.toList then (if bt377.2 = bt379.2 then (if bt381.2.2.2 = bt388.2.2.2 then ((tithebarnref16_Same.f k bt381.1 bt381.2.1 bt381.2.2.1 bt388.1 bt388.2.1 bt388.2.2.1).bind fun t395 => (some t395)) else (some false)) else (some false)) else (some false)))))) else (some false))) = some r := h
 clear h
 replace H := Option.bind_eq_some_iff.mp H
 obtain ⟨t376, A30, H⟩ := H
 replace H : (if t376 = true then ((manifest_Write.f k l1_0 l1_1 a1_2 a1_3).bind fun bt377 => ((tithebarnref16_Write.f k l1_0 l1_1 a1_2 a1_3).bind fun bt379 => ((manifest_Apply.f l0_0 a0_1 a0_2 l1_0 l1_1 a1_2 a1_3).bind fun bt381 => ((tithebarnref16_Apply.f k l0_0 a0_1 a0_2 l1_0 l1_1 a1_2 a1_3).bind fun bt388 => (if bt377.1.toList = bt379.1.toList then (if bt377.2 = bt379.2 then (if bt381.2.2.2 = bt388.2.2.2 then ((tithebarnref16_Same.f k bt381.1 bt381.2.1 bt381.2.2.1 bt388.1 bt388.2.1 bt388.2.2.1).bind fun t395 => (some t395)) else (some false)) else (some false)) else (some false)))))) else (some false)) = some r := H
 have A3 := Aside0.mk A30
 clear A30
 by_cases c4 : t376 = true
 ·subst c4
  have H1 : ((manifest_Write.f k l1_0 l1_1 a1_2 a1_3).bind fun bt377 => ((tithebarnref16_Write.f k l1_0 l1_1 a1_2 a1_3).bind fun bt379 => ((manifest_Apply.f l0_0 a0_1 a0_2 l1_0 l1_1 a1_2 a1_3).bind fun bt381 => ((tithebarnref16_Apply.f k l0_0 a0_1 a0_2 l1_0 l1_1 a1_2 a1_3).bind fun bt388 => (if bt377.1.toList = bt379.1.toList then (if bt377.2 = bt379.2 then (if bt381.2.2.2 = bt388.2.2.2 then ((tithebarnref16_Same.f k bt381.1 bt381.2.1 bt381.2.2.1 bt388.1 bt388.2.1 bt388.2.2.1).bind fun t395 => (some t395)) else (some false)) else (some false)) else (some false)))))) = some r := by rw [if_pos rfl] at H; exact H
  clear H
  have H := H1
  clear H1
  replace H := Option.bind_eq_some_iff.mp H
  obtain ⟨⟨t377, t378⟩, A50, H⟩ := H
  replace H : ((tithebarnref16_Write.f k l1_0 l1_1 a1_2 a1_3).bind fun bt379 => ((manifest_Apply.f l0_0 a0_1 a0_2 l1_0 l1_1 a1_2 a1_3).bind fun bt381 => ((tithebarnref16_Apply.f k l0_0 a0_1 a0_2 l1_0 l1_1 a1_2 a1_3).bind fun bt388 => (if t377.toList = bt379.1.toList then (if t378 = bt379.2 then (if bt381.2.2.2 = bt388.2.2.2 then ((tithebarnref16_Same.f k bt381.1 bt381.2.1 bt381.2.2.1 bt388.1 bt388.2.1 bt388.2.2.1).bind fun t395 => (some t395)) else (some false)) else (some false)) else (some false))))) = some r := H
  have A5 := Aside0.mk A50
  clear A50
  replace H := Option.bind_eq_some_iff.mp H
  obtain ⟨⟨t379, t380⟩, A60, H⟩ := H
  replace H : ((manifest_Apply.f l0_0 a0_1 a0_2 l1_0 l1_1 a1_2 a1_3).bind fun bt381 => ((tithebarnref16_Apply.f k l0_0 a0_1 a0_2 l1_0 l1_1 a1_2 a1_3).bind fun bt388 => (if t377.toList = t379.toList then (if t378 = t380 then (if bt381.2.2.2 = bt388.2.2.2 then ((tithebarnref16_Same.f k bt381.1 bt381.2.1 bt381.2.2.1 bt388.1 bt388.2.1 bt388.2.2.1).bind fun t395 => (some t395)) else (some false)) else (some false)) else (some false)))) = some r := H
  have A6 := Aside0.mk A60
  clear A60
  replace H := Option.bind_eq_some_iff.mp H
  obtain ⟨⟨t381, t384, t385, t386⟩, A70, H⟩ := H
  replace H : ((tithebarnref16_Apply.f k l0_0 a0_1 a0_2 l1_0 l1_1 a1_2 a1_3).bind fun bt388 => (if t377.toList = t379.toList then (if t378 = t380 then (if t386 = bt388.2.2.2 then ((tithebarnref16_Same.f k t381 t384 t385 bt388.1 bt388.2.1 bt388.2.2.1).bind fun t395 => (some t395)) else (some false)) else (some false)) else (some false))) = some r := H
  have A7 := Aside0.mk A70
  clear A70
  replace H := Option.bind_eq_some_iff.mp H
  obtain ⟨⟨t388, t391, t392, t393⟩, A80, H⟩ := H
  replace H : (if t377.toList = t379.toList then (if t378 = t380 then (if t386 = t393 then ((tithebarnref16_Same.f k t381 t384 t385 t388 t391 t392).bind fun t395 => (some t395)) else (some false)) else (some false)) else (some false)) = some r := H
  have A8 := Aside0.mk A80
  clear A80
  by_cases c9 : t377.toList = t379.toList
  ·rw [if_pos c9] at H
   have c9b0 : (t377.toList == t379.toList) = true := beq_iff_eq.mpr c9
   have c9b1 : (t377.toList != t379.toList) = false := bne_eq_false_iff_eq.mpr c9
   clear c9
   by_cases c10 : t378 = t380
   ·rw [if_pos c10] at H
    have c10b0 : (t378 == t380) = true := beq_iff_eq.mpr c10
    have c10b1 : (t378 != t380) = false := bne_eq_false_iff_eq.mpr c10
    clear c10
    by_cases c11 : t386 = t393
    ·rw [if_pos c11] at H
     have c11b0 : (t386 == t393) = true := beq_iff_eq.mpr c11
     have c11b1 : (t386 != t393) = false := bne_eq_false_iff_eq.mpr c11
     clear c11
     replace H := Option.bind_eq_some_iff.mp H
     obtain ⟨t395, A120, H⟩ := H
     replace H : (some t395) = some r := H
     have A12 := Aside0.mk A120
     clear A120
     skip   -- leaf 0 stays
     obtain rfl := Option.some.inj H
     go_enter Try.func5, Try.ntmps5
     go_wp2_with (first | ((with_reducible refine gate_dst (N := 2) rfl ?_); refine box_event ?hg (N := 2) ?hd (cs := #[.slice A0_0 l0_0.length c0_0, .int .i64 a0_1, .int .i64 a0_2]) (t := 26) ?hr ?_; (case hd => rfl); (case hg => rfl); (case hr => first | (go_simp; done) | (go_simp; rfl)); intro gb374 hg w13 hbox hb; have n0_ := Aside0.mk (below_step z0_ hb); have n1_ := Aside0.mk (hbox); have n2_ := Aside0.mk ((by rw [hg]; exact (below_size z0_) : w.heap.size ≤ gb374)); have n3_ := Aside0.mk ((by rw [hg]; exact (below_size z0_) : w.heap.size ≤ gb374)); clear HB; have HB := n0_; have BK374 := n1_; have GW374 := n2_; have GE374 := n3_; clear n0_ n1_ n2_ n3_; clear hb hbox hg) | ((with_reducible refine gate_dst (N := 3) rfl ?_); refine box_event ?hg (N := 3) ?hd (cs := #[.slice A1_0 l1_0.length c1_0, .slice A1_1 l1_1.length c1_1, .int .i64 a1_2, .int .i64 a1_3]) (t := 32) ?hr ?_; (case hd => rfl); (case hg => rfl); (case hr => first | (go_simp; done) | (go_simp; rfl)); intro gb375 hg w14 hbox hb; have n0_ := Aside0.mk (blk_below (g := gb374) (o := .cells #[.slice A0_0 l0_0.length c0_0, .int .i64 a0_1, .int .i64 a0_2] 26 (0, 0)) (by (with_reducible repeat (first | refine blk_drewN ?_ _ | refine blk_drew ?_ | refine blk_alloc ?_ _)); exact BK374.out) hb); have n1_ := Aside0.mk (below_step z30_ hb); have n2_ := Aside0.mk (hbox); have n3_ := Aside0.mk ((by rw [hg]; exact (below_size z30_) : w.heap.size ≤ gb375)); have n4_ := Aside0.mk ((by rw [hg]; exact (below_size z30_) : w.heap.size ≤ gb375)); have n5_ := Aside0.mk ((by rw [hg]; exact Nat.ne_of_lt (blk_lt (g := gb374) (o := .cells #[.slice A0_0 l0_0.length c0_0, .int .i64 a0_1, .int .i64 a0_2] 26 (0, 0)) (by (with_reducible repeat (first | refine blk_drewN ?_ _ | refine blk_drew ?_ | refine blk_alloc ?_ _)); exact BK374.out)) : gb374 ≠ gb375)); have n6_ := Aside0.mk ((by rw [hg]; exact Nat.ne_of_gt (blk_lt (g := gb374) (o := .cells #[.slice A0_0 l0_0.length c0_0, .int .i64 a0_1, .int .i64 a0_2] 26 (0, 0)) (by (with_reducible repeat (first | refine blk_drewN ?_ _ | refine blk_drew ?_ | refine blk_alloc ?_ _)); exact BK374.out)) : gb375 ≠ gb374)); clear BK374; clear HB; have BK374 := n0_; have HB := n1_; have BK375 := n2_; have GW375 := n3_; have GE375 := n4_; have NB374_375 := n5_; have NB375_374 := n6_; clear n0_ n1_ n2_ n3_ n4_ n5_ n6_; clear hb hbox hg) | ((with_reducible refine gate_callee (f := 8) rfl ?_); refine goesL_ (some 13) rfl rfl Try.func8 (by kernel_rfl) rfl #[] rfl (by (try simp only [List.map_toArray, List.map_cons, List.map_nil]); first | done | rfl | (simp only [List.length_drop, List.length_take]; rfl) | (go_simp; simp [IntKind.wrap, IntKind.bits, IntKind.signed]; omega)) ?_; (with_reducible refine (tithebarnlaw16_lives.calls k  true _ A3.out).mono ?_); rintro e w15 ⟨rfl, hb⟩; refine ⟨_, rfl, ?_⟩; have n0_ := Aside0.mk (blk_below (g := gb374) (o := .cells #[.slice A0_0 l0_0.length c0_0, .int .i64 a0_1, .int .i64 a0_2] 26 (0, 0)) (by (with_reducible repeat (first | refine blk_drewN ?_ _ | refine blk_drew ?_ | refine blk_alloc ?_ _)); exact BK374.out) hb); have n1_ := Aside0.mk (blk_below (g := gb375) (o := .cells #[.slice A1_0 l1_0.length c1_0, .slice A1_1 l1_1.length c1_1, .int .i64 a1_2, .int .i64 a1_3] 32 (0, 0)) (by (with_reducible repeat (first | refine blk_drewN ?_ _ | refine blk_drew ?_ | refine blk_alloc ?_ _)); exact BK375.out) hb); have n2_ := Aside0.mk (below_step z15_ hb); clear BK374; clear BK375; clear HB; have BK374 := n0_; have BK375 := n1_; have HB := n2_; clear n0_ n1_ n2_; (try clear hb); (try clear hb2); (try clear hk); (try clear hi); have hnb16 := NB375_374.out; have hnc16 := NB374_375.out; have hcz17_0 : w15.cell? ⟨gb375, 0, none⟩ = some (.slice A1_0 l1_0.length c1_0) := (blk_cell BK375.out 0).trans rfl; have hcz17_1 : w15.cell? ⟨gb375, 1, none⟩ = some (.slice A1_1 l1_1.length c1_1) := (blk_cell BK375.out 1).trans rfl; have hcz17_2 : w15.cell? ⟨gb375, 2, none⟩ = some (.int .i64 a1_2) := (blk_cell BK375.out 2).trans rfl; have hcz17_3 : w15.cell? ⟨gb375, 3, none⟩ = some (.int .i64 a1_3) := (blk_cell BK375.out 3).trans rfl; have hfz17_0 := blk_frozen BK375.out 0; have hfz17_1 := blk_frozen BK375.out 1; have hfz17_2 := blk_frozen BK375.out 2; have hfz17_3 := blk_frozen BK375.out 3) | ((with_reducible refine gate_callee (f := 12) rfl ?_); refine goesL_ (some 17) rfl rfl Try.func12 (by kernel_rfl) rfl #[.agg #[.slice A1_0 l1_0.length c1_0, .slice A1_1 l1_1.length c1_1, .int .i64 a1_2, .int .i64 a1_3]] rfl (by (try simp only [List.map_toArray, List.map_cons, List.map_nil]); first | done | rfl | (simp only [List.length_drop, List.length_take]; rfl) | (go_simp; simp [IntKind.wrap, IntKind.bits, IntKind.signed]; omega)) ?_; (with_reducible refine (manifest_Write.calls k _ _ l1_0 _ _ l1_1 a1_2 a1_3 t377 t378 _ ?side1 ?side2 ?side3 ?side4 A5.out).mono ?_); (case side1 => repeat (first | exact (Kd.C_below HR1_0.out HB.out) | (with_reducible refine Kd.C_alloc ?_ _) | (with_reducible refine Kd.C_drewN ?_ _) | (with_reducible refine Kd.C_drew ?_))); (case side2 => exact HC1_0.out); (case side3 => repeat (first | exact (Kd.C_below HR1_1.out HB.out) | (with_reducible refine Kd.C_alloc ?_ _) | (with_reducible refine Kd.C_drewN ?_ _) | (with_reducible refine Kd.C_drew ?_))); (case side4 => exact HC1_1.out); rintro e w18 ⟨rfl, hb⟩; refine ⟨_, rfl, ?_⟩; have n0_ := Aside0.mk (blk_below (g := gb374) (o := .cells #[.slice A0_0 l0_0.length c0_0, .int .i64 a0_1, .int .i64 a0_2] 26 (0, 0)) (by (with_reducible repeat (first | refine blk_drewN ?_ _ | refine blk_drew ?_ | refine blk_alloc ?_ _)); exact BK374.out) hb); have n1_ := Aside0.mk (blk_below (g := gb375) (o := .cells #[.slice A1_0 l1_0.length c1_0, .slice A1_1 l1_1.length c1_1, .int .i64 a1_2, .int .i64 a1_3] 32 (0, 0)) (by (with_reducible repeat (first | refine blk_drewN ?_ _ | refine blk_drew ?_ | refine blk_alloc ?_ _)); exact BK375.out) hb); have n2_ := Aside0.mk (below_step z15_ hb); clear BK374; clear BK375; clear HB; have BK374 := n0_; have BK375 := n1_; have HB := n2_; clear n0_ n1_ n2_; (try clear hb); (try clear hb2); (try clear hk); (try clear hi); have hcz19_0 : w18.cell? ⟨gb375, 0, none⟩ = some (.slice A1_0 l1_0.length c1_0) := (blk_cell BK375.out 0).trans rfl; have hcz19_1 : w18.cell? ⟨gb375, 1, none⟩ = some (.slice A1_1 l1_1.length c1_1) := (blk_cell BK375.out 1).trans rfl; have hcz19_2 : w18.cell? ⟨gb375, 2, none⟩ = some (.int .i64 a1_2) := (blk_cell BK375.out 2).trans rfl; have hcz19_3 : w18.cell? ⟨gb375, 3, none⟩ = some (.int .i64 a1_3) := (blk_cell BK375.out 3).trans rfl; have hfz19_0 := blk_frozen BK375.out 0; have hfz19_1 := blk_frozen BK375.out 1; have hfz19_2 := blk_frozen BK375.out 2; have hfz19_3 := blk_frozen BK375.out 3) | ((with_reducible refine gate_callee (f := 13) rfl ?_); refine goesL_ (some 22) rfl rfl Try.func13 (by kernel_rfl) rfl #[.agg #[.slice A1_0 l1_0.length c1_0, .slice A1_1 l1_1.length c1_1, .int .i64 a1_2, .int .i64 a1_3]] rfl (by (try simp only [List.map_toArray, List.map_cons, List.map_nil]); first | done | rfl | (simp only [List.length_drop, List.length_take]; rfl) | (go_simp; simp [IntKind.wrap, IntKind.bits, IntKind.signed]; omega)) ?_; (with_reducible refine (tithebarnref16_Write.calls k _ _ l1_0 _ _ l1_1 a1_2 a1_3 t379 t380 _ ?side1 ?side2 ?side3 ?side4 A6.out).mono ?_); (case side1 => repeat (first | exact (Kd.C_below HR1_0.out HB.out) | (with_reducible refine Kd.C_alloc ?_ _) | (with_reducible refine Kd.C_drewN ?_ _) | (with_reducible refine Kd.C_drew ?_))); (case side2 => exact HC1_0.out); (case side3 => repeat (first | exact (Kd.C_below HR1_1.out HB.out) | (with_reducible refine Kd.C_alloc ?_ _) | (with_reducible refine Kd.C_drewN ?_ _) | (with_reducible refine Kd.C_drew ?_))); (case side4 => exact HC1_1.out); rintro e w20 ⟨rfl, hb⟩; refine ⟨_, rfl, ?_⟩; have n0_ := Aside0.mk (blk_below (g := gb374) (o := .cells #[.slice A0_0 l0_0.length c0_0, .int .i64 a0_1, .int .i64 a0_2] 26 (0, 0)) (by (with_reducible repeat (first | refine blk_drewN ?_ _ | refine blk_drew ?_ | refine blk_alloc ?_ _)); exact BK374.out) hb); have n1_ := Aside0.mk (blk_below (g := gb375) (o := .cells #[.slice A1_0 l1_0.length c1_0, .slice A1_1 l1_1.length c1_1, .int .i64 a1_2, .int .i64 a1_3] 32 (0, 0)) (by (with_reducible repeat (first | refine blk_drewN ?_ _ | refine blk_drew ?_ | refine blk_alloc ?_ _)); exact BK375.out) hb); have n2_ := Aside0.mk (below_step z15_ hb); clear BK374; clear BK375; clear HB; have BK374 := n0_; have BK375 := n1_; have HB := n2_; clear n0_ n1_ n2_; (try clear hb); (try clear hb2); (try clear hk); (try clear hi); have hcz21_0 : w20.cell? ⟨gb374, 0, none⟩ = some (.slice A0_0 l0_0.length c0_0) := (blk_cell BK374.out 0).trans rfl; have hcz21_1 : w20.cell? ⟨gb374, 1, none⟩ = some (.int .i64 a0_1) := (blk_cell BK374.out 1).trans rfl; have hcz21_2 : w20.cell? ⟨gb374, 2, none⟩ = some (.int .i64 a0_2) := (blk_cell BK374.out 2).trans rfl; have hfz21_0 := blk_frozen BK374.out 0; have hfz21_1 := blk_frozen BK374.out 1; have hfz21_2 := blk_frozen BK374.out 2; have hcz22_0 : w20.cell? ⟨gb375, 0, none⟩ = some (.slice A1_0 l1_0.length c1_0) := (blk_cell BK375.out 0).trans rfl; have hcz22_1 : w20.cell? ⟨gb375, 1, none⟩ = some (.slice A1_1 l1_1.length c1_1) := (blk_cell BK375.out 1).trans rfl; have hcz22_2 : w20.cell? ⟨gb375, 2, none⟩ = some (.int .i64 a1_2) := (blk_cell BK375.out 2).trans rfl; have hcz22_3 : w20.cell? ⟨gb375, 3, none⟩ = some (.int .i64 a1_3) := (blk_cell BK375.out 3).trans rfl; have hfz22_0 := blk_frozen BK375.out 0; have hfz22_1 := blk_frozen BK375.out 1; have hfz22_2 := blk_frozen BK375.out 2; have hfz22_3 := blk_frozen BK375.out 3) | ((with_reducible refine gate_callee (f := 9) rfl ?_); refine goesL_ (some 28) rfl rfl Try.func9 (by kernel_rfl) rfl #[.agg #[.slice A0_0 l0_0.length c0_0, .int .i64 a0_1, .int .i64 a0_2], .agg #[.slice A1_0 l1_0.length c1_0, .slice A1_1 l1_1.length c1_1, .int .i64 a1_2, .int .i64 a1_3]] rfl (by (try simp only [List.map_toArray, List.map_cons, List.map_nil]); first | done | rfl | (simp only [List.length_drop, List.length_take]; rfl) | (go_simp; simp [IntKind.wrap, IntKind.bits, IntKind.signed]; omega)) ?_; (with_reducible refine (manifest_Apply.calls _ _ l0_0 a0_1 a0_2 _ _ l1_0 _ _ l1_1 a1_2 a1_3 t381 t384 t385 t386 _ ?side1 ?side2 ?side3 ?side4 ?side5 ?side6 A7.out).mono ?_); (case side1 => repeat (first | exact (Kd.C_below HR0_0.out HB.out) | (with_reducible refine Kd.C_alloc ?_ _) | (with_reducible refine Kd.C_drewN ?_ _) | (with_reducible refine Kd.C_drew ?_))); (case side2 => exact HC0_0.out); (case side3 => repeat (first | exact (Kd.C_below HR1_0.out HB.out) | (with_reducible refine Kd.C_alloc ?_ _) | (with_reducible refine Kd.C_drewN ?_ _) | (with_reducible refine Kd.C_drew ?_))); (case side4 => exact HC1_0.out); (case side5 => repeat (first | exact (Kd.C_below HR1_1.out HB.out) | (with_reducible refine Kd.C_alloc ?_ _) | (with_reducible refine Kd.C_drewN ?_ _) | (with_reducible refine Kd.C_drew ?_))); (case side6 => exact HC1_1.out); rintro e w23 ⟨v382, rfl, ho0, hb⟩; refine ⟨_, rfl, ?_⟩; have n0_ := Aside0.mk (Kd.R_lower ho0 (below_size z15_)); have n1_ := Aside0.mk (blk_below (g := gb374) (o := .cells #[.slice A0_0 l0_0.length c0_0, .int .i64 a0_1, .int .i64 a0_2] 26 (0, 0)) (by (with_reducible repeat (first | refine blk_drewN ?_ _ | refine blk_drew ?_ | refine blk_alloc ?_ _)); exact BK374.out) hb); have n2_ := Aside0.mk (blk_below (g := gb375) (o := .cells #[.slice A1_0 l1_0.length c1_0, .slice A1_1 l1_1.length c1_1, .int .i64 a1_2, .int .i64 a1_3] 32 (0, 0)) (by (with_reducible repeat (first | refine blk_drewN ?_ _ | refine blk_drew ?_ | refine blk_alloc ?_ _)); exact BK375.out) hb); have n3_ := Aside0.mk (below_step z15_ hb); clear BK374; clear BK375; clear HB; have HO383 := n0_; have BK374 := n1_; have BK375 := n2_; have HB := n3_; clear n0_ n1_ n2_ n3_; (try clear hb); (try clear hb2); (try clear hk); (try clear hi); (try clear ho0)) | ((with_reducible refine gate_dst (N := 9) rfl ?_); refine box_event ?hg (N := 9) ?hd (cs := #[.slice none 0 0, .int .i64 0, .int .i64 0]) (t := 26) ?hr ?_; (case hd => rfl); (case hg => rfl); (case hr => first | (go_simp; done) | (go_simp; rfl)); intro gb387 hg w24 hbox hb; have n0_ := Aside0.mk (Kd.R_below (by (with_reducible repeat (first | apply Kd.R_alloc | apply Kd.R_drewN | apply Kd.R_drew)); exact HO383.out) hb); have n1_ := Aside0.mk (blk_below (g := gb374) (o := .cells #[.slice A0_0 l0_0.length c0_0, .int .i64 a0_1, .int .i64 a0_2] 26 (0, 0)) (by (with_reducible repeat (first | refine blk_drewN ?_ _ | refine blk_drew ?_ | refine blk_alloc ?_ _)); exact BK374.out) hb); have n2_ := Aside0.mk (blk_below (g := gb375) (o := .cells #[.slice A1_0 l1_0.length c1_0, .slice A1_1 l1_1.length c1_1, .int .i64 a1_2, .int .i64 a1_3] 32 (0, 0)) (by (with_reducible repeat (first | refine blk_drewN ?_ _ | refine blk_drew ?_ | refine blk_alloc ?_ _)); exact BK375.out) hb); have n3_ := Aside0.mk (below_step z15_ hb); have n4_ := Aside0.mk (hbox); have n5_ := Aside0.mk ((by rw [hg]; exact (below_size z15_) : w.heap.size ≤ gb387)); have n6_ := Aside0.mk ((by rw [hg]; exact (below_size z15_) : w.heap.size ≤ gb387)); have n7_ := Aside0.mk ((by rw [hg]; exact Nat.ne_of_lt (blk_lt (g := gb374) (o := .cells #[.slice A0_0 l0_0.length c0_0, .int .i64 a0_1, .int .i64 a0_2] 26 (0, 0)) (by (with_reducible repeat (first | refine blk_drewN ?_ _ | refine blk_drew ?_ | refine blk_alloc ?_ _)); exact BK374.out)) : gb374 ≠ gb387)); have n8_ := Aside0.mk ((by rw [hg]; exact Nat.ne_of_gt (blk_lt (g := gb374) (o := .cells #[.slice A0_0 l0_0.length c0_0, .int .i64 a0_1, .int .i64 a0_2] 26 (0, 0)) (by (with_reducible repeat (first | refine blk_drewN ?_ _ | refine blk_drew ?_ | refine blk_alloc ?_ _)); exact BK374.out)) : gb387 ≠ gb374)); have n9_ := Aside0.mk ((by rw [hg]; exact Nat.ne_of_lt (blk_lt (g := gb375) (o := .cells #[.slice A1_0 l1_0.length c1_0, .slice A1_1 l1_1.length c1_1, .int .i64 a1_2, .int .i64 a1_3] 32 (0, 0)) (by (with_reducible repeat (first | refine blk_drewN ?_ _ | refine blk_drew ?_ | refine blk_alloc ?_ _)); exact BK375.out)) : gb375 ≠ gb387)); have n10_ := Aside0.mk ((by rw [hg]; exact Nat.ne_of_gt (blk_lt (g := gb375) (o := .cells #[.slice A1_0 l1_0.length c1_0, .slice A1_1 l1_1.length c1_1, .int .i64 a1_2, .int .i64 a1_3] 32 (0, 0)) (by (with_reducible repeat (first | refine blk_drewN ?_ _ | refine blk_drew ?_ | refine blk_alloc ?_ _)); exact BK375.out)) : gb387 ≠ gb375)); clear HO383; clear BK374; clear BK375; clear HB; have HO383 := n0_; have BK374 := n1_; have BK375 := n2_; have HB := n3_; have BK387 := n4_; have GW387 := n5_; have GE387 := n6_; have NB374_387 := n7_; have NB387_374 := n8_; have NB375_387 := n9_; have NB387_375 := n10_; clear n0_ n1_ n2_ n3_ n4_ n5_ n6_ n7_ n8_ n9_ n10_; clear hb hbox hg; obtain ⟨Ao25, co25, eo25⟩ := Kd.R_slice HO383.out; subst eo25; have hnb26 := NB387_374.out; have hnc26 := NB374_387.out; have hnb27 := NB387_375.out; have hnc27 := NB375_387.out; have hcz28_0 : w24.cell? ⟨gb387, 0, none⟩ = some (.slice none 0 0) := (blk_cell BK387.out 0).trans rfl; have hcz28_1 : w24.cell? ⟨gb387, 1, none⟩ = some (.int .i64 0) := (blk_cell BK387.out 1).trans rfl; have hcz28_2 : w24.cell? ⟨gb387, 2, none⟩ = some (.int .i64 0) := (blk_cell BK387.out 2).trans rfl; have hfz28_0 := blk_frozen BK387.out 0; have hfz28_1 := blk_frozen BK387.out 1; have hfz28_2 := blk_frozen BK387.out 2; have hcz29_0 : w24.cell? ⟨gb374, 0, none⟩ = some (.slice A0_0 l0_0.length c0_0) := (blk_cell BK374.out 0).trans rfl; have hcz29_1 : w24.cell? ⟨gb374, 1, none⟩ = some (.int .i64 a0_1) := (blk_cell BK374.out 1).trans rfl; have hcz29_2 : w24.cell? ⟨gb374, 2, none⟩ = some (.int .i64 a0_2) := (blk_cell BK374.out 2).trans rfl; have hfz29_0 := blk_frozen BK374.out 0; have hfz29_1 := blk_frozen BK374.out 1; have hfz29_2 := blk_frozen BK374.out 2; have hcz30_0 : w24.cell? ⟨gb375, 0, none⟩ = some (.slice A1_0 l1_0.length c1_0) := (blk_cell BK375.out 0).trans rfl; have hcz30_1 : w24.cell? ⟨gb375, 1, none⟩ = some (.slice A1_1 l1_1.length c1_1) := (blk_cell BK375.out 1).trans rfl; have hcz30_2 : w24.cell? ⟨gb375, 2, none⟩ = some (.int .i64 a1_2) := (blk_cell BK375.out 2).trans rfl; have hcz30_3 : w24.cell? ⟨gb375, 3, none⟩ = some (.int .i64 a1_3) := (blk_cell BK375.out 3).trans rfl; have hfz30_0 := blk_frozen BK375.out 0; have hfz30_1 := blk_frozen BK375.out 1; have hfz30_2 := blk_frozen BK375.out 2; have hfz30_3 := blk_frozen BK375.out 3) | ((with_reducible refine gate_callee (f := 14) rfl ?_); refine goesL_ (some 34) rfl rfl Try.func14 (by kernel_rfl) rfl #[.agg #[.slice A0_0 l0_0.length c0_0, .int .i64 a0_1, .int .i64 a0_2], .agg #[.slice A1_0 l1_0.length c1_0, .slice A1_1 l1_1.length c1_1, .int .i64 a1_2, .int .i64 a1_3]] rfl (by (try simp only [List.map_toArray, List.map_cons, List.map_nil]); first | done | rfl | (simp only [List.length_drop, List.length_take]; rfl) | (go_simp; simp [IntKind.wrap, IntKind.bits, IntKind.signed]; omega)) ?_; (with_reducible refine (tithebarnref16_Apply.calls k _ _ l0_0 a0_1 a0_2 _ _ l1_0 _ _ l1_1 a1_2 a1_3 t388 t391 t392 t393 _ ?side1 ?side2 ?side3 ?side4 ?side5 ?side6 A8.out).mono ?_); (case side1 => exact Kd.C_below HR0_0.out z12_); (case side2 => exact HC0_0.out); (case side3 => exact Kd.C_below HR1_0.out z12_); (case side4 => exact HC1_0.out); (case side5 => exact Kd.C_below HR1_1.out z12_); (case side6 => exact HC1_1.out); rintro e w31 ⟨v389, rfl, ho0, hb⟩; refine ⟨_, rfl, ?_⟩; have n0_ := Aside0.mk (Kd.R_elder' (by (with_reducible repeat (first | apply Kd.R_alloc | apply Kd.R_drewN | apply Kd.R_drew)); exact (Kd.R_mono (Kd.R_far (p := ⟨gb387, 2, none⟩) (Kd.R_far (p := ⟨gb387, 1, none⟩) (Kd.R_far (p := ⟨gb387, 0, none⟩) (Kd.R_types HO383.out BK387.out (by decide)) (fun _ hk => hk.2) (.slice Ao25 t381.length co25)) (fun _ hk => hk.2) (.int .i64 t384)) (fun _ hk => hk.2) (.int .i64 t385)) (fun _ h_ => h_.1))) (Kd.R_base ho0) hb); have n1_ := Aside0.mk (Kd.R_lower (Kd.R_new' ho0 (Kd.R_lt (by (with_reducible repeat (first | apply Kd.R_alloc | apply Kd.R_drewN | apply Kd.R_drew)); exact (Kd.R_mono (Kd.R_far (p := ⟨gb387, 2, none⟩) (Kd.R_far (p := ⟨gb387, 1, none⟩) (Kd.R_far (p := ⟨gb387, 0, none⟩) (Kd.R_types HO383.out BK387.out (by decide)) (fun _ hk => hk.2) (.slice Ao25 t381.length co25)) (fun _ hk => hk.2) (.int .i64 t384)) (fun _ hk => hk.2) (.int .i64 t385)) (fun _ h_ => h_.1))))) (below_size z12_)); have n2_ := Aside0.mk (blk_below (g := gb374) (o := .cells #[.slice A0_0 l0_0.length c0_0, .int .i64 a0_1, .int .i64 a0_2] 26 (0, 0)) (by (with_reducible repeat (first | refine blk_drewN ?_ _ | refine blk_drew ?_ | refine blk_alloc ?_ _)); refine blk_far ?_ NB374_387.out _; (with_reducible repeat (first | refine blk_drewN ?_ _ | refine blk_drew ?_ | refine blk_alloc ?_ _)); refine blk_far ?_ NB374_387.out _; (with_reducible repeat (first | refine blk_drewN ?_ _ | refine blk_drew ?_ | refine blk_alloc ?_ _)); refine blk_far ?_ NB374_387.out _; (with_reducible repeat (first | refine blk_drewN ?_ _ | refine blk_drew ?_ | refine blk_alloc ?_ _)); exact BK374.out) hb); have n3_ := Aside0.mk (blk_below (g := gb375) (o := .cells #[.slice A1_0 l1_0.length c1_0, .slice A1_1 l1_1.length c1_1, .int .i64 a1_2, .int .i64 a1_3] 32 (0, 0)) (by (with_reducible repeat (first | refine blk_drewN ?_ _ | refine blk_drew ?_ | refine blk_alloc ?_ _)); refine blk_far ?_ NB375_387.out _; (with_reducible repeat (first | refine blk_drewN ?_ _ | refine blk_drew ?_ | refine blk_alloc ?_ _)); refine blk_far ?_ NB375_387.out _; (with_reducible repeat (first | refine blk_drewN ?_ _ | refine blk_drew ?_ | refine blk_alloc ?_ _)); refine blk_far ?_ NB375_387.out _; (with_reducible repeat (first | refine blk_drewN ?_ _ | refine blk_drew ?_ | refine blk_alloc ?_ _)); exact BK375.out) hb); have n4_ := Aside0.mk (blk_below (g := gb387) (o := .cells #[.slice Ao25 t381.length co25, .int .i64 t384, .int .i64 t385] 26 (0, 0)) (by (with_reducible repeat (first | refine blk_drewN ?_ _ | refine blk_drew ?_ | refine blk_alloc ?_ _)); refine blk_put (cs := #[.slice Ao25 t381.length co25, .int .i64 t384, .int .i64 0]) ?_ 2 _ rfl; (with_reducible repeat (first | refine blk_drewN ?_ _ | refine blk_drew ?_ | refine blk_alloc ?_ _)); refine blk_put (cs := #[.slice Ao25 t381.length co25, .int .i64 0, .int .i64 0]) ?_ 1 _ rfl; (with_reducible repeat (first | refine blk_drewN ?_ _ | refine blk_drew ?_ | refine blk_alloc ?_ _)); refine blk_put (cs := #[.slice none 0 0, .int .i64 0, .int .i64 0]) ?_ 0 _ rfl; (with_reducible repeat (first | refine blk_drewN ?_ _ | refine blk_drew ?_ | refine blk_alloc ?_ _)); exact BK387.out) hb); have n5_ := Aside0.mk (below_step z12_ hb); clear HO383; clear BK374; clear BK375; clear BK387; clear HB; have HO383 := n0_; have HO390 := n1_; have BK374 := n2_; have BK375 := n3_; have BK387 := n4_; have HB := n5_; clear n0_ n1_ n2_ n3_ n4_ n5_; (try clear hb); (try clear hb2); (try clear hk); (try clear hi); (try clear ho0)) | ((with_reducible refine gate_dst (N := 11) rfl ?_); refine box_event ?hg (N := 11) ?hd (cs := #[.slice none 0 0, .int .i64 0, .int .i64 0]) (t := 26) ?hr ?_; (case hd => rfl); (case hg => rfl); (case hr => first | (go_simp; done) | (go_simp; rfl)); intro gb394 hg w32 hbox hb; have n0_ := Aside0.mk (Kd.R_below (by (with_reducible repeat (first | apply Kd.R_alloc | apply Kd.R_drewN | apply Kd.R_drew)); exact HO383.out) hb); have n1_ := Aside0.mk (Kd.R_below (by (with_reducible repeat (first | apply Kd.R_alloc | apply Kd.R_drewN | apply Kd.R_drew)); exact HO390.out) hb); have n2_ := Aside0.mk (blk_below (g := gb374) (o := .cells #[.slice A0_0 l0_0.length c0_0, .int .i64 a0_1, .int .i64 a0_2] 26 (0, 0)) (by (with_reducible repeat (first | refine blk_drewN ?_ _ | refine blk_drew ?_ | refine blk_alloc ?_ _)); exact BK374.out) hb); have n3_ := Aside0.mk (blk_below (g := gb375) (o := .cells #[.slice A1_0 l1_0.length c1_0, .slice A1_1 l1_1.length c1_1, .int .i64 a1_2, .int .i64 a1_3] 32 (0, 0)) (by (with_reducible repeat (first | refine blk_drewN ?_ _ | refine blk_drew ?_ | refine blk_alloc ?_ _)); exact BK375.out) hb); have n4_ := Aside0.mk (blk_below (g := gb387) (o := .cells #[.slice Ao25 t381.length co25, .int .i64 t384, .int .i64 t385] 26 (0, 0)) (by (with_reducible repeat (first | refine blk_drewN ?_ _ | refine blk_drew ?_ | refine blk_alloc ?_ _)); exact BK387.out) hb); have n5_ := Aside0.mk (below_step z12_ hb); have n6_ := Aside0.mk (hbox); have n7_ := Aside0.mk ((by rw [hg]; exact (below_size z12_) : w.heap.size ≤ gb394)); have n8_ := Aside0.mk ((by rw [hg]; exact (below_size z12_) : w.heap.size ≤ gb394)); have n9_ := Aside0.mk ((by rw [hg]; exact Nat.ne_of_lt (blk_lt (g := gb374) (o := .cells #[.slice A0_0 l0_0.length c0_0, .int .i64 a0_1, .int .i64 a0_2] 26 (0, 0)) (by (with_reducible repeat (first | refine blk_drewN ?_ _ | refine blk_drew ?_ | refine blk_alloc ?_ _)); exact BK374.out)) : gb374 ≠ gb394)); have n10_ := Aside0.mk ((by rw [hg]; exact Nat.ne_of_gt (blk_lt (g := gb374) (o := .cells #[.slice A0_0 l0_0.length c0_0, .int .i64 a0_1, .int .i64 a0_2] 26 (0, 0)) (by (with_reducible repeat (first | refine blk_drewN ?_ _ | refine blk_drew ?_ | refine blk_alloc ?_ _)); exact BK374.out)) : gb394 ≠ gb374)); have n11_ := Aside0.mk ((by rw [hg]; exact Nat.ne_of_lt (blk_lt (g := gb375) (o := .cells #[.slice A1_0 l1_0.length c1_0, .slice A1_1 l1_1.length c1_1, .int .i64 a1_2, .int .i64 a1_3] 32 (0, 0)) (by (with_reducible repeat (first | refine blk_drewN ?_ _ | refine blk_drew ?_ | refine blk_alloc ?_ _)); exact BK375.out)) : gb375 ≠ gb394)); have n12_ := Aside0.mk ((by rw [hg]; exact Nat.ne_of_gt (blk_lt (g := gb375) (o := .cells #[.slice A1_0 l1_0.length c1_0, .slice A1_1 l1_1.length c1_1, .int .i64 a1_2, .int .i64 a1_3] 32 (0, 0)) (by (with_reducible repeat (first | refine blk_drewN ?_ _ | refine blk_drew ?_ | refine blk_alloc ?_ _)); exact BK375.out)) : gb394 ≠ gb375)); have n13_ := Aside0.mk ((by rw [hg]; exact Nat.ne_of_lt (blk_lt (g := gb387) (o := .cells #[.slice Ao25 t381.length co25, .int .i64 t384, .int .i64 t385] 26 (0, 0)) (by (with_reducible repeat (first | refine blk_drewN ?_ _ | refine blk_drew ?_ | refine blk_alloc ?_ _)); exact BK387.out)) : gb387 ≠ gb394)); have n14_ := Aside0.mk ((by rw [hg]; exact Nat.ne_of_gt (blk_lt (g := gb387) (o := .cells #[.slice Ao25 t381.length co25, .int .i64 t384, .int .i64 t385] 26 (0, 0)) (by (with_reducible repeat (first | refine blk_drewN ?_ _ | refine blk_drew ?_ | refine blk_alloc ?_ _)); exact BK387.out)) : gb394 ≠ gb387)); clear HO383; clear HO390; clear BK374; clear BK375; clear BK387; clear HB; have HO383 := n0_; have HO390 := n1_; have BK374 := n2_; have BK375 := n3_; have BK387 := n4_; have HB := n5_; have BK394 := n6_; have GW394 := n7_; have GE394 := n8_; have NB374_394 := n9_; have NB394_374 := n10_; have NB375_394 := n11_; have NB394_375 := n12_; have NB387_394 := n13_; have NB394_387 := n14_; clear n0_ n1_ n2_ n3_ n4_ n5_ n6_ n7_ n8_ n9_ n10_ n11_ n12_ n13_ n14_; clear hb hbox hg; obtain ⟨Ao33, co33, eo33⟩ := Kd.R_slice HO390.out; subst eo33; have hnb34 := NB394_374.out; have hnc34 := NB374_394.out; have hnb35 := NB394_375.out; have hnc35 := NB375_394.out; have hnb36 := NB394_387.out; have hnc36 := NB387_394.out; have hcz37_0 : w32.cell? ⟨gb394, 0, none⟩ = some (.slice none 0 0) := (blk_cell BK394.out 0).trans rfl; have hcz37_1 : w32.cell? ⟨gb394, 1, none⟩ = some (.int .i64 0) := (blk_cell BK394.out 1).trans rfl; have hcz37_2 : w32.cell? ⟨gb394, 2, none⟩ = some (.int .i64 0) := (blk_cell BK394.out 2).trans rfl; have hfz37_0 := blk_frozen BK394.out 0; have hfz37_1 := blk_frozen BK394.out 1; have hfz37_2 := blk_frozen BK394.out 2; have hcz38_0 : w32.cell? ⟨gb387, 0, none⟩ = some (.slice Ao25 t381.length co25) := (blk_cell BK387.out 0).trans rfl; have hcz38_1 : w32.cell? ⟨gb387, 1, none⟩ = some (.int .i64 t384) := (blk_cell BK387.out 1).trans rfl; have hcz38_2 : w32.cell? ⟨gb387, 2, none⟩ = some (.int .i64 t385) := (blk_cell BK387.out 2).trans rfl; have hfz38_0 := blk_frozen BK387.out 0; have hfz38_1 := blk_frozen BK387.out 1; have hfz38_2 := blk_frozen BK387.out 2) | (go_at_call 11; (with_reducible refine (tithebarnref16_Same.calls k _ _ t381 t384 t385 _ _ t388 t391 t392 t395 _ ?side1 ?side2 ?side3 ?side4 A12.out).mono ?_); (case side1 => refine (Kd.R_reads' (e := 36) (base := w.heap.size) (ok := fun k_ => (True ∧ some k_ ≠ (.slice Ao33 t388.length co33 : Value).ownBlock)) (n := t381.length) (c := co25) ?_).2.2; exact (by (with_reducible repeat (first | apply Kd.R_alloc | apply Kd.R_drewN | apply Kd.R_drew)); exact (Kd.R_mono (Kd.R_far (p := ⟨gb394, 2, none⟩) (Kd.R_far (p := ⟨gb394, 1, none⟩) (Kd.R_far (p := ⟨gb394, 0, none⟩) (Kd.R_types HO383.out BK394.out (by decide)) (fun _ hk => hk.2) (.slice Ao33 t388.length co33)) (fun _ hk => hk.2) (.int .i64 t391)) (fun _ hk => hk.2) (.int .i64 t392)) (fun _ h_ => h_.1)))); (case side2 => exact (Kd.R_reads' HO383.out).2.1); (case side3 => refine (Kd.R_reads' (e := 36) (base := w.heap.size) (ok := fun k_ => (True ∧ some k_ ≠ (.slice Ao25 t381.length co25 : Value).ownBlock)) (n := t388.length) (c := co33) ?_).2.2; exact (by (with_reducible repeat (first | apply Kd.R_alloc | apply Kd.R_drewN | apply Kd.R_drew)); exact (Kd.R_mono (Kd.R_far (p := ⟨gb394, 2, none⟩) (Kd.R_far (p := ⟨gb394, 1, none⟩) (Kd.R_far (p := ⟨gb394, 0, none⟩) (Kd.R_types HO390.out BK394.out (by decide)) (fun _ hk => hk.2) (.slice Ao33 t388.length co33)) (fun _ hk => hk.2) (.int .i64 t391)) (fun _ hk => hk.2) (.int .i64 t392)) (fun _ h_ => h_.1)))); (case side4 => exact (Kd.R_reads' HO390.out).2.1); rintro e w39 ⟨rfl, hb⟩; have n0_ := Aside0.mk (Kd.R_below (by (with_reducible repeat (first | apply Kd.R_alloc | apply Kd.R_drewN | apply Kd.R_drew)); exact (Kd.R_mono (Kd.R_far (p := ⟨gb394, 2, none⟩) (Kd.R_far (p := ⟨gb394, 1, none⟩) (Kd.R_far (p := ⟨gb394, 0, none⟩) (Kd.R_types HO383.out BK394.out (by decide)) (fun _ hk => hk.2) (.slice Ao33 t388.length co33)) (fun _ hk => hk.2) (.int .i64 t391)) (fun _ hk => hk.2) (.int .i64 t392)) (fun _ h_ => h_.1))) hb); have n1_ := Aside0.mk (Kd.R_below (by (with_reducible repeat (first | apply Kd.R_alloc | apply Kd.R_drewN | apply Kd.R_drew)); exact (Kd.R_mono (Kd.R_far (p := ⟨gb394, 2, none⟩) (Kd.R_far (p := ⟨gb394, 1, none⟩) (Kd.R_far (p := ⟨gb394, 0, none⟩) (Kd.R_types HO390.out BK394.out (by decide)) (fun _ hk => hk.2) (.slice Ao33 t388.length co33)) (fun _ hk => hk.2) (.int .i64 t391)) (fun _ hk => hk.2) (.int .i64 t392)) (fun _ h_ => h_.1))) hb); have n2_ := Aside0.mk (blk_below (g := gb374) (o := .cells #[.slice A0_0 l0_0.length c0_0, .int .i64 a0_1, .int .i64 a0_2] 26 (0, 0)) (by (with_reducible repeat (first | refine blk_drewN ?_ _ | refine blk_drew ?_ | refine blk_alloc ?_ _)); refine blk_far ?_ NB374_394.out _; (with_reducible repeat (first | refine blk_drewN ?_ _ | refine blk_drew ?_ | refine blk_alloc ?_ _)); refine blk_far ?_ NB374_394.out _; (with_reducible repeat (first | refine blk_drewN ?_ _ | refine blk_drew ?_ | refine blk_alloc ?_ _)); refine blk_far ?_ NB374_394.out _; (with_reducible repeat (first | refine blk_drewN ?_ _ | refine blk_drew ?_ | refine blk_alloc ?_ _)); exact BK374.out) hb); have n3_ := Aside0.mk (blk_below (g := gb375) (o := .cells #[.slice A1_0 l1_0.length c1_0, .slice A1_1 l1_1.length c1_1, .int .i64 a1_2, .int .i64 a1_3] 32 (0, 0)) (by (with_reducible repeat (first | refine blk_drewN ?_ _ | refine blk_drew ?_ | refine blk_alloc ?_ _)); refine blk_far ?_ NB375_394.out _; (with_reducible repeat (first | refine blk_drewN ?_ _ | refine blk_drew ?_ | refine blk_alloc ?_ _)); refine blk_far ?_ NB375_394.out _; (with_reducible repeat (first | refine blk_drewN ?_ _ | refine blk_drew ?_ | refine blk_alloc ?_ _)); refine blk_far ?_ NB375_394.out _; (with_reducible repeat (first | refine blk_drewN ?_ _ | refine blk_drew ?_ | refine blk_alloc ?_ _)); exact BK375.out) hb); have n4_ := Aside0.mk (blk_below (g := gb387) (o := .cells #[.slice Ao25 t381.length co25, .int .i64 t384, .int .i64 t385] 26 (0, 0)) (by (with_reducible repeat (first | refine blk_drewN ?_ _ | refine blk_drew ?_ | refine blk_alloc ?_ _)); refine blk_far ?_ NB387_394.out _; (with_reducible repeat (first | refine blk_drewN ?_ _ | refine blk_drew ?_ | refine blk_alloc ?_ _)); refine blk_far ?_ NB387_394.out _; (with_reducible repeat (first | refine blk_drewN ?_ _ | refine blk_drew ?_ | refine blk_alloc ?_ _)); refine blk_far ?_ NB387_394.out _; (with_reducible repeat (first | refine blk_drewN ?_ _ | refine blk_drew ?_ | refine blk_alloc ?_ _)); exact BK387.out) hb); have n5_ := Aside0.mk (blk_below (g := gb394) (o := .cells #[.slice Ao33 t388.length co33, .int .i64 t391, .int .i64 t392] 26 (0, 0)) (by (with_reducible repeat (first | refine blk_drewN ?_ _ | refine blk_drew ?_ | refine blk_alloc ?_ _)); refine blk_put (cs := #[.slice Ao33 t388.length co33, .int .i64 t391, .int .i64 0]) ?_ 2 _ rfl; (with_reducible repeat (first | refine blk_drewN ?_ _ | refine blk_drew ?_ | refine blk_alloc ?_ _)); refine blk_put (cs := #[.slice Ao33 t388.length co33, .int .i64 0, .int .i64 0]) ?_ 1 _ rfl; (with_reducible repeat (first | refine blk_drewN ?_ _ | refine blk_drew ?_ | refine blk_alloc ?_ _)); refine blk_put (cs := #[.slice none 0 0, .int .i64 0, .int .i64 0]) ?_ 0 _ rfl; (with_reducible repeat (first | refine blk_drewN ?_ _ | refine blk_drew ?_ | refine blk_alloc ?_ _)); exact BK394.out) hb); have n6_ := Aside0.mk (below_step (by repeat (first | (with_reducible first | exact HB.out | apply below_alloc | apply pw_below_drewN | apply below_drew1 | refine below_set ?_ GE374.out | refine below_set ?_ GE375.out | refine below_set ?_ GE387.out | refine below_set ?_ GE394.out) | exact HB.out)) hb); clear HO383; clear HO390; clear BK374; clear BK375; clear BK387; clear BK394; clear HB; have HO383 := n0_; have HO390 := n1_; have BK374 := n2_; have BK375 := n3_; have BK387 := n4_; have BK394 := n5_; have HB := n6_; clear n0_ n1_ n2_ n3_ n4_ n5_ n6_; (try clear hb); (try clear hb2); (try clear hk); (try clear hi)))
     go_ret
     exact ⟨z2_, by repeat (first | (with_reducible first | exact HB.out | apply below_alloc | apply pw_below_drewN | apply below_drew1 | refine below_set ?_ GE374.out | refine below_set ?_ GE375.out | refine below_set ?_ GE387.out | refine below_set ?_ GE394.out) | exact HB.out)⟩
    ·rw [if_neg c11] at H
     have c11b0 : (t386 == t393) = false := beq_eq_false_iff_ne.mpr c11
     have c11b1 : (t386 != t393) = true := bne_iff_ne.mpr c11
     exact absurd ((Option.some.inj H).trans HR_.out) (by decide)   -- leaf 1
   ·rw [if_neg c10] at H
    have c10b0 : (t378 == t380) = false := beq_eq_false_iff_ne.mpr c10
    have c10b1 : (t378 != t380) = true := bne_iff_ne.mpr c10
    exact absurd ((Option.some.inj H).trans HR_.out) (by decide)   -- leaf 2
  ·rw [if_neg c9] at H
   have c9b0 : (t377.toList == t379.toList) = false := beq_eq_false_iff_ne.mpr c9
   have c9b1 : (t377.toList != t379.toList) = true := bne_iff_ne.mpr c9
   exact absurd ((Option.some.inj H).trans HR_.out) (by decide)   -- leaf 3
 ·replace c4 := Bool.eq_false_iff.mpr c4
  subst c4
  have H1 : (some false) = some r := by rw [if_neg (show ¬ (false = true) by decide)] at H; exact H
  clear H
  have H := H1
  clear H1
  exact absurd ((Option.some.inj H).trans HR_.out) (by decide)   -- leaf 4
def tithebarnlaw16_ManifestWrites.f (k : Nat) (l0_0 : List (S36)) (a0_1 : Int) (a0_2 : Int) (l1_0 : List Int) (l1_1 : List (S36)) (a1_2 : Int) (a1_3 : Int) : Option (Bool) := if tithebarnlaw16_ManifestWrites.g k l0_0 a0_1 a0_2 l1_0 l1_1 a1_2 a1_3 = some true then some true else none
theorem tithebarnlaw16_ManifestWrites.mono : ∀ a0 a1 a2 a3 a4 a5 a6 k, LeO (tithebarnlaw16_ManifestWrites.f k a0 a1 a2 a3 a4 a5 a6) (tithebarnlaw16_ManifestWrites.f (k + 1) a0 a1 a2 a3 a4 a5 a6) := by
 intro a0 a1 a2 a3 a4 a5 a6 k r h
 unfold tithebarnlaw16_ManifestWrites.f at h ⊢
 split at h
 ·rename_i hg; rw [if_pos (tithebarnlaw16_ManifestWrites.monog a0 a1 a2 a3 a4 a5 a6 k _ hg)]; exact h
 ·exact absurd h (by simp)
theorem tithebarnlaw16_ManifestWrites.calls (k : Nat) (A0_0 : Option Addr) (c0_0 : Nat) (l0_0 : List (S36)) (a0_1 : Int) (a0_2 : Int) (A1_0 : Option Addr) (c1_0 : Nat) (l1_0 : List Int) (A1_1 : Option Addr) (c1_1 : Nat) (l1_1 : List (S36)) (a1_2 : Int) (a1_3 : Int) (r : Bool) (w : World) (hr0_0 : Kd.C k36 w A0_0 l0_0.length l0_0) (hc0_0 : l0_0.length ≤ c0_0) (hr1_0 : Kd.C (Kd.int .i64) w A1_0 l1_0.length l1_0) (hc1_0 : l1_0.length ≤ c1_0) (hr1_1 : Kd.C k36 w A1_1 l1_1.length l1_1) (hc1_1 : l1_1.length ≤ c1_1) (h : tithebarnlaw16_ManifestWrites.f k l0_0 a0_1 a0_2 l1_0 l1_1 a1_2 a1_3 = some r) :
  Calls Try.prog 5 #[.agg #[.slice A0_0 l0_0.length c0_0, .int .i64 a0_1, .int .i64 a0_2], .agg #[.slice A1_0 l1_0.length c1_0, .slice A1_1 l1_1.length c1_1, .int .i64 a1_2, .int .i64 a1_3]] w fun e w' => e = .returned (.bool r) ∧ Below w.heap.size w w' := by
 unfold tithebarnlaw16_ManifestWrites.f at h
 split at h
 ·rename_i hg; obtain rfl := Option.some.inj h; exact tithebarnlaw16_ManifestWrites.callsT k A0_0 c0_0 l0_0 a0_1 a0_2 A1_0 c1_0 l1_0 A1_1 c1_1 l1_1 a1_2 a1_3 true w hr0_0 hc0_0 hr1_0 hc1_0 hr1_1 hc1_1 rfl hg
 ·exact absurd h (by simp)
end Go.Proofs.Ytagokgijffpdnaa.G
namespace Go.Proofs.YtagokgijffpdnaaQ
open Go.ChangeShapes Go.WideShapes Go.RowKit Go.Proofs.YtagokgijffpdnaaW.PrintWords
set_option linter.unusedVariables false
set_option linter.unusedSimpArgs false
theorem open_rows_s {α : Type} {P : Program} {W : World} {r : Reach} {b : Nat} {t e : TypeId} {v : Value} {d : Kd α} {Ok : α → Prop} {B : α → Nat} {H : Type} {enc : TypeId × Value → H} {base : Nat} {spare : Nat → Bool} {held : Bool} {dat : DataW H} {ps : List MemPlace} {ts : List TypeId} {ds : List (DataW H)} {j : Nat}
  (hall : (DataW.weightsEach P ts ds).all (· ≤ reachBytes) = true) (hti : ts[j]? = some t) (hdi : ds[j]? = some dat)
  (ht : P.underlying t = some (.slice e)) (hsz : P.cellsOf e = d.sz) (hd : Rdg P e d Ok B) (hv : Value.okWide P W r b t v) (h : DataW.Trod enc P W base spare held t v dat ps) :
  ∃ A c xs, v = .slice A xs.length c ∧ xs.length ≤ c ∧ d.C W A xs.length xs ∧ xs.length ≤ maxLen ∧ (∀ x ∈ xs, Ok x) ∧ xs.length * P.bytesOf e ≤ 140737488351232 := by
 obtain ⟨A, c, xs, rfl, hc, hC, hm, hok, _⟩ := open_rows ht hsz hd hv h
 refine ⟨A, c, xs, rfl, hc, hC, hm, hok, ?_⟩
 obtain ⟨fuel, hf⟩ := h
 rcases DataW.trod_slice ht hf with ⟨he, he0⟩ | ⟨a, len, cap, elems, rest, n, hn, he, he0, hb, hl, hm, hel, hat, _⟩
 ·simp [Value.cells] at he
  obtain ⟨_, he, _⟩ := he
  subst he
  simp
 ·simp [Value.cells] at he
  obtain ⟨_, he, _⟩ := he
  simp only [Prod.mk.injEq] at he0
  obtain ⟨rfl, _⟩ := he0
  have z := sized_slice hall hti hdi ht
  have z2 : reachBytes = 140737488351232 := by decide
  rw [z2] at z
  rw [List.length_map, hel] at z
  exact Nat.le_trans (Nat.mul_le_mul_right _ (by omega)) z
end Go.Proofs.YtagokgijffpdnaaQ
namespace Go.Proofs.YtagokgijffpdnaaQ
open Go.ChangeShapes Go.WideShapes Go.RowKit Go.Proofs.YtagokgijffpdnaaW.PrintWords
set_option linter.unusedVariables false
set_option linter.unusedSimpArgs false
def RdgW {α : Type} (P : Program) (t : TypeId) (d : Kd α) (Ok : α → Prop) : Prop :=
 ∀ {H : Type} {enc : TypeId × Value → H} {w : World} {base : Nat} {spare : Nat → Bool} {held : Bool} {fuel : Nat} {cs : List Value} {dat : DataW H} {ps : List MemPlace},
  DataW.trod enc P w base spare held fuel t cs = some (dat, ps) → (∀ n ∈ dat.weights P t, n ≤ 140737488351232) → ∃ x, d.K w x cs ∧ Ok x
theorem RdgW.of {α : Type} {P : Program} {t : TypeId} {d : Kd α} {Ok : α → Prop} {B : α → Nat} (h : Rdg P t d Ok B) : RdgW P t d Ok := by
 intro H enc w base spare held fuel cs dat ps ht _
 obtain ⟨x, k1, k2, _⟩ := h ht
 exact ⟨x, k1, k2⟩
theorem RdgW.string {P : Program} {t : TypeId} (ht : P.underlying t = some .string) : RdgW P t Kd.string (fun s => s.size ≤ 140737488351232) := by
 intro H enc w base spare held fuel cs dat ps h hw
 obtain ⟨s, rfl, e, _⟩ := DataW.trod_string ht h
 simp only [Prod.mk.injEq] at e
 obtain ⟨rfl, _⟩ := e
 refine ⟨s, rfl, ?_⟩
 have := hw s.data.toList.length (by simp [DataW.weights])
 rw [Array.length_toList] at this
 exact this
def RdgWF {α : Type} (P : Program) (off : Nat) (fs : List Field) (d : Kd α) (Ok : α → Prop) : Prop :=
 ∀ {H : Type} {enc : TypeId × Value → H} {w : World} {base : Nat} {spare : Nat → Bool} {held : Bool} {fuel : Nat} {cs : List Value} (xs : List (DataW H × List MemPlace)),
  cs.length = off + d.sz → xs.length = fs.length → (∀ (i : Nat) (f : Field), fs[i]? = some f → DataW.trod enc P w base spare held fuel f.type ((cs.drop f.offset).take (P.cellsOf f.type)) = xs[i]?) →
  (∀ n ∈ DataW.weightsEach P (fs.map (·.type)) (xs.map (·.1)), n ≤ 140737488351232) → ∃ x, d.K w x (cs.drop off) ∧ Ok x
theorem RdgWF.one {α : Type} {P : Program} {off : Nat} {f : Field} {d : Kd α} {Ok : α → Prop} (ho : f.offset = off) (hs : P.cellsOf f.type = d.sz) (hd : RdgW P f.type d Ok) : RdgWF P off [f] d Ok := by
 intro H enc w base spare held fuel cs xs hl hx h hw
 match xs, hx with
 | [y], _ =>
  have h0 := h 0 f rfl
  rw [ho, hs] at h0
  have e : (cs.drop off).take d.sz = cs.drop off := List.take_of_length_le (by simp; omega)
  rw [e] at h0
  obtain ⟨x, k1, k2⟩ := hd (dat := y.1) (ps := y.2) h0 (fun n hn => hw n (by simp [DataW.weightsEach]; exact hn))
  exact ⟨x, k1, k2⟩
theorem RdgWF.cons {α β : Type} {P : Program} {off : Nat} {f : Field} {fs : List Field} {a : Kd α} {b : Kd β} {OkA : α → Prop} {OkB : β → Prop}
  (ho : f.offset = off) (hs : P.cellsOf f.type = a.sz) (ha : RdgW P f.type a OkA) (hb : RdgWF P (off + a.sz) fs b OkB) : RdgWF P off (f :: fs) (Kd.pair a b) (fun x => OkA x.1 ∧ OkB x.2) := by
 intro H enc w base spare held fuel cs xs hl hx h hw
 match xs, hx with
 | y :: ys, hx =>
  have hl' : cs.length = off + (a.sz + b.sz) := hl
  have h0 := h 0 f rfl
  rw [ho, hs] at h0
  obtain ⟨x, k1, k2⟩ := ha (dat := y.1) (ps := y.2) h0 (fun n hn => hw n (by simp only [List.map_cons, DataW.weightsEach, List.mem_append]; exact Or.inl hn))
  obtain ⟨z, m1, m2⟩ := hb (cs := cs) ys (by omega) (by simpa using hx) (fun i f' hf => by simpa using h (i + 1) f' (by simpa using hf)) (fun n hn => hw n (by simp only [List.map_cons, DataW.weightsEach, List.mem_append]; exact Or.inr hn))
  refine ⟨(x, z), ⟨(cs.drop off).take a.sz, cs.drop (off + a.sz), ?_, k1, m1⟩, ⟨k2, m2⟩⟩
  rw [← List.drop_drop, List.take_append_drop]
theorem RdgW.struct {α : Type} {P : Program} {t : TypeId} {fs : Array Field} {d : Kd α} {Ok : α → Prop} (ht : P.underlying t = some (.struct fs)) (hs : P.cellsOf t = d.sz) (hf : RdgWF P 0 fs.toList d Ok) : RdgW P t d Ok := by
 intro H enc w base spare held fuel cs dat ps h hw
 obtain ⟨xs, n, rfl, e, hl, hlen, hx⟩ := DataW.trod_struct ht h
 simp only [Prod.mk.injEq] at e
 obtain ⟨rfl, _⟩ := e
 obtain ⟨x, k1, k2⟩ := hf (cs := cs) xs (by omega) (by simpa using hlen) (fun i f hf => hx i f (by simpa using hf)) (fun n hn => hw n (by simp only [DataW.weights, ht]; exact hn))
 exact ⟨x, by simpa using k1, k2⟩
theorem RdgW.iso {α β : Type} {P : Program} {t : TypeId} {d : Kd α} {Ok : α → Prop} {f : β → α} (g : α → β) (hg : ∀ x, f (g x) = x) (hd : RdgW P t d Ok) : RdgW P t (Kd.iso d f) (fun y => Ok (f y)) := by
 intro H enc w base spare held fuel cs dat ps h hw
 obtain ⟨x, k1, k2⟩ := hd h hw
 refine ⟨g x, ?_, by show Ok (f (g x)); rw [hg]; exact k2⟩
 show d.K w (f (g x)) cs
 rw [hg]; exact k1
theorem weights_mem_all {H : Type} {P : Program} {e : TypeId} : ∀ {l : List (DataW H)} {y : DataW H}, y ∈ l → ∀ n ∈ y.weights P e, n ∈ DataW.weightsAll P e l
 | x :: l, y, hy, n, hn => by
  simp only [DataW.weightsAll, List.mem_append]
  rcases List.mem_cons.1 hy with rfl | hy
  ·exact Or.inl hn
  ·exact Or.inr (weights_mem_all hy n hn)
theorem RdgW.slice {α : Type} {P : Program} {t e : TypeId} {d : Kd α} {Ok : α → Prop} (ht : P.underlying t = some (.slice e)) (hsz : P.cellsOf e = d.sz) (hd : RdgW P e d Ok) :
  RdgW P t (Kd.slice e d) (fun xs => xs.length * P.bytesOf e ≤ 140737488351232 ∧ ∀ x ∈ xs, Ok x) := by
 intro H enc w base spare held fuel cs dat ps h hw
 rcases DataW.trod_slice ht h with ⟨rfl, he0⟩ | ⟨a, len, cap, elems, rest, n, rfl, rfl, he0, hb, hl, hm, hel, hat, _⟩
 ·exact ⟨[], ⟨none, 0, rfl, by simp, rfl, by simp, fun h0 => absurd h0 (by simp)⟩, by simp, by simp⟩
 ·simp only [Prod.mk.injEq] at he0
  obtain ⟨rfl, _⟩ := he0
  have hwt : ∀ y ∈ elems, ∀ n ∈ y.1.weights P e, n ≤ 140737488351232 := by
   intro y hy n hn
   have h1 : n ∈ DataW.weightsAll P e (elems.map (·.1)) := weights_mem_all (List.mem_map.2 ⟨y, hy, rfl⟩) n hn
   exact hw n (by simp only [DataW.weights, ht, List.mem_cons, List.mem_append]; exact Or.inr (Or.inl h1))
  have z := hw ((elems.map (·.1)).length * P.bytesOf e + rest.length * P.bytesOf e) (by simp only [DataW.weights, ht, List.mem_cons]; exact Or.inl (by rw [← Nat.add_mul]; simp))
  rw [List.length_map, hel] at z
  obtain ⟨xs, hxl, hx⟩ := list_of len (fun i x => ∃ c y, w.cells? base (a.add (i * P.cellsOf e)) (P.cellsOf e) = some c ∧ elems[i]? = some y ∧ d.K w x c ∧ Ok x) (fun i hi => by
   have h1 := hat i hi
   obtain ⟨y, hy⟩ : ∃ y, elems[i]? = some y := ⟨elems[i], List.getElem?_eq_getElem (by omega)⟩
   rw [hy] at h1
   obtain ⟨c, hc, hc2⟩ := Option.bind_eq_some_iff.1 h1
   obtain ⟨x, k1, k2⟩ := hd (dat := y.1) (ps := y.2) hc2 (hwt y (List.mem_of_getElem? hy))
   exact ⟨x, c, y, hc, hy, k1, k2⟩)
  have hm' : xs.length ≤ maxLen := by omega
  refine ⟨xs, ⟨some a, cap, by rw [hxl], by omega, rfl, by simp only [maxLen] at hm'; omega, fun _ => ⟨a, rfl, fun j p hj => ?_⟩⟩, ?_, fun x hxm => ?_⟩
  ·obtain ⟨c, y, hc, _, hk, _⟩ := hx j p hj
   refine ⟨c, d.K_len hk, hk, fun i u hu => ?_⟩
   obtain ⟨_, hcl, hcc⟩ := World.cells?_some hc
   have hi : i < c.length := (List.getElem?_eq_some_iff.1 hu).1
   have := hcc i (by omega)
   rw [hu] at this
   rw [← hsz]
   rw [Addr.add_add] at this
   exact this
  ·rw [hxl]
   exact Nat.le_trans (Nat.le_add_right _ _) z
  ·obtain ⟨i, hi, rfl⟩ := List.getElem_of_mem hxm
   obtain ⟨_, _, _, _, _, hok⟩ := hx i _ (List.getElem?_eq_getElem hi)
   exact hok
theorem weights_of {H : Type} {P : Program} {ts : List TypeId} {ds : List (DataW H)} {j : Nat} {t : TypeId} {dat : DataW H} (hall : (DataW.weightsEach P ts ds).all (· ≤ reachBytes) = true) (hti : ts[j]? = some t) (hdi : ds[j]? = some dat) : ∀ n ∈ dat.weights P t, n ≤ 140737488351232 := by
 intro n hn
 have h2 := List.all_eq_true.1 hall n (DataW.weights_mem_each hti hdi n hn)
 have h3 : n ≤ reachBytes := by simpa using h2
 have z2 : reachBytes = 140737488351232 := by decide
 omega
end Go.Proofs.YtagokgijffpdnaaQ
namespace Go.Proofs.Ytagokgijffpdnaa.G
open Go.RowKit Go.Proofs.YtagokgijffpdnaaQ Go.Proofs.YtagokgijffpdnaaW.PrintWords Go.Proofs.YtagokgijffpdnaaW.PrintLast Go.Proofs.YtagokgijffpdnaaW.PrintMore
set_option linter.unusedVariables false
set_option linter.unusedSimpArgs false
abbrev SS := S26
theorem state_flds : ∃ b c d : Field, (∃ fs : Array Field, Try.prog.underlying 26 = some (.struct fs) ∧ fs.toList = [b, c, d]) ∧ (b.offset = 0 ∧ c.offset = 1 ∧ d.offset = 2) ∧
  Try.prog.underlying b.type = some (.slice 36) ∧ Try.prog.underlying c.type = some (.int .i64) ∧ Try.prog.underlying d.type = some (.int .i64) ∧ Try.prog.cellsOf b.type = 1 ∧ Try.prog.cellsOf c.type = 1 ∧ Try.prog.cellsOf d.type = 1 :=
 ⟨_, _, _, ⟨_, Try.underlying26, rfl⟩, ⟨rfl, rfl, rfl⟩, by kernel_rfl, by kernel_rfl, by kernel_rfl, by kernel_rfl, by kernel_rfl, by kernel_rfl⟩
theorem Writes_f (s : List SP) (sf sn : Int) (d : List Int) (a : List SP) (fl nx : Int) (hs : s.length ≤ 1759218604390) (hw : wfP s = true) (hok : ∀ p ∈ a, OkP p) : tithebarnlaw16_ManifestWrites.f 4000000000000000 s sf sn d a fl nx = some true := by
 unfold tithebarnlaw16_ManifestWrites.f
 rw [if_pos]
 unfold tithebarnlaw16_ManifestWrites.g
 have hA : manifest_Apply.f s sf sn d a fl nx = some (applyL s sf sn d a fl nx) := by
  unfold manifest_Apply.f; rw [if_pos ⟨hw, by omega⟩]
 rw [lives_f (by decide), Option.bind_some, if_pos rfl, Write_is d a fl nx hok (by decide), Option.bind_some, rWrite_is d a fl nx hok (by decide), Option.bind_some, hA, Option.bind_some, rApply_f s sf sn d a fl nx (by omega) (by decide), Option.bind_some]
 rw [if_pos rfl, if_pos rfl, if_pos rfl]
 have hl : (applyL s sf sn d a fl nx).1.length ≤ 1759218606000 := by
  unfold applyL
  split
  ·rename_i h
   simp only [Bool.and_eq_true] at h
   obtain ⟨q1, q2, -⟩ := right_d h.1
   have h6 : (keptL s d).length ≤ s.length := List.length_filter_le _ _
   rw [List.length_append]; omega
  ·simp
 rw [Same_self (Nat.le_trans hl (by decide)) (Nat.lt_of_le_of_lt (Nat.add_le_add_right hl 1) (by decide))]
 rfl
def OkSW (x : SS) : Prop := (x.f0.length * 80 ≤ 140737488351232 ∧ ∀ y ∈ x.f0, OkP y) ∧ (Lit.int .i64 x.f1).wf = true ∧ (Lit.int .i64 x.f2).wf = true
theorem edit_rdgw : RdgW Try.prog 32 k32 OkE := RdgW.of edit_rdg
theorem state_rdgw : RdgW Try.prog 26 k26 OkSW := by
 obtain ⟨b, c, d, ⟨fs, h0, hfs⟩, ⟨ob, oc, od⟩, ub, uc, ud, sb, sc, sd⟩ := state_flds
 have h80 : Try.prog.bytesOf 36 = 80 := by kernel_rfl
 have hb : RdgW Try.prog b.type (Kd.slice 36 k36) (fun xs => xs.length * 80 ≤ 140737488351232 ∧ ∀ x ∈ xs, OkP x) := by
  rw [show (fun xs : List SP => xs.length * 80 ≤ 140737488351232 ∧ ∀ x ∈ xs, OkP x) = (fun xs : List SP => xs.length * Try.prog.bytesOf 36 ≤ 140737488351232 ∧ ∀ x ∈ xs, OkP x) from by rw [h80]]
  exact RdgW.slice ub (by kernel_rfl) (RdgW.of part_rdg)
 have hc : RdgW Try.prog c.type (Kd.int .i64) (fun x => (Lit.int .i64 x).wf = true) := RdgW.of (Rdg.int uc)
 have hd : RdgW Try.prog d.type (Kd.int .i64) (fun x => (Lit.int .i64 x).wf = true) := RdgW.of (Rdg.int ud)
 have f3 : RdgWF Try.prog 2 [d] (Kd.int .i64) (fun x => (Lit.int .i64 x).wf = true) := RdgWF.one od sd hd
 have f2 : RdgWF Try.prog 1 [c, d] (Kd.pair (Kd.int .i64) (Kd.int .i64)) (fun x => (Lit.int .i64 x.1).wf = true ∧ (Lit.int .i64 x.2).wf = true) := RdgWF.cons oc sc hc f3
 have f1 : RdgWF Try.prog 0 [b, c, d] (Kd.pair (Kd.slice 36 k36) (Kd.pair (Kd.int .i64) (Kd.int .i64))) (fun x => (x.1.length * 80 ≤ 140737488351232 ∧ ∀ y ∈ x.1, OkP y) ∧ (Lit.int .i64 x.2.1).wf = true ∧ (Lit.int .i64 x.2.2).wf = true) := RdgWF.cons ob sb hb f2
 rw [← hfs] at f1
 have hs : RdgW Try.prog 26 (Kd.pair (Kd.slice 36 k36) (Kd.pair (Kd.int .i64) (Kd.int .i64))) (fun x => (x.1.length * 80 ≤ 140737488351232 ∧ ∀ y ∈ x.1, OkP y) ∧ (Lit.int .i64 x.2.1).wf = true ∧ (Lit.int .i64 x.2.2).wf = true) := RdgW.struct h0 (by kernel_rfl) f1
 have hi : RdgW Try.prog 26 k26 OkSW := RdgW.iso (f := fun x : SS => (x.f0, x.f1, x.f2)) (fun p => ⟨p.1, p.2.1, p.2.2⟩) (fun _ => rfl) hs
 intro H enc w base spare held fuel cs dat ps hh hw
 exact hi hh hw
theorem ManifestWrites.law (cs : Array Value) (x : SS) (cs2 : Array Value) (y : SE) (w : World) (hk : k26.K w x cs.toList) (ok : OkSW x) (hk2 : k32.K w y cs2.toList) (ok2 : OkE y) :
  Calls Try.prog 5 #[.agg cs, .agg cs2] w fun e w' => e = .returned (.bool true) ∧ Below w.heap.size w w' := by
 obtain ⟨A0, c0, hc, h1, h2⟩ := k26_open hk
 obtain rfl : cs = #[.slice A0 x.f0.length c0, .int .i64 x.f1, .int .i64 x.f2] := by cases cs; simp_all
 obtain ⟨A1, c1, A2, c2, hc2, h3, h4, h5, h6⟩ := k32_open hk2
 obtain rfl : cs2 = #[.slice A1 y.f0.length c1, .slice A2 y.f1.length c2, .int .i64 y.f2, .int .i64 y.f3] := by cases cs2; simp_all
 have hl := ok.1.1
 refine tithebarnlaw16_ManifestWrites.calls 4000000000000000 A0 c0 x.f0 x.f1 x.f2 A1 c1 y.f0 A2 c2 y.f1 y.f2 y.f3 true w h2 h1 h4 h3 h6 h5 (Writes_f _ _ _ _ _ _ _ (by omega) ?_ ok2.2.1.2)
 unfold wfP
 rw [List.all_eq_true]
 exact fun p hp => (ok.1.2 p hp).1
end Go.Proofs.Ytagokgijffpdnaa.G
