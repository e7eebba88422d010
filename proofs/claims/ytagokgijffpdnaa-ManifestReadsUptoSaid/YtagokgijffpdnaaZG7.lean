import Derived.Test.YtagokgijffpdnaaZQ2
import Derived.Test.YtagokgijffpdnaaZG22
import Derived.Test.YtagokgijffpdnaaZQR
import Derived.Test.YtagokgijffpdnaaZG20
import Derived.Test.YtagokgijffpdnaaZG18
import Derived.Test.YtagokgijffpdnaaZG19
import Derived.Test.YtagokgijffpdnaaZG16
namespace Go.Proofs.Ytagokgijffpdnaa.G
open Go.RowKit Go.Proofs.YtagokgijffpdnaaQ Go.Proofs.YtagokgijffpdnaaW.PrintWords Go.Proofs.YtagokgijffpdnaaW.PrintLast Go.Proofs.YtagokgijffpdnaaW.PrintMore
attribute [local go_sem] max2_int min2_int max_two min_two max_three min_three max_four min_four   -- for this text's walks alone
set_option linter.unusedVariables false
set_option linter.unusedSimpArgs false
attribute [local go_sem high] eqA36
mutual
def tithebarnref16_Same.j0 : Nat → Bool → List (S36) → Int → Int → List (S36) → Int → Int → Option (Bool)
 | 0, _, _, _, _, _, _, _ => none
 | k + 1, x26, x163000, x163001, x163002, x164000, x164001, x164002 => if x26 = true then (some false) else (tithebarnref16_Same.l0 k 0 x163000 x163001 x163002 x164000 x164001 x164002)
def tithebarnref16_Same.l0 : Nat → Int → List (S36) → Int → Int → List (S36) → Int → Int → Option (Bool)
 | 0, _, _, _, _, _, _, _ => none
 | k + 1, x5, x163000, x163001, x163002, x164000, x164001, x164002 => if x5 < (x163000.length : Int) then (if 0 ≤ x5 then (if x5 < (x164000.length : Int) then (if (!(((rd_T36 x163000 x5).f0) == ((rd_T36 x164000 x5).f0)) || (!(((rd_T36 x163000 x5).f1) == ((rd_T36 x164000 x5).f1)) || ((!(((rd_T36 x163000 x5).f2.f0) == ((rd_T36 x164000 x5).f2.f0)) || (!(((rd_T36 x163000 x5).f2.f1) == ((rd_T36 x164000 x5).f2.f1)) || (!((((rd_T36 x163000 x5).f2.f2).toList) == (((rd_T36 x164000 x5).f2.f2).toList))))) || ((!(((rd_T36 x163000 x5).f3.f0) == ((rd_T36 x164000 x5).f3.f0)) || (!(((rd_T36 x163000 x5).f3.f1) == ((rd_T36 x164000 x5).f3.f1)) || (!((((rd_T36 x163000 x5).f3.f2).toList) == (((rd_T36 x164000 x5).f3.f2).toList))))))))) = true then (some false) else (tithebarnref16_Same.l0 k (wrap64 (x5 + 1)) x163000 x163001 x163002 x164000 x164001 x164002)) else (none)) else (none)) else (some true)
end
def tithebarnref16_Same.f (k : Nat) (l0_0 : List (S36)) (a0_1 : Int) (a0_2 : Int) (l1_0 : List (S36)) (a1_1 : Int) (a1_2 : Int) : Option (Bool) := if a0_1 = a1_1 then (if a0_2 = a1_2 then (tithebarnref16_Same.j0 k ((l0_0.length : Int) != (l1_0.length : Int)) l0_0 a0_1 a0_2 l1_0 a1_1 a1_2) else (tithebarnref16_Same.j0 k true l0_0 a0_1 a0_2 l1_0 a1_1 a1_2)) else (tithebarnref16_Same.j0 k true l0_0 a0_1 a0_2 l1_0 a1_1 a1_2)
theorem tithebarnref16_Same.mono_l : ∀ k, (∀ y0 y1 y2 y3 y4 y5 y6, LeO (tithebarnref16_Same.j0 k y0 y1 y2 y3 y4 y5 y6) (tithebarnref16_Same.j0 (k + 1) y0 y1 y2 y3 y4 y5 y6)) ∧ (∀ y0 y1 y2 y3 y4 y5 y6, LeO (tithebarnref16_Same.l0 k y0 y1 y2 y3 y4 y5 y6) (tithebarnref16_Same.l0 (k + 1) y0 y1 y2 y3 y4 y5 y6))
 | 0 => ⟨fun _ _ _ _ _ _ _ r h => by simp [tithebarnref16_Same.j0] at h, fun _ _ _ _ _ _ _ r h => by simp [tithebarnref16_Same.l0] at h⟩
 | k + 1 => by
  obtain ⟨ih0, ih1⟩ := tithebarnref16_Same.mono_l k
  refine ⟨?_, ?_⟩
  ·intro y0 y1 y2 y3 y4 y5 y6
   unfold tithebarnref16_Same.j0
   repeat' first
   | (with_reducible exact ih0 _ _ _ _ _ _ _)
   | (with_reducible exact ih1 _ _ _ _ _ _ _)
   | (with_reducible exact LeO.refl _)
   | (with_reducible exact LeO.none _)
   | (with_reducible refine LeO.ite ?_ ?_)
   | (with_reducible refine LeO.bind ?_ (fun _ => ?_))
   | exact ih0 _ _ _ _ _ _ _
   | exact ih1 _ _ _ _ _ _ _
   | exact LeO.none _
   | refine LeO.ite ?_ ?_
   | refine LeO.bind ?_ (fun _ => ?_)
  ·intro y0 y1 y2 y3 y4 y5 y6
   unfold tithebarnref16_Same.l0
   repeat' first
   | (with_reducible exact ih0 _ _ _ _ _ _ _)
   | (with_reducible exact ih1 _ _ _ _ _ _ _)
   | (with_reducible exact LeO.refl _)
   | (with_reducible exact LeO.none _)
   | (with_reducible refine LeO.ite ?_ ?_)
   | (with_reducible refine LeO.bind ?_ (fun _ => ?_))
   | exact ih0 _ _ _ _ _ _ _
   | exact ih1 _ _ _ _ _ _ _
   | exact LeO.none _
   | refine LeO.ite ?_ ?_
   | refine LeO.bind ?_ (fun _ => ?_)
theorem tithebarnref16_Same.mono : ∀ a0 a1 a2 a3 a4 a5 k, LeO (tithebarnref16_Same.f k a0 a1 a2 a3 a4 a5) (tithebarnref16_Same.f (k + 1) a0 a1 a2 a3 a4 a5) := by
 intro a0 a1 a2 a3 a4 a5 k
 obtain ⟨ih0, ih1⟩ := tithebarnref16_Same.mono_l k
 unfold tithebarnref16_Same.f
 repeat' first
   | (with_reducible exact ih0 _ _ _ _ _ _ _)
   | (with_reducible exact ih1 _ _ _ _ _ _ _)
   | (with_reducible exact LeO.refl _)
   | (with_reducible exact LeO.none _)
   | (with_reducible refine LeO.ite ?_ ?_)
   | (with_reducible refine LeO.bind ?_ (fun _ => ?_))
   | exact ih0 _ _ _ _ _ _ _
   | exact ih1 _ _ _ _ _ _ _
   | exact LeO.none _
   | refine LeO.ite ?_ ?_
   | refine LeO.bind ?_ (fun _ => ?_)
set_option maxHeartbeats 8000000 in
set_option maxRecDepth 100000 in
theorem tithebarnref16_Same.calls (k : Nat) (A0_0 : Option Addr) (c0_0 : Nat) (l0_0 : List (S36)) (a0_1 : Int) (a0_2 : Int) (A1_0 : Option Addr) (c1_0 : Nat) (l1_0 : List (S36)) (a1_1 : Int) (a1_2 : Int) (r : Bool) (w : World) (hr0_0 : Kd.C k36 w A0_0 l0_0.length l0_0) (hc0_0 : l0_0.length ≤ c0_0) (hr1_0 : Kd.C k36 w A1_0 l1_0.length l1_0) (hc1_0 : l1_0.length ≤ c1_0) (h : tithebarnref16_Same.f k l0_0 a0_1 a0_2 l1_0 a1_1 a1_2 = some r) :
  Calls Try.prog 11 #[.agg #[.slice A0_0 l0_0.length c0_0, .int .i64 a0_1, .int .i64 a0_2], .agg #[.slice A1_0 l1_0.length c1_0, .int .i64 a1_1, .int .i64 a1_2]] w fun e w' => e = .returned (.bool r) ∧ Below w.heap.size w w' := by
 have hu26 := Try.underlying26
 have hu36 := Try.underlying36
 have HR0_0 := Aside0.mk hr0_0
 have HC0_0 := Aside0.mk hc0_0
 clear hr0_0 hc0_0
 have HR1_0 := Aside0.mk hr1_0
 have HC1_0 := Aside0.mk hc1_0
 clear hr1_0 hc1_0
 have HB := Aside0.mk (Below.refl w.heap.size w)
 have H : (if a0_1 = a1_1 then (if a0_2 = a1_2 then (tithebarnref16_Same.j0 k ((l0_0.length : Int) != (l1_0.length : Int)) l0_0 a0_1 a0_2 l1_0 a1_1 a1_2) else (tithebarnref16_Same.j0 k true l0_0 a0_1 a0_2 l1_0 a1_1 a1_2)) else (tithebarnref16_Same.j0 k true l0_0 a0_1 a0_2 l1_0 a1_1 a1_2)) = some r := h
 clear h
 have HC3 := Aside0.mk H
 clear H
 go_enter Try.func11, Try.ntmps11
 go_upto_region 1 with (first | ((with_reducible refine gate_dst (N := 2) rfl ?_); (try (refine gate_guard (by rfl) ?_; dsimp only)); refine box_event ?hg (N := 2) ?hd (cs := #[.slice A0_0 l0_0.length c0_0, .int .i64 a0_1, .int .i64 a0_2]) (t := 26) ?hr ?_; (case hd => rfl); (case hg => rfl); (case hr => first | (go_simp; done) | (go_simp; rfl)); intro gb162 hg w4 hbox hb; have n0_ := Aside0.mk (below_step z1_ hb); have n1_ := Aside0.mk (hbox); have n2_ := Aside0.mk ((by rw [hg]; exact (below_size z1_) : w.heap.size ≤ gb162)); have n3_ := Aside0.mk ((by rw [hg]; exact (below_size z1_) : w.heap.size ≤ gb162)); clear HB; have HB := n0_; have BK162 := n1_; have GW162 := n2_; have GE162 := n3_; clear n0_ n1_ n2_ n3_; clear hb hbox hg) | ((with_reducible refine gate_dst (N := 3) rfl ?_); (try (refine gate_guard (by rfl) ?_; dsimp only)); refine box_event ?hg (N := 3) ?hd (cs := #[.slice A1_0 l1_0.length c1_0, .int .i64 a1_1, .int .i64 a1_2]) (t := 26) ?hr ?_; (case hd => rfl); (case hg => rfl); (case hr => first | (go_simp; done) | (go_simp; rfl)); intro gb163 hg w5 hbox hb; have n0_ := Aside0.mk (blk_below (g := gb162) (o := .cells #[.slice A0_0 l0_0.length c0_0, .int .i64 a0_1, .int .i64 a0_2] 26 (0, 0)) (by (with_reducible repeat (first | refine blk_drewN ?_ _ | refine blk_drew ?_ | refine blk_alloc ?_ _)); exact BK162.out) hb); have n1_ := Aside0.mk (below_step z21_ hb); have n2_ := Aside0.mk (hbox); have n3_ := Aside0.mk ((by rw [hg]; exact (below_size z21_) : w.heap.size ≤ gb163)); have n4_ := Aside0.mk ((by rw [hg]; exact (below_size z21_) : w.heap.size ≤ gb163)); have n5_ := Aside0.mk ((by rw [hg]; exact Nat.ne_of_lt (blk_lt (g := gb162) (o := .cells #[.slice A0_0 l0_0.length c0_0, .int .i64 a0_1, .int .i64 a0_2] 26 (0, 0)) (by (with_reducible repeat (first | refine blk_drewN ?_ _ | refine blk_drew ?_ | refine blk_alloc ?_ _)); exact BK162.out)) : gb162 ≠ gb163)); have n6_ := Aside0.mk ((by rw [hg]; exact Nat.ne_of_gt (blk_lt (g := gb162) (o := .cells #[.slice A0_0 l0_0.length c0_0, .int .i64 a0_1, .int .i64 a0_2] 26 (0, 0)) (by (with_reducible repeat (first | refine blk_drewN ?_ _ | refine blk_drew ?_ | refine blk_alloc ?_ _)); exact BK162.out)) : gb163 ≠ gb162)); clear BK162; clear HB; have BK162 := n0_; have HB := n1_; have BK163 := n2_; have GW163 := n3_; have GE163 := n4_; have NB162_163 := n5_; have NB163_162 := n6_; clear n0_ n1_ n2_ n3_ n4_ n5_ n6_; clear hb hbox hg))
 repeat (go_quiet (first | ((with_reducible refine gate_dst (N := 2) rfl ?_); (try (refine gate_guard (by rfl) ?_; dsimp only)); refine box_event ?hg (N := 2) ?hd (cs := #[.slice A0_0 l0_0.length c0_0, .int .i64 a0_1, .int .i64 a0_2]) (t := 26) ?hr ?_; (case hd => rfl); (case hg => rfl); (case hr => first | (go_simp; done) | (go_simp; rfl)); intro gb162 hg w4 hbox hb; have n0_ := Aside0.mk (below_step z1_ hb); have n1_ := Aside0.mk (hbox); have n2_ := Aside0.mk ((by rw [hg]; exact (below_size z1_) : w.heap.size ≤ gb162)); have n3_ := Aside0.mk ((by rw [hg]; exact (below_size z1_) : w.heap.size ≤ gb162)); clear HB; have HB := n0_; have BK162 := n1_; have GW162 := n2_; have GE162 := n3_; clear n0_ n1_ n2_ n3_; clear hb hbox hg) | ((with_reducible refine gate_dst (N := 3) rfl ?_); (try (refine gate_guard (by rfl) ?_; dsimp only)); refine box_event ?hg (N := 3) ?hd (cs := #[.slice A1_0 l1_0.length c1_0, .int .i64 a1_1, .int .i64 a1_2]) (t := 26) ?hr ?_; (case hd => rfl); (case hg => rfl); (case hr => first | (go_simp; done) | (go_simp; rfl)); intro gb163 hg w5 hbox hb; have n0_ := Aside0.mk (blk_below (g := gb162) (o := .cells #[.slice A0_0 l0_0.length c0_0, .int .i64 a0_1, .int .i64 a0_2] 26 (0, 0)) (by (with_reducible repeat (first | refine blk_drewN ?_ _ | refine blk_drew ?_ | refine blk_alloc ?_ _)); exact BK162.out) hb); have n1_ := Aside0.mk (below_step z21_ hb); have n2_ := Aside0.mk (hbox); have n3_ := Aside0.mk ((by rw [hg]; exact (below_size z21_) : w.heap.size ≤ gb163)); have n4_ := Aside0.mk ((by rw [hg]; exact (below_size z21_) : w.heap.size ≤ gb163)); have n5_ := Aside0.mk ((by rw [hg]; exact Nat.ne_of_lt (blk_lt (g := gb162) (o := .cells #[.slice A0_0 l0_0.length c0_0, .int .i64 a0_1, .int .i64 a0_2] 26 (0, 0)) (by (with_reducible repeat (first | refine blk_drewN ?_ _ | refine blk_drew ?_ | refine blk_alloc ?_ _)); exact BK162.out)) : gb162 ≠ gb163)); have n6_ := Aside0.mk ((by rw [hg]; exact Nat.ne_of_gt (blk_lt (g := gb162) (o := .cells #[.slice A0_0 l0_0.length c0_0, .int .i64 a0_1, .int .i64 a0_2] 26 (0, 0)) (by (with_reducible repeat (first | refine blk_drewN ?_ _ | refine blk_drew ?_ | refine blk_alloc ?_ _)); exact BK162.out)) : gb163 ≠ gb162)); clear BK162; clear HB; have BK162 := n0_; have HB := n1_; have BK163 := n2_; have GW163 := n3_; have GE163 := n4_; have NB162_163 := n5_; have NB163_162 := n6_; clear n0_ n1_ n2_ n3_ n4_ n5_ n6_; clear hb hbox hg)); go_upto_region 1 with (first | ((with_reducible refine gate_dst (N := 2) rfl ?_); (try (refine gate_guard (by rfl) ?_; dsimp only)); refine box_event ?hg (N := 2) ?hd (cs := #[.slice A0_0 l0_0.length c0_0, .int .i64 a0_1, .int .i64 a0_2]) (t := 26) ?hr ?_; (case hd => rfl); (case hg => rfl); (case hr => first | (go_simp; done) | (go_simp; rfl)); intro gb162 hg w4 hbox hb; have n0_ := Aside0.mk (below_step z1_ hb); have n1_ := Aside0.mk (hbox); have n2_ := Aside0.mk ((by rw [hg]; exact (below_size z1_) : w.heap.size ≤ gb162)); have n3_ := Aside0.mk ((by rw [hg]; exact (below_size z1_) : w.heap.size ≤ gb162)); clear HB; have HB := n0_; have BK162 := n1_; have GW162 := n2_; have GE162 := n3_; clear n0_ n1_ n2_ n3_; clear hb hbox hg) | ((with_reducible refine gate_dst (N := 3) rfl ?_); (try (refine gate_guard (by rfl) ?_; dsimp only)); refine box_event ?hg (N := 3) ?hd (cs := #[.slice A1_0 l1_0.length c1_0, .int .i64 a1_1, .int .i64 a1_2]) (t := 26) ?hr ?_; (case hd => rfl); (case hg => rfl); (case hr => first | (go_simp; done) | (go_simp; rfl)); intro gb163 hg w5 hbox hb; have n0_ := Aside0.mk (blk_below (g := gb162) (o := .cells #[.slice A0_0 l0_0.length c0_0, .int .i64 a0_1, .int .i64 a0_2] 26 (0, 0)) (by (with_reducible repeat (first | refine blk_drewN ?_ _ | refine blk_drew ?_ | refine blk_alloc ?_ _)); exact BK162.out) hb); have n1_ := Aside0.mk (below_step z21_ hb); have n2_ := Aside0.mk (hbox); have n3_ := Aside0.mk ((by rw [hg]; exact (below_size z21_) : w.heap.size ≤ gb163)); have n4_ := Aside0.mk ((by rw [hg]; exact (below_size z21_) : w.heap.size ≤ gb163)); have n5_ := Aside0.mk ((by rw [hg]; exact Nat.ne_of_lt (blk_lt (g := gb162) (o := .cells #[.slice A0_0 l0_0.length c0_0, .int .i64 a0_1, .int .i64 a0_2] 26 (0, 0)) (by (with_reducible repeat (first | refine blk_drewN ?_ _ | refine blk_drew ?_ | refine blk_alloc ?_ _)); exact BK162.out)) : gb162 ≠ gb163)); have n6_ := Aside0.mk ((by rw [hg]; exact Nat.ne_of_gt (blk_lt (g := gb162) (o := .cells #[.slice A0_0 l0_0.length c0_0, .int .i64 a0_1, .int .i64 a0_2] 26 (0, 0)) (by (with_reducible repeat (first | refine blk_drewN ?_ _ | refine blk_drew ?_ | refine blk_alloc ?_ _)); exact BK162.out)) : gb163 ≠ gb162)); clear BK162; clear HB; have BK162 := n0_; have HB := n1_; have BK163 := n2_; have GW163 := n3_; have GE163 := n4_; have NB162_163 := n5_; have NB163_162 := n6_; clear n0_ n1_ n2_ n3_ n4_ n5_ n6_; clear hb hbox hg)))
 (try simp only [Act.put, List.setIfInBounds_toArray, List.set_cons_zero, List.set_cons_succ])
 go_cut [26] (fun v26 wc => ∃ (kq : Nat) (x26_2 : Bool), v26 = .bool x26_2 ∧ Aside0 (tithebarnref16_Same.j0 kq x26_2 l0_0 a0_1 a0_2 l1_0 a1_1 a1_2 = some r) ∧ Aside0 (kq ≤ k) ∧ Aside0 (wc.heap[gb162]? = some (.cells #[(.slice A0_0 l0_0.length c0_0), .int .i64 a0_1, .int .i64 a0_2] 26 (0, 0))) ∧ Aside0 (wc.heap[gb163]? = some (.cells #[(.slice A1_0 l1_0.length c1_0), .int .i64 a1_1, .int .i64 a1_2] 26 (0, 0))) ∧ Aside0 (Below w.heap.size w wc))
 case first =>
  have H := HC3.out
  clear HC3
  by_cases c6 : a0_1 = a1_1
  ·rw [if_pos c6] at H
   have c6b0 : (a0_1 == a1_1) = true := beq_iff_eq.mpr c6
   have c6b1 : (a0_1 != a1_1) = false := bne_eq_false_iff_eq.mpr c6
   clear c6
   (first | rw [c6b0] | (simp only [i64_w, i32_w]; rw [c6b0]) | skip)
   by_cases c7 : a0_2 = a1_2
   ·rw [if_pos c7] at H
    have c7b0 : (a0_2 == a1_2) = true := beq_iff_eq.mpr c7
    have c7b1 : (a0_2 != a1_2) = false := bne_eq_false_iff_eq.mpr c7
    clear c7
    have H' := Aside0.mk H
    clear H
    have hnb8 := NB162_163.out
    have hnc8 := NB163_162.out
    have hcz9_0 : w5.cell? ⟨gb162, 0, none⟩ = some (.slice A0_0 l0_0.length c0_0) := (blk_cell BK162.out 0).trans rfl
    have hcz9_1 : w5.cell? ⟨gb162, 1, none⟩ = some (.int .i64 a0_1) := (blk_cell BK162.out 1).trans rfl
    have hcz9_2 : w5.cell? ⟨gb162, 2, none⟩ = some (.int .i64 a0_2) := (blk_cell BK162.out 2).trans rfl
    have hfz9_0 := blk_frozen BK162.out 0
    have hfz9_1 := blk_frozen BK162.out 1
    have hfz9_2 := blk_frozen BK162.out 2
    have hcz10_0 : w5.cell? ⟨gb163, 0, none⟩ = some (.slice A1_0 l1_0.length c1_0) := (blk_cell BK163.out 0).trans rfl
    have hcz10_1 : w5.cell? ⟨gb163, 1, none⟩ = some (.int .i64 a1_1) := (blk_cell BK163.out 1).trans rfl
    have hcz10_2 : w5.cell? ⟨gb163, 2, none⟩ = some (.int .i64 a1_2) := (blk_cell BK163.out 2).trans rfl
    have hfz10_0 := blk_frozen BK163.out 0
    have hfz10_1 := blk_frozen BK163.out 1
    have hfz10_2 := blk_frozen BK163.out 2
    go_wp2
    repeat (go_quiet (fail); try go_wp2)
    go_meet
    case rel => exact ⟨_, (((l0_0.length : Int) != (l1_0.length : Int))), z7_, H', ⟨by first | omega | exact Nat.le_refl _⟩, ⟨by (with_reducible repeat (first | refine blk_drewN ?_ _ | refine blk_drew ?_ | refine blk_alloc ?_ _)); exact BK162.out⟩, ⟨by (with_reducible repeat (first | refine blk_drewN ?_ _ | refine blk_drew ?_ | refine blk_alloc ?_ _)); exact BK163.out⟩, ⟨z18_⟩⟩
   ·rw [if_neg c7] at H
    have c7b0 : (a0_2 == a1_2) = false := beq_eq_false_iff_ne.mpr c7
    have c7b1 : (a0_2 != a1_2) = true := bne_iff_ne.mpr c7
    have H' := Aside0.mk H
    clear H
    have hnb11 := NB162_163.out
    have hnc11 := NB163_162.out
    have hcz12_0 : w5.cell? ⟨gb162, 0, none⟩ = some (.slice A0_0 l0_0.length c0_0) := (blk_cell BK162.out 0).trans rfl
    have hcz12_1 : w5.cell? ⟨gb162, 1, none⟩ = some (.int .i64 a0_1) := (blk_cell BK162.out 1).trans rfl
    have hcz12_2 : w5.cell? ⟨gb162, 2, none⟩ = some (.int .i64 a0_2) := (blk_cell BK162.out 2).trans rfl
    have hfz12_0 := blk_frozen BK162.out 0
    have hfz12_1 := blk_frozen BK162.out 1
    have hfz12_2 := blk_frozen BK162.out 2
    have hcz13_0 : w5.cell? ⟨gb163, 0, none⟩ = some (.slice A1_0 l1_0.length c1_0) := (blk_cell BK163.out 0).trans rfl
    have hcz13_1 : w5.cell? ⟨gb163, 1, none⟩ = some (.int .i64 a1_1) := (blk_cell BK163.out 1).trans rfl
    have hcz13_2 : w5.cell? ⟨gb163, 2, none⟩ = some (.int .i64 a1_2) := (blk_cell BK163.out 2).trans rfl
    have hfz13_0 := blk_frozen BK163.out 0
    have hfz13_1 := blk_frozen BK163.out 1
    have hfz13_2 := blk_frozen BK163.out 2
    go_wp2
    repeat (go_quiet (fail); try go_wp2)
    go_meet
    case rel => exact ⟨_, (true), z7_, H', ⟨by first | omega | exact Nat.le_refl _⟩, ⟨by (with_reducible repeat (first | refine blk_drewN ?_ _ | refine blk_drew ?_ | refine blk_alloc ?_ _)); exact BK162.out⟩, ⟨by (with_reducible repeat (first | refine blk_drewN ?_ _ | refine blk_drew ?_ | refine blk_alloc ?_ _)); exact BK163.out⟩, ⟨z18_⟩⟩
  ·rw [if_neg c6] at H
   have c6b0 : (a0_1 == a1_1) = false := beq_eq_false_iff_ne.mpr c6
   have c6b1 : (a0_1 != a1_1) = true := bne_iff_ne.mpr c6
   (first | rw [c6b0] | (simp only [i64_w, i32_w]; rw [c6b0]) | skip)
   have H' := Aside0.mk H
   clear H
   have hnb14 := NB162_163.out
   have hnc14 := NB163_162.out
   have hcz15_0 : w5.cell? ⟨gb162, 0, none⟩ = some (.slice A0_0 l0_0.length c0_0) := (blk_cell BK162.out 0).trans rfl
   have hcz15_1 : w5.cell? ⟨gb162, 1, none⟩ = some (.int .i64 a0_1) := (blk_cell BK162.out 1).trans rfl
   have hcz15_2 : w5.cell? ⟨gb162, 2, none⟩ = some (.int .i64 a0_2) := (blk_cell BK162.out 2).trans rfl
   have hfz15_0 := blk_frozen BK162.out 0
   have hfz15_1 := blk_frozen BK162.out 1
   have hfz15_2 := blk_frozen BK162.out 2
   have hcz16_0 : w5.cell? ⟨gb163, 0, none⟩ = some (.slice A1_0 l1_0.length c1_0) := (blk_cell BK163.out 0).trans rfl
   have hcz16_1 : w5.cell? ⟨gb163, 1, none⟩ = some (.int .i64 a1_1) := (blk_cell BK163.out 1).trans rfl
   have hcz16_2 : w5.cell? ⟨gb163, 2, none⟩ = some (.int .i64 a1_2) := (blk_cell BK163.out 2).trans rfl
   have hfz16_0 := blk_frozen BK163.out 0
   have hfz16_1 := blk_frozen BK163.out 1
   have hfz16_2 := blk_frozen BK163.out 2
   go_wp2
   repeat (go_quiet (fail); try go_wp2)
   go_meet
   case rel => exact ⟨_, (true), z7_, H', ⟨by first | omega | exact Nat.le_refl _⟩, ⟨by (with_reducible repeat (first | refine blk_drewN ?_ _ | refine blk_drew ?_ | refine blk_alloc ?_ _)); exact BK162.out⟩, ⟨by (with_reducible repeat (first | refine blk_drewN ?_ _ | refine blk_drew ?_ | refine blk_alloc ?_ _)); exact BK163.out⟩, ⟨z18_⟩⟩
 case rest =>
  clear HC3
  try clear c1
  try clear p2
  try clear c6
  try clear c6b0
  try clear c6b1
  try clear c7
  try clear c7b0
  try clear c7b1
  try clear c8
  try clear c11
  try clear c14
  try clear hcz10_0
  try clear hcz10_1
  try clear hcz10_2
  try clear hcz12_0
  try clear hcz12_1
  try clear hcz12_2
  try clear hcz13_0
  try clear hcz13_1
  try clear hcz13_2
  try clear hcz15_0
  try clear hcz15_1
  try clear hcz15_2
  try clear hcz16_0
  try clear hcz16_1
  try clear hcz16_2
  try clear hcz9_0
  try clear hcz9_1
  try clear hcz9_2
  try clear hfz10_0
  try clear hfz10_1
  try clear hfz10_2
  try clear hfz12_0
  try clear hfz12_1
  try clear hfz12_2
  try clear hfz13_0
  try clear hfz13_1
  try clear hfz13_2
  try clear hfz15_0
  try clear hfz15_1
  try clear hfz15_2
  try clear hfz16_0
  try clear hfz16_1
  try clear hfz16_2
  try clear hfz9_0
  try clear hfz9_1
  try clear hfz9_2
  obtain ⟨kq, x26_2, rfl, HA, HJ2, BK162, BK163, HB⟩ := hcut
  cases kq with
  | zero => exact absurd HA.out (by simp [tithebarnref16_Same.j0])
  | succ kj2 =>
   have H := HA.out
   clear HA
   simp only [tithebarnref16_Same.j0] at H
   by_cases c17 : x26_2 = true
   ·subst c17
    have H1 : (some false) = some r := by rw [if_pos rfl] at H; exact H
    clear H
    have H := H1
    clear H1
    obtain rfl := Option.some.inj H
    go_wp2
    repeat (go_quiet (fail); try go_wp2)
    go_ret
    exact ⟨z2_, z18_⟩
   ·replace c17 := Bool.eq_false_iff.mpr c17
    subst c17
    have H1 : (tithebarnref16_Same.l0 kj2 0 l0_0 a0_1 a0_2 l1_0 a1_1 a1_2) = some r := by rw [if_neg (show ¬ (false = true) by decide)] at H; exact H
    clear H
    have H := H1
    clear H1
    have H' := Aside0.mk H
    clear H
    go_wp2
    repeat (go_quiet (fail); try go_wp2)
    go_loopg [5] kj2 (fun kq v5 w' => ∃ (x5_2 : Int), v5 = .int .i64 x5_2 ∧ Aside0 (tithebarnref16_Same.l0 kq x5_2 l0_0 a0_1 a0_2 l1_0 a1_1 a1_2 = some r) ∧ Aside0 (kq ≤ kj2) ∧ Aside0 (w'.heap[gb162]? = some (.cells #[(.slice A0_0 l0_0.length c0_0), .int .i64 a0_1, .int .i64 a0_2] 26 (0, 0))) ∧ Aside0 (w'.heap[gb163]? = some (.cells #[(.slice A1_0 l1_0.length c1_0), .int .i64 a1_1, .int .i64 a1_2] 26 (0, 0))) ∧ Aside0 (Below w.heap.size w w'))
    case atStart => exact ⟨(0), z7_, H', ⟨Nat.le_refl _⟩, ⟨by (with_reducible repeat (first | refine blk_drewN ?_ _ | refine blk_drew ?_ | refine blk_alloc ?_ _)); exact BK162.out⟩, ⟨by (with_reducible repeat (first | refine blk_drewN ?_ _ | refine blk_drew ?_ | refine blk_alloc ?_ _)); exact BK163.out⟩, ⟨z18_⟩⟩
    case round =>
     clear H'
     try clear c1
     try clear p2
     try clear c6
     try clear c6b0
     try clear c6b1
     try clear c7
     try clear c7b0
     try clear c7b1
     try clear c8
     try clear c11
     try clear c14
     try clear c17
     try clear hcz10_0
     try clear hcz10_1
     try clear hcz10_2
     try clear hcz12_0
     try clear hcz12_1
     try clear hcz12_2
     try clear hcz13_0
     try clear hcz13_1
     try clear hcz13_2
     try clear hcz15_0
     try clear hcz15_1
     try clear hcz15_2
     try clear hcz16_0
     try clear hcz16_1
     try clear hcz16_2
     try clear hcz9_0
     try clear hcz9_1
     try clear hcz9_2
     try clear hfz10_0
     try clear hfz10_1
     try clear hfz10_2
     try clear hfz12_0
     try clear hfz12_1
     try clear hfz12_2
     try clear hfz13_0
     try clear hfz13_1
     try clear hfz13_2
     try clear hfz15_0
     try clear hfz15_1
     try clear hfz15_2
     try clear hfz16_0
     try clear hfz16_1
     try clear hfz16_2
     try clear hfz9_0
     try clear hfz9_1
     try clear hfz9_2
     try clear p2
     obtain ⟨x5_2, rfl, HA, HK2, BK162, BK163, HB⟩ := hrel
     cases gk with
     | zero => exact absurd HA.out (by simp [tithebarnref16_Same.l0])
     | succ k2 =>
      have H := HA.out
      clear HA
      simp only [tithebarnref16_Same.l0] at H
      by_cases c18 : x5_2 < (l0_0.length : Int)
      ·rw [if_pos c18] at H
       have c18b0 : decide (x5_2 < (l0_0.length : Int)) = true := decide_eq_true c18
       clear c18
       by_cases c19 : 0 ≤ x5_2
       ·rw [if_pos c19] at H
        have c19b0 : decide (0 ≤ x5_2) = true := decide_eq_true c19
        clear c19
        by_cases c20 : x5_2 < (l1_0.length : Int)
        ·rw [if_pos c20] at H
         have c20b0 : decide (x5_2 < (l1_0.length : Int)) = true := decide_eq_true c20
         clear c20
         by_cases c21 : (!(((rd_T36 l0_0 x5_2).f0) == ((rd_T36 l1_0 x5_2).f0)) || (!(((rd_T36 l0_0 x5_2).f1) == ((rd_T36 l1_0 x5_2).f1)) || ((!(((rd_T36 l0_0 x5_2).f2.f0) == ((rd_T36 l1_0 x5_2).f2.f0)) || (!(((rd_T36 l0_0 x5_2).f2.f1) == ((rd_T36 l1_0 x5_2).f2.f1)) || (!((((rd_T36 l0_0 x5_2).f2.f2).toList) == (((rd_T36 l1_0 x5_2).f2.f2).toList))))) || ((!(((rd_T36 l0_0 x5_2).f3.f0) == ((rd_T36 l1_0 x5_2).f3.f0)) || (!(((rd_T36 l0_0 x5_2).f3.f1) == ((rd_T36 l1_0 x5_2).f3.f1)) || (!((((rd_T36 l0_0 x5_2).f3.f2).toList) == (((rd_T36 l1_0 x5_2).f3.f2).toList))))))))) = true
         ·rw [if_pos c21] at H
          have c21b0 : (!(((rd_T36 l0_0 x5_2).f0) == ((rd_T36 l1_0 x5_2).f0)) || (!(((rd_T36 l0_0 x5_2).f1) == ((rd_T36 l1_0 x5_2).f1)) || ((!(((rd_T36 l0_0 x5_2).f2.f0) == ((rd_T36 l1_0 x5_2).f2.f0)) || (!(((rd_T36 l0_0 x5_2).f2.f1) == ((rd_T36 l1_0 x5_2).f2.f1)) || (!((((rd_T36 l0_0 x5_2).f2.f2).toList) == (((rd_T36 l1_0 x5_2).f2.f2).toList))))) || ((!(((rd_T36 l0_0 x5_2).f3.f0) == ((rd_T36 l1_0 x5_2).f3.f0)) || (!(((rd_T36 l0_0 x5_2).f3.f1) == ((rd_T36 l1_0 x5_2).f3.f1)) || (!((((rd_T36 l0_0 x5_2).f3.f2).toList) == (((rd_T36 l1_0 x5_2).f3.f2).toList))))))))) = true := c21
          clear c21
          obtain rfl := Option.some.inj H
          have hnb22 := NB162_163.out
          have hnc22 := NB163_162.out
          have hcz23_0 : wr.cell? ⟨gb162, 0, none⟩ = some (.slice A0_0 l0_0.length c0_0) := (blk_cell BK162.out 0).trans rfl
          have hcz23_1 : wr.cell? ⟨gb162, 1, none⟩ = some (.int .i64 a0_1) := (blk_cell BK162.out 1).trans rfl
          have hcz23_2 : wr.cell? ⟨gb162, 2, none⟩ = some (.int .i64 a0_2) := (blk_cell BK162.out 2).trans rfl
          have hfz23_0 := blk_frozen BK162.out 0
          have hfz23_1 := blk_frozen BK162.out 1
          have hfz23_2 := blk_frozen BK162.out 2
          have p164 : 0 ≤ (x5_2 : Int) := of_decide_eq_true z6_
          have q164 : x5_2 < (l0_0.length : Int) := of_decide_eq_true z6_
          obtain ⟨ad164, e164, hx164_0, hx164_1, hx164_2, hx164_3, hx164_4, hx164_5, hx164_6, hx164_7⟩ := at_T36 HR0_0.out x5_2 p164 q164
          cases e164
          replace hx164_0 := (HB.out.cell (World.block_lt_of_cell? w _ hx164_0)).trans hx164_0
          replace hx164_1 := (HB.out.cell (World.block_lt_of_cell? w _ hx164_1)).trans hx164_1
          replace hx164_2 := (HB.out.cell (World.block_lt_of_cell? w _ hx164_2)).trans hx164_2
          replace hx164_3 := (HB.out.cell (World.block_lt_of_cell? w _ hx164_3)).trans hx164_3
          replace hx164_4 := (HB.out.cell (World.block_lt_of_cell? w _ hx164_4)).trans hx164_4
          replace hx164_5 := (HB.out.cell (World.block_lt_of_cell? w _ hx164_5)).trans hx164_5
          replace hx164_6 := (HB.out.cell (World.block_lt_of_cell? w _ hx164_6)).trans hx164_6
          replace hx164_7 := (HB.out.cell (World.block_lt_of_cell? w _ hx164_7)).trans hx164_7
          replace p164 := eq_true p164
          replace q164 := eq_true q164
          have hcz24_0 : wr.cell? ⟨gb163, 0, none⟩ = some (.slice A1_0 l1_0.length c1_0) := (blk_cell BK163.out 0).trans rfl
          have hcz24_1 : wr.cell? ⟨gb163, 1, none⟩ = some (.int .i64 a1_1) := (blk_cell BK163.out 1).trans rfl
          have hcz24_2 : wr.cell? ⟨gb163, 2, none⟩ = some (.int .i64 a1_2) := (blk_cell BK163.out 2).trans rfl
          have hfz24_0 := blk_frozen BK163.out 0
          have hfz24_1 := blk_frozen BK163.out 1
          have hfz24_2 := blk_frozen BK163.out 2
          have p165 : 0 ≤ (x5_2 : Int) := of_decide_eq_true z6_
          have q165 : x5_2 < (l1_0.length : Int) := of_decide_eq_true z6_
          obtain ⟨ad165, e165, hx165_0, hx165_1, hx165_2, hx165_3, hx165_4, hx165_5, hx165_6, hx165_7⟩ := at_T36 HR1_0.out x5_2 p165 q165
          cases e165
          replace hx165_0 := (HB.out.cell (World.block_lt_of_cell? w _ hx165_0)).trans hx165_0
          replace hx165_1 := (HB.out.cell (World.block_lt_of_cell? w _ hx165_1)).trans hx165_1
          replace hx165_2 := (HB.out.cell (World.block_lt_of_cell? w _ hx165_2)).trans hx165_2
          replace hx165_3 := (HB.out.cell (World.block_lt_of_cell? w _ hx165_3)).trans hx165_3
          replace hx165_4 := (HB.out.cell (World.block_lt_of_cell? w _ hx165_4)).trans hx165_4
          replace hx165_5 := (HB.out.cell (World.block_lt_of_cell? w _ hx165_5)).trans hx165_5
          replace hx165_6 := (HB.out.cell (World.block_lt_of_cell? w _ hx165_6)).trans hx165_6
          replace hx165_7 := (HB.out.cell (World.block_lt_of_cell? w _ hx165_7)).trans hx165_7
          replace p165 := eq_true p165
          replace q165 := eq_true q165
          go_wp2
          repeat (go_quiet (fail); try go_wp2)
          go_ret
          exact ⟨z2_, z18_⟩
         ·rw [if_neg c21] at H
          have c21b0 : (!(((rd_T36 l0_0 x5_2).f0) == ((rd_T36 l1_0 x5_2).f0)) || (!(((rd_T36 l0_0 x5_2).f1) == ((rd_T36 l1_0 x5_2).f1)) || ((!(((rd_T36 l0_0 x5_2).f2.f0) == ((rd_T36 l1_0 x5_2).f2.f0)) || (!(((rd_T36 l0_0 x5_2).f2.f1) == ((rd_T36 l1_0 x5_2).f2.f1)) || (!((((rd_T36 l0_0 x5_2).f2.f2).toList) == (((rd_T36 l1_0 x5_2).f2.f2).toList))))) || ((!(((rd_T36 l0_0 x5_2).f3.f0) == ((rd_T36 l1_0 x5_2).f3.f0)) || (!(((rd_T36 l0_0 x5_2).f3.f1) == ((rd_T36 l1_0 x5_2).f3.f1)) || (!((((rd_T36 l0_0 x5_2).f3.f2).toList) == (((rd_T36 l1_0 x5_2).f3.f2).toList))))))))) = false := by simpa using c21
          clear c21
          have H' := Aside0.mk H
          clear H
          have hnb25 := NB162_163.out
          have hnc25 := NB163_162.out
          have hcz26_0 : wr.cell? ⟨gb162, 0, none⟩ = some (.slice A0_0 l0_0.length c0_0) := (blk_cell BK162.out 0).trans rfl
          have hcz26_1 : wr.cell? ⟨gb162, 1, none⟩ = some (.int .i64 a0_1) := (blk_cell BK162.out 1).trans rfl
          have hcz26_2 : wr.cell? ⟨gb162, 2, none⟩ = some (.int .i64 a0_2) := (blk_cell BK162.out 2).trans rfl
          have hfz26_0 := blk_frozen BK162.out 0
          have hfz26_1 := blk_frozen BK162.out 1
          have hfz26_2 := blk_frozen BK162.out 2
          have p164 : 0 ≤ (x5_2 : Int) := of_decide_eq_true z6_
          have q164 : x5_2 < (l0_0.length : Int) := of_decide_eq_true z6_
          obtain ⟨ad164, e164, hx164_0, hx164_1, hx164_2, hx164_3, hx164_4, hx164_5, hx164_6, hx164_7⟩ := at_T36 HR0_0.out x5_2 p164 q164
          cases e164
          replace hx164_0 := (HB.out.cell (World.block_lt_of_cell? w _ hx164_0)).trans hx164_0
          replace hx164_1 := (HB.out.cell (World.block_lt_of_cell? w _ hx164_1)).trans hx164_1
          replace hx164_2 := (HB.out.cell (World.block_lt_of_cell? w _ hx164_2)).trans hx164_2
          replace hx164_3 := (HB.out.cell (World.block_lt_of_cell? w _ hx164_3)).trans hx164_3
          replace hx164_4 := (HB.out.cell (World.block_lt_of_cell? w _ hx164_4)).trans hx164_4
          replace hx164_5 := (HB.out.cell (World.block_lt_of_cell? w _ hx164_5)).trans hx164_5
          replace hx164_6 := (HB.out.cell (World.block_lt_of_cell? w _ hx164_6)).trans hx164_6
          replace hx164_7 := (HB.out.cell (World.block_lt_of_cell? w _ hx164_7)).trans hx164_7
          replace p164 := eq_true p164
          replace q164 := eq_true q164
          have hcz27_0 : wr.cell? ⟨gb163, 0, none⟩ = some (.slice A1_0 l1_0.length c1_0) := (blk_cell BK163.out 0).trans rfl
          have hcz27_1 : wr.cell? ⟨gb163, 1, none⟩ = some (.int .i64 a1_1) := (blk_cell BK163.out 1).trans rfl
          have hcz27_2 : wr.cell? ⟨gb163, 2, none⟩ = some (.int .i64 a1_2) := (blk_cell BK163.out 2).trans rfl
          have hfz27_0 := blk_frozen BK163.out 0
          have hfz27_1 := blk_frozen BK163.out 1
          have hfz27_2 := blk_frozen BK163.out 2
          have p165 : 0 ≤ (x5_2 : Int) := of_decide_eq_true z6_
          have q165 : x5_2 < (l1_0.length : Int) := of_decide_eq_true z6_
          obtain ⟨ad165, e165, hx165_0, hx165_1, hx165_2, hx165_3, hx165_4, hx165_5, hx165_6, hx165_7⟩ := at_T36 HR1_0.out x5_2 p165 q165
          cases e165
          replace hx165_0 := (HB.out.cell (World.block_lt_of_cell? w _ hx165_0)).trans hx165_0
          replace hx165_1 := (HB.out.cell (World.block_lt_of_cell? w _ hx165_1)).trans hx165_1
          replace hx165_2 := (HB.out.cell (World.block_lt_of_cell? w _ hx165_2)).trans hx165_2
          replace hx165_3 := (HB.out.cell (World.block_lt_of_cell? w _ hx165_3)).trans hx165_3
          replace hx165_4 := (HB.out.cell (World.block_lt_of_cell? w _ hx165_4)).trans hx165_4
          replace hx165_5 := (HB.out.cell (World.block_lt_of_cell? w _ hx165_5)).trans hx165_5
          replace hx165_6 := (HB.out.cell (World.block_lt_of_cell? w _ hx165_6)).trans hx165_6
          replace hx165_7 := (HB.out.cell (World.block_lt_of_cell? w _ hx165_7)).trans hx165_7
          replace p165 := eq_true p165
          replace q165 := eq_true q165
          go_wp2
          repeat (go_quiet (fail); try go_wp2)
          go_roundg k2
          case measure => have := HJ2.out; have := HK2.out; omega
          case rel => exact ⟨(wrap64 (x5_2 + 1)), z7_, H', ⟨by have := HJ2.out; have := HK2.out; omega⟩, ⟨by (with_reducible repeat (first | refine blk_drewN ?_ _ | refine blk_drew ?_ | refine blk_alloc ?_ _)); exact BK162.out⟩, ⟨by (with_reducible repeat (first | refine blk_drewN ?_ _ | refine blk_drew ?_ | refine blk_alloc ?_ _)); exact BK163.out⟩, ⟨z18_⟩⟩
        ·rw [if_neg c20] at H
         exact absurd H (by simp)
       ·rw [if_neg c19] at H
        exact absurd H (by simp)
      ·rw [if_neg c18] at H
       have c18b0 : decide (x5_2 < (l0_0.length : Int)) = false := decide_eq_false c18
       clear c18
       obtain rfl := Option.some.inj H
       have hnb28 := NB162_163.out
       have hnc28 := NB163_162.out
       have hcz29_0 : wr.cell? ⟨gb162, 0, none⟩ = some (.slice A0_0 l0_0.length c0_0) := (blk_cell BK162.out 0).trans rfl
       have hcz29_1 : wr.cell? ⟨gb162, 1, none⟩ = some (.int .i64 a0_1) := (blk_cell BK162.out 1).trans rfl
       have hcz29_2 : wr.cell? ⟨gb162, 2, none⟩ = some (.int .i64 a0_2) := (blk_cell BK162.out 2).trans rfl
       have hfz29_0 := blk_frozen BK162.out 0
       have hfz29_1 := blk_frozen BK162.out 1
       have hfz29_2 := blk_frozen BK162.out 2
       go_wp2
       repeat (go_quiet (fail); try go_wp2)
       go_ret
       exact ⟨z2_, z18_⟩
end Go.Proofs.Ytagokgijffpdnaa.G
namespace Go.Proofs.Ytagokgijffpdnaa.G
open Go.RowKit Go.Proofs.YtagokgijffpdnaaQ Go.Proofs.YtagokgijffpdnaaW.PrintWords Go.Proofs.YtagokgijffpdnaaW.PrintLast Go.Proofs.YtagokgijffpdnaaW.PrintMore
set_option linter.unusedVariables false
set_option linter.unusedSimpArgs false
theorem Same_l0 (s : List SP) (f n : Int) (hs : s.length ≤ 9223372036854775807) : ∀ (m i k : Nat), i + m = s.length → m < k → tithebarnref16_Same.l0 k (i : Int) s f n s f n = some true := by
 intro m
 induction m with
 | zero =>
  intro i k hi hk
  obtain ⟨k, rfl⟩ : ∃ m, k = m + 1 := ⟨k - 1, by omega⟩
  simp only [tithebarnref16_Same.l0]
  rw [if_neg (by omega)]
 | succ m ih =>
  intro i k hi hk
  obtain ⟨k, rfl⟩ : ∃ m, k = m + 1 := ⟨k - 1, by omega⟩
  simp only [tithebarnref16_Same.l0]
  have e : wrap64 ((i : Int) + 1) = ((i + 1 : Nat) : Int) := by rw [w64 (by omega) (by omega)]; omega
  rw [if_pos (by omega), if_pos (by omega), if_pos (by omega), if_neg (by simp), e]
  exact ih (i + 1) k (by omega) (by omega)
theorem Same_self {s : List SP} {f n : Int} {k : Nat} (hs : s.length ≤ 9223372036854775807) (hk : s.length + 1 < k) : tithebarnref16_Same.f k s f n s f n = some true := by
 obtain ⟨k, rfl⟩ : ∃ m, k = m + 1 := ⟨k - 1, by omega⟩
 unfold tithebarnref16_Same.f
 rw [if_pos rfl, if_pos rfl]
 simp only [tithebarnref16_Same.j0]
 rw [if_neg (by simp)]
 have := Same_l0 s f n hs s.length 0 k (by omega) (by omega)
 rw [show ((0 : Nat) : Int) = 0 from rfl] at this
 exact this
end Go.Proofs.Ytagokgijffpdnaa.G
namespace Go.Proofs.Ytagokgijffpdnaa.G
open Go.RowKit Go.Proofs.YtagokgijffpdnaaQ Go.Proofs.YtagokgijffpdnaaW.PrintWords Go.Proofs.YtagokgijffpdnaaW.PrintLast Go.Proofs.YtagokgijffpdnaaW.PrintMore
set_option linter.unusedVariables false
set_option linter.unusedSimpArgs false
theorem applyA : manifest_Apply.f [] 0 0 [] [(⟨1, 0, ⟨false, 0, ⟨#[]⟩⟩, ⟨false, 0, ⟨#[]⟩⟩⟩ : SP)] 0 2 = some ([(⟨1, 0, ⟨false, 0, ⟨#[]⟩⟩, ⟨false, 0, ⟨#[]⟩⟩⟩ : SP)], 0, 2, 0) := by kernel_rfl
theorem applyB : manifest_Apply.f [(⟨1, 0, ⟨false, 0, ⟨#[]⟩⟩, ⟨false, 0, ⟨#[]⟩⟩⟩ : SP)] 0 2 [1] [(⟨2, 0, ⟨false, 0, ⟨#[]⟩⟩, ⟨false, 0, ⟨#[]⟩⟩⟩ : SP)] 0 3 = some ([(⟨2, 0, ⟨false, 0, ⟨#[]⟩⟩, ⟨false, 0, ⟨#[]⟩⟩⟩ : SP)], 0, 3, 0) := by kernel_rfl
theorem lives_f {k : Nat} (hk : 10 ≤ k) : tithebarnlaw16_lives.f k = some true := by
 have h : tithebarnlaw16_lives.g 10 = some true := by
  unfold tithebarnlaw16_lives.g
  rw [applyA, Option.bind_some, applyB, Option.bind_some]
  kernel_rfl
 have h2 : tithebarnlaw16_lives.f 10 = some true := by unfold tithebarnlaw16_lives.f; rw [if_pos h]
 obtain ⟨d, rfl⟩ : ∃ d, k = 10 + d := ⟨k - 10, by omega⟩
 clear hk
 induction d with
 | zero => exact h2
 | succ d ih => exact tithebarnlaw16_lives.mono _ _ ih
end Go.Proofs.Ytagokgijffpdnaa.G
namespace Go.Proofs.Ytagokgijffpdnaa.G
open Go.RowKit Go.Proofs.YtagokgijffpdnaaQ Go.Proofs.YtagokgijffpdnaaW.PrintWords Go.Proofs.YtagokgijffpdnaaW.PrintLast Go.Proofs.YtagokgijffpdnaaW.PrintMore
set_option linter.unusedVariables false
set_option linter.unusedSimpArgs false
theorem get_f {k : Nat} (hk : 5 ≤ k) {s : ByteArray} (hs : 4 ≤ s.size) : frame_get.f k s = some (num4 (bytesOf s)) := frame_next.get_f hk hs
theorem rsum_f {s : ByteArray} (hs : s.size ≤ 4611686018427387904) : tithebarnref08_Sum.f s = some ((crc (bytesOf s) : Nat) : Int) := by unfold tithebarnref08_Sum.f; rw [if_pos hs]
def told (n : Nat) (acc : List ByteArray) : Option (List (List Int) × List Int) → List ByteArray × Int × Int
 | none => ([], 0, 8)
 | some (ts, q) => (acc ++ ts.map strOfNums, ((n - q.length : Nat) : Int), 0)
theorem told_cons (n : Nat) (acc : List ByteArray) (t : List Int) (o : Option (List (List Int) × List Int)) : told n acc (o.map fun p => (t :: p.1, p.2)) = told n (acc ++ [strOfNums t]) o := by
 cases o with
 | none => rfl
 | some p => simp [told]
theorem next_f {s : ByteArray} (hs : s.size ≤ 4611686018427387904) : frame_next.f s = some (match frI (bytesOf s) with | .part => (⟨#[]⟩, s, false, 0) | .bad => (⟨#[]⟩, s, false, 8) | .whole t r => (strOfNums t, strOfNums r, true, 0)) := by
 unfold frame_next.f; rw [if_pos hs]
 cases frI (bytesOf s) <;> rfl
theorem Scan_l0 (a0 : ByteArray) (ha : a0.size ≤ 67108864) : ∀ (n k : Nat) (acc : List ByteArray) (s : ByteArray), s.size ≤ n → n < k → s.size ≤ a0.size → acc.length + s.size < 8796093022208 →
  frame_Scan.l0 k a0 acc s = some (told a0.size acc (scan (bytesOf s))) := by
 intro n
 induction n with
 | zero =>
  intro k acc s hn hk hsa hl
  obtain ⟨k, rfl⟩ : ∃ m, k = m + 1 := ⟨k - 1, by omega⟩
  have h0 : bytesOf s = [] := (size_zero_iff s).1 (by omega)
  have hf : frI (bytesOf s) = .part := by rw [h0]; rfl
  simp only [frame_Scan.l0]
  rw [next_f (by omega), hf, scan_part hf]
  simp only [Option.bind_some]
  rw [if_pos trivial, if_neg (by simp), w64 (by omega) (by omega)]
  simp only [told, List.map_nil, List.append_nil, bytesOf_size]
  congr 3; omega
 | succ n ih =>
  intro k acc s hn hk hsa hl
  obtain ⟨k, rfl⟩ : ∃ m, k = m + 1 := ⟨k - 1, by omega⟩
  have hB := Bs.bytesOf s
  have hsz := bytesOf_size s
  simp only [frame_Scan.l0]
  rw [next_f (by omega)]
  simp only [Option.bind_some]
  cases hf : frI (bytesOf s) with
  | part =>
   simp only
   rw [if_pos trivial, if_neg (by simp), w64 (by omega) (by omega), scan_part hf]
   simp only [told, List.map_nil, List.append_nil, hsz]
   congr 3; omega
  | bad =>
   simp only
   rw [if_neg (by decide), scan_bad hf]; rfl
  | whole t r =>
   simp only
   have h1 := frI_whole hB hf
   obtain ⟨ht, hr⟩ := frI_rest_Bs hB hf
   rw [if_pos trivial, if_pos trivial, if_pos (by omega), ih k _ (strOfNums r) (by rw [size_strOfNums]; omega) (by omega) (by rw [size_strOfNums]; omega) (by rw [size_strOfNums]; simp; omega), bytesOf_strOfNums hr, scan_whole hB hf, told_cons]
theorem Scan_f {k : Nat} {s : ByteArray} (hs : s.size ≤ 67108864) (hk : s.size < k) : frame_Scan.f k s = some (told s.size [] (scan (bytesOf s))) := by
 unfold frame_Scan.f
 exact Scan_l0 s hs s.size k [] s (Nat.le_refl _) hk (Nat.le_refl _) (by simp; omega)
theorem num8_f {s : ByteArray} (hs : 4 ≤ s.size) : tithebarnref08_number.f s = some (num4 (bytesOf s)) := by
 unfold tithebarnref08_number.f
 have hB := Bs.bytesOf s
 have h0 := rd_Bs hB 0; have h1 := rd_Bs hB 1; have h2 := rd_Bs hB 2; have h3 := rd_Bs hB 3
 rw [if_pos (by omega), if_pos (by omega), if_pos (by omega), if_pos (by omega)]
 simp only [bt_rd]
 unfold num4
 congr 1; omega
theorem num8_at {s : ByteArray} {a : Nat} (h : a + 4 ≤ s.size) : tithebarnref08_number.f (s.extract a (a + 4)) = some (num4 ((bytesOf s).drop a)) := by
 rw [num8_f (by simp; omega), bytesOf_extract, List.drop_take]
 have e : a + 4 - a = 4 := by omega
 rw [e, num4_take _ 4 (Nat.le_refl _)]
theorem rScan_l0 (s : ByteArray) (hs : s.size ≤ 67108864) : ∀ (n k a : Nat) (acc : List ByteArray), s.size - a ≤ n → a ≤ s.size → n < k → acc.length + (s.size - a) < 8796093022208 →
  tithebarnref08_Scan.l0 k s acc a = some (told s.size acc (scan ((bytesOf s).drop a))) := by
 intro n
 induction n with
 | zero =>
  intro k a acc hn ha hk hl
  obtain ⟨k, rfl⟩ : ∃ m, k = m + 1 := ⟨k - 1, by omega⟩
  have hsz := bytesOf_size s
  have h0 : (bytesOf s).drop a = [] := List.drop_eq_nil_of_le (by omega)
  simp only [tithebarnref08_Scan.l0]
  rw [w64 (x := (s.size : Int) - (a : Int)) (by omega) (by omega), if_neg (by omega), h0, scan_part frI_nil]
  simp only [told, List.map_nil, List.append_nil, List.length_nil]
  congr 3; omega
 | succ n ih =>
  intro k a acc hn ha hk hl
  obtain ⟨k, rfl⟩ : ∃ m, k = m + 1 := ⟨k - 1, by omega⟩
  have hB := (Bs.bytesOf s).drop a
  have hsz := bytesOf_size s
  have hlen : ((bytesOf s).drop a).length = s.size - a := by rw [List.length_drop, hsz]
  have hnb := num4_bd hB
  simp only [tithebarnref08_Scan.l0]
  rw [w64 (x := (s.size : Int) - (a : Int)) (by omega) (by omega)]
  by_cases c1 : s.size - a < 4
  ·have hf : frI ((bytesOf s).drop a) = .part := by unfold frI; rw [if_pos (by omega)]
   rw [if_neg (by omega), scan_part hf]
   simp only [told, List.map_nil, List.append_nil, hlen]
   congr 3; omega
  ·have e4 : Aside0 (wrap64 ((a : Int) + 4) = ((a + 4 : Nat) : Int)) := ⟨by rw [w64 (by omega) (by omega)]; omega⟩
   rw [if_pos (by omega), if_pos (by omega), e4.out, if_pos (by omega), if_pos (by omega), Int.toNat_natCast, Int.toNat_natCast, num8_at (by omega)]
   simp only [Option.bind_some]
   obtain ⟨m, hm⟩ : ∃ m : Nat, num4 ((bytesOf s).drop a) = m := ⟨(num4 ((bytesOf s).drop a)).toNat, by omega⟩
   have hfr : frI ((bytesOf s).drop a) = if 1048576 < m then .bad else if s.size - a < m + 8 then .part else if num4 ((bytesOf s).drop (a + (4 + m))) = ((crc (((bytesOf s).drop (a + 4)).take m) : Nat) : Int) then .whole (((bytesOf s).drop (a + 4)).take m) ((bytesOf s).drop (a + (8 + m))) else .bad := by
    unfold frI
    rw [hm, hlen, if_neg c1]
    simp only [Int.toNat_natCast, List.drop_drop]
    by_cases c2 : 1048576 < m
    ·rw [if_pos (by omega), if_pos c2]
    ·rw [if_neg (by omega), if_neg c2]
     by_cases c3 : s.size - a < m + 8
     ·rw [if_pos (by omega), if_pos c3]
     ·rw [if_neg (by omega), if_neg c3]
   rw [hm]
   by_cases c2 : 1048576 < m
   ·rw [if_pos c2] at hfr
    rw [if_pos (by omega), scan_bad hfr]; rfl
   ·rw [if_neg c2] at hfr
    have em : Aside0 (wrap64 (m : Int) = (m : Int)) := ⟨w64 (by omega) (by omega)⟩
    have em8 : Aside0 (wrap64 ((m : Int) + 8) = ((m + 8 : Nat) : Int)) := ⟨by rw [w64 (by omega) (by omega)]; omega⟩
    rw [if_neg (by omega), em.out, em8.out]
    by_cases c3 : s.size - a < m + 8
    ·rw [if_pos c3] at hfr
     rw [if_pos (by omega), scan_part hfr]
     simp only [told, List.map_nil, List.append_nil, hlen]
     congr 3; omega
    ·rw [if_neg c3] at hfr
     have e5 : Aside0 (wrap64 (((a + 4 : Nat) : Int) + (m : Int)) = ((a + 4 + m : Nat) : Int)) := ⟨by rw [w64 (by omega) (by omega)]; omega⟩
     have e6 : Aside0 (wrap64 ((a : Int) + 8) = ((a + 8 : Nat) : Int)) := ⟨by rw [w64 (by omega) (by omega)]; omega⟩
     have e7 : Aside0 (wrap64 (((a + 8 : Nat) : Int) + (m : Int)) = ((a + 4 + m + 4 : Nat) : Int)) := ⟨by rw [w64 (by omega) (by omega)]; omega⟩
     have e8 : Aside0 (wrap64 ((a : Int) + ((m + 8 : Nat) : Int)) = ((a + (8 + m) : Nat) : Int)) := ⟨by rw [w64 (by omega) (by omega)]; omega⟩
     rw [if_neg (by omega), e5.out, e6.out, e7.out, e8.out, if_pos (by omega), if_pos (by omega), if_pos (by omega), if_pos (by omega), if_pos (by omega), if_pos (by omega), Int.toNat_natCast, Int.toNat_natCast, num8_at (by omega)]
     simp only [Option.bind_some]
     have htx : bytesOf (s.extract (a + 4) (a + 4 + m)) = ((bytesOf s).drop (a + 4)).take m := by
      rw [bytesOf_extract, List.drop_take]; congr 1; omega
     rw [rsum_f (by simp; omega)]
     simp only [Option.bind_some]
     rw [htx]
     have ea : a + (4 + m) = a + 4 + m := by omega
     rw [ea] at hfr
     by_cases c4 : num4 ((bytesOf s).drop (a + 4 + m)) = ((crc (((bytesOf s).drop (a + 4)).take m) : Nat) : Int)
     ·rw [if_pos c4] at hfr
      rw [if_pos c4, if_pos (by omega)]
      have htx2 : s.extract (a + 4) (a + 4 + m) = strOfNums (((bytesOf s).drop (a + 4)).take m) := by rw [← htx, strOfNums_bytesOf]
      rw [ih k (a + (8 + m)) _ (by omega) (by omega) (by omega) (by simp; omega), scan_whole hB hfr, told_cons, htx2]
     ·rw [if_neg c4] at hfr
      rw [if_neg c4, scan_bad hfr]; rfl
theorem rScan_f {k : Nat} {s : ByteArray} (hs : s.size ≤ 67108864) (hk : s.size < k) : tithebarnref08_Scan.f k s = some (told s.size [] (scan (bytesOf s))) := by
 unfold tithebarnref08_Scan.f
 have := rScan_l0 s hs s.size k 0 [] (by omega) (by omega) hk (by simp; omega)
 rw [List.drop_zero] at this
 exact this
end Go.Proofs.Ytagokgijffpdnaa.G
namespace Go.Proofs.Ytagokgijffpdnaa.G
open Go.RowKit Go.Proofs.YtagokgijffpdnaaQ Go.Proofs.YtagokgijffpdnaaW.PrintWords Go.Proofs.YtagokgijffpdnaaW.PrintLast Go.Proofs.YtagokgijffpdnaaW.PrintMore
attribute [local go_sem] max2_int min2_int max_two min_two max_three min_three max_four min_four   -- for this text's walks alone
set_option linter.unusedVariables false
set_option linter.unusedSimpArgs false
def tithebarnref16_Read.l0 : Nat → List ByteArray → Int → List (S36) → Int → Int → Option ((List (S36)) × Int × Int × Int)
 | 0, _, _, _, _, _ => none
 | k + 1, x4, x8, x501000, x501001, x501002 => if x8 < (x4.length : Int) then (if 0 ≤ x8 then ((tithebarnref16_edit.f k (rdOf ByteArray.empty x4 x8)).bind fun bt502 => (if bt502.2.2.2.2 = true then ((tithebarnref16_Apply.f k x501000 x501001 x501002 bt502.1 bt502.2.1 bt502.2.2.1 bt502.2.2.2.1).bind fun bt512 => (if bt512.2.2.2 = 0 then (tithebarnref16_Read.l0 k x4 (wrap64 (x8 + 1)) bt512.1 bt512.2.1 bt512.2.2.1) else (some (([] : List (S36)), 0, 0, 8)))) else (some (([] : List (S36)), 0, 0, 8)))) else (none)) else (some (x501000, x501001, x501002, 0))
def tithebarnref16_Read.f (k : Nat) (a0 : ByteArray) : Option ((List (S36)) × Int × Int × Int) := (tithebarnref08_Scan.f k a0).bind fun bt495 => (if bt495.2.2 = 0 then (tithebarnref16_Read.l0 k bt495.1 0 ([] : List (S36)) 0 0) else (some (([] : List (S36)), 0, 0, 8)))
theorem tithebarnref16_Read.mono_l : ∀ k, (∀ y0 y1 y2 y3 y4, LeO (tithebarnref16_Read.l0 k y0 y1 y2 y3 y4) (tithebarnref16_Read.l0 (k + 1) y0 y1 y2 y3 y4))
 | 0 => fun _ _ _ _ _ r h => by simp [tithebarnref16_Read.l0] at h
 | k + 1 => by
  have ih0 := tithebarnref16_Read.mono_l k
  ·intro y0 y1 y2 y3 y4
   unfold tithebarnref16_Read.l0
   repeat' first
   | (with_reducible exact ih0 _ _ _ _ _)
   | (with_reducible exact tithebarnref08_Scan.mono _ _)
   | (with_reducible exact tithebarnref16_Apply.mono _ _ _ _ _ _ _ _)
   | (with_reducible exact tithebarnref16_edit.mono _ _)
   | (with_reducible exact LeO.refl _)
   | (with_reducible exact LeO.none _)
   | (with_reducible refine LeO.ite ?_ ?_)
   | (with_reducible refine LeO.bind ?_ (fun _ => ?_))
   | exact ih0 _ _ _ _ _
   | exact tithebarnref08_Scan.mono _ _
   | exact tithebarnref16_Apply.mono _ _ _ _ _ _ _ _
   | exact tithebarnref16_edit.mono _ _
   | exact LeO.none _
   | refine LeO.ite ?_ ?_
   | refine LeO.bind ?_ (fun _ => ?_)
theorem tithebarnref16_Read.mono : ∀ a0 k, LeO (tithebarnref16_Read.f k a0) (tithebarnref16_Read.f (k + 1) a0) := by
 intro a0 k
 have ih0 := tithebarnref16_Read.mono_l k
 unfold tithebarnref16_Read.f
 repeat' first
   | (with_reducible exact ih0 _ _ _ _ _)
   | (with_reducible exact tithebarnref08_Scan.mono _ _)
   | (with_reducible exact tithebarnref16_Apply.mono _ _ _ _ _ _ _ _)
   | (with_reducible exact tithebarnref16_edit.mono _ _)
   | (with_reducible exact LeO.refl _)
   | (with_reducible exact LeO.none _)
   | (with_reducible refine LeO.ite ?_ ?_)
   | (with_reducible refine LeO.bind ?_ (fun _ => ?_))
   | exact ih0 _ _ _ _ _
   | exact tithebarnref08_Scan.mono _ _
   | exact tithebarnref16_Apply.mono _ _ _ _ _ _ _ _
   | exact tithebarnref16_edit.mono _ _
   | exact LeO.none _
   | refine LeO.ite ?_ ?_
   | refine LeO.bind ?_ (fun _ => ?_)
set_option maxHeartbeats 8000000 in
set_option maxRecDepth 100000 in
theorem tithebarnref16_Read.calls (k : Nat) (a0 : ByteArray) (r1 : List (S36)) (r2 : Int) (r3 : Int) (r4 : Int) (w : World) (h : tithebarnref16_Read.f k a0 = some (r1, r2, r3, r4)) :
  Calls Try.prog 16 #[.string a0] w fun e w' => ∃ v0_ : Value, e = .returned (.tuple #[.agg #[v0_, .int .i64 r2, .int .i64 r3], .int .i64 r4]) ∧ Kd.R k36 36 w' w.heap.size (fun _ => True) v0_ r1 ∧ Below w.heap.size w w' := by
 have hu26 := Try.underlying26
 have hu32 := Try.underlying32
 have HB := Aside0.mk (Below.refl w.heap.size w)
 have H : ((tithebarnref08_Scan.f k a0).bind fun bt495 => (if bt495.2.2 = 0 then (tithebarnref16_Read.l0 k bt495.1 0 ([] : List (S36)) 0 0) else (some (([] : List (S36)), 0, 0, 8)))) = some (r1, r2, r3, r4) := h
 clear h
 replace H := Option.bind_eq_some_iff.mp H
 obtain ⟨⟨t495, t496, t497⟩, A20, H⟩ := H
 replace H : (if t497 = 0 then (tithebarnref16_Read.l0 k t495 0 ([] : List (S36)) 0 0) else (some (([] : List (S36)), 0, 0, 8))) = some (r1, r2, r3, r4) := H
 have A2 := Aside0.mk A20
 clear A20
 by_cases c3 : t497 = 0
 ·rw [if_pos c3] at H
  have c3b0 : (t497 == 0) = true := beq_iff_eq.mpr c3
  have c3b1 : (t497 != 0) = false := bne_eq_false_iff_eq.mpr c3
  clear c3
  have H' := Aside0.mk H
  clear H
  go_enter Try.func16, Try.ntmps16
  go_wp2_with (first | ((with_reducible refine gate_dst (N := 2) rfl ?_); refine box_event ?hg (N := 2) ?hd (cs := #[.slice none 0 0, .int .i64 0, .int .i64 0]) (t := 26) ?hr ?_; (case hd => rfl); (case hg => rfl); (case hr => first | (go_simp; done) | (go_simp; rfl)); intro gb494 hg w4 hbox hb; have n0_ := Aside0.mk (below_step z1_ hb); have n1_ := Aside0.mk (hbox); have n2_ := Aside0.mk ((by rw [hg]; exact (below_size z1_) : w.heap.size ≤ gb494)); have n3_ := Aside0.mk ((by rw [hg]; exact (below_size z1_) : w.heap.size ≤ gb494)); clear HB; have HB := n0_; have BK494 := n1_; have GW494 := n2_; have GE494 := n3_; clear n0_ n1_ n2_ n3_; clear hb hbox hg) | ((with_reducible refine gate_callee (f := 31) rfl ?_); refine goesL_ (some 15) rfl rfl Try.func31 (by kernel_rfl) rfl #[.string a0] rfl (by (try simp only [List.map_toArray, List.map_cons, List.map_nil]); first | done | rfl | (simp only [List.length_drop, List.length_take]; rfl) | (go_simp; simp [IntKind.wrap, IntKind.bits, IntKind.signed]; omega)) ?_; (with_reducible refine (tithebarnref08_Scan.calls k a0 t495 t496 t497 _ A2.out).mono ?_); rintro e w5 ⟨v498, rfl, ho0, hb⟩; refine ⟨_, rfl, ?_⟩; have n0_ := Aside0.mk (Kd.R_lower ho0 (below_size z22_)); have n1_ := Aside0.mk (blk_below (g := gb494) (o := .cells #[.slice none 0 0, .int .i64 0, .int .i64 0] 26 (0, 0)) (by (with_reducible repeat (first | refine blk_drewN ?_ _ | refine blk_drew ?_ | refine blk_alloc ?_ _)); exact BK494.out) hb); have n2_ := Aside0.mk (below_step z22_ hb); clear BK494; clear HB; have HO499 := n0_; have BK494 := n1_; have HB := n2_; clear n0_ n1_ n2_; (try clear hb); (try clear hb2); (try clear hk); (try clear hi); (try clear ho0)) | ((with_reducible refine gate_dst (N := 7) rfl ?_); refine box_event ?hg (N := 7) ?hd (cs := #[.slice none 0 0, .int .i64 0, .int .i64 0]) (t := 26) ?hr ?_; (case hd => rfl); (case hg => rfl); (case hr => first | (go_simp; done) | (go_simp; rfl)); intro gb500 hg w6 hbox hb; have n0_ := Aside0.mk (Kd.R_below (by (with_reducible repeat (first | apply Kd.R_alloc | apply Kd.R_drewN | apply Kd.R_drew)); exact HO499.out) hb); have n1_ := Aside0.mk (blk_below (g := gb494) (o := .cells #[.slice none 0 0, .int .i64 0, .int .i64 0] 26 (0, 0)) (by (with_reducible repeat (first | refine blk_drewN ?_ _ | refine blk_drew ?_ | refine blk_alloc ?_ _)); exact BK494.out) hb); have n2_ := Aside0.mk (below_step z22_ hb); have n3_ := Aside0.mk (hbox); have n4_ := Aside0.mk ((by rw [hg]; exact (below_size z22_) : w.heap.size ≤ gb500)); have n5_ := Aside0.mk ((by rw [hg]; exact (below_size z22_) : w.heap.size ≤ gb500)); have n6_ := Aside0.mk ((by rw [hg]; exact Nat.ne_of_lt (blk_lt (g := gb494) (o := .cells #[.slice none 0 0, .int .i64 0, .int .i64 0] 26 (0, 0)) (by (with_reducible repeat (first | refine blk_drewN ?_ _ | refine blk_drew ?_ | refine blk_alloc ?_ _)); exact BK494.out)) : gb494 ≠ gb500)); have n7_ := Aside0.mk ((by rw [hg]; exact Nat.ne_of_gt (blk_lt (g := gb494) (o := .cells #[.slice none 0 0, .int .i64 0, .int .i64 0] 26 (0, 0)) (by (with_reducible repeat (first | refine blk_drewN ?_ _ | refine blk_drew ?_ | refine blk_alloc ?_ _)); exact BK494.out)) : gb500 ≠ gb494)); clear HO499; clear BK494; clear HB; have HO499 := n0_; have BK494 := n1_; have HB := n2_; have BK500 := n3_; have GW500 := n4_; have GE500 := n5_; have NB494_500 := n6_; have NB500_494 := n7_; clear n0_ n1_ n2_ n3_ n4_ n5_ n6_ n7_; clear hb hbox hg))
  go_loopg [8] k (fun kq v8 w' => ∃ (x8_1 : Int) (x495001_1 : Int) (x495002_1 : Int) (x501000_1 : List (S36)) (x501001_1 : Int) (x501002_1 : Int) (u501000 : Value), v8 = .int .i64 x8_1 ∧ Aside0 (tithebarnref16_Read.l0 kq t495 x8_1 x501000_1 x501001_1 x501002_1 = some (r1, r2, r3, r4)) ∧ Aside0 (kq ≤ k) ∧ Aside0 (Kd.R Kd.string 9 w' w.heap.size (fun _ => True) v498 t495) ∧ Aside0 (Kd.R k36 36 w' w.heap.size (fun _ => True) u501000 x501000_1) ∧ Aside0 (w'.heap[gb494]? = some (.cells #[(.slice none 0 0), .int .i64 x495001_1, .int .i64 x495002_1] 26 (0, 0))) ∧ Aside0 (w'.heap[gb500]? = some (.cells #[u501000, .int .i64 x501001_1, .int .i64 x501002_1] 26 (0, 0))) ∧ Aside0 (Below w.heap.size w w'))
  case atStart => exact ⟨(0), (0), (0), (([] : List (S36))), (0), (0), (.slice none 0 0), z7_, H', ⟨Nat.le_refl _⟩, ⟨by (with_reducible repeat (first | apply Kd.R_alloc | apply Kd.R_drewN | apply Kd.R_drew)); exact HO499.out⟩, ⟨z15_⟩, ⟨by (with_reducible repeat (first | refine blk_drewN ?_ _ | refine blk_drew ?_ | refine blk_alloc ?_ _)); exact BK494.out⟩, ⟨by (with_reducible repeat (first | refine blk_drewN ?_ _ | refine blk_drew ?_ | refine blk_alloc ?_ _)); exact BK500.out⟩, ⟨z8_⟩⟩
  case round =>
   clear H'
   try clear c1
   try clear p2
   try clear c3
   try clear c3b0
   try clear c3b1
   obtain ⟨x8_1, x495001_1, x495002_1, x501000_1, x501001_1, x501002_1, u501000, rfl, HA, HK1, HO_4, HO_501000, BK494, BK500, HB⟩ := hrel
   cases gk with
   | zero => exact absurd HA.out (by simp [tithebarnref16_Read.l0])
   | succ k1 =>
    have H := HA.out
    clear HA
    simp only [tithebarnref16_Read.l0] at H
    by_cases c7 : x8_1 < (t495.length : Int)
    ·rw [if_pos c7] at H
     have c7b0 : decide (x8_1 < (t495.length : Int)) = true := decide_eq_true c7
     clear c7
     by_cases c8 : 0 ≤ x8_1
     ·rw [if_pos c8] at H
      have c8b0 : decide (0 ≤ x8_1) = true := decide_eq_true c8
      clear c8
      replace H := Option.bind_eq_some_iff.mp H
      obtain ⟨⟨t502, t505, t508, t509, t510⟩, A90, H⟩ := H
      replace H : (if t510 = true then ((tithebarnref16_Apply.f k1 x501000_1 x501001_1 x501002_1 t502 t505 t508 t509).bind fun bt512 => (if bt512.2.2.2 = 0 then (tithebarnref16_Read.l0 k1 t495 (wrap64 (x8_1 + 1)) bt512.1 bt512.2.1 bt512.2.2.1) else (some (([] : List (S36)), 0, 0, 8)))) else (some (([] : List (S36)), 0, 0, 8))) = some (r1, r2, r3, r4) := H
      have A9 := Aside0.mk A90
      clear A90
      by_cases c10 : t510 = true
      ·subst c10
       have H1 : ((tithebarnref16_Apply.f k1 x501000_1 x501001_1 x501002_1 t502 t505 t508 t509).bind fun bt512 => (if bt512.2.2.2 = 0 then (tithebarnref16_Read.l0 k1 t495 (wrap64 (x8_1 + 1)) bt512.1 bt512.2.1 bt512.2.2.1) else (some (([] : List (S36)), 0, 0, 8)))) = some (r1, r2, r3, r4) := by rw [if_pos rfl] at H; exact H
       clear H
       have H := H1
       clear H1
       replace H := Option.bind_eq_some_iff.mp H
       obtain ⟨⟨t512, t515, t516, t517⟩, A110, H⟩ := H
       replace H : (if t517 = 0 then (tithebarnref16_Read.l0 k1 t495 (wrap64 (x8_1 + 1)) t512 t515 t516) else (some (([] : List (S36)), 0, 0, 8))) = some (r1, r2, r3, r4) := H
       have A11 := Aside0.mk A110
       clear A110
       by_cases c12 : t517 = 0
       ·rw [if_pos c12] at H
        have c12b0 : (t517 == 0) = true := beq_iff_eq.mpr c12
        have c12b1 : (t517 != 0) = false := bne_eq_false_iff_eq.mpr c12
        clear c12
        have H' := Aside0.mk H
        clear H
        obtain ⟨Ao13, co13, eo13⟩ := Kd.R_slice HO_4.out
        subst eo13
        have p501 : 0 ≤ (x8_1 : Int) := of_decide_eq_true z6_
        have q501 : x8_1 < (t495.length : Int) := of_decide_eq_true z6_
        obtain ⟨ad501, e501, hx501_0⟩ := Kd.at_string (Kd.R_reads' HO_4.out).2.2 x8_1 p501 q501
        cases e501
        replace p501 := eq_true p501
        replace q501 := eq_true q501
        go_wp2_with (first | ((with_reducible refine gate_callee (f := 32) rfl ?_); refine goesL_ (some 33) rfl rfl Try.func32 (by kernel_rfl) rfl #[.string (rdOf ByteArray.empty t495 x8_1)] rfl (by (try simp only [List.map_toArray, List.map_cons, List.map_nil]); first | done | rfl | (simp only [List.length_drop, List.length_take]; rfl) | (go_simp; simp [IntKind.wrap, IntKind.bits, IntKind.signed]; omega)) ?_; (with_reducible refine (tithebarnref16_edit.calls k1 (rdOf ByteArray.empty t495 x8_1) t502 t505 t508 t509 true _ A9.out).mono ?_); rintro e w14 ⟨v503, v506, rfl, ho0, ho1, hb⟩; refine ⟨_, rfl, ?_⟩; have n0_ := Aside0.mk (Kd.R_below (by (with_reducible repeat (first | apply Kd.R_alloc | apply Kd.R_drewN | apply Kd.R_drew)); exact HO_4.out) hb); have n1_ := Aside0.mk (Kd.R_elder' (by (with_reducible repeat (first | apply Kd.R_alloc | apply Kd.R_drewN | apply Kd.R_drew)); exact HO_501000.out) (Kd.R_base ho1) hb); have n2_ := Aside0.mk (Kd.R_lower ho0 (below_size z8_)); have n3_ := Aside0.mk (Kd.R_lower (Kd.R_new' ho1 (Kd.R_lt (by (with_reducible repeat (first | apply Kd.R_alloc | apply Kd.R_drewN | apply Kd.R_drew)); exact HO_501000.out))) (below_size z8_)); have n4_ := Aside0.mk (blk_below (g := gb494) (o := .cells #[.slice none 0 0, .int .i64 x495001_1, .int .i64 x495002_1] 26 (0, 0)) (by (with_reducible repeat (first | refine blk_drewN ?_ _ | refine blk_drew ?_ | refine blk_alloc ?_ _)); exact BK494.out) hb); have n5_ := Aside0.mk (blk_below (g := gb500) (o := .cells #[u501000, .int .i64 x501001_1, .int .i64 x501002_1] 26 (0, 0)) (by (with_reducible repeat (first | refine blk_drewN ?_ _ | refine blk_drew ?_ | refine blk_alloc ?_ _)); exact BK500.out) hb); have n6_ := Aside0.mk (below_step z8_ hb); clear HO_4; clear HO_501000; clear BK494; clear BK500; clear HB; have HO_4 := n0_; have HO_501000 := n1_; have HO504 := n2_; have HO507 := n3_; have BK494 := n4_; have BK500 := n5_; have HB := n6_; clear n0_ n1_ n2_ n3_ n4_ n5_ n6_; (try clear hb); (try clear hb2); (try clear hk); (try clear hi); (try clear ho0); (try clear ho1)) | ((with_reducible refine gate_dst (N := 9) rfl ?_); refine box_event ?hg (N := 9) ?hd (cs := #[.slice none 0 0, .slice none 0 0, .int .i64 0, .int .i64 0]) (t := 32) ?hr ?_; (case hd => rfl); (case hg => rfl); (case hr => first | (go_simp; done) | (go_simp; rfl)); intro gb511 hg w15 hbox hb; have n0_ := Aside0.mk (Kd.R_below (by (with_reducible repeat (first | apply Kd.R_alloc | apply Kd.R_drewN | apply Kd.R_drew)); exact HO_4.out) hb); have n1_ := Aside0.mk (Kd.R_below (by (with_reducible repeat (first | apply Kd.R_alloc | apply Kd.R_drewN | apply Kd.R_drew)); exact HO_501000.out) hb); have n2_ := Aside0.mk (Kd.R_below (by (with_reducible repeat (first | apply Kd.R_alloc | apply Kd.R_drewN | apply Kd.R_drew)); exact HO504.out) hb); have n3_ := Aside0.mk (Kd.R_below (by (with_reducible repeat (first | apply Kd.R_alloc | apply Kd.R_drewN | apply Kd.R_drew)); exact HO507.out) hb); have n4_ := Aside0.mk (blk_below (g := gb494) (o := .cells #[.slice none 0 0, .int .i64 x495001_1, .int .i64 x495002_1] 26 (0, 0)) (by (with_reducible repeat (first | refine blk_drewN ?_ _ | refine blk_drew ?_ | refine blk_alloc ?_ _)); exact BK494.out) hb); have n5_ := Aside0.mk (blk_below (g := gb500) (o := .cells #[u501000, .int .i64 x501001_1, .int .i64 x501002_1] 26 (0, 0)) (by (with_reducible repeat (first | refine blk_drewN ?_ _ | refine blk_drew ?_ | refine blk_alloc ?_ _)); exact BK500.out) hb); have n6_ := Aside0.mk (below_step z8_ hb); have n7_ := Aside0.mk (hbox); have n8_ := Aside0.mk ((by rw [hg]; exact (below_size z8_) : w.heap.size ≤ gb511)); have n9_ := Aside0.mk ((by rw [hg]; exact (below_size z8_) : w.heap.size ≤ gb511)); have n10_ := Aside0.mk ((by rw [hg]; exact Nat.ne_of_lt (blk_lt (g := gb494) (o := .cells #[.slice none 0 0, .int .i64 x495001_1, .int .i64 x495002_1] 26 (0, 0)) (by (with_reducible repeat (first | refine blk_drewN ?_ _ | refine blk_drew ?_ | refine blk_alloc ?_ _)); exact BK494.out)) : gb494 ≠ gb511)); have n11_ := Aside0.mk ((by rw [hg]; exact Nat.ne_of_gt (blk_lt (g := gb494) (o := .cells #[.slice none 0 0, .int .i64 x495001_1, .int .i64 x495002_1] 26 (0, 0)) (by (with_reducible repeat (first | refine blk_drewN ?_ _ | refine blk_drew ?_ | refine blk_alloc ?_ _)); exact BK494.out)) : gb511 ≠ gb494)); have n12_ := Aside0.mk ((by rw [hg]; exact Nat.ne_of_lt (blk_lt (g := gb500) (o := .cells #[u501000, .int .i64 x501001_1, .int .i64 x501002_1] 26 (0, 0)) (by (with_reducible repeat (first | refine blk_drewN ?_ _ | refine blk_drew ?_ | refine blk_alloc ?_ _)); exact BK500.out)) : gb500 ≠ gb511)); have n13_ := Aside0.mk ((by rw [hg]; exact Nat.ne_of_gt (blk_lt (g := gb500) (o := .cells #[u501000, .int .i64 x501001_1, .int .i64 x501002_1] 26 (0, 0)) (by (with_reducible repeat (first | refine blk_drewN ?_ _ | refine blk_drew ?_ | refine blk_alloc ?_ _)); exact BK500.out)) : gb511 ≠ gb500)); clear HO_4; clear HO_501000; clear HO504; clear HO507; clear BK494; clear BK500; clear HB; have HO_4 := n0_; have HO_501000 := n1_; have HO504 := n2_; have HO507 := n3_; have BK494 := n4_; have BK500 := n5_; have HB := n6_; have BK511 := n7_; have GW511 := n8_; have GE511 := n9_; have NB494_511 := n10_; have NB511_494 := n11_; have NB500_511 := n12_; have NB511_500 := n13_; clear n0_ n1_ n2_ n3_ n4_ n5_ n6_ n7_ n8_ n9_ n10_ n11_ n12_ n13_; clear hb hbox hg; obtain ⟨Ao16, co16, eo16⟩ := Kd.R_slice HO504.out; subst eo16; have hnb17 := NB511_494.out; have hnc17 := NB494_511.out; have hnb18 := NB511_500.out; have hnc18 := NB500_511.out; have hcz19_0 : w15.cell? ⟨gb511, 0, none⟩ = some (.slice none 0 0) := (blk_cell BK511.out 0).trans rfl; have hcz19_1 : w15.cell? ⟨gb511, 1, none⟩ = some (.slice none 0 0) := (blk_cell BK511.out 1).trans rfl; have hcz19_2 : w15.cell? ⟨gb511, 2, none⟩ = some (.int .i64 0) := (blk_cell BK511.out 2).trans rfl; have hcz19_3 : w15.cell? ⟨gb511, 3, none⟩ = some (.int .i64 0) := (blk_cell BK511.out 3).trans rfl; have hfz19_0 := blk_frozen BK511.out 0; have hfz19_1 := blk_frozen BK511.out 1; have hfz19_2 := blk_frozen BK511.out 2; have hfz19_3 := blk_frozen BK511.out 3; obtain ⟨Ao20, co20, eo20⟩ := Kd.R_slice HO507.out; subst eo20; have hnb21 := NB500_494.out; have hnc21 := NB494_500.out; have hcz22_0 : w15.cell? ⟨gb500, 0, none⟩ = some (u501000) := (blk_cell BK500.out 0).trans rfl; have hcz22_1 : w15.cell? ⟨gb500, 1, none⟩ = some (.int .i64 x501001_1) := (blk_cell BK500.out 1).trans rfl; have hcz22_2 : w15.cell? ⟨gb500, 2, none⟩ = some (.int .i64 x501002_1) := (blk_cell BK500.out 2).trans rfl; have hfz22_0 := blk_frozen BK500.out 0; have hfz22_1 := blk_frozen BK500.out 1; have hfz22_2 := blk_frozen BK500.out 2; obtain ⟨Ao23, co23, eo23⟩ := Kd.R_slice HO_501000.out; subst eo23) | ((with_reducible refine gate_callee (f := 14) rfl ?_); refine goesL_ (some 42) rfl rfl Try.func14 (by kernel_rfl) rfl #[.agg #[.slice Ao23 x501000_1.length co23, .int .i64 x501001_1, .int .i64 x501002_1], .agg #[.slice Ao16 t502.length co16, .slice Ao20 t505.length co20, .int .i64 t508, .int .i64 t509]] rfl (by (try simp only [List.map_toArray, List.map_cons, List.map_nil]); first | done | rfl | (simp only [List.length_drop, List.length_take]; rfl) | (go_simp; simp [IntKind.wrap, IntKind.bits, IntKind.signed]; omega)) ?_; (with_reducible refine (tithebarnref16_Apply.calls k1 _ _ x501000_1 x501001_1 x501002_1 _ _ t502 _ _ t505 t508 t509 t512 t515 t516 t517 _ ?side1 ?side2 ?side3 ?side4 ?side5 ?side6 A11.out).mono ?_); (case side1 => refine (Kd.R_reads' (e := 36) (base := w.heap.size) (ok := fun k_ => (True ∧ some k_ ≠ (.slice Ao20 t505.length co20 : Value).ownBlock)) (n := x501000_1.length) (c := co23) ?_).2.2; exact (by (with_reducible repeat (first | apply Kd.R_alloc | apply Kd.R_drewN | apply Kd.R_drew)); exact (Kd.R_mono (Kd.R_far (p := ⟨gb511, 3, none⟩) (Kd.R_far (p := ⟨gb511, 2, none⟩) (Kd.R_far (p := ⟨gb511, 1, none⟩) (Kd.R_far (p := ⟨gb511, 0, none⟩) (Kd.R_types HO_501000.out BK511.out (by decide)) (fun _ hk => hk.2) (.slice Ao16 t502.length co16)) (fun _ hk => hk.2) (.slice Ao20 t505.length co20)) (fun _ hk => hk.2) (.int .i64 t508)) (fun _ hk => hk.2) (.int .i64 t509)) (fun _ h_ => h_.1)))); (case side2 => exact (Kd.R_reads' HO_501000.out).2.1); (case side3 => refine (Kd.R_reads' (e := 3) (base := w.heap.size) (ok := fun k_ => True) (n := t502.length) (c := co16) ?_).2.2; exact (by (with_reducible repeat (first | apply Kd.R_alloc | apply Kd.R_drewN | apply Kd.R_drew)); exact (Kd.R_mono (Kd.R_far (p := ⟨gb511, 3, none⟩) (Kd.R_far (p := ⟨gb511, 2, none⟩) (Kd.R_far (p := ⟨gb511, 1, none⟩) (Kd.R_far (p := ⟨gb511, 0, none⟩) (Kd.R_types HO504.out BK511.out (by decide)) (fun _ hk => hk.2) (.slice Ao16 t502.length co16)) (fun _ hk => hk.2) (.slice Ao20 t505.length co20)) (fun _ hk => hk.2) (.int .i64 t508)) (fun _ hk => hk.2) (.int .i64 t509)) (fun _ h_ => h_.1)))); (case side4 => exact (Kd.R_reads' HO504.out).2.1); (case side5 => refine (Kd.R_reads' (e := 36) (base := w.heap.size) (ok := fun k_ => (True ∧ some k_ ≠ (.slice Ao23 x501000_1.length co23 : Value).ownBlock)) (n := t505.length) (c := co20) ?_).2.2; exact (by (with_reducible repeat (first | apply Kd.R_alloc | apply Kd.R_drewN | apply Kd.R_drew)); exact (Kd.R_mono (Kd.R_far (p := ⟨gb511, 3, none⟩) (Kd.R_far (p := ⟨gb511, 2, none⟩) (Kd.R_far (p := ⟨gb511, 1, none⟩) (Kd.R_far (p := ⟨gb511, 0, none⟩) (Kd.R_types HO507.out BK511.out (by decide)) (fun _ hk => hk.2) (.slice Ao16 t502.length co16)) (fun _ hk => hk.2) (.slice Ao20 t505.length co20)) (fun _ hk => hk.2) (.int .i64 t508)) (fun _ hk => hk.2) (.int .i64 t509)) (fun _ h_ => h_.1)))); (case side6 => exact (Kd.R_reads' HO507.out).2.1); rintro e w24 ⟨v513, rfl, ho0, hb⟩; refine ⟨_, rfl, ?_⟩; have n0_ := Aside0.mk (Kd.R_below (by (with_reducible repeat (first | apply Kd.R_alloc | apply Kd.R_drewN | apply Kd.R_drew)); exact (Kd.R_mono (Kd.R_far (p := ⟨gb511, 3, none⟩) (Kd.R_far (p := ⟨gb511, 2, none⟩) (Kd.R_far (p := ⟨gb511, 1, none⟩) (Kd.R_far (p := ⟨gb511, 0, none⟩) (Kd.R_types HO_4.out BK511.out (by decide)) (fun _ hk => hk.2) (.slice Ao16 t502.length co16)) (fun _ hk => hk.2) (.slice Ao20 t505.length co20)) (fun _ hk => hk.2) (.int .i64 t508)) (fun _ hk => hk.2) (.int .i64 t509)) (fun _ h_ => h_.1))) hb); have n1_ := Aside0.mk (Kd.R_elder' (by (with_reducible repeat (first | apply Kd.R_alloc | apply Kd.R_drewN | apply Kd.R_drew)); exact (Kd.R_mono (Kd.R_far (p := ⟨gb511, 3, none⟩) (Kd.R_far (p := ⟨gb511, 2, none⟩) (Kd.R_far (p := ⟨gb511, 1, none⟩) (Kd.R_far (p := ⟨gb511, 0, none⟩) (Kd.R_types HO_501000.out BK511.out (by decide)) (fun _ hk => hk.2) (.slice Ao16 t502.length co16)) (fun _ hk => hk.2) (.slice Ao20 t505.length co20)) (fun _ hk => hk.2) (.int .i64 t508)) (fun _ hk => hk.2) (.int .i64 t509)) (fun _ h_ => h_.1))) (Kd.R_base ho0) hb); have n2_ := Aside0.mk (Kd.R_below (by (with_reducible repeat (first | apply Kd.R_alloc | apply Kd.R_drewN | apply Kd.R_drew)); exact (Kd.R_mono (Kd.R_far (p := ⟨gb511, 3, none⟩) (Kd.R_far (p := ⟨gb511, 2, none⟩) (Kd.R_far (p := ⟨gb511, 1, none⟩) (Kd.R_far (p := ⟨gb511, 0, none⟩) (Kd.R_types HO504.out BK511.out (by decide)) (fun _ hk => hk.2) (.slice Ao16 t502.length co16)) (fun _ hk => hk.2) (.slice Ao20 t505.length co20)) (fun _ hk => hk.2) (.int .i64 t508)) (fun _ hk => hk.2) (.int .i64 t509)) (fun _ h_ => h_.1))) hb); have n3_ := Aside0.mk (Kd.R_elder' (by (with_reducible repeat (first | apply Kd.R_alloc | apply Kd.R_drewN | apply Kd.R_drew)); exact (Kd.R_mono (Kd.R_far (p := ⟨gb511, 3, none⟩) (Kd.R_far (p := ⟨gb511, 2, none⟩) (Kd.R_far (p := ⟨gb511, 1, none⟩) (Kd.R_far (p := ⟨gb511, 0, none⟩) (Kd.R_types HO507.out BK511.out (by decide)) (fun _ hk => hk.2) (.slice Ao16 t502.length co16)) (fun _ hk => hk.2) (.slice Ao20 t505.length co20)) (fun _ hk => hk.2) (.int .i64 t508)) (fun _ hk => hk.2) (.int .i64 t509)) (fun _ h_ => h_.1))) (Kd.R_base ho0) hb); have n4_ := Aside0.mk (Kd.R_lower (Kd.R_new' (Kd.R_new' ho0 (Kd.R_lt (by (with_reducible repeat (first | apply Kd.R_alloc | apply Kd.R_drewN | apply Kd.R_drew)); exact (Kd.R_mono (Kd.R_far (p := ⟨gb511, 3, none⟩) (Kd.R_far (p := ⟨gb511, 2, none⟩) (Kd.R_far (p := ⟨gb511, 1, none⟩) (Kd.R_far (p := ⟨gb511, 0, none⟩) (Kd.R_types HO_501000.out BK511.out (by decide)) (fun _ hk => hk.2) (.slice Ao16 t502.length co16)) (fun _ hk => hk.2) (.slice Ao20 t505.length co20)) (fun _ hk => hk.2) (.int .i64 t508)) (fun _ hk => hk.2) (.int .i64 t509)) (fun _ h_ => h_.1))))) (Kd.R_lt (by (with_reducible repeat (first | apply Kd.R_alloc | apply Kd.R_drewN | apply Kd.R_drew)); exact (Kd.R_mono (Kd.R_far (p := ⟨gb511, 3, none⟩) (Kd.R_far (p := ⟨gb511, 2, none⟩) (Kd.R_far (p := ⟨gb511, 1, none⟩) (Kd.R_far (p := ⟨gb511, 0, none⟩) (Kd.R_types HO507.out BK511.out (by decide)) (fun _ hk => hk.2) (.slice Ao16 t502.length co16)) (fun _ hk => hk.2) (.slice Ao20 t505.length co20)) (fun _ hk => hk.2) (.int .i64 t508)) (fun _ hk => hk.2) (.int .i64 t509)) (fun _ h_ => h_.1))))) (below_size z11_)); have n5_ := Aside0.mk (blk_below (g := gb494) (o := .cells #[.slice none 0 0, .int .i64 x495001_1, .int .i64 x495002_1] 26 (0, 0)) (by (with_reducible repeat (first | refine blk_drewN ?_ _ | refine blk_drew ?_ | refine blk_alloc ?_ _)); refine blk_far ?_ NB494_511.out _; (with_reducible repeat (first | refine blk_drewN ?_ _ | refine blk_drew ?_ | refine blk_alloc ?_ _)); refine blk_far ?_ NB494_511.out _; (with_reducible repeat (first | refine blk_drewN ?_ _ | refine blk_drew ?_ | refine blk_alloc ?_ _)); refine blk_far ?_ NB494_511.out _; (with_reducible repeat (first | refine blk_drewN ?_ _ | refine blk_drew ?_ | refine blk_alloc ?_ _)); refine blk_far ?_ NB494_511.out _; (with_reducible repeat (first | refine blk_drewN ?_ _ | refine blk_drew ?_ | refine blk_alloc ?_ _)); exact BK494.out) hb); have n6_ := Aside0.mk (blk_below (g := gb500) (o := .cells #[.slice Ao23 x501000_1.length co23, .int .i64 x501001_1, .int .i64 x501002_1] 26 (0, 0)) (by (with_reducible repeat (first | refine blk_drewN ?_ _ | refine blk_drew ?_ | refine blk_alloc ?_ _)); refine blk_far ?_ NB500_511.out _; (with_reducible repeat (first | refine blk_drewN ?_ _ | refine blk_drew ?_ | refine blk_alloc ?_ _)); refine blk_far ?_ NB500_511.out _; (with_reducible repeat (first | refine blk_drewN ?_ _ | refine blk_drew ?_ | refine blk_alloc ?_ _)); refine blk_far ?_ NB500_511.out _; (with_reducible repeat (first | refine blk_drewN ?_ _ | refine blk_drew ?_ | refine blk_alloc ?_ _)); refine blk_far ?_ NB500_511.out _; (with_reducible repeat (first | refine blk_drewN ?_ _ | refine blk_drew ?_ | refine blk_alloc ?_ _)); exact BK500.out) hb); have n7_ := Aside0.mk (blk_below (g := gb511) (o := .cells #[.slice Ao16 t502.length co16, .slice Ao20 t505.length co20, .int .i64 t508, .int .i64 t509] 32 (0, 0)) (by (with_reducible repeat (first | refine blk_drewN ?_ _ | refine blk_drew ?_ | refine blk_alloc ?_ _)); refine blk_put (cs := #[.slice Ao16 t502.length co16, .slice Ao20 t505.length co20, .int .i64 t508, .int .i64 0]) ?_ 3 _ rfl; (with_reducible repeat (first | refine blk_drewN ?_ _ | refine blk_drew ?_ | refine blk_alloc ?_ _)); refine blk_put (cs := #[.slice Ao16 t502.length co16, .slice Ao20 t505.length co20, .int .i64 0, .int .i64 0]) ?_ 2 _ rfl; (with_reducible repeat (first | refine blk_drewN ?_ _ | refine blk_drew ?_ | refine blk_alloc ?_ _)); refine blk_put (cs := #[.slice Ao16 t502.length co16, .slice none 0 0, .int .i64 0, .int .i64 0]) ?_ 1 _ rfl; (with_reducible repeat (first | refine blk_drewN ?_ _ | refine blk_drew ?_ | refine blk_alloc ?_ _)); refine blk_put (cs := #[.slice none 0 0, .slice none 0 0, .int .i64 0, .int .i64 0]) ?_ 0 _ rfl; (with_reducible repeat (first | refine blk_drewN ?_ _ | refine blk_drew ?_ | refine blk_alloc ?_ _)); exact BK511.out) hb); have n8_ := Aside0.mk (below_step z11_ hb); clear HO_4; clear HO_501000; clear HO504; clear HO507; clear BK494; clear BK500; clear BK511; clear HB; have HO_4 := n0_; have HO_501000 := n1_; have HO504 := n2_; have HO507 := n3_; have HO514 := n4_; have BK494 := n5_; have BK500 := n6_; have BK511 := n7_; have HB := n8_; clear n0_ n1_ n2_ n3_ n4_ n5_ n6_ n7_ n8_; (try clear hb); (try clear hb2); (try clear hk); (try clear hi); (try clear ho0)) | ((with_reducible refine gate_dst (N := 11) rfl ?_); refine box_event ?hg (N := 11) ?hd (cs := #[.slice none 0 0, .int .i64 0, .int .i64 0]) (t := 26) ?hr ?_; (case hd => rfl); (case hg => rfl); (case hr => first | (go_simp; done) | (go_simp; rfl)); intro gb518 hg w25 hbox hb; have n0_ := Aside0.mk (Kd.R_below (by (with_reducible repeat (first | apply Kd.R_alloc | apply Kd.R_drewN | apply Kd.R_drew)); exact HO_4.out) hb); have n1_ := Aside0.mk (Kd.R_below (by (with_reducible repeat (first | apply Kd.R_alloc | apply Kd.R_drewN | apply Kd.R_drew)); exact HO_501000.out) hb); have n2_ := Aside0.mk (Kd.R_below (by (with_reducible repeat (first | apply Kd.R_alloc | apply Kd.R_drewN | apply Kd.R_drew)); exact HO504.out) hb); have n3_ := Aside0.mk (Kd.R_below (by (with_reducible repeat (first | apply Kd.R_alloc | apply Kd.R_drewN | apply Kd.R_drew)); exact HO507.out) hb); have n4_ := Aside0.mk (Kd.R_below (by (with_reducible repeat (first | apply Kd.R_alloc | apply Kd.R_drewN | apply Kd.R_drew)); exact HO514.out) hb); have n5_ := Aside0.mk (blk_below (g := gb494) (o := .cells #[.slice none 0 0, .int .i64 x495001_1, .int .i64 x495002_1] 26 (0, 0)) (by (with_reducible repeat (first | refine blk_drewN ?_ _ | refine blk_drew ?_ | refine blk_alloc ?_ _)); exact BK494.out) hb); have n6_ := Aside0.mk (blk_below (g := gb500) (o := .cells #[.slice Ao23 x501000_1.length co23, .int .i64 x501001_1, .int .i64 x501002_1] 26 (0, 0)) (by (with_reducible repeat (first | refine blk_drewN ?_ _ | refine blk_drew ?_ | refine blk_alloc ?_ _)); exact BK500.out) hb); have n7_ := Aside0.mk (blk_below (g := gb511) (o := .cells #[.slice Ao16 t502.length co16, .slice Ao20 t505.length co20, .int .i64 t508, .int .i64 t509] 32 (0, 0)) (by (with_reducible repeat (first | refine blk_drewN ?_ _ | refine blk_drew ?_ | refine blk_alloc ?_ _)); exact BK511.out) hb); have n8_ := Aside0.mk (below_step z11_ hb); have n9_ := Aside0.mk (hbox); have n10_ := Aside0.mk ((by rw [hg]; exact (below_size z11_) : w.heap.size ≤ gb518)); have n11_ := Aside0.mk ((by rw [hg]; exact (below_size z11_) : w.heap.size ≤ gb518)); have n12_ := Aside0.mk ((by rw [hg]; exact Nat.ne_of_lt (blk_lt (g := gb494) (o := .cells #[.slice none 0 0, .int .i64 x495001_1, .int .i64 x495002_1] 26 (0, 0)) (by (with_reducible repeat (first | refine blk_drewN ?_ _ | refine blk_drew ?_ | refine blk_alloc ?_ _)); exact BK494.out)) : gb494 ≠ gb518)); have n13_ := Aside0.mk ((by rw [hg]; exact Nat.ne_of_gt (blk_lt (g := gb494) (o := .cells #[.slice none 0 0, .int .i64 x495001_1, .int .i64 x495002_1] 26 (0, 0)) (by (with_reducible repeat (first | refine blk_drewN ?_ _ | refine blk_drew ?_ | refine blk_alloc ?_ _)); exact BK494.out)) : gb518 ≠ gb494)); have n14_ := Aside0.mk ((by rw [hg]; exact Nat.ne_of_lt (blk_lt (g := gb500) (o := .cells #[.slice Ao23 x501000_1.length co23, .int .i64 x501001_1, .int .i64 x501002_1] 26 (0, 0)) (by (with_reducible repeat (first | refine blk_drewN ?_ _ | refine blk_drew ?_ | refine blk_alloc ?_ _)); exact BK500.out)) : gb500 ≠ gb518)); have n15_ := Aside0.mk ((by rw [hg]; exact Nat.ne_of_gt (blk_lt (g := gb500) (o := .cells #[.slice Ao23 x501000_1.length co23, .int .i64 x501001_1, .int .i64 x501002_1] 26 (0, 0)) (by (with_reducible repeat (first | refine blk_drewN ?_ _ | refine blk_drew ?_ | refine blk_alloc ?_ _)); exact BK500.out)) : gb518 ≠ gb500)); have n16_ := Aside0.mk ((by rw [hg]; exact Nat.ne_of_lt (blk_lt (g := gb511) (o := .cells #[.slice Ao16 t502.length co16, .slice Ao20 t505.length co20, .int .i64 t508, .int .i64 t509] 32 (0, 0)) (by (with_reducible repeat (first | refine blk_drewN ?_ _ | refine blk_drew ?_ | refine blk_alloc ?_ _)); exact BK511.out)) : gb511 ≠ gb518)); have n17_ := Aside0.mk ((by rw [hg]; exact Nat.ne_of_gt (blk_lt (g := gb511) (o := .cells #[.slice Ao16 t502.length co16, .slice Ao20 t505.length co20, .int .i64 t508, .int .i64 t509] 32 (0, 0)) (by (with_reducible repeat (first | refine blk_drewN ?_ _ | refine blk_drew ?_ | refine blk_alloc ?_ _)); exact BK511.out)) : gb518 ≠ gb511)); clear HO_4; clear HO_501000; clear HO504; clear HO507; clear HO514; clear BK494; clear BK500; clear BK511; clear HB; have HO_4 := n0_; have HO_501000 := n1_; have HO504 := n2_; have HO507 := n3_; have HO514 := n4_; have BK494 := n5_; have BK500 := n6_; have BK511 := n7_; have HB := n8_; have BK518 := n9_; have GW518 := n10_; have GE518 := n11_; have NB494_518 := n12_; have NB518_494 := n13_; have NB500_518 := n14_; have NB518_500 := n15_; have NB511_518 := n16_; have NB518_511 := n17_; clear n0_ n1_ n2_ n3_ n4_ n5_ n6_ n7_ n8_ n9_ n10_ n11_ n12_ n13_ n14_ n15_ n16_ n17_; clear hb hbox hg; obtain ⟨Ao26, co26, eo26⟩ := Kd.R_slice HO514.out; subst eo26; have hnb27 := NB518_494.out; have hnc27 := NB494_518.out; have hnb28 := NB518_500.out; have hnc28 := NB500_518.out; have hnb29 := NB518_511.out; have hnc29 := NB511_518.out; have hcz30_0 : w25.cell? ⟨gb518, 0, none⟩ = some (.slice none 0 0) := (blk_cell BK518.out 0).trans rfl; have hcz30_1 : w25.cell? ⟨gb518, 1, none⟩ = some (.int .i64 0) := (blk_cell BK518.out 1).trans rfl; have hcz30_2 : w25.cell? ⟨gb518, 2, none⟩ = some (.int .i64 0) := (blk_cell BK518.out 2).trans rfl; have hfz30_0 := blk_frozen BK518.out 0; have hfz30_1 := blk_frozen BK518.out 1; have hfz30_2 := blk_frozen BK518.out 2; have hcz31_0 : w25.cell? ⟨gb500, 0, none⟩ = some (.slice Ao23 x501000_1.length co23) := (blk_cell BK500.out 0).trans rfl; have hcz31_1 : w25.cell? ⟨gb500, 1, none⟩ = some (.int .i64 x501001_1) := (blk_cell BK500.out 1).trans rfl; have hcz31_2 : w25.cell? ⟨gb500, 2, none⟩ = some (.int .i64 x501002_1) := (blk_cell BK500.out 2).trans rfl; have hfz31_0 := blk_frozen BK500.out 0; have hfz31_1 := blk_frozen BK500.out 1; have hfz31_2 := blk_frozen BK500.out 2))
        go_roundg k1
        case measure => have := HK1.out; omega
        case rel => exact ⟨(wrap64 (x8_1 + 1)), (x495001_1), (x495002_1), (t512), (t515), (t516), (.slice Ao26 t512.length co26), z7_, H', ⟨by have := HK1.out; omega⟩, ⟨by (with_reducible repeat (first | apply Kd.R_alloc | apply Kd.R_drewN | apply Kd.R_drew)); exact Kd.R_mono (Kd.R_far (p := ⟨gb500, 2, none⟩) (Kd.R_far (p := ⟨gb500, 1, none⟩) (Kd.R_far (p := ⟨gb500, 0, none⟩) (Kd.R_far (p := ⟨gb518, 2, none⟩) (Kd.R_far (p := ⟨gb518, 1, none⟩) (Kd.R_far (p := ⟨gb518, 0, none⟩) (Kd.R_types (Kd.R_types HO_4.out BK518.out (by decide)) BK500.out (by decide)) (fun _ hk => hk.1.2) (.slice Ao26 t512.length co26)) (fun _ hk => hk.1.2) (.int .i64 t515)) (fun _ hk => hk.1.2) (.int .i64 t516)) (fun _ hk => hk.2) (.slice Ao26 t512.length co26)) (fun _ hk => hk.2) (.int .i64 t515)) (fun _ hk => hk.2) (.int .i64 t516)) (fun _ hk => trivial)⟩, ⟨by (with_reducible repeat (first | apply Kd.R_alloc | apply Kd.R_drewN | apply Kd.R_drew)); exact Kd.R_mono (Kd.R_far (p := ⟨gb500, 2, none⟩) (Kd.R_far (p := ⟨gb500, 1, none⟩) (Kd.R_far (p := ⟨gb500, 0, none⟩) (Kd.R_far (p := ⟨gb518, 2, none⟩) (Kd.R_far (p := ⟨gb518, 1, none⟩) (Kd.R_far (p := ⟨gb518, 0, none⟩) (Kd.R_types (Kd.R_types HO514.out BK518.out (by decide)) BK500.out (by decide)) (fun _ hk => hk.1.2) (.slice Ao26 t512.length co26)) (fun _ hk => hk.1.2) (.int .i64 t515)) (fun _ hk => hk.1.2) (.int .i64 t516)) (fun _ hk => hk.2) (.slice Ao26 t512.length co26)) (fun _ hk => hk.2) (.int .i64 t515)) (fun _ hk => hk.2) (.int .i64 t516)) (fun _ hk => trivial)⟩, ⟨by (with_reducible repeat (first | refine blk_drewN ?_ _ | refine blk_drew ?_ | refine blk_alloc ?_ _)); refine blk_far ?_ NB494_500.out _; (with_reducible repeat (first | refine blk_drewN ?_ _ | refine blk_drew ?_ | refine blk_alloc ?_ _)); refine blk_far ?_ NB494_500.out _; (with_reducible repeat (first | refine blk_drewN ?_ _ | refine blk_drew ?_ | refine blk_alloc ?_ _)); refine blk_far ?_ NB494_500.out _; (with_reducible repeat (first | refine blk_drewN ?_ _ | refine blk_drew ?_ | refine blk_alloc ?_ _)); refine blk_far ?_ NB494_518.out _; (with_reducible repeat (first | refine blk_drewN ?_ _ | refine blk_drew ?_ | refine blk_alloc ?_ _)); refine blk_far ?_ NB494_518.out _; (with_reducible repeat (first | refine blk_drewN ?_ _ | refine blk_drew ?_ | refine blk_alloc ?_ _)); refine blk_far ?_ NB494_518.out _; (with_reducible repeat (first | refine blk_drewN ?_ _ | refine blk_drew ?_ | refine blk_alloc ?_ _)); exact BK494.out⟩, ⟨by (with_reducible repeat (first | refine blk_drewN ?_ _ | refine blk_drew ?_ | refine blk_alloc ?_ _)); refine blk_put (cs := #[.slice Ao26 t512.length co26, .int .i64 t515, .int .i64 x501002_1]) ?_ 2 _ rfl; (with_reducible repeat (first | refine blk_drewN ?_ _ | refine blk_drew ?_ | refine blk_alloc ?_ _)); refine blk_put (cs := #[.slice Ao26 t512.length co26, .int .i64 x501001_1, .int .i64 x501002_1]) ?_ 1 _ rfl; (with_reducible repeat (first | refine blk_drewN ?_ _ | refine blk_drew ?_ | refine blk_alloc ?_ _)); refine blk_put (cs := #[.slice Ao23 x501000_1.length co23, .int .i64 x501001_1, .int .i64 x501002_1]) ?_ 0 _ rfl; (with_reducible repeat (first | refine blk_drewN ?_ _ | refine blk_drew ?_ | refine blk_alloc ?_ _)); refine blk_far ?_ NB500_518.out _; (with_reducible repeat (first | refine blk_drewN ?_ _ | refine blk_drew ?_ | refine blk_alloc ?_ _)); refine blk_far ?_ NB500_518.out _; (with_reducible repeat (first | refine blk_drewN ?_ _ | refine blk_drew ?_ | refine blk_alloc ?_ _)); refine blk_far ?_ NB500_518.out _; (with_reducible repeat (first | refine blk_drewN ?_ _ | refine blk_drew ?_ | refine blk_alloc ?_ _)); exact BK500.out⟩, ⟨by repeat (first | (with_reducible first | exact HB.out | apply below_alloc | apply pw_below_drewN | apply below_drew1 | refine below_set ?_ GE494.out | refine below_set ?_ GE500.out | refine below_set ?_ GE511.out | refine below_set ?_ GE518.out) | exact HB.out)⟩⟩
       ·rw [if_neg c12] at H
        have c12b0 : (t517 == 0) = false := beq_eq_false_iff_ne.mpr c12
        have c12b1 : (t517 != 0) = true := bne_iff_ne.mpr c12
        simp only [Option.some.injEq, Prod.mk.injEq] at H
        obtain ⟨rfl, rfl, rfl, rfl⟩ := H
        obtain ⟨Ao32, co32, eo32⟩ := Kd.R_slice HO_4.out
        subst eo32
        have p501 : 0 ≤ (x8_1 : Int) := of_decide_eq_true z6_
        have q501 : x8_1 < (t495.length : Int) := of_decide_eq_true z6_
        obtain ⟨ad501, e501, hx501_0⟩ := Kd.at_string (Kd.R_reads' HO_4.out).2.2 x8_1 p501 q501
        cases e501
        replace p501 := eq_true p501
        replace q501 := eq_true q501
        go_wp2_with (first | ((with_reducible refine gate_callee (f := 32) rfl ?_); refine goesL_ (some 33) rfl rfl Try.func32 (by kernel_rfl) rfl #[.string (rdOf ByteArray.empty t495 x8_1)] rfl (by (try simp only [List.map_toArray, List.map_cons, List.map_nil]); first | done | rfl | (simp only [List.length_drop, List.length_take]; rfl) | (go_simp; simp [IntKind.wrap, IntKind.bits, IntKind.signed]; omega)) ?_; (with_reducible refine (tithebarnref16_edit.calls k1 (rdOf ByteArray.empty t495 x8_1) t502 t505 t508 t509 true _ A9.out).mono ?_); rintro e w33 ⟨v503, v506, rfl, ho0, ho1, hb⟩; refine ⟨_, rfl, ?_⟩; have n0_ := Aside0.mk (Kd.R_below (by (with_reducible repeat (first | apply Kd.R_alloc | apply Kd.R_drewN | apply Kd.R_drew)); exact HO_4.out) hb); have n1_ := Aside0.mk (Kd.R_elder' (by (with_reducible repeat (first | apply Kd.R_alloc | apply Kd.R_drewN | apply Kd.R_drew)); exact HO_501000.out) (Kd.R_base ho1) hb); have n2_ := Aside0.mk (Kd.R_lower ho0 (below_size z8_)); have n3_ := Aside0.mk (Kd.R_lower (Kd.R_new' ho1 (Kd.R_lt (by (with_reducible repeat (first | apply Kd.R_alloc | apply Kd.R_drewN | apply Kd.R_drew)); exact HO_501000.out))) (below_size z8_)); have n4_ := Aside0.mk (blk_below (g := gb494) (o := .cells #[.slice none 0 0, .int .i64 x495001_1, .int .i64 x495002_1] 26 (0, 0)) (by (with_reducible repeat (first | refine blk_drewN ?_ _ | refine blk_drew ?_ | refine blk_alloc ?_ _)); exact BK494.out) hb); have n5_ := Aside0.mk (blk_below (g := gb500) (o := .cells #[u501000, .int .i64 x501001_1, .int .i64 x501002_1] 26 (0, 0)) (by (with_reducible repeat (first | refine blk_drewN ?_ _ | refine blk_drew ?_ | refine blk_alloc ?_ _)); exact BK500.out) hb); have n6_ := Aside0.mk (below_step z8_ hb); clear HO_4; clear HO_501000; clear BK494; clear BK500; clear HB; have HO_4 := n0_; have HO_501000 := n1_; have HO504 := n2_; have HO507 := n3_; have BK494 := n4_; have BK500 := n5_; have HB := n6_; clear n0_ n1_ n2_ n3_ n4_ n5_ n6_; (try clear hb); (try clear hb2); (try clear hk); (try clear hi); (try clear ho0); (try clear ho1)) | ((with_reducible refine gate_dst (N := 9) rfl ?_); refine box_event ?hg (N := 9) ?hd (cs := #[.slice none 0 0, .slice none 0 0, .int .i64 0, .int .i64 0]) (t := 32) ?hr ?_; (case hd => rfl); (case hg => rfl); (case hr => first | (go_simp; done) | (go_simp; rfl)); intro gb511 hg w34 hbox hb; have n0_ := Aside0.mk (Kd.R_below (by (with_reducible repeat (first | apply Kd.R_alloc | apply Kd.R_drewN | apply Kd.R_drew)); exact HO_4.out) hb); have n1_ := Aside0.mk (Kd.R_below (by (with_reducible repeat (first | apply Kd.R_alloc | apply Kd.R_drewN | apply Kd.R_drew)); exact HO_501000.out) hb); have n2_ := Aside0.mk (Kd.R_below (by (with_reducible repeat (first | apply Kd.R_alloc | apply Kd.R_drewN | apply Kd.R_drew)); exact HO504.out) hb); have n3_ := Aside0.mk (Kd.R_below (by (with_reducible repeat (first | apply Kd.R_alloc | apply Kd.R_drewN | apply Kd.R_drew)); exact HO507.out) hb); have n4_ := Aside0.mk (blk_below (g := gb494) (o := .cells #[.slice none 0 0, .int .i64 x495001_1, .int .i64 x495002_1] 26 (0, 0)) (by (with_reducible repeat (first | refine blk_drewN ?_ _ | refine blk_drew ?_ | refine blk_alloc ?_ _)); exact BK494.out) hb); have n5_ := Aside0.mk (blk_below (g := gb500) (o := .cells #[u501000, .int .i64 x501001_1, .int .i64 x501002_1] 26 (0, 0)) (by (with_reducible repeat (first | refine blk_drewN ?_ _ | refine blk_drew ?_ | refine blk_alloc ?_ _)); exact BK500.out) hb); have n6_ := Aside0.mk (below_step z8_ hb); have n7_ := Aside0.mk (hbox); have n8_ := Aside0.mk ((by rw [hg]; exact (below_size z8_) : w.heap.size ≤ gb511)); have n9_ := Aside0.mk ((by rw [hg]; exact (below_size z8_) : w.heap.size ≤ gb511)); have n10_ := Aside0.mk ((by rw [hg]; exact Nat.ne_of_lt (blk_lt (g := gb494) (o := .cells #[.slice none 0 0, .int .i64 x495001_1, .int .i64 x495002_1] 26 (0, 0)) (by (with_reducible repeat (first | refine blk_drewN ?_ _ | refine blk_drew ?_ | refine blk_alloc ?_ _)); exact BK494.out)) : gb494 ≠ gb511)); have n11_ := Aside0.mk ((by rw [hg]; exact Nat.ne_of_gt (blk_lt (g := gb494) (o := .cells #[.slice none 0 0, .int .i64 x495001_1, .int .i64 x495002_1] 26 (0, 0)) (by (with_reducible repeat (first | refine blk_drewN ?_ _ | refine blk_drew ?_ | refine blk_alloc ?_ _)); exact BK494.out)) : gb511 ≠ gb494)); have n12_ := Aside0.mk ((by rw [hg]; exact Nat.ne_of_lt (blk_lt (g := gb500) (o := .cells #[u501000, .int .i64 x501001_1, .int .i64 x501002_1] 26 (0, 0)) (by (with_reducible repeat (first | refine blk_drewN ?_ _ | refine blk_drew ?_ | refine blk_alloc ?_ _)); exact BK500.out)) : gb500 ≠ gb511)); have n13_ := Aside0.mk ((by rw [hg]; exact Nat.ne_of_gt (blk_lt (g := gb500) (o := .cells #[u501000, .int .i64 x501001_1, .int .i64 x501002_1] 26 (0, 0)) (by (with_reducible repeat (first | refine blk_drewN ?_ _ | refine blk_drew ?_ | refine blk_alloc ?_ _)); exact BK500.out)) : gb511 ≠ gb500)); clear HO_4; clear HO_501000; clear HO504; clear HO507; clear BK494; clear BK500; clear HB; have HO_4 := n0_; have HO_501000 := n1_; have HO504 := n2_; have HO507 := n3_; have BK494 := n4_; have BK500 := n5_; have HB := n6_; have BK511 := n7_; have GW511 := n8_; have GE511 := n9_; have NB494_511 := n10_; have NB511_494 := n11_; have NB500_511 := n12_; have NB511_500 := n13_; clear n0_ n1_ n2_ n3_ n4_ n5_ n6_ n7_ n8_ n9_ n10_ n11_ n12_ n13_; clear hb hbox hg; obtain ⟨Ao35, co35, eo35⟩ := Kd.R_slice HO504.out; subst eo35; have hnb36 := NB511_494.out; have hnc36 := NB494_511.out; have hnb37 := NB511_500.out; have hnc37 := NB500_511.out; have hcz38_0 : w34.cell? ⟨gb511, 0, none⟩ = some (.slice none 0 0) := (blk_cell BK511.out 0).trans rfl; have hcz38_1 : w34.cell? ⟨gb511, 1, none⟩ = some (.slice none 0 0) := (blk_cell BK511.out 1).trans rfl; have hcz38_2 : w34.cell? ⟨gb511, 2, none⟩ = some (.int .i64 0) := (blk_cell BK511.out 2).trans rfl; have hcz38_3 : w34.cell? ⟨gb511, 3, none⟩ = some (.int .i64 0) := (blk_cell BK511.out 3).trans rfl; have hfz38_0 := blk_frozen BK511.out 0; have hfz38_1 := blk_frozen BK511.out 1; have hfz38_2 := blk_frozen BK511.out 2; have hfz38_3 := blk_frozen BK511.out 3; obtain ⟨Ao39, co39, eo39⟩ := Kd.R_slice HO507.out; subst eo39; have hnb40 := NB500_494.out; have hnc40 := NB494_500.out; have hcz41_0 : w34.cell? ⟨gb500, 0, none⟩ = some (u501000) := (blk_cell BK500.out 0).trans rfl; have hcz41_1 : w34.cell? ⟨gb500, 1, none⟩ = some (.int .i64 x501001_1) := (blk_cell BK500.out 1).trans rfl; have hcz41_2 : w34.cell? ⟨gb500, 2, none⟩ = some (.int .i64 x501002_1) := (blk_cell BK500.out 2).trans rfl; have hfz41_0 := blk_frozen BK500.out 0; have hfz41_1 := blk_frozen BK500.out 1; have hfz41_2 := blk_frozen BK500.out 2; obtain ⟨Ao42, co42, eo42⟩ := Kd.R_slice HO_501000.out; subst eo42) | ((with_reducible refine gate_callee (f := 14) rfl ?_); refine goesL_ (some 42) rfl rfl Try.func14 (by kernel_rfl) rfl #[.agg #[.slice Ao42 x501000_1.length co42, .int .i64 x501001_1, .int .i64 x501002_1], .agg #[.slice Ao35 t502.length co35, .slice Ao39 t505.length co39, .int .i64 t508, .int .i64 t509]] rfl (by (try simp only [List.map_toArray, List.map_cons, List.map_nil]); first | done | rfl | (simp only [List.length_drop, List.length_take]; rfl) | (go_simp; simp [IntKind.wrap, IntKind.bits, IntKind.signed]; omega)) ?_; (with_reducible refine (tithebarnref16_Apply.calls k1 _ _ x501000_1 x501001_1 x501002_1 _ _ t502 _ _ t505 t508 t509 t512 t515 t516 t517 _ ?side1 ?side2 ?side3 ?side4 ?side5 ?side6 A11.out).mono ?_); (case side1 => refine (Kd.R_reads' (e := 36) (base := w.heap.size) (ok := fun k_ => (True ∧ some k_ ≠ (.slice Ao39 t505.length co39 : Value).ownBlock)) (n := x501000_1.length) (c := co42) ?_).2.2; exact (by (with_reducible repeat (first | apply Kd.R_alloc | apply Kd.R_drewN | apply Kd.R_drew)); exact (Kd.R_mono (Kd.R_far (p := ⟨gb511, 3, none⟩) (Kd.R_far (p := ⟨gb511, 2, none⟩) (Kd.R_far (p := ⟨gb511, 1, none⟩) (Kd.R_far (p := ⟨gb511, 0, none⟩) (Kd.R_types HO_501000.out BK511.out (by decide)) (fun _ hk => hk.2) (.slice Ao35 t502.length co35)) (fun _ hk => hk.2) (.slice Ao39 t505.length co39)) (fun _ hk => hk.2) (.int .i64 t508)) (fun _ hk => hk.2) (.int .i64 t509)) (fun _ h_ => h_.1)))); (case side2 => exact (Kd.R_reads' HO_501000.out).2.1); (case side3 => refine (Kd.R_reads' (e := 3) (base := w.heap.size) (ok := fun k_ => True) (n := t502.length) (c := co35) ?_).2.2; exact (by (with_reducible repeat (first | apply Kd.R_alloc | apply Kd.R_drewN | apply Kd.R_drew)); exact (Kd.R_mono (Kd.R_far (p := ⟨gb511, 3, none⟩) (Kd.R_far (p := ⟨gb511, 2, none⟩) (Kd.R_far (p := ⟨gb511, 1, none⟩) (Kd.R_far (p := ⟨gb511, 0, none⟩) (Kd.R_types HO504.out BK511.out (by decide)) (fun _ hk => hk.2) (.slice Ao35 t502.length co35)) (fun _ hk => hk.2) (.slice Ao39 t505.length co39)) (fun _ hk => hk.2) (.int .i64 t508)) (fun _ hk => hk.2) (.int .i64 t509)) (fun _ h_ => h_.1)))); (case side4 => exact (Kd.R_reads' HO504.out).2.1); (case side5 => refine (Kd.R_reads' (e := 36) (base := w.heap.size) (ok := fun k_ => (True ∧ some k_ ≠ (.slice Ao42 x501000_1.length co42 : Value).ownBlock)) (n := t505.length) (c := co39) ?_).2.2; exact (by (with_reducible repeat (first | apply Kd.R_alloc | apply Kd.R_drewN | apply Kd.R_drew)); exact (Kd.R_mono (Kd.R_far (p := ⟨gb511, 3, none⟩) (Kd.R_far (p := ⟨gb511, 2, none⟩) (Kd.R_far (p := ⟨gb511, 1, none⟩) (Kd.R_far (p := ⟨gb511, 0, none⟩) (Kd.R_types HO507.out BK511.out (by decide)) (fun _ hk => hk.2) (.slice Ao35 t502.length co35)) (fun _ hk => hk.2) (.slice Ao39 t505.length co39)) (fun _ hk => hk.2) (.int .i64 t508)) (fun _ hk => hk.2) (.int .i64 t509)) (fun _ h_ => h_.1)))); (case side6 => exact (Kd.R_reads' HO507.out).2.1); rintro e w43 ⟨v513, rfl, ho0, hb⟩; refine ⟨_, rfl, ?_⟩; have n0_ := Aside0.mk (Kd.R_below (by (with_reducible repeat (first | apply Kd.R_alloc | apply Kd.R_drewN | apply Kd.R_drew)); exact (Kd.R_mono (Kd.R_far (p := ⟨gb511, 3, none⟩) (Kd.R_far (p := ⟨gb511, 2, none⟩) (Kd.R_far (p := ⟨gb511, 1, none⟩) (Kd.R_far (p := ⟨gb511, 0, none⟩) (Kd.R_types HO_4.out BK511.out (by decide)) (fun _ hk => hk.2) (.slice Ao35 t502.length co35)) (fun _ hk => hk.2) (.slice Ao39 t505.length co39)) (fun _ hk => hk.2) (.int .i64 t508)) (fun _ hk => hk.2) (.int .i64 t509)) (fun _ h_ => h_.1))) hb); have n1_ := Aside0.mk (Kd.R_elder' (by (with_reducible repeat (first | apply Kd.R_alloc | apply Kd.R_drewN | apply Kd.R_drew)); exact (Kd.R_mono (Kd.R_far (p := ⟨gb511, 3, none⟩) (Kd.R_far (p := ⟨gb511, 2, none⟩) (Kd.R_far (p := ⟨gb511, 1, none⟩) (Kd.R_far (p := ⟨gb511, 0, none⟩) (Kd.R_types HO_501000.out BK511.out (by decide)) (fun _ hk => hk.2) (.slice Ao35 t502.length co35)) (fun _ hk => hk.2) (.slice Ao39 t505.length co39)) (fun _ hk => hk.2) (.int .i64 t508)) (fun _ hk => hk.2) (.int .i64 t509)) (fun _ h_ => h_.1))) (Kd.R_base ho0) hb); have n2_ := Aside0.mk (Kd.R_below (by (with_reducible repeat (first | apply Kd.R_alloc | apply Kd.R_drewN | apply Kd.R_drew)); exact (Kd.R_mono (Kd.R_far (p := ⟨gb511, 3, none⟩) (Kd.R_far (p := ⟨gb511, 2, none⟩) (Kd.R_far (p := ⟨gb511, 1, none⟩) (Kd.R_far (p := ⟨gb511, 0, none⟩) (Kd.R_types HO504.out BK511.out (by decide)) (fun _ hk => hk.2) (.slice Ao35 t502.length co35)) (fun _ hk => hk.2) (.slice Ao39 t505.length co39)) (fun _ hk => hk.2) (.int .i64 t508)) (fun _ hk => hk.2) (.int .i64 t509)) (fun _ h_ => h_.1))) hb); have n3_ := Aside0.mk (Kd.R_elder' (by (with_reducible repeat (first | apply Kd.R_alloc | apply Kd.R_drewN | apply Kd.R_drew)); exact (Kd.R_mono (Kd.R_far (p := ⟨gb511, 3, none⟩) (Kd.R_far (p := ⟨gb511, 2, none⟩) (Kd.R_far (p := ⟨gb511, 1, none⟩) (Kd.R_far (p := ⟨gb511, 0, none⟩) (Kd.R_types HO507.out BK511.out (by decide)) (fun _ hk => hk.2) (.slice Ao35 t502.length co35)) (fun _ hk => hk.2) (.slice Ao39 t505.length co39)) (fun _ hk => hk.2) (.int .i64 t508)) (fun _ hk => hk.2) (.int .i64 t509)) (fun _ h_ => h_.1))) (Kd.R_base ho0) hb); have n4_ := Aside0.mk (Kd.R_lower (Kd.R_new' (Kd.R_new' ho0 (Kd.R_lt (by (with_reducible repeat (first | apply Kd.R_alloc | apply Kd.R_drewN | apply Kd.R_drew)); exact (Kd.R_mono (Kd.R_far (p := ⟨gb511, 3, none⟩) (Kd.R_far (p := ⟨gb511, 2, none⟩) (Kd.R_far (p := ⟨gb511, 1, none⟩) (Kd.R_far (p := ⟨gb511, 0, none⟩) (Kd.R_types HO_501000.out BK511.out (by decide)) (fun _ hk => hk.2) (.slice Ao35 t502.length co35)) (fun _ hk => hk.2) (.slice Ao39 t505.length co39)) (fun _ hk => hk.2) (.int .i64 t508)) (fun _ hk => hk.2) (.int .i64 t509)) (fun _ h_ => h_.1))))) (Kd.R_lt (by (with_reducible repeat (first | apply Kd.R_alloc | apply Kd.R_drewN | apply Kd.R_drew)); exact (Kd.R_mono (Kd.R_far (p := ⟨gb511, 3, none⟩) (Kd.R_far (p := ⟨gb511, 2, none⟩) (Kd.R_far (p := ⟨gb511, 1, none⟩) (Kd.R_far (p := ⟨gb511, 0, none⟩) (Kd.R_types HO507.out BK511.out (by decide)) (fun _ hk => hk.2) (.slice Ao35 t502.length co35)) (fun _ hk => hk.2) (.slice Ao39 t505.length co39)) (fun _ hk => hk.2) (.int .i64 t508)) (fun _ hk => hk.2) (.int .i64 t509)) (fun _ h_ => h_.1))))) (below_size z11_)); have n5_ := Aside0.mk (blk_below (g := gb494) (o := .cells #[.slice none 0 0, .int .i64 x495001_1, .int .i64 x495002_1] 26 (0, 0)) (by (with_reducible repeat (first | refine blk_drewN ?_ _ | refine blk_drew ?_ | refine blk_alloc ?_ _)); refine blk_far ?_ NB494_511.out _; (with_reducible repeat (first | refine blk_drewN ?_ _ | refine blk_drew ?_ | refine blk_alloc ?_ _)); refine blk_far ?_ NB494_511.out _; (with_reducible repeat (first | refine blk_drewN ?_ _ | refine blk_drew ?_ | refine blk_alloc ?_ _)); refine blk_far ?_ NB494_511.out _; (with_reducible repeat (first | refine blk_drewN ?_ _ | refine blk_drew ?_ | refine blk_alloc ?_ _)); refine blk_far ?_ NB494_511.out _; (with_reducible repeat (first | refine blk_drewN ?_ _ | refine blk_drew ?_ | refine blk_alloc ?_ _)); exact BK494.out) hb); have n6_ := Aside0.mk (blk_below (g := gb500) (o := .cells #[.slice Ao42 x501000_1.length co42, .int .i64 x501001_1, .int .i64 x501002_1] 26 (0, 0)) (by (with_reducible repeat (first | refine blk_drewN ?_ _ | refine blk_drew ?_ | refine blk_alloc ?_ _)); refine blk_far ?_ NB500_511.out _; (with_reducible repeat (first | refine blk_drewN ?_ _ | refine blk_drew ?_ | refine blk_alloc ?_ _)); refine blk_far ?_ NB500_511.out _; (with_reducible repeat (first | refine blk_drewN ?_ _ | refine blk_drew ?_ | refine blk_alloc ?_ _)); refine blk_far ?_ NB500_511.out _; (with_reducible repeat (first | refine blk_drewN ?_ _ | refine blk_drew ?_ | refine blk_alloc ?_ _)); refine blk_far ?_ NB500_511.out _; (with_reducible repeat (first | refine blk_drewN ?_ _ | refine blk_drew ?_ | refine blk_alloc ?_ _)); exact BK500.out) hb); have n7_ := Aside0.mk (blk_below (g := gb511) (o := .cells #[.slice Ao35 t502.length co35, .slice Ao39 t505.length co39, .int .i64 t508, .int .i64 t509] 32 (0, 0)) (by (with_reducible repeat (first | refine blk_drewN ?_ _ | refine blk_drew ?_ | refine blk_alloc ?_ _)); refine blk_put (cs := #[.slice Ao35 t502.length co35, .slice Ao39 t505.length co39, .int .i64 t508, .int .i64 0]) ?_ 3 _ rfl; (with_reducible repeat (first | refine blk_drewN ?_ _ | refine blk_drew ?_ | refine blk_alloc ?_ _)); refine blk_put (cs := #[.slice Ao35 t502.length co35, .slice Ao39 t505.length co39, .int .i64 0, .int .i64 0]) ?_ 2 _ rfl; (with_reducible repeat (first | refine blk_drewN ?_ _ | refine blk_drew ?_ | refine blk_alloc ?_ _)); refine blk_put (cs := #[.slice Ao35 t502.length co35, .slice none 0 0, .int .i64 0, .int .i64 0]) ?_ 1 _ rfl; (with_reducible repeat (first | refine blk_drewN ?_ _ | refine blk_drew ?_ | refine blk_alloc ?_ _)); refine blk_put (cs := #[.slice none 0 0, .slice none 0 0, .int .i64 0, .int .i64 0]) ?_ 0 _ rfl; (with_reducible repeat (first | refine blk_drewN ?_ _ | refine blk_drew ?_ | refine blk_alloc ?_ _)); exact BK511.out) hb); have n8_ := Aside0.mk (below_step z11_ hb); clear HO_4; clear HO_501000; clear HO504; clear HO507; clear BK494; clear BK500; clear BK511; clear HB; have HO_4 := n0_; have HO_501000 := n1_; have HO504 := n2_; have HO507 := n3_; have HO514 := n4_; have BK494 := n5_; have BK500 := n6_; have BK511 := n7_; have HB := n8_; clear n0_ n1_ n2_ n3_ n4_ n5_ n6_ n7_ n8_; (try clear hb); (try clear hb2); (try clear hk); (try clear hi); (try clear ho0)) | ((with_reducible refine gate_dst (N := 11) rfl ?_); refine box_event ?hg (N := 11) ?hd (cs := #[.slice none 0 0, .int .i64 0, .int .i64 0]) (t := 26) ?hr ?_; (case hd => rfl); (case hg => rfl); (case hr => first | (go_simp; done) | (go_simp; rfl)); intro gb518 hg w44 hbox hb; have n0_ := Aside0.mk (Kd.R_below (by (with_reducible repeat (first | apply Kd.R_alloc | apply Kd.R_drewN | apply Kd.R_drew)); exact HO_4.out) hb); have n1_ := Aside0.mk (Kd.R_below (by (with_reducible repeat (first | apply Kd.R_alloc | apply Kd.R_drewN | apply Kd.R_drew)); exact HO_501000.out) hb); have n2_ := Aside0.mk (Kd.R_below (by (with_reducible repeat (first | apply Kd.R_alloc | apply Kd.R_drewN | apply Kd.R_drew)); exact HO504.out) hb); have n3_ := Aside0.mk (Kd.R_below (by (with_reducible repeat (first | apply Kd.R_alloc | apply Kd.R_drewN | apply Kd.R_drew)); exact HO507.out) hb); have n4_ := Aside0.mk (Kd.R_below (by (with_reducible repeat (first | apply Kd.R_alloc | apply Kd.R_drewN | apply Kd.R_drew)); exact HO514.out) hb); have n5_ := Aside0.mk (blk_below (g := gb494) (o := .cells #[.slice none 0 0, .int .i64 x495001_1, .int .i64 x495002_1] 26 (0, 0)) (by (with_reducible repeat (first | refine blk_drewN ?_ _ | refine blk_drew ?_ | refine blk_alloc ?_ _)); exact BK494.out) hb); have n6_ := Aside0.mk (blk_below (g := gb500) (o := .cells #[.slice Ao42 x501000_1.length co42, .int .i64 x501001_1, .int .i64 x501002_1] 26 (0, 0)) (by (with_reducible repeat (first | refine blk_drewN ?_ _ | refine blk_drew ?_ | refine blk_alloc ?_ _)); exact BK500.out) hb); have n7_ := Aside0.mk (blk_below (g := gb511) (o := .cells #[.slice Ao35 t502.length co35, .slice Ao39 t505.length co39, .int .i64 t508, .int .i64 t509] 32 (0, 0)) (by (with_reducible repeat (first | refine blk_drewN ?_ _ | refine blk_drew ?_ | refine blk_alloc ?_ _)); exact BK511.out) hb); have n8_ := Aside0.mk (below_step z11_ hb); have n9_ := Aside0.mk (hbox); have n10_ := Aside0.mk ((by rw [hg]; exact (below_size z11_) : w.heap.size ≤ gb518)); have n11_ := Aside0.mk ((by rw [hg]; exact (below_size z11_) : w.heap.size ≤ gb518)); have n12_ := Aside0.mk ((by rw [hg]; exact Nat.ne_of_lt (blk_lt (g := gb494) (o := .cells #[.slice none 0 0, .int .i64 x495001_1, .int .i64 x495002_1] 26 (0, 0)) (by (with_reducible repeat (first | refine blk_drewN ?_ _ | refine blk_drew ?_ | refine blk_alloc ?_ _)); exact BK494.out)) : gb494 ≠ gb518)); have n13_ := Aside0.mk ((by rw [hg]; exact Nat.ne_of_gt (blk_lt (g := gb494) (o := .cells #[.slice none 0 0, .int .i64 x495001_1, .int .i64 x495002_1] 26 (0, 0)) (by (with_reducible repeat (first | refine blk_drewN ?_ _ | refine blk_drew ?_ | refine blk_alloc ?_ _)); exact BK494.out)) : gb518 ≠ gb494)); have n14_ := Aside0.mk ((by rw [hg]; exact Nat.ne_of_lt (blk_lt (g := gb500) (o := .cells #[.slice Ao42 x501000_1.length co42, .int .i64 x501001_1, .int .i64 x501002_1] 26 (0, 0)) (by (with_reducible repeat (first | refine blk_drewN ?_ _ | refine blk_drew ?_ | refine blk_alloc ?_ _)); exact BK500.out)) : gb500 ≠ gb518)); have n15_ := Aside0.mk ((by rw [hg]; exact Nat.ne_of_gt (blk_lt (g := gb500) (o := .cells #[.slice Ao42 x501000_1.length co42, .int .i64 x501001_1, .int .i64 x501002_1] 26 (0, 0)) (by (with_reducible repeat (first | refine blk_drewN ?_ _ | refine blk_drew ?_ | refine blk_alloc ?_ _)); exact BK500.out)) : gb518 ≠ gb500)); have n16_ := Aside0.mk ((by rw [hg]; exact Nat.ne_of_lt (blk_lt (g := gb511) (o := .cells #[.slice Ao35 t502.length co35, .slice Ao39 t505.length co39, .int .i64 t508, .int .i64 t509] 32 (0, 0)) (by (with_reducible repeat (first | refine blk_drewN ?_ _ | refine blk_drew ?_ | refine blk_alloc ?_ _)); exact BK511.out)) : gb511 ≠ gb518)); have n17_ := Aside0.mk ((by rw [hg]; exact Nat.ne_of_gt (blk_lt (g := gb511) (o := .cells #[.slice Ao35 t502.length co35, .slice Ao39 t505.length co39, .int .i64 t508, .int .i64 t509] 32 (0, 0)) (by (with_reducible repeat (first | refine blk_drewN ?_ _ | refine blk_drew ?_ | refine blk_alloc ?_ _)); exact BK511.out)) : gb518 ≠ gb511)); clear HO_4; clear HO_501000; clear HO504; clear HO507; clear HO514; clear BK494; clear BK500; clear BK511; clear HB; have HO_4 := n0_; have HO_501000 := n1_; have HO504 := n2_; have HO507 := n3_; have HO514 := n4_; have BK494 := n5_; have BK500 := n6_; have BK511 := n7_; have HB := n8_; have BK518 := n9_; have GW518 := n10_; have GE518 := n11_; have NB494_518 := n12_; have NB518_494 := n13_; have NB500_518 := n14_; have NB518_500 := n15_; have NB511_518 := n16_; have NB518_511 := n17_; clear n0_ n1_ n2_ n3_ n4_ n5_ n6_ n7_ n8_ n9_ n10_ n11_ n12_ n13_ n14_ n15_ n16_ n17_; clear hb hbox hg; obtain ⟨Ao45, co45, eo45⟩ := Kd.R_slice HO514.out; subst eo45; have hnb46 := NB518_494.out; have hnc46 := NB494_518.out; have hnb47 := NB518_500.out; have hnc47 := NB500_518.out; have hnb48 := NB518_511.out; have hnc48 := NB511_518.out; have hcz49_0 : w44.cell? ⟨gb518, 0, none⟩ = some (.slice none 0 0) := (blk_cell BK518.out 0).trans rfl; have hcz49_1 : w44.cell? ⟨gb518, 1, none⟩ = some (.int .i64 0) := (blk_cell BK518.out 1).trans rfl; have hcz49_2 : w44.cell? ⟨gb518, 2, none⟩ = some (.int .i64 0) := (blk_cell BK518.out 2).trans rfl; have hfz49_0 := blk_frozen BK518.out 0; have hfz49_1 := blk_frozen BK518.out 1; have hfz49_2 := blk_frozen BK518.out 2; have hcz50_0 : w44.cell? ⟨gb494, 0, none⟩ = some (.slice none 0 0) := (blk_cell BK494.out 0).trans rfl; have hcz50_1 : w44.cell? ⟨gb494, 1, none⟩ = some (.int .i64 x495001_1) := (blk_cell BK494.out 1).trans rfl; have hcz50_2 : w44.cell? ⟨gb494, 2, none⟩ = some (.int .i64 x495002_1) := (blk_cell BK494.out 2).trans rfl; have hfz50_0 := blk_frozen BK494.out 0; have hfz50_1 := blk_frozen BK494.out 1; have hfz50_2 := blk_frozen BK494.out 2))
        refine bodyPost_ret (results_ct rfl _ _ gb494 26 #[.slice none 0 0, .int .i64 0, .int .i64 0] (0, 0) _ rfl (by (with_reducible repeat (first | refine blk_drewN ?_ _ | refine blk_drew ?_ | refine blk_alloc ?_ _)); refine blk_put (cs := #[.slice none 0 0, .int .i64 0, .int .i64 x495002_1]) ?_ 2 _ rfl; (with_reducible repeat (first | refine blk_drewN ?_ _ | refine blk_drew ?_ | refine blk_alloc ?_ _)); refine blk_put (cs := #[.slice none 0 0, .int .i64 x495001_1, .int .i64 x495002_1]) ?_ 1 _ rfl; (with_reducible repeat (first | refine blk_drewN ?_ _ | refine blk_drew ?_ | refine blk_alloc ?_ _)); refine blk_put (cs := #[.slice none 0 0, .int .i64 x495001_1, .int .i64 x495002_1]) ?_ 0 _ rfl; (with_reducible repeat (first | refine blk_drewN ?_ _ | refine blk_drew ?_ | refine blk_alloc ?_ _)); refine blk_far ?_ NB494_518.out _; (with_reducible repeat (first | refine blk_drewN ?_ _ | refine blk_drew ?_ | refine blk_alloc ?_ _)); refine blk_far ?_ NB494_518.out _; (with_reducible repeat (first | refine blk_drewN ?_ _ | refine blk_drew ?_ | refine blk_alloc ?_ _)); refine blk_far ?_ NB494_518.out _; (with_reducible repeat (first | refine blk_drewN ?_ _ | refine blk_drew ?_ | refine blk_alloc ?_ _)); exact BK494.out) Try.underlying26 rfl (by kernel_rfl)) rfl ?_
        exact ⟨_, z2_, z15_, by repeat (first | (with_reducible first | exact HB.out | apply below_alloc | apply pw_below_drewN | apply below_drew1 | refine below_set ?_ GE494.out | refine below_set ?_ GE500.out | refine below_set ?_ GE511.out | refine below_set ?_ GE518.out) | exact HB.out)⟩
      ·replace c10 := Bool.eq_false_iff.mpr c10
       subst c10
       have H1 : (some (([] : List (S36)), 0, 0, 8)) = some (r1, r2, r3, r4) := by rw [if_neg (show ¬ (false = true) by decide)] at H; exact H
       clear H
       have H := H1
       clear H1
       simp only [Option.some.injEq, Prod.mk.injEq] at H
       obtain ⟨rfl, rfl, rfl, rfl⟩ := H
       obtain ⟨Ao51, co51, eo51⟩ := Kd.R_slice HO_4.out
       subst eo51
       have p501 : 0 ≤ (x8_1 : Int) := of_decide_eq_true z6_
       have q501 : x8_1 < (t495.length : Int) := of_decide_eq_true z6_
       obtain ⟨ad501, e501, hx501_0⟩ := Kd.at_string (Kd.R_reads' HO_4.out).2.2 x8_1 p501 q501
       cases e501
       replace p501 := eq_true p501
       replace q501 := eq_true q501
       go_wp2_with (first | ((with_reducible refine gate_callee (f := 32) rfl ?_); refine goesL_ (some 33) rfl rfl Try.func32 (by kernel_rfl) rfl #[.string (rdOf ByteArray.empty t495 x8_1)] rfl (by (try simp only [List.map_toArray, List.map_cons, List.map_nil]); first | done | rfl | (simp only [List.length_drop, List.length_take]; rfl) | (go_simp; simp [IntKind.wrap, IntKind.bits, IntKind.signed]; omega)) ?_; (with_reducible refine (tithebarnref16_edit.calls k1 (rdOf ByteArray.empty t495 x8_1) t502 t505 t508 t509 false _ A9.out).mono ?_); rintro e w52 ⟨v503, v506, rfl, ho0, ho1, hb⟩; refine ⟨_, rfl, ?_⟩; have n0_ := Aside0.mk (Kd.R_below (by (with_reducible repeat (first | apply Kd.R_alloc | apply Kd.R_drewN | apply Kd.R_drew)); exact HO_4.out) hb); have n1_ := Aside0.mk (Kd.R_elder' (by (with_reducible repeat (first | apply Kd.R_alloc | apply Kd.R_drewN | apply Kd.R_drew)); exact HO_501000.out) (Kd.R_base ho1) hb); have n2_ := Aside0.mk (Kd.R_lower ho0 (below_size z8_)); have n3_ := Aside0.mk (Kd.R_lower (Kd.R_new' ho1 (Kd.R_lt (by (with_reducible repeat (first | apply Kd.R_alloc | apply Kd.R_drewN | apply Kd.R_drew)); exact HO_501000.out))) (below_size z8_)); have n4_ := Aside0.mk (blk_below (g := gb494) (o := .cells #[.slice none 0 0, .int .i64 x495001_1, .int .i64 x495002_1] 26 (0, 0)) (by (with_reducible repeat (first | refine blk_drewN ?_ _ | refine blk_drew ?_ | refine blk_alloc ?_ _)); exact BK494.out) hb); have n5_ := Aside0.mk (blk_below (g := gb500) (o := .cells #[u501000, .int .i64 x501001_1, .int .i64 x501002_1] 26 (0, 0)) (by (with_reducible repeat (first | refine blk_drewN ?_ _ | refine blk_drew ?_ | refine blk_alloc ?_ _)); exact BK500.out) hb); have n6_ := Aside0.mk (below_step z8_ hb); clear HO_4; clear HO_501000; clear BK494; clear BK500; clear HB; have HO_4 := n0_; have HO_501000 := n1_; have HO504 := n2_; have HO507 := n3_; have BK494 := n4_; have BK500 := n5_; have HB := n6_; clear n0_ n1_ n2_ n3_ n4_ n5_ n6_; (try clear hb); (try clear hb2); (try clear hk); (try clear hi); (try clear ho0); (try clear ho1)) | ((with_reducible refine gate_dst (N := 9) rfl ?_); refine box_event ?hg (N := 9) ?hd (cs := #[.slice none 0 0, .slice none 0 0, .int .i64 0, .int .i64 0]) (t := 32) ?hr ?_; (case hd => rfl); (case hg => rfl); (case hr => first | (go_simp; done) | (go_simp; rfl)); intro gb511 hg w53 hbox hb; have n0_ := Aside0.mk (Kd.R_below (by (with_reducible repeat (first | apply Kd.R_alloc | apply Kd.R_drewN | apply Kd.R_drew)); exact HO_4.out) hb); have n1_ := Aside0.mk (Kd.R_below (by (with_reducible repeat (first | apply Kd.R_alloc | apply Kd.R_drewN | apply Kd.R_drew)); exact HO_501000.out) hb); have n2_ := Aside0.mk (Kd.R_below (by (with_reducible repeat (first | apply Kd.R_alloc | apply Kd.R_drewN | apply Kd.R_drew)); exact HO504.out) hb); have n3_ := Aside0.mk (Kd.R_below (by (with_reducible repeat (first | apply Kd.R_alloc | apply Kd.R_drewN | apply Kd.R_drew)); exact HO507.out) hb); have n4_ := Aside0.mk (blk_below (g := gb494) (o := .cells #[.slice none 0 0, .int .i64 x495001_1, .int .i64 x495002_1] 26 (0, 0)) (by (with_reducible repeat (first | refine blk_drewN ?_ _ | refine blk_drew ?_ | refine blk_alloc ?_ _)); exact BK494.out) hb); have n5_ := Aside0.mk (blk_below (g := gb500) (o := .cells #[u501000, .int .i64 x501001_1, .int .i64 x501002_1] 26 (0, 0)) (by (with_reducible repeat (first | refine blk_drewN ?_ _ | refine blk_drew ?_ | refine blk_alloc ?_ _)); exact BK500.out) hb); have n6_ := Aside0.mk (below_step z8_ hb); have n7_ := Aside0.mk (hbox); have n8_ := Aside0.mk ((by rw [hg]; exact (below_size z8_) : w.heap.size ≤ gb511)); have n9_ := Aside0.mk ((by rw [hg]; exact (below_size z8_) : w.heap.size ≤ gb511)); have n10_ := Aside0.mk ((by rw [hg]; exact Nat.ne_of_lt (blk_lt (g := gb494) (o := .cells #[.slice none 0 0, .int .i64 x495001_1, .int .i64 x495002_1] 26 (0, 0)) (by (with_reducible repeat (first | refine blk_drewN ?_ _ | refine blk_drew ?_ | refine blk_alloc ?_ _)); exact BK494.out)) : gb494 ≠ gb511)); have n11_ := Aside0.mk ((by rw [hg]; exact Nat.ne_of_gt (blk_lt (g := gb494) (o := .cells #[.slice none 0 0, .int .i64 x495001_1, .int .i64 x495002_1] 26 (0, 0)) (by (with_reducible repeat (first | refine blk_drewN ?_ _ | refine blk_drew ?_ | refine blk_alloc ?_ _)); exact BK494.out)) : gb511 ≠ gb494)); have n12_ := Aside0.mk ((by rw [hg]; exact Nat.ne_of_lt (blk_lt (g := gb500) (o := .cells #[u501000, .int .i64 x501001_1, .int .i64 x501002_1] 26 (0, 0)) (by (with_reducible repeat (first | refine blk_drewN ?_ _ | refine blk_drew ?_ | refine blk_alloc ?_ _)); exact BK500.out)) : gb500 ≠ gb511)); have n13_ := Aside0.mk ((by rw [hg]; exact Nat.ne_of_gt (blk_lt (g := gb500) (o := .cells #[u501000, .int .i64 x501001_1, .int .i64 x501002_1] 26 (0, 0)) (by (with_reducible repeat (first | refine blk_drewN ?_ _ | refine blk_drew ?_ | refine blk_alloc ?_ _)); exact BK500.out)) : gb511 ≠ gb500)); clear HO_4; clear HO_501000; clear HO504; clear HO507; clear BK494; clear BK500; clear HB; have HO_4 := n0_; have HO_501000 := n1_; have HO504 := n2_; have HO507 := n3_; have BK494 := n4_; have BK500 := n5_; have HB := n6_; have BK511 := n7_; have GW511 := n8_; have GE511 := n9_; have NB494_511 := n10_; have NB511_494 := n11_; have NB500_511 := n12_; have NB511_500 := n13_; clear n0_ n1_ n2_ n3_ n4_ n5_ n6_ n7_ n8_ n9_ n10_ n11_ n12_ n13_; clear hb hbox hg; obtain ⟨Ao54, co54, eo54⟩ := Kd.R_slice HO504.out; subst eo54; have hnb55 := NB511_494.out; have hnc55 := NB494_511.out; have hnb56 := NB511_500.out; have hnc56 := NB500_511.out; have hcz57_0 : w53.cell? ⟨gb511, 0, none⟩ = some (.slice none 0 0) := (blk_cell BK511.out 0).trans rfl; have hcz57_1 : w53.cell? ⟨gb511, 1, none⟩ = some (.slice none 0 0) := (blk_cell BK511.out 1).trans rfl; have hcz57_2 : w53.cell? ⟨gb511, 2, none⟩ = some (.int .i64 0) := (blk_cell BK511.out 2).trans rfl; have hcz57_3 : w53.cell? ⟨gb511, 3, none⟩ = some (.int .i64 0) := (blk_cell BK511.out 3).trans rfl; have hfz57_0 := blk_frozen BK511.out 0; have hfz57_1 := blk_frozen BK511.out 1; have hfz57_2 := blk_frozen BK511.out 2; have hfz57_3 := blk_frozen BK511.out 3; obtain ⟨Ao58, co58, eo58⟩ := Kd.R_slice HO507.out; subst eo58; have hnb59 := NB494_500.out; have hnc59 := NB500_494.out; have hcz60_0 : w53.cell? ⟨gb494, 0, none⟩ = some (.slice none 0 0) := (blk_cell BK494.out 0).trans rfl; have hcz60_1 : w53.cell? ⟨gb494, 1, none⟩ = some (.int .i64 x495001_1) := (blk_cell BK494.out 1).trans rfl; have hcz60_2 : w53.cell? ⟨gb494, 2, none⟩ = some (.int .i64 x495002_1) := (blk_cell BK494.out 2).trans rfl; have hfz60_0 := blk_frozen BK494.out 0; have hfz60_1 := blk_frozen BK494.out 1; have hfz60_2 := blk_frozen BK494.out 2))
       refine bodyPost_ret (results_ct rfl _ _ gb494 26 #[.slice none 0 0, .int .i64 0, .int .i64 0] (0, 0) _ rfl (by (with_reducible repeat (first | refine blk_drewN ?_ _ | refine blk_drew ?_ | refine blk_alloc ?_ _)); refine blk_put (cs := #[.slice none 0 0, .int .i64 0, .int .i64 x495002_1]) ?_ 2 _ rfl; (with_reducible repeat (first | refine blk_drewN ?_ _ | refine blk_drew ?_ | refine blk_alloc ?_ _)); refine blk_put (cs := #[.slice none 0 0, .int .i64 x495001_1, .int .i64 x495002_1]) ?_ 1 _ rfl; (with_reducible repeat (first | refine blk_drewN ?_ _ | refine blk_drew ?_ | refine blk_alloc ?_ _)); refine blk_put (cs := #[.slice none 0 0, .int .i64 x495001_1, .int .i64 x495002_1]) ?_ 0 _ rfl; (with_reducible repeat (first | refine blk_drewN ?_ _ | refine blk_drew ?_ | refine blk_alloc ?_ _)); refine blk_far ?_ NB494_511.out _; (with_reducible repeat (first | refine blk_drewN ?_ _ | refine blk_drew ?_ | refine blk_alloc ?_ _)); refine blk_far ?_ NB494_511.out _; (with_reducible repeat (first | refine blk_drewN ?_ _ | refine blk_drew ?_ | refine blk_alloc ?_ _)); refine blk_far ?_ NB494_511.out _; (with_reducible repeat (first | refine blk_drewN ?_ _ | refine blk_drew ?_ | refine blk_alloc ?_ _)); refine blk_far ?_ NB494_511.out _; (with_reducible repeat (first | refine blk_drewN ?_ _ | refine blk_drew ?_ | refine blk_alloc ?_ _)); exact BK494.out) Try.underlying26 rfl (by kernel_rfl)) rfl ?_
       exact ⟨_, z2_, z15_, z11_⟩
     ·rw [if_neg c8] at H
      exact absurd H (by simp)
    ·rw [if_neg c7] at H
     have c7b0 : decide (x8_1 < (t495.length : Int)) = false := decide_eq_false c7
     clear c7
     simp only [Option.some.injEq, Prod.mk.injEq] at H
     obtain ⟨rfl, rfl, rfl, rfl⟩ := H
     obtain ⟨Ao61, co61, eo61⟩ := Kd.R_slice HO_4.out
     subst eo61
     have hnb62 := NB500_494.out
     have hnc62 := NB494_500.out
     have hcz63_0 : wr.cell? ⟨gb500, 0, none⟩ = some (u501000) := (blk_cell BK500.out 0).trans rfl
     have hcz63_1 : wr.cell? ⟨gb500, 1, none⟩ = some (.int .i64 x501001_1) := (blk_cell BK500.out 1).trans rfl
     have hcz63_2 : wr.cell? ⟨gb500, 2, none⟩ = some (.int .i64 x501002_1) := (blk_cell BK500.out 2).trans rfl
     have hfz63_0 := blk_frozen BK500.out 0
     have hfz63_1 := blk_frozen BK500.out 1
     have hfz63_2 := blk_frozen BK500.out 2
     obtain ⟨Ao64, co64, eo64⟩ := Kd.R_slice HO_501000.out
     subst eo64
     have hcz65_0 : wr.cell? ⟨gb494, 0, none⟩ = some (.slice none 0 0) := (blk_cell BK494.out 0).trans rfl
     have hcz65_1 : wr.cell? ⟨gb494, 1, none⟩ = some (.int .i64 x495001_1) := (blk_cell BK494.out 1).trans rfl
     have hcz65_2 : wr.cell? ⟨gb494, 2, none⟩ = some (.int .i64 x495002_1) := (blk_cell BK494.out 2).trans rfl
     have hfz65_0 := blk_frozen BK494.out 0
     have hfz65_1 := blk_frozen BK494.out 1
     have hfz65_2 := blk_frozen BK494.out 2
     go_wp2
     refine bodyPost_ret (results_ct rfl _ _ gb494 26 #[.slice Ao64 x501000_1.length co64, .int .i64 x501001_1, .int .i64 x501002_1] (0, 0) _ rfl (by (with_reducible repeat (first | refine blk_drewN ?_ _ | refine blk_drew ?_ | refine blk_alloc ?_ _)); refine blk_put (cs := #[.slice Ao64 x501000_1.length co64, .int .i64 x501001_1, .int .i64 x495002_1]) ?_ 2 _ rfl; (with_reducible repeat (first | refine blk_drewN ?_ _ | refine blk_drew ?_ | refine blk_alloc ?_ _)); refine blk_put (cs := #[.slice Ao64 x501000_1.length co64, .int .i64 x495001_1, .int .i64 x495002_1]) ?_ 1 _ rfl; (with_reducible repeat (first | refine blk_drewN ?_ _ | refine blk_drew ?_ | refine blk_alloc ?_ _)); refine blk_put (cs := #[.slice none 0 0, .int .i64 x495001_1, .int .i64 x495002_1]) ?_ 0 _ rfl; (with_reducible repeat (first | refine blk_drewN ?_ _ | refine blk_drew ?_ | refine blk_alloc ?_ _)); exact BK494.out) Try.underlying26 rfl (by kernel_rfl)) rfl ?_
     exact ⟨_, z2_, by (with_reducible repeat (first | apply Kd.R_alloc | apply Kd.R_drewN | apply Kd.R_drew)); exact Kd.R_mono (Kd.R_far (p := ⟨gb494, 2, none⟩) (Kd.R_far (p := ⟨gb494, 1, none⟩) (Kd.R_far (p := ⟨gb494, 0, none⟩) (Kd.R_types HO_501000.out BK494.out (by decide)) (fun _ hk => hk.2) (.slice Ao64 x501000_1.length co64)) (fun _ hk => hk.2) (.int .i64 x501001_1)) (fun _ hk => hk.2) (.int .i64 x501002_1)) (fun _ hk => trivial), z8_⟩
 ·rw [if_neg c3] at H
  have c3b0 : (t497 == 0) = false := beq_eq_false_iff_ne.mpr c3
  have c3b1 : (t497 != 0) = true := bne_iff_ne.mpr c3
  simp only [Option.some.injEq, Prod.mk.injEq] at H
  obtain ⟨rfl, rfl, rfl, rfl⟩ := H
  go_enter Try.func16, Try.ntmps16
  go_wp2_with (first | ((with_reducible refine gate_dst (N := 2) rfl ?_); refine box_event ?hg (N := 2) ?hd (cs := #[.slice none 0 0, .int .i64 0, .int .i64 0]) (t := 26) ?hr ?_; (case hd => rfl); (case hg => rfl); (case hr => first | (go_simp; done) | (go_simp; rfl)); intro gb494 hg w66 hbox hb; have n0_ := Aside0.mk (below_step z1_ hb); have n1_ := Aside0.mk (hbox); have n2_ := Aside0.mk ((by rw [hg]; exact (below_size z1_) : w.heap.size ≤ gb494)); have n3_ := Aside0.mk ((by rw [hg]; exact (below_size z1_) : w.heap.size ≤ gb494)); clear HB; have HB := n0_; have BK494 := n1_; have GW494 := n2_; have GE494 := n3_; clear n0_ n1_ n2_ n3_; clear hb hbox hg) | ((with_reducible refine gate_callee (f := 31) rfl ?_); refine goesL_ (some 15) rfl rfl Try.func31 (by kernel_rfl) rfl #[.string a0] rfl (by (try simp only [List.map_toArray, List.map_cons, List.map_nil]); first | done | rfl | (simp only [List.length_drop, List.length_take]; rfl) | (go_simp; simp [IntKind.wrap, IntKind.bits, IntKind.signed]; omega)) ?_; (with_reducible refine (tithebarnref08_Scan.calls k a0 t495 t496 t497 _ A2.out).mono ?_); rintro e w67 ⟨v498, rfl, ho0, hb⟩; refine ⟨_, rfl, ?_⟩; have n0_ := Aside0.mk (Kd.R_lower ho0 (below_size z22_)); have n1_ := Aside0.mk (blk_below (g := gb494) (o := .cells #[.slice none 0 0, .int .i64 0, .int .i64 0] 26 (0, 0)) (by (with_reducible repeat (first | refine blk_drewN ?_ _ | refine blk_drew ?_ | refine blk_alloc ?_ _)); exact BK494.out) hb); have n2_ := Aside0.mk (below_step z22_ hb); clear BK494; clear HB; have HO499 := n0_; have BK494 := n1_; have HB := n2_; clear n0_ n1_ n2_; (try clear hb); (try clear hb2); (try clear hk); (try clear hi); (try clear ho0); have hcz68_0 : w67.cell? ⟨gb494, 0, none⟩ = some (.slice none 0 0) := (blk_cell BK494.out 0).trans rfl; have hcz68_1 : w67.cell? ⟨gb494, 1, none⟩ = some (.int .i64 0) := (blk_cell BK494.out 1).trans rfl; have hcz68_2 : w67.cell? ⟨gb494, 2, none⟩ = some (.int .i64 0) := (blk_cell BK494.out 2).trans rfl; have hfz68_0 := blk_frozen BK494.out 0; have hfz68_1 := blk_frozen BK494.out 1; have hfz68_2 := blk_frozen BK494.out 2))
  refine bodyPost_ret (results_ct rfl _ _ gb494 26 #[.slice none 0 0, .int .i64 0, .int .i64 0] (0, 0) _ rfl (by (with_reducible repeat (first | refine blk_drewN ?_ _ | refine blk_drew ?_ | refine blk_alloc ?_ _)); refine blk_put (cs := #[.slice none 0 0, .int .i64 0, .int .i64 0]) ?_ 2 _ rfl; (with_reducible repeat (first | refine blk_drewN ?_ _ | refine blk_drew ?_ | refine blk_alloc ?_ _)); refine blk_put (cs := #[.slice none 0 0, .int .i64 0, .int .i64 0]) ?_ 1 _ rfl; (with_reducible repeat (first | refine blk_drewN ?_ _ | refine blk_drew ?_ | refine blk_alloc ?_ _)); refine blk_put (cs := #[.slice none 0 0, .int .i64 0, .int .i64 0]) ?_ 0 _ rfl; (with_reducible repeat (first | refine blk_drewN ?_ _ | refine blk_drew ?_ | refine blk_alloc ?_ _)); exact BK494.out) Try.underlying26 rfl (by kernel_rfl)) rfl ?_
  exact ⟨_, z2_, z15_, z22_⟩
def tithebarnlaw16_ManifestReads.f (k : Nat) (a0 : ByteArray) : Option (Bool) := (tithebarnlaw16_lives.f k).bind fun t519 => (if t519 = true then ((manifest_Read.f k a0).bind fun bt520 => ((tithebarnref16_Read.f k a0).bind fun bt527 => (if bt520.2.2.2 = bt527.2.2.2 then ((tithebarnref16_Same.f k bt520.1 bt520.2.1 bt520.2.2.1 bt527.1 bt527.2.1 bt527.2.2.1).bind fun t534 => (some t534)) else (some false)))) else (some false))
theorem tithebarnlaw16_ManifestReads.mono : ∀ a0 k, LeO (tithebarnlaw16_ManifestReads.f k a0) (tithebarnlaw16_ManifestReads.f (k + 1) a0) := by
 intro a0 k
 unfold tithebarnlaw16_ManifestReads.f
 repeat' first
   | (with_reducible exact manifest_Read.mono _ _)
   | (with_reducible exact tithebarnlaw16_lives.mono _)
   | (with_reducible exact tithebarnref16_Read.mono _ _)
   | (with_reducible exact tithebarnref16_Same.mono _ _ _ _ _ _ _)
   | (with_reducible exact LeO.refl _)
   | (with_reducible exact LeO.none _)
   | (with_reducible refine LeO.ite ?_ ?_)
   | (with_reducible refine LeO.bind ?_ (fun _ => ?_))
   | exact manifest_Read.mono _ _
   | exact tithebarnlaw16_lives.mono _
   | exact tithebarnref16_Read.mono _ _
   | exact tithebarnref16_Same.mono _ _ _ _ _ _ _
   | exact LeO.none _
   | refine LeO.ite ?_ ?_
   | refine LeO.bind ?_ (fun _ => ?_)
set_option maxHeartbeats 8000000 in
set_option maxRecDepth 100000 in
theorem tithebarnlaw16_ManifestReads.calls (k : Nat) (a0 : ByteArray) (r : Bool) (w : World) (h : tithebarnlaw16_ManifestReads.f k a0 = some r) :
  Calls Try.prog 6 #[.string a0] w fun e w' => e = .returned (.bool r) ∧ Below w.heap.size w w' := by
 have hu26 := Try.underlying26
 have HB := Aside0.mk (Below.refl w.heap.size w)
 have H : ((tithebarnlaw16_lives.f k).bind fun t519 => (if t519 = true then ((manifest_Read.f k a0).bind fun bt520 => ((tithebarnref16_Read.f k a0).bind fun bt527 => (if bt520.2.2.2 = bt527.2.2.2 then ((tithebarnref16_Same.f k bt520.1 bt520.2.1 bt520.2.2.1 bt527.1 bt527.2.1 bt527.2.2.1).bind fun t534 => (some t534)) else (some false)))) else (some false))) = some r := h
 clear h
 replace H := Option.bind_eq_some_iff.mp H
 obtain ⟨t519, A20, H⟩ := H
 replace H : (if t519 = true then ((manifest_Read.f k a0).bind fun bt520 => ((tithebarnref16_Read.f k a0).bind fun bt527 => (if bt520.2.2.2 = bt527.2.2.2 then ((tithebarnref16_Same.f k bt520.1 bt520.2.1 bt520.2.2.1 bt527.1 bt527.2.1 bt527.2.2.1).bind fun t534 => (some t534)) else (some false)))) else (some false)) = some r := H
 have A2 := Aside0.mk A20
 clear A20
 by_cases c3 : t519 = true
 ·subst c3
  have H1 : ((manifest_Read.f k a0).bind fun bt520 => ((tithebarnref16_Read.f k a0).bind fun bt527 => (if bt520.2.2.2 = bt527.2.2.2 then ((tithebarnref16_Same.f k bt520.1 bt520.2.1 bt520.2.2.1 bt527.1 bt527.2.1 bt527.2.2.1).bind fun t534 => (some t534)) else (some false)))) = some r := by rw [if_pos rfl] at H; exact H
  clear H
  have H := H1
  clear H1
  replace H := Option.bind_eq_some_iff.mp H
  obtain ⟨⟨t520, t523, t524, t525⟩, A40, H⟩ := H
  replace H : ((tithebarnref16_Read.f k a0).bind fun bt527 => (if t525 = bt527.2.2.2 then ((tithebarnref16_Same.f k t520 t523 t524 bt527.1 bt527.2.1 bt527.2.2.1).bind fun t534 => (some t534)) else (some false))) = some r := H
  have A4 := Aside0.mk A40
  clear A40
  replace H := Option.bind_eq_some_iff.mp H
  obtain ⟨⟨t527, t530, t531, t532⟩, A50, H⟩ := H
  replace H : (if t525 = t532 then ((tithebarnref16_Same.f k t520 t523 t524 t527 t530 t531).bind fun t534 => (some t534)) else (some false)) = some r := H
  have A5 := Aside0.mk A50
  clear A50
  by_cases c6 : t525 = t532
  ·rw [if_pos c6] at H
   have c6b0 : (t525 == t532) = true := beq_iff_eq.mpr c6
   have c6b1 : (t525 != t532) = false := bne_eq_false_iff_eq.mpr c6
   clear c6
   replace H := Option.bind_eq_some_iff.mp H
   obtain ⟨t534, A70, H⟩ := H
   replace H : (some t534) = some r := H
   have A7 := Aside0.mk A70
   clear A70
   obtain rfl := Option.some.inj H
   go_enter Try.func6, Try.ntmps6
   go_wp2_with (first | ((with_reducible refine gate_callee (f := 8) rfl ?_); refine goesL_ (some 7) rfl rfl Try.func8 (by kernel_rfl) rfl #[] rfl (by (try simp only [List.map_toArray, List.map_cons, List.map_nil]); first | done | rfl | (simp only [List.length_drop, List.length_take]; rfl) | (go_simp; simp [IntKind.wrap, IntKind.bits, IntKind.signed]; omega)) ?_; (with_reducible refine (tithebarnlaw16_lives.calls k  true _ A2.out).mono ?_); rintro e w8 ⟨rfl, hb⟩; refine ⟨_, rfl, ?_⟩; have n0_ := Aside0.mk (below_step z1_ hb); clear HB; have HB := n0_; clear n0_; (try clear hb); (try clear hb2); (try clear hk); (try clear hi)) | ((with_reducible refine gate_callee (f := 15) rfl ?_); refine goesL_ (some 11) rfl rfl Try.func15 (by kernel_rfl) rfl #[.string a0] rfl (by (try simp only [List.map_toArray, List.map_cons, List.map_nil]); first | done | rfl | (simp only [List.length_drop, List.length_take]; rfl) | (go_simp; simp [IntKind.wrap, IntKind.bits, IntKind.signed]; omega)) ?_; (with_reducible refine (manifest_Read.calls k a0 t520 t523 t524 t525 _ A4.out).mono ?_); rintro e w9 ⟨v521, rfl, ho0, hb⟩; refine ⟨_, rfl, ?_⟩; have n0_ := Aside0.mk (Kd.R_lower ho0 (below_size z1_)); have n1_ := Aside0.mk (below_step z1_ hb); clear HB; have HO522 := n0_; have HB := n1_; clear n0_ n1_; (try clear hb); (try clear hb2); (try clear hk); (try clear hi); (try clear ho0)) | ((with_reducible refine gate_dst (N := 3) rfl ?_); refine box_event ?hg (N := 3) ?hd (cs := #[.slice none 0 0, .int .i64 0, .int .i64 0]) (t := 26) ?hr ?_; (case hd => rfl); (case hg => rfl); (case hr => first | (go_simp; done) | (go_simp; rfl)); intro gb526 hg w10 hbox hb; have n0_ := Aside0.mk (Kd.R_below (by (with_reducible repeat (first | apply Kd.R_alloc | apply Kd.R_drewN | apply Kd.R_drew)); exact HO522.out) hb); have n1_ := Aside0.mk (below_step z1_ hb); have n2_ := Aside0.mk (hbox); have n3_ := Aside0.mk ((by rw [hg]; exact (below_size z1_) : w.heap.size ≤ gb526)); have n4_ := Aside0.mk ((by rw [hg]; exact (below_size z1_) : w.heap.size ≤ gb526)); clear HO522; clear HB; have HO522 := n0_; have HB := n1_; have BK526 := n2_; have GW526 := n3_; have GE526 := n4_; clear n0_ n1_ n2_ n3_ n4_; clear hb hbox hg; obtain ⟨Ao11, co11, eo11⟩ := Kd.R_slice HO522.out; subst eo11; have hcz12_0 : w10.cell? ⟨gb526, 0, none⟩ = some (.slice none 0 0) := (blk_cell BK526.out 0).trans rfl; have hcz12_1 : w10.cell? ⟨gb526, 1, none⟩ = some (.int .i64 0) := (blk_cell BK526.out 1).trans rfl; have hcz12_2 : w10.cell? ⟨gb526, 2, none⟩ = some (.int .i64 0) := (blk_cell BK526.out 2).trans rfl; have hfz12_0 := blk_frozen BK526.out 0; have hfz12_1 := blk_frozen BK526.out 1; have hfz12_2 := blk_frozen BK526.out 2) | ((with_reducible refine gate_callee (f := 16) rfl ?_); refine goesL_ (some 16) rfl rfl Try.func16 (by kernel_rfl) rfl #[.string a0] rfl (by (try simp only [List.map_toArray, List.map_cons, List.map_nil]); first | done | rfl | (simp only [List.length_drop, List.length_take]; rfl) | (go_simp; simp [IntKind.wrap, IntKind.bits, IntKind.signed]; omega)) ?_; (with_reducible refine (tithebarnref16_Read.calls k a0 t527 t530 t531 t532 _ A5.out).mono ?_); rintro e w13 ⟨v528, rfl, ho0, hb⟩; refine ⟨_, rfl, ?_⟩; have n0_ := Aside0.mk (Kd.R_elder' (by (with_reducible repeat (first | apply Kd.R_alloc | apply Kd.R_drewN | apply Kd.R_drew)); exact (Kd.R_mono (Kd.R_far (p := ⟨gb526, 2, none⟩) (Kd.R_far (p := ⟨gb526, 1, none⟩) (Kd.R_far (p := ⟨gb526, 0, none⟩) (Kd.R_types HO522.out BK526.out (by decide)) (fun _ hk => hk.2) (.slice Ao11 t520.length co11)) (fun _ hk => hk.2) (.int .i64 t523)) (fun _ hk => hk.2) (.int .i64 t524)) (fun _ h_ => h_.1))) (Kd.R_base ho0) hb); have n1_ := Aside0.mk (Kd.R_lower (Kd.R_new' ho0 (Kd.R_lt (by (with_reducible repeat (first | apply Kd.R_alloc | apply Kd.R_drewN | apply Kd.R_drew)); exact (Kd.R_mono (Kd.R_far (p := ⟨gb526, 2, none⟩) (Kd.R_far (p := ⟨gb526, 1, none⟩) (Kd.R_far (p := ⟨gb526, 0, none⟩) (Kd.R_types HO522.out BK526.out (by decide)) (fun _ hk => hk.2) (.slice Ao11 t520.length co11)) (fun _ hk => hk.2) (.int .i64 t523)) (fun _ hk => hk.2) (.int .i64 t524)) (fun _ h_ => h_.1))))) (below_size z16_)); have n2_ := Aside0.mk (blk_below (g := gb526) (o := .cells #[.slice Ao11 t520.length co11, .int .i64 t523, .int .i64 t524] 26 (0, 0)) (by (with_reducible repeat (first | refine blk_drewN ?_ _ | refine blk_drew ?_ | refine blk_alloc ?_ _)); refine blk_put (cs := #[.slice Ao11 t520.length co11, .int .i64 t523, .int .i64 0]) ?_ 2 _ rfl; (with_reducible repeat (first | refine blk_drewN ?_ _ | refine blk_drew ?_ | refine blk_alloc ?_ _)); refine blk_put (cs := #[.slice Ao11 t520.length co11, .int .i64 0, .int .i64 0]) ?_ 1 _ rfl; (with_reducible repeat (first | refine blk_drewN ?_ _ | refine blk_drew ?_ | refine blk_alloc ?_ _)); refine blk_put (cs := #[.slice none 0 0, .int .i64 0, .int .i64 0]) ?_ 0 _ rfl; (with_reducible repeat (first | refine blk_drewN ?_ _ | refine blk_drew ?_ | refine blk_alloc ?_ _)); exact BK526.out) hb); have n3_ := Aside0.mk (below_step z16_ hb); clear HO522; clear BK526; clear HB; have HO522 := n0_; have HO529 := n1_; have BK526 := n2_; have HB := n3_; clear n0_ n1_ n2_ n3_; (try clear hb); (try clear hb2); (try clear hk); (try clear hi); (try clear ho0)) | ((with_reducible refine gate_dst (N := 5) rfl ?_); refine box_event ?hg (N := 5) ?hd (cs := #[.slice none 0 0, .int .i64 0, .int .i64 0]) (t := 26) ?hr ?_; (case hd => rfl); (case hg => rfl); (case hr => first | (go_simp; done) | (go_simp; rfl)); intro gb533 hg w14 hbox hb; have n0_ := Aside0.mk (Kd.R_below (by (with_reducible repeat (first | apply Kd.R_alloc | apply Kd.R_drewN | apply Kd.R_drew)); exact HO522.out) hb); have n1_ := Aside0.mk (Kd.R_below (by (with_reducible repeat (first | apply Kd.R_alloc | apply Kd.R_drewN | apply Kd.R_drew)); exact HO529.out) hb); have n2_ := Aside0.mk (blk_below (g := gb526) (o := .cells #[.slice Ao11 t520.length co11, .int .i64 t523, .int .i64 t524] 26 (0, 0)) (by (with_reducible repeat (first | refine blk_drewN ?_ _ | refine blk_drew ?_ | refine blk_alloc ?_ _)); exact BK526.out) hb); have n3_ := Aside0.mk (below_step z16_ hb); have n4_ := Aside0.mk (hbox); have n5_ := Aside0.mk ((by rw [hg]; exact (below_size z16_) : w.heap.size ≤ gb533)); have n6_ := Aside0.mk ((by rw [hg]; exact (below_size z16_) : w.heap.size ≤ gb533)); have n7_ := Aside0.mk ((by rw [hg]; exact Nat.ne_of_lt (blk_lt (g := gb526) (o := .cells #[.slice Ao11 t520.length co11, .int .i64 t523, .int .i64 t524] 26 (0, 0)) (by (with_reducible repeat (first | refine blk_drewN ?_ _ | refine blk_drew ?_ | refine blk_alloc ?_ _)); exact BK526.out)) : gb526 ≠ gb533)); have n8_ := Aside0.mk ((by rw [hg]; exact Nat.ne_of_gt (blk_lt (g := gb526) (o := .cells #[.slice Ao11 t520.length co11, .int .i64 t523, .int .i64 t524] 26 (0, 0)) (by (with_reducible repeat (first | refine blk_drewN ?_ _ | refine blk_drew ?_ | refine blk_alloc ?_ _)); exact BK526.out)) : gb533 ≠ gb526)); clear HO522; clear HO529; clear BK526; clear HB; have HO522 := n0_; have HO529 := n1_; have BK526 := n2_; have HB := n3_; have BK533 := n4_; have GW533 := n5_; have GE533 := n6_; have NB526_533 := n7_; have NB533_526 := n8_; clear n0_ n1_ n2_ n3_ n4_ n5_ n6_ n7_ n8_; clear hb hbox hg; obtain ⟨Ao15, co15, eo15⟩ := Kd.R_slice HO529.out; subst eo15; have hnb16 := NB533_526.out; have hnc16 := NB526_533.out; have hcz17_0 : w14.cell? ⟨gb533, 0, none⟩ = some (.slice none 0 0) := (blk_cell BK533.out 0).trans rfl; have hcz17_1 : w14.cell? ⟨gb533, 1, none⟩ = some (.int .i64 0) := (blk_cell BK533.out 1).trans rfl; have hcz17_2 : w14.cell? ⟨gb533, 2, none⟩ = some (.int .i64 0) := (blk_cell BK533.out 2).trans rfl; have hfz17_0 := blk_frozen BK533.out 0; have hfz17_1 := blk_frozen BK533.out 1; have hfz17_2 := blk_frozen BK533.out 2; have hcz18_0 : w14.cell? ⟨gb526, 0, none⟩ = some (.slice Ao11 t520.length co11) := (blk_cell BK526.out 0).trans rfl; have hcz18_1 : w14.cell? ⟨gb526, 1, none⟩ = some (.int .i64 t523) := (blk_cell BK526.out 1).trans rfl; have hcz18_2 : w14.cell? ⟨gb526, 2, none⟩ = some (.int .i64 t524) := (blk_cell BK526.out 2).trans rfl; have hfz18_0 := blk_frozen BK526.out 0; have hfz18_1 := blk_frozen BK526.out 1; have hfz18_2 := blk_frozen BK526.out 2) | (go_at_call 11; (with_reducible refine (tithebarnref16_Same.calls k _ _ t520 t523 t524 _ _ t527 t530 t531 t534 _ ?side1 ?side2 ?side3 ?side4 A7.out).mono ?_); (case side1 => refine (Kd.R_reads' (e := 36) (base := w.heap.size) (ok := fun k_ => (True ∧ some k_ ≠ (.slice Ao15 t527.length co15 : Value).ownBlock)) (n := t520.length) (c := co11) ?_).2.2; exact (by (with_reducible repeat (first | apply Kd.R_alloc | apply Kd.R_drewN | apply Kd.R_drew)); exact (Kd.R_mono (Kd.R_far (p := ⟨gb533, 2, none⟩) (Kd.R_far (p := ⟨gb533, 1, none⟩) (Kd.R_far (p := ⟨gb533, 0, none⟩) (Kd.R_types HO522.out BK533.out (by decide)) (fun _ hk => hk.2) (.slice Ao15 t527.length co15)) (fun _ hk => hk.2) (.int .i64 t530)) (fun _ hk => hk.2) (.int .i64 t531)) (fun _ h_ => h_.1)))); (case side2 => exact (Kd.R_reads' HO522.out).2.1); (case side3 => refine (Kd.R_reads' (e := 36) (base := w.heap.size) (ok := fun k_ => (True ∧ some k_ ≠ (.slice Ao11 t520.length co11 : Value).ownBlock)) (n := t527.length) (c := co15) ?_).2.2; exact (by (with_reducible repeat (first | apply Kd.R_alloc | apply Kd.R_drewN | apply Kd.R_drew)); exact (Kd.R_mono (Kd.R_far (p := ⟨gb533, 2, none⟩) (Kd.R_far (p := ⟨gb533, 1, none⟩) (Kd.R_far (p := ⟨gb533, 0, none⟩) (Kd.R_types HO529.out BK533.out (by decide)) (fun _ hk => hk.2) (.slice Ao15 t527.length co15)) (fun _ hk => hk.2) (.int .i64 t530)) (fun _ hk => hk.2) (.int .i64 t531)) (fun _ h_ => h_.1)))); (case side4 => exact (Kd.R_reads' HO529.out).2.1); rintro e w19 ⟨rfl, hb⟩; have n0_ := Aside0.mk (Kd.R_below (by (with_reducible repeat (first | apply Kd.R_alloc | apply Kd.R_drewN | apply Kd.R_drew)); exact (Kd.R_mono (Kd.R_far (p := ⟨gb533, 2, none⟩) (Kd.R_far (p := ⟨gb533, 1, none⟩) (Kd.R_far (p := ⟨gb533, 0, none⟩) (Kd.R_types HO522.out BK533.out (by decide)) (fun _ hk => hk.2) (.slice Ao15 t527.length co15)) (fun _ hk => hk.2) (.int .i64 t530)) (fun _ hk => hk.2) (.int .i64 t531)) (fun _ h_ => h_.1))) hb); have n1_ := Aside0.mk (Kd.R_below (by (with_reducible repeat (first | apply Kd.R_alloc | apply Kd.R_drewN | apply Kd.R_drew)); exact (Kd.R_mono (Kd.R_far (p := ⟨gb533, 2, none⟩) (Kd.R_far (p := ⟨gb533, 1, none⟩) (Kd.R_far (p := ⟨gb533, 0, none⟩) (Kd.R_types HO529.out BK533.out (by decide)) (fun _ hk => hk.2) (.slice Ao15 t527.length co15)) (fun _ hk => hk.2) (.int .i64 t530)) (fun _ hk => hk.2) (.int .i64 t531)) (fun _ h_ => h_.1))) hb); have n2_ := Aside0.mk (blk_below (g := gb526) (o := .cells #[.slice Ao11 t520.length co11, .int .i64 t523, .int .i64 t524] 26 (0, 0)) (by (with_reducible repeat (first | refine blk_drewN ?_ _ | refine blk_drew ?_ | refine blk_alloc ?_ _)); refine blk_far ?_ NB526_533.out _; (with_reducible repeat (first | refine blk_drewN ?_ _ | refine blk_drew ?_ | refine blk_alloc ?_ _)); refine blk_far ?_ NB526_533.out _; (with_reducible repeat (first | refine blk_drewN ?_ _ | refine blk_drew ?_ | refine blk_alloc ?_ _)); refine blk_far ?_ NB526_533.out _; (with_reducible repeat (first | refine blk_drewN ?_ _ | refine blk_drew ?_ | refine blk_alloc ?_ _)); exact BK526.out) hb); have n3_ := Aside0.mk (blk_below (g := gb533) (o := .cells #[.slice Ao15 t527.length co15, .int .i64 t530, .int .i64 t531] 26 (0, 0)) (by (with_reducible repeat (first | refine blk_drewN ?_ _ | refine blk_drew ?_ | refine blk_alloc ?_ _)); refine blk_put (cs := #[.slice Ao15 t527.length co15, .int .i64 t530, .int .i64 0]) ?_ 2 _ rfl; (with_reducible repeat (first | refine blk_drewN ?_ _ | refine blk_drew ?_ | refine blk_alloc ?_ _)); refine blk_put (cs := #[.slice Ao15 t527.length co15, .int .i64 0, .int .i64 0]) ?_ 1 _ rfl; (with_reducible repeat (first | refine blk_drewN ?_ _ | refine blk_drew ?_ | refine blk_alloc ?_ _)); refine blk_put (cs := #[.slice none 0 0, .int .i64 0, .int .i64 0]) ?_ 0 _ rfl; (with_reducible repeat (first | refine blk_drewN ?_ _ | refine blk_drew ?_ | refine blk_alloc ?_ _)); exact BK533.out) hb); have n4_ := Aside0.mk (below_step z27_ hb); clear HO522; clear HO529; clear BK526; clear BK533; clear HB; have HO522 := n0_; have HO529 := n1_; have BK526 := n2_; have BK533 := n3_; have HB := n4_; clear n0_ n1_ n2_ n3_ n4_; (try clear hb); (try clear hb2); (try clear hk); (try clear hi)))
   go_ret
   exact ⟨z2_, z27_⟩
  ·rw [if_neg c6] at H
   have c6b0 : (t525 == t532) = false := beq_eq_false_iff_ne.mpr c6
   have c6b1 : (t525 != t532) = true := bne_iff_ne.mpr c6
   obtain rfl := Option.some.inj H
   go_enter Try.func6, Try.ntmps6
   go_wp2_with (first | ((with_reducible refine gate_callee (f := 8) rfl ?_); refine goesL_ (some 7) rfl rfl Try.func8 (by kernel_rfl) rfl #[] rfl (by (try simp only [List.map_toArray, List.map_cons, List.map_nil]); first | done | rfl | (simp only [List.length_drop, List.length_take]; rfl) | (go_simp; simp [IntKind.wrap, IntKind.bits, IntKind.signed]; omega)) ?_; (with_reducible refine (tithebarnlaw16_lives.calls k  true _ A2.out).mono ?_); rintro e w20 ⟨rfl, hb⟩; refine ⟨_, rfl, ?_⟩; have n0_ := Aside0.mk (below_step z1_ hb); clear HB; have HB := n0_; clear n0_; (try clear hb); (try clear hb2); (try clear hk); (try clear hi)) | ((with_reducible refine gate_callee (f := 15) rfl ?_); refine goesL_ (some 11) rfl rfl Try.func15 (by kernel_rfl) rfl #[.string a0] rfl (by (try simp only [List.map_toArray, List.map_cons, List.map_nil]); first | done | rfl | (simp only [List.length_drop, List.length_take]; rfl) | (go_simp; simp [IntKind.wrap, IntKind.bits, IntKind.signed]; omega)) ?_; (with_reducible refine (manifest_Read.calls k a0 t520 t523 t524 t525 _ A4.out).mono ?_); rintro e w21 ⟨v521, rfl, ho0, hb⟩; refine ⟨_, rfl, ?_⟩; have n0_ := Aside0.mk (Kd.R_lower ho0 (below_size z1_)); have n1_ := Aside0.mk (below_step z1_ hb); clear HB; have HO522 := n0_; have HB := n1_; clear n0_ n1_; (try clear hb); (try clear hb2); (try clear hk); (try clear hi); (try clear ho0)) | ((with_reducible refine gate_dst (N := 3) rfl ?_); refine box_event ?hg (N := 3) ?hd (cs := #[.slice none 0 0, .int .i64 0, .int .i64 0]) (t := 26) ?hr ?_; (case hd => rfl); (case hg => rfl); (case hr => first | (go_simp; done) | (go_simp; rfl)); intro gb526 hg w22 hbox hb; have n0_ := Aside0.mk (Kd.R_below (by (with_reducible repeat (first | apply Kd.R_alloc | apply Kd.R_drewN | apply Kd.R_drew)); exact HO522.out) hb); have n1_ := Aside0.mk (below_step z1_ hb); have n2_ := Aside0.mk (hbox); have n3_ := Aside0.mk ((by rw [hg]; exact (below_size z1_) : w.heap.size ≤ gb526)); have n4_ := Aside0.mk ((by rw [hg]; exact (below_size z1_) : w.heap.size ≤ gb526)); clear HO522; clear HB; have HO522 := n0_; have HB := n1_; have BK526 := n2_; have GW526 := n3_; have GE526 := n4_; clear n0_ n1_ n2_ n3_ n4_; clear hb hbox hg; obtain ⟨Ao23, co23, eo23⟩ := Kd.R_slice HO522.out; subst eo23; have hcz24_0 : w22.cell? ⟨gb526, 0, none⟩ = some (.slice none 0 0) := (blk_cell BK526.out 0).trans rfl; have hcz24_1 : w22.cell? ⟨gb526, 1, none⟩ = some (.int .i64 0) := (blk_cell BK526.out 1).trans rfl; have hcz24_2 : w22.cell? ⟨gb526, 2, none⟩ = some (.int .i64 0) := (blk_cell BK526.out 2).trans rfl; have hfz24_0 := blk_frozen BK526.out 0; have hfz24_1 := blk_frozen BK526.out 1; have hfz24_2 := blk_frozen BK526.out 2) | ((with_reducible refine gate_callee (f := 16) rfl ?_); refine goesL_ (some 16) rfl rfl Try.func16 (by kernel_rfl) rfl #[.string a0] rfl (by (try simp only [List.map_toArray, List.map_cons, List.map_nil]); first | done | rfl | (simp only [List.length_drop, List.length_take]; rfl) | (go_simp; simp [IntKind.wrap, IntKind.bits, IntKind.signed]; omega)) ?_; (with_reducible refine (tithebarnref16_Read.calls k a0 t527 t530 t531 t532 _ A5.out).mono ?_); rintro e w25 ⟨v528, rfl, ho0, hb⟩; refine ⟨_, rfl, ?_⟩; have n0_ := Aside0.mk (Kd.R_elder' (by (with_reducible repeat (first | apply Kd.R_alloc | apply Kd.R_drewN | apply Kd.R_drew)); exact (Kd.R_mono (Kd.R_far (p := ⟨gb526, 2, none⟩) (Kd.R_far (p := ⟨gb526, 1, none⟩) (Kd.R_far (p := ⟨gb526, 0, none⟩) (Kd.R_types HO522.out BK526.out (by decide)) (fun _ hk => hk.2) (.slice Ao23 t520.length co23)) (fun _ hk => hk.2) (.int .i64 t523)) (fun _ hk => hk.2) (.int .i64 t524)) (fun _ h_ => h_.1))) (Kd.R_base ho0) hb); have n1_ := Aside0.mk (Kd.R_lower (Kd.R_new' ho0 (Kd.R_lt (by (with_reducible repeat (first | apply Kd.R_alloc | apply Kd.R_drewN | apply Kd.R_drew)); exact (Kd.R_mono (Kd.R_far (p := ⟨gb526, 2, none⟩) (Kd.R_far (p := ⟨gb526, 1, none⟩) (Kd.R_far (p := ⟨gb526, 0, none⟩) (Kd.R_types HO522.out BK526.out (by decide)) (fun _ hk => hk.2) (.slice Ao23 t520.length co23)) (fun _ hk => hk.2) (.int .i64 t523)) (fun _ hk => hk.2) (.int .i64 t524)) (fun _ h_ => h_.1))))) (below_size z16_)); have n2_ := Aside0.mk (blk_below (g := gb526) (o := .cells #[.slice Ao23 t520.length co23, .int .i64 t523, .int .i64 t524] 26 (0, 0)) (by (with_reducible repeat (first | refine blk_drewN ?_ _ | refine blk_drew ?_ | refine blk_alloc ?_ _)); refine blk_put (cs := #[.slice Ao23 t520.length co23, .int .i64 t523, .int .i64 0]) ?_ 2 _ rfl; (with_reducible repeat (first | refine blk_drewN ?_ _ | refine blk_drew ?_ | refine blk_alloc ?_ _)); refine blk_put (cs := #[.slice Ao23 t520.length co23, .int .i64 0, .int .i64 0]) ?_ 1 _ rfl; (with_reducible repeat (first | refine blk_drewN ?_ _ | refine blk_drew ?_ | refine blk_alloc ?_ _)); refine blk_put (cs := #[.slice none 0 0, .int .i64 0, .int .i64 0]) ?_ 0 _ rfl; (with_reducible repeat (first | refine blk_drewN ?_ _ | refine blk_drew ?_ | refine blk_alloc ?_ _)); exact BK526.out) hb); have n3_ := Aside0.mk (below_step z16_ hb); clear HO522; clear BK526; clear HB; have HO522 := n0_; have HO529 := n1_; have BK526 := n2_; have HB := n3_; clear n0_ n1_ n2_ n3_; (try clear hb); (try clear hb2); (try clear hk); (try clear hi); (try clear ho0)) | ((with_reducible refine gate_dst (N := 5) rfl ?_); refine box_event ?hg (N := 5) ?hd (cs := #[.slice none 0 0, .int .i64 0, .int .i64 0]) (t := 26) ?hr ?_; (case hd => rfl); (case hg => rfl); (case hr => first | (go_simp; done) | (go_simp; rfl)); intro gb533 hg w26 hbox hb; have n0_ := Aside0.mk (Kd.R_below (by (with_reducible repeat (first | apply Kd.R_alloc | apply Kd.R_drewN | apply Kd.R_drew)); exact HO522.out) hb); have n1_ := Aside0.mk (Kd.R_below (by (with_reducible repeat (first | apply Kd.R_alloc | apply Kd.R_drewN | apply Kd.R_drew)); exact HO529.out) hb); have n2_ := Aside0.mk (blk_below (g := gb526) (o := .cells #[.slice Ao23 t520.length co23, .int .i64 t523, .int .i64 t524] 26 (0, 0)) (by (with_reducible repeat (first | refine blk_drewN ?_ _ | refine blk_drew ?_ | refine blk_alloc ?_ _)); exact BK526.out) hb); have n3_ := Aside0.mk (below_step z16_ hb); have n4_ := Aside0.mk (hbox); have n5_ := Aside0.mk ((by rw [hg]; exact (below_size z16_) : w.heap.size ≤ gb533)); have n6_ := Aside0.mk ((by rw [hg]; exact (below_size z16_) : w.heap.size ≤ gb533)); have n7_ := Aside0.mk ((by rw [hg]; exact Nat.ne_of_lt (blk_lt (g := gb526) (o := .cells #[.slice Ao23 t520.length co23, .int .i64 t523, .int .i64 t524] 26 (0, 0)) (by (with_reducible repeat (first | refine blk_drewN ?_ _ | refine blk_drew ?_ | refine blk_alloc ?_ _)); exact BK526.out)) : gb526 ≠ gb533)); have n8_ := Aside0.mk ((by rw [hg]; exact Nat.ne_of_gt (blk_lt (g := gb526) (o := .cells #[.slice Ao23 t520.length co23, .int .i64 t523, .int .i64 t524] 26 (0, 0)) (by (with_reducible repeat (first | refine blk_drewN ?_ _ | refine blk_drew ?_ | refine blk_alloc ?_ _)); exact BK526.out)) : gb533 ≠ gb526)); clear HO522; clear HO529; clear BK526; clear HB; have HO522 := n0_; have HO529 := n1_; have BK526 := n2_; have HB := n3_; have BK533 := n4_; have GW533 := n5_; have GE533 := n6_; have NB526_533 := n7_; have NB533_526 := n8_; clear n0_ n1_ n2_ n3_ n4_ n5_ n6_ n7_ n8_; clear hb hbox hg; obtain ⟨Ao27, co27, eo27⟩ := Kd.R_slice HO529.out; subst eo27; have hnb28 := NB533_526.out; have hnc28 := NB526_533.out; have hcz29_0 : w26.cell? ⟨gb533, 0, none⟩ = some (.slice none 0 0) := (blk_cell BK533.out 0).trans rfl; have hcz29_1 : w26.cell? ⟨gb533, 1, none⟩ = some (.int .i64 0) := (blk_cell BK533.out 1).trans rfl; have hcz29_2 : w26.cell? ⟨gb533, 2, none⟩ = some (.int .i64 0) := (blk_cell BK533.out 2).trans rfl; have hfz29_0 := blk_frozen BK533.out 0; have hfz29_1 := blk_frozen BK533.out 1; have hfz29_2 := blk_frozen BK533.out 2))
   go_ret
   exact ⟨z2_, z27_⟩
 ·replace c3 := Bool.eq_false_iff.mpr c3
  subst c3
  have H1 : (some false) = some r := by rw [if_neg (show ¬ (false = true) by decide)] at H; exact H
  clear H
  have H := H1
  clear H1
  obtain rfl := Option.some.inj H
  go_enter Try.func6, Try.ntmps6
  go_wp2_with (first | ((with_reducible refine gate_callee (f := 8) rfl ?_); refine goesL_ (some 7) rfl rfl Try.func8 (by kernel_rfl) rfl #[] rfl (by (try simp only [List.map_toArray, List.map_cons, List.map_nil]); first | done | rfl | (simp only [List.length_drop, List.length_take]; rfl) | (go_simp; simp [IntKind.wrap, IntKind.bits, IntKind.signed]; omega)) ?_; (with_reducible refine (tithebarnlaw16_lives.calls k  false _ A2.out).mono ?_); rintro e w30 ⟨rfl, hb⟩; refine ⟨_, rfl, ?_⟩; have n0_ := Aside0.mk (below_step z1_ hb); clear HB; have HB := n0_; clear n0_; (try clear hb); (try clear hb2); (try clear hk); (try clear hi)))
  go_ret
  exact ⟨z2_, z1_⟩
end Go.Proofs.Ytagokgijffpdnaa.G
namespace Go.Proofs.Ytagokgijffpdnaa.G
open Go.RowKit Go.Proofs.YtagokgijffpdnaaQ Go.Proofs.YtagokgijffpdnaaW.PrintWords Go.Proofs.YtagokgijffpdnaaW.PrintLast Go.Proofs.YtagokgijffpdnaaW.PrintMore
set_option linter.unusedVariables false
set_option linter.unusedSimpArgs false
theorem Read_l0 (fr : List ByteArray) (hfr : fr.length ≤ 900000) (hsz : ∀ x ∈ fr, x.size ≤ 4611686018427387904) : ∀ (m i k : Nat) (s : List SP) (sf sn : Int), i + m = fr.length → m + 3000000000001 ≤ k → Inv s sf sn (1000 * i) → ∃ q, readL (fr.drop i) s sf sn = some q ∧ tithebarnref16_Read.l0 k fr i s sf sn = some q ∧ q.1.length ≤ 1000000000 := by
 intro m
 induction m with
 | zero =>
  intro i k s sf sn hi hk hI
  obtain ⟨k, rfl⟩ : ∃ m, k = m + 1 := ⟨k - 1, by omega⟩
  refine ⟨(s, sf, sn, 0), ?_, ?_, ?_⟩
  ·rw [List.drop_eq_nil_of_le (by omega)]; rfl
  ·simp only [tithebarnref16_Read.l0]
   rw [if_neg (by omega)]
  ·have := hI.len; show s.length ≤ _; omega
 | succ m ih =>
  intro i k s sf sn hi hk hI
  obtain ⟨k, rfl⟩ : ∃ m, k = m + 1 := ⟨k - 1, by omega⟩
  have hlt : i < fr.length := by omega
  have hx : rdOf ByteArray.empty fr (i : Int) = fr[i] := by
   unfold rdOf
   rw [Int.toNat_natCast, List.getD_eq_getElem?_getD, List.getElem?_eq_getElem hlt]; rfl
  have hs := hsz fr[i] (List.getElem_mem hlt)
  rw [List.drop_eq_getElem_cons hlt]
  have hL : tithebarnref16_Read.l0 (k + 1) fr i s sf sn = (if (rEdit (bytesOf fr[i])).2.2.2.2 = true then ((tithebarnref16_Apply.f k s sf sn (rEdit (bytesOf fr[i])).1 (rEdit (bytesOf fr[i])).2.1 (rEdit (bytesOf fr[i])).2.2.1 (rEdit (bytesOf fr[i])).2.2.2.1).bind fun t => (if t.2.2.2 = 0 then (tithebarnref16_Read.l0 k fr (wrap64 ((i : Int) + 1)) t.1 t.2.1 t.2.2.1) else (some (([] : List SP), 0, 0, 8)))) else (some (([] : List SP), 0, 0, 8))) := by
   simp only [tithebarnref16_Read.l0]
   rw [if_pos (by omega), if_pos (by omega), hx, edit_f (by omega) hs, Option.bind_some]
  rw [hL]
  clear hL
  unfold readL
  rw [if_pos hs]
  have e : wrap64 ((i : Int) + 1) = ((i + 1 : Nat) : Int) := by rw [w64 (by omega) (by omega)]; omega
  rw [e]
  have E := Aside0.mk e; clear e
  obtain ⟨h1, h2⟩ := edit_same (Bs.bytesOf fr[i])
  cases ho : (editL (bytesOf fr[i])).2.2.2.2 with
  | false =>
   rw [ho] at h1
   rw [h1, if_neg (by decide), if_neg (by decide)]
   exact ⟨_, rfl, rfl, by simp⟩
  | true =>
   rw [h2 ho, ho, if_pos rfl, if_pos rfl]
   generalize editL (bytesOf fr[i]) = q
   obtain ⟨d, a, fl, nx, ok⟩ := q
   simp only
   have hl := hI.len
   have hA : manifest_Apply.f s sf sn d a fl nx = some (applyL s sf sn d a fl nx) := by
    unfold manifest_Apply.f; rw [if_pos ⟨hI.wf, by omega⟩]
   rw [hA, rApply_f s sf sn d a fl nx (by omega) (by omega), Option.bind_some, Option.bind_some]
   obtain ⟨⟨r, rf, rn, re⟩, hr⟩ : ∃ z, applyL s sf sn d a fl nx = z := ⟨_, rfl⟩
   rw [hr]
   simp only
   by_cases hz : re = 0
   ·subst hz
    rw [if_pos rfl, if_pos rfl]
    have hI2 := (hI.step hr).1
    exact ih (i + 1) k r rf rn (by omega) (by omega) (by rw [show 1000 * (i + 1) = 1000 * i + 1000 by omega]; exact hI2)
   ·rw [if_neg hz, if_neg hz]
    exact ⟨_, rfl, rfl, by simp⟩
theorem scan_le : ∀ (n : Nat) (l : List Int), l.length ≤ n → Bs l → ∀ ts q, scan l = some (ts, q) → ∀ t ∈ ts, t.length ≤ l.length := by
 intro n
 induction n with
 | zero =>
  intro l hn hl ts q h
  have : l = [] := List.length_eq_zero_iff.1 (by omega)
  subst this
  have h' : some (([] : List (List Int)), ([] : List Int)) = some (ts, q) := h
  simp at h'
  obtain ⟨rfl, rfl⟩ := h'
  simp
 | succ n ih =>
  intro l hn hl ts q h
  cases hfr : frI l with
  | part =>
   rw [scan_part hfr] at h
   simp at h
   obtain ⟨rfl, rfl⟩ := h
   simp
  | bad => rw [scan_bad hfr] at h; cases h
  | whole t r =>
   have h1 := frI_whole hl hfr
   obtain ⟨ht, hr⟩ := frI_rest_Bs hl hfr
   rw [scan_whole hl hfr] at h
   cases hs : scan r with
   | none => rw [hs] at h; cases h
   | some p =>
    rw [hs] at h
    simp at h
    obtain ⟨rfl, rfl⟩ := h
    have a3 := ih r (by omega) hr p.1 p.2 hs
    intro x hx
    rcases List.mem_cons.1 hx with rfl | hx
    ·omega
    ·exact Nat.le_trans (a3 x hx) (by omega)
theorem Reads_f (s : ByteArray) (hs : s.size ≤ 1048576) : tithebarnlaw16_ManifestReads.f 4000000000000 s = some true := by
 unfold tithebarnlaw16_ManifestReads.f manifest_Read.f tithebarnref16_Read.f
 rw [lives_f (by decide), Option.bind_some, if_pos rfl, Scan_f (by omega) (by omega), rScan_f (by omega) (by omega), Option.bind_some, Option.bind_some]
 have hB := Bs.bytesOf s
 obtain ⟨⟨frs, n3, er⟩, ht⟩ : ∃ z, told s.size [] (scan (bytesOf s)) = z := ⟨_, rfl⟩
 rw [ht]
 simp only
 cases hsc : scan (bytesOf s) with
 | none =>
  rw [hsc] at ht
  obtain ⟨rfl, rfl, rfl⟩ : [] = frs ∧ 0 = n3 ∧ 8 = er := by simpa [told] using ht
  rw [if_neg (show ¬ ((8 : Int) = 0) by decide), if_neg (show ¬ ((8 : Int) = 0) by decide), Option.bind_some, Option.bind_some, if_pos rfl, Same_self (by simp) (by simp), Option.bind_some]
 | some p =>
  obtain ⟨ts, q⟩ := p
  rw [hsc] at ht
  replace ht : (([] : List ByteArray) ++ ts.map strOfNums, ((s.size - q.length : Nat) : Int), (0 : Int)) = (frs, n3, er) := ht
  rw [List.nil_append] at ht
  obtain ⟨hf, ht⟩ := Prod.mk.inj ht
  obtain ⟨-, he⟩ := Prod.mk.inj ht
  obtain ⟨-, -, h3, h4⟩ := scan_Bs (bytesOf s).length (bytesOf s) (Nat.le_refl _) hB ts q hsc
  rw [bytesOf_size] at h4
  have hfl : frs.length ≤ 900000 := by rw [← hf, List.length_map]; omega
  have hz : ∀ x ∈ frs, x.size ≤ 4611686018427387904 := fun x hx => by
   rw [← hf] at hx
   obtain ⟨t, ht, rfl⟩ := List.mem_map.1 hx
   rw [size_strOfNums]
   have := scan_le (bytesOf s).length (bytesOf s) (Nat.le_refl _) hB ts q hsc t ht
   rw [bytesOf_size] at this
   omega
  rw [if_pos he.symm, if_pos he.symm]
  obtain ⟨r, hr1, hr2, hr3⟩ := Read_l0 frs hfl hz frs.length 0 4000000000000 [] 0 0 (by omega) (by omega) (Inv.nil _)
  rw [List.drop_zero] at hr1
  have hr2' : tithebarnref16_Read.l0 4000000000000 frs 0 [] 0 0 = some r := hr2
  rw [hr1, hr2', Option.bind_some, Option.bind_some, if_pos rfl, Same_self (by omega) (by omega), Option.bind_some]
theorem ManifestReads.law (s : ByteArray) (w : World) (hs : s.size ≤ maxLen) (hb : s.size + 1 ≤ 1048576) :
  Calls Try.prog 6 #[.string s] w fun e w' => e = .returned (.bool true) ∧ Below w.heap.size w w' :=
 tithebarnlaw16_ManifestReads.calls 4000000000000 s true w (Reads_f s (by omega))
end Go.Proofs.Ytagokgijffpdnaa.G
