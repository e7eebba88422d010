import Derived.Test.YtagokgijffpdnaaZQA
import Derived.Test.YtagokgijffpdnaaZG12
namespace Go.Proofs.Ytagokgijffpdnaa.G
open Go.RowKit Go.Proofs.YtagokgijffpdnaaQ Go.Proofs.YtagokgijffpdnaaW.PrintWords Go.Proofs.YtagokgijffpdnaaW.PrintLast Go.Proofs.YtagokgijffpdnaaW.PrintMore
attribute [local go_sem] max2_int min2_int max_two min_two max_three min_three max_four min_four   -- for this text's walks alone
set_option linter.unusedVariables false
set_option linter.unusedSimpArgs false
mutual
def tithebarnref16_Apply.j0 : Nat → Bool → List (S36) → Int → Int → List Int → List (S36) → Int → Int → Option ((List (S36)) × Int × Int × Int)
 | 0, _, _, _, _, _, _, _, _ => none
 | k + 1, x26, x341000, x341001, x341002, x342000, x342001, x342002, x342003 => if x26 = true then (some (([] : List (S36)), 0, 0, 8)) else (if ([] : List (S36)).length + x341000.length < 1759218604441 then (tithebarnref16_Apply.l0 k (([] : List (S36)) ++ x341000) 0 x342000 x342001 x342002 x342003) else (none))
def tithebarnref16_Apply.l0 : Nat → List (S36) → Int → List Int → List (S36) → Int → Int → Option ((List (S36)) × Int × Int × Int)
 | 0, _, _, _, _, _, _ => none
 | k + 1, x6, x7, x342000, x342001, x342002, x342003 => if x7 < (x342000.length : Int) then (if 0 ≤ x7 then ((tithebarnref16_at.f k x6 (rd x342000 x7)).bind fun t348 => (if t348 < 0 then (some (([] : List (S36)), 0, 0, 8)) else (tithebarnref16_Apply.l1 k x6 x7 x342000 x342001 x342002 x342003))) else (none)) else (tithebarnref16_Apply.l2 k x6 0 x342000 x342001 x342002 x342003)
def tithebarnref16_Apply.l1 : Nat → List (S36) → Int → List Int → List (S36) → Int → Int → Option ((List (S36)) × Int × Int × Int)
 | 0, _, _, _, _, _, _ => none
 | k + 1, x6, x7, x342000, x342001, x342002, x342003 => if 0 ≤ x7 then (if x7 < (x342000.length : Int) then ((tithebarnref16_at.f k x6 (rd x342000 x7)).bind fun t350 => (if t350 ≥ 0 then ((tithebarnref16_at.f k x6 (rd x342000 x7)).bind fun t352 => (if 0 ≤ t352 then (if t352 ≤ (x6.length : Int) then ((some (x6.take (t352 : Int).toNat : List (S36))).bind fun y353 => (if ([] : List (S36)).length + y353.length < 1759218604441 then ((some (([] : List (S36)) ++ y353 : List (S36))).bind fun y357 => (if 0 ≤ (wrap64 (t352 + 1)) then (if (wrap64 (t352 + 1)) ≤ (x6.length : Int) then ((some (x6.drop ((wrap64 (t352 + 1)) : Int).toNat : List (S36))).bind fun y360 => (if y357.length + y360.length < 1759218604441 then (tithebarnref16_Apply.l1 k (y357 ++ y360) x7 x342000 x342001 x342002 x342003) else (none))) else (none)) else (none))) else (none))) else (none)) else (none))) else (tithebarnref16_Apply.l0 k x6 (wrap64 (x7 + 1)) x342000 x342001 x342002 x342003))) else (none)) else (none)
def tithebarnref16_Apply.l2 : Nat → List (S36) → Int → List Int → List (S36) → Int → Int → Option ((List (S36)) × Int × Int × Int)
 | 0, _, _, _, _, _, _ => none
 | k + 1, x6, x9, x342000, x342001, x342002, x342003 => if x9 < (x342001.length : Int) then (if 0 ≤ x9 then (if ((rd_T36 x342001 x9).f0) ≥ x342003 then (some (([] : List (S36)), 0, 0, 8)) else ((tithebarnref16_at.f k x6 ((rd_T36 x342001 x9).f0)).bind fun t369 => (if t369 ≥ 0 then (some (([] : List (S36)), 0, 0, 8)) else (if x6.length < 2814749766000 then (tithebarnref16_Apply.l2 k (x6 ++ [(⟨(rd_T36 x342001 x9).f0, (rd_T36 x342001 x9).f1, (⟨(rd_T36 x342001 x9).f2.f0, (rd_T36 x342001 x9).f2.f1, (rd_T36 x342001 x9).f2.f2⟩ : S34), (⟨(rd_T36 x342001 x9).f3.f0, (rd_T36 x342001 x9).f3.f1, (rd_T36 x342001 x9).f3.f2⟩ : S34)⟩ : S36)]) (wrap64 (x9 + 1)) x342000 x342001 x342002 x342003) else (none))))) else (none)) else (some (x6, x342002, x342003, 0))
end
def tithebarnref16_Apply.f (k : Nat) (l0_0 : List (S36)) (a0_1 : Int) (a0_2 : Int) (l1_0 : List Int) (l1_1 : List (S36)) (a1_2 : Int) (a1_3 : Int) : Option ((List (S36)) × Int × Int × Int) := (tithebarnref16_Right.f k l1_0 l1_1 a1_2 a1_3).bind fun t343 => (if t343 = true then (if a1_2 < a0_1 then (tithebarnref16_Apply.j0 k true l0_0 a0_1 a0_2 l1_0 l1_1 a1_2 a1_3) else (tithebarnref16_Apply.j0 k (decide (a1_3 < a0_2)) l0_0 a0_1 a0_2 l1_0 l1_1 a1_2 a1_3)) else (tithebarnref16_Apply.j0 k true l0_0 a0_1 a0_2 l1_0 l1_1 a1_2 a1_3))
theorem tithebarnref16_Apply.mono_l : ∀ k, (∀ y0 y1 y2 y3 y4 y5 y6 y7, LeO (tithebarnref16_Apply.j0 k y0 y1 y2 y3 y4 y5 y6 y7) (tithebarnref16_Apply.j0 (k + 1) y0 y1 y2 y3 y4 y5 y6 y7)) ∧ (∀ y0 y1 y2 y3 y4 y5, LeO (tithebarnref16_Apply.l0 k y0 y1 y2 y3 y4 y5) (tithebarnref16_Apply.l0 (k + 1) y0 y1 y2 y3 y4 y5)) ∧ (∀ y0 y1 y2 y3 y4 y5, LeO (tithebarnref16_Apply.l1 k y0 y1 y2 y3 y4 y5) (tithebarnref16_Apply.l1 (k + 1) y0 y1 y2 y3 y4 y5)) ∧ (∀ y0 y1 y2 y3 y4 y5, LeO (tithebarnref16_Apply.l2 k y0 y1 y2 y3 y4 y5) (tithebarnref16_Apply.l2 (k + 1) y0 y1 y2 y3 y4 y5))
 | 0 => ⟨fun _ _ _ _ _ _ _ _ r h => by simp [tithebarnref16_Apply.j0] at h, fun _ _ _ _ _ _ r h => by simp [tithebarnref16_Apply.l0] at h, fun _ _ _ _ _ _ r h => by simp [tithebarnref16_Apply.l1] at h, fun _ _ _ _ _ _ r h => by simp [tithebarnref16_Apply.l2] at h⟩
 | k + 1 => by
  obtain ⟨ih0, ih1, ih2, ih3⟩ := tithebarnref16_Apply.mono_l k
  refine ⟨?_, ?_, ?_, ?_⟩
  ·intro y0 y1 y2 y3 y4 y5 y6 y7
   unfold tithebarnref16_Apply.j0
   repeat' first
   | (with_reducible exact ih0 _ _ _ _ _ _ _ _)
   | (with_reducible exact ih1 _ _ _ _ _ _)
   | (with_reducible exact ih2 _ _ _ _ _ _)
   | (with_reducible exact ih3 _ _ _ _ _ _)
   | (with_reducible exact tithebarnref16_Right.mono _ _ _ _ _)
   | (with_reducible exact tithebarnref16_at.mono _ _ _)
   | (with_reducible exact LeO.refl _)
   | (with_reducible exact LeO.none _)
   | (with_reducible refine LeO.ite ?_ ?_)
   | (with_reducible refine LeO.bind ?_ (fun _ => ?_))
   | exact ih0 _ _ _ _ _ _ _ _
   | exact ih1 _ _ _ _ _ _
   | exact ih2 _ _ _ _ _ _
   | exact ih3 _ _ _ _ _ _
   | exact tithebarnref16_Right.mono _ _ _ _ _
   | exact tithebarnref16_at.mono _ _ _
   | exact LeO.none _
   | refine LeO.ite ?_ ?_
   | refine LeO.bind ?_ (fun _ => ?_)
  ·intro y0 y1 y2 y3 y4 y5
   unfold tithebarnref16_Apply.l0
   repeat' first
   | (with_reducible exact ih0 _ _ _ _ _ _ _ _)
   | (with_reducible exact ih1 _ _ _ _ _ _)
   | (with_reducible exact ih2 _ _ _ _ _ _)
   | (with_reducible exact ih3 _ _ _ _ _ _)
   | (with_reducible exact tithebarnref16_Right.mono _ _ _ _ _)
   | (with_reducible exact tithebarnref16_at.mono _ _ _)
   | (with_reducible exact LeO.refl _)
   | (with_reducible exact LeO.none _)
   | (with_reducible refine LeO.ite ?_ ?_)
   | (with_reducible refine LeO.bind ?_ (fun _ => ?_))
   | exact ih0 _ _ _ _ _ _ _ _
   | exact ih1 _ _ _ _ _ _
   | exact ih2 _ _ _ _ _ _
   | exact ih3 _ _ _ _ _ _
   | exact tithebarnref16_Right.mono _ _ _ _ _
   | exact tithebarnref16_at.mono _ _ _
   | exact LeO.none _
   | refine LeO.ite ?_ ?_
   | refine LeO.bind ?_ (fun _ => ?_)
  ·intro y0 y1 y2 y3 y4 y5
   unfold tithebarnref16_Apply.l1
   repeat' first
   | (with_reducible exact ih0 _ _ _ _ _ _ _ _)
   | (with_reducible exact ih1 _ _ _ _ _ _)
   | (with_reducible exact ih2 _ _ _ _ _ _)
   | (with_reducible exact ih3 _ _ _ _ _ _)
   | (with_reducible exact tithebarnref16_Right.mono _ _ _ _ _)
   | (with_reducible exact tithebarnref16_at.mono _ _ _)
   | (with_reducible exact LeO.refl _)
   | (with_reducible exact LeO.none _)
   | (with_reducible refine LeO.ite ?_ ?_)
   | (with_reducible refine LeO.bind ?_ (fun _ => ?_))
   | exact ih0 _ _ _ _ _ _ _ _
   | exact ih1 _ _ _ _ _ _
   | exact ih2 _ _ _ _ _ _
   | exact ih3 _ _ _ _ _ _
   | exact tithebarnref16_Right.mono _ _ _ _ _
   | exact tithebarnref16_at.mono _ _ _
   | exact LeO.none _
   | refine LeO.ite ?_ ?_
   | refine LeO.bind ?_ (fun _ => ?_)
  ·intro y0 y1 y2 y3 y4 y5
   unfold tithebarnref16_Apply.l2
   repeat' first
   | (with_reducible exact ih0 _ _ _ _ _ _ _ _)
   | (with_reducible exact ih1 _ _ _ _ _ _)
   | (with_reducible exact ih2 _ _ _ _ _ _)
   | (with_reducible exact ih3 _ _ _ _ _ _)
   | (with_reducible exact tithebarnref16_Right.mono _ _ _ _ _)
   | (with_reducible exact tithebarnref16_at.mono _ _ _)
   | (with_reducible exact LeO.refl _)
   | (with_reducible exact LeO.none _)
   | (with_reducible refine LeO.ite ?_ ?_)
   | (with_reducible refine LeO.bind ?_ (fun _ => ?_))
   | exact ih0 _ _ _ _ _ _ _ _
   | exact ih1 _ _ _ _ _ _
   | exact ih2 _ _ _ _ _ _
   | exact ih3 _ _ _ _ _ _
   | exact tithebarnref16_Right.mono _ _ _ _ _
   | exact tithebarnref16_at.mono _ _ _
   | exact LeO.none _
   | refine LeO.ite ?_ ?_
   | refine LeO.bind ?_ (fun _ => ?_)
theorem tithebarnref16_Apply.mono : ∀ a0 a1 a2 a3 a4 a5 a6 k, LeO (tithebarnref16_Apply.f k a0 a1 a2 a3 a4 a5 a6) (tithebarnref16_Apply.f (k + 1) a0 a1 a2 a3 a4 a5 a6) := by
 intro a0 a1 a2 a3 a4 a5 a6 k
 obtain ⟨ih0, ih1, ih2, ih3⟩ := tithebarnref16_Apply.mono_l k
 unfold tithebarnref16_Apply.f
 repeat' first
   | (with_reducible exact ih0 _ _ _ _ _ _ _ _)
   | (with_reducible exact ih1 _ _ _ _ _ _)
   | (with_reducible exact ih2 _ _ _ _ _ _)
   | (with_reducible exact ih3 _ _ _ _ _ _)
   | (with_reducible exact tithebarnref16_Right.mono _ _ _ _ _)
   | (with_reducible exact tithebarnref16_at.mono _ _ _)
   | (with_reducible exact LeO.refl _)
   | (with_reducible exact LeO.none _)
   | (with_reducible refine LeO.ite ?_ ?_)
   | (with_reducible refine LeO.bind ?_ (fun _ => ?_))
   | exact ih0 _ _ _ _ _ _ _ _
   | exact ih1 _ _ _ _ _ _
   | exact ih2 _ _ _ _ _ _
   | exact ih3 _ _ _ _ _ _
   | exact tithebarnref16_Right.mono _ _ _ _ _
   | exact tithebarnref16_at.mono _ _ _
   | exact LeO.none _
   | refine LeO.ite ?_ ?_
   | refine LeO.bind ?_ (fun _ => ?_)
def tithebarnref16_Apply.T12 : Bool × List (List Nat × List Nat) := (true, [([], []), ([], []), ([0, 1], [0, 1]), ([2], [2]), ([], []), ([], []), ([5], [5]), ([4, 6], [4, 6]), ([3, 7, 3], [3, 7]), ([8, 8, 0, 1, 2, 3, 4, 5, 6, 7, 8], [0, 4, 8])])
def tithebarnref16_Apply.B12 : List Nat := [0, 0, 3, 7, 0, 0, 32, 112, 255, 511]
theorem tithebarnref16_Apply.tab12 : rtab .any (opsOf Try.f14 12) = tithebarnref16_Apply.T12 := by kernel_rfl
theorem tithebarnref16_Apply.bits12 : waitsOk tithebarnref16_Apply.T12.2 tithebarnref16_Apply.B12 = true := by kernel_rfl
def tithebarnref16_Apply.T16 : Bool × List (List Nat × List Nat) := (true, [([], []), ([0], [0]), ([], []), ([1, 2], [1, 2]), ([3], [3]), ([4], [4]), ([], []), ([6], [6]), ([5, 7], [5, 7]), ([8], [8]), ([9], [9]), ([9], [9]), ([11, 9], [9, 11]), ([9], [9]), ([12, 13, 9], [9, 12, 13]), ([14, 9], [9, 14]), ([15, 9], [9, 15]), ([10, 16, 9, 9], [9, 10, 16]), ([17, 9], [9, 17]), ([9, 18], [9, 18])])
def tithebarnref16_Apply.B16 : List Nat := [0, 1, 0, 7, 15, 31, 0, 64, 255, 511, 1023, 1023, 3071, 1023, 15359, 31743, 64511, 131071, 262143, 524287]
theorem tithebarnref16_Apply.tab16 : rtab .any (opsOf Try.f14 16) = tithebarnref16_Apply.T16 := by kernel_rfl
theorem tithebarnref16_Apply.bits16 : waitsOk tithebarnref16_Apply.T16.2 tithebarnref16_Apply.B16 = true := by kernel_rfl
set_option maxHeartbeats 8000000 in
set_option maxRecDepth 100000 in
theorem tithebarnref16_Apply.calls (k : Nat) (A0_0 : Option Addr) (c0_0 : Nat) (l0_0 : List (S36)) (a0_1 : Int) (a0_2 : Int) (A1_0 : Option Addr) (c1_0 : Nat) (l1_0 : List Int) (A1_1 : Option Addr) (c1_1 : Nat) (l1_1 : List (S36)) (a1_2 : Int) (a1_3 : Int) (r1 : List (S36)) (r2 : Int) (r3 : Int) (r4 : Int) (w : World) (hr0_0 : Kd.C k36 w A0_0 l0_0.length l0_0) (hc0_0 : l0_0.length ≤ c0_0) (hr1_0 : Kd.C (Kd.int .i64) w A1_0 l1_0.length l1_0) (hc1_0 : l1_0.length ≤ c1_0) (hr1_1 : Kd.C k36 w A1_1 l1_1.length l1_1) (hc1_1 : l1_1.length ≤ c1_1) (h : tithebarnref16_Apply.f k l0_0 a0_1 a0_2 l1_0 l1_1 a1_2 a1_3 = some (r1, r2, r3, r4)) :
  Calls Try.prog 14 #[.agg #[.slice A0_0 l0_0.length c0_0, .int .i64 a0_1, .int .i64 a0_2], .agg #[.slice A1_0 l1_0.length c1_0, .slice A1_1 l1_1.length c1_1, .int .i64 a1_2, .int .i64 a1_3]] w fun e w' => ∃ v0_ : Value, e = .returned (.tuple #[.agg #[v0_, .int .i64 r2, .int .i64 r3], .int .i64 r4]) ∧ Kd.R k36 36 w' w.heap.size (fun _ => True) v0_ r1 ∧ Below w.heap.size w w' := by
 have hu26 := Try.underlying26
 have hu32 := Try.underlying32
 have hu36 := Try.underlying36
 have HR0_0 := Aside0.mk hr0_0
 have HC0_0 := Aside0.mk hc0_0
 clear hr0_0 hc0_0
 have HR1_0 := Aside0.mk hr1_0
 have HC1_0 := Aside0.mk hc1_0
 clear hr1_0 hc1_0
 have HR1_1 := Aside0.mk hr1_1
 have HC1_1 := Aside0.mk hc1_1
 clear hr1_1 hc1_1
 have HB := Aside0.mk (Below.refl w.heap.size w)
 have H : ((tithebarnref16_Right.f k l1_0 l1_1 a1_2 a1_3).bind fun t343 => (if t343 = true then (if a1_2 < a0_1 then (tithebarnref16_Apply.j0 k true l0_0 a0_1 a0_2 l1_0 l1_1 a1_2 a1_3) else (tithebarnref16_Apply.j0 k (decide (a1_3 < a0_2)) l0_0 a0_1 a0_2 l1_0 l1_1 a1_2 a1_3)) else (tithebarnref16_Apply.j0 k true l0_0 a0_1 a0_2 l1_0 l1_1 a1_2 a1_3))) = some (r1, r2, r3, r4) := h
 clear h
 have HC3 := Aside0.mk H
 clear H
 go_enter Try.func14, Try.ntmps14
 go_upto_region 1 with (first | ((with_reducible refine gate_dst (N := 2) rfl ?_); refine box_event ?hg (N := 2) ?hd (cs := #[.slice A0_0 l0_0.length c0_0, .int .i64 a0_1, .int .i64 a0_2]) (t := 26) ?hr ?_; (case hd => rfl); (case hg => rfl); (case hr => first | (go_simp; done) | (go_simp; rfl)); intro gb340 hg w4 hbox hb; have n0_ := Aside0.mk (below_step z0_ hb); have n1_ := Aside0.mk (hbox); have n2_ := Aside0.mk ((by rw [hg]; exact (below_size z0_) : w.heap.size ≤ gb340)); have n3_ := Aside0.mk ((by rw [hg]; exact (below_size z0_) : w.heap.size ≤ gb340)); clear HB; have HB := n0_; have BK340 := n1_; have GW340 := n2_; have GE340 := n3_; clear n0_ n1_ n2_ n3_; clear hb hbox hg) | ((with_reducible refine gate_dst (N := 3) rfl ?_); refine box_event ?hg (N := 3) ?hd (cs := #[.slice A1_0 l1_0.length c1_0, .slice A1_1 l1_1.length c1_1, .int .i64 a1_2, .int .i64 a1_3]) (t := 32) ?hr ?_; (case hd => rfl); (case hg => rfl); (case hr => first | (go_simp; done) | (go_simp; rfl)); intro gb341 hg w5 hbox hb; have n0_ := Aside0.mk (blk_below (g := gb340) (o := .cells #[.slice A0_0 l0_0.length c0_0, .int .i64 a0_1, .int .i64 a0_2] 26 (0, 0)) (by (with_reducible repeat (first | refine blk_drewN ?_ _ | refine blk_drew ?_ | refine blk_alloc ?_ _)); exact BK340.out) hb); have n1_ := Aside0.mk (below_step z29_ hb); have n2_ := Aside0.mk (hbox); have n3_ := Aside0.mk ((by rw [hg]; exact (below_size z29_) : w.heap.size ≤ gb341)); have n4_ := Aside0.mk ((by rw [hg]; exact (below_size z29_) : w.heap.size ≤ gb341)); have n5_ := Aside0.mk ((by rw [hg]; exact Nat.ne_of_lt (blk_lt (g := gb340) (o := .cells #[.slice A0_0 l0_0.length c0_0, .int .i64 a0_1, .int .i64 a0_2] 26 (0, 0)) (by (with_reducible repeat (first | refine blk_drewN ?_ _ | refine blk_drew ?_ | refine blk_alloc ?_ _)); exact BK340.out)) : gb340 ≠ gb341)); have n6_ := Aside0.mk ((by rw [hg]; exact Nat.ne_of_gt (blk_lt (g := gb340) (o := .cells #[.slice A0_0 l0_0.length c0_0, .int .i64 a0_1, .int .i64 a0_2] 26 (0, 0)) (by (with_reducible repeat (first | refine blk_drewN ?_ _ | refine blk_drew ?_ | refine blk_alloc ?_ _)); exact BK340.out)) : gb341 ≠ gb340)); clear BK340; clear HB; have BK340 := n0_; have HB := n1_; have BK341 := n2_; have GW341 := n3_; have GE341 := n4_; have NB340_341 := n5_; have NB341_340 := n6_; clear n0_ n1_ n2_ n3_ n4_ n5_ n6_; clear hb hbox hg) | ((with_reducible refine gate_dst (N := 4) rfl ?_); refine box_event ?hg (N := 4) ?hd (cs := #[.slice none 0 0, .int .i64 0, .int .i64 0]) (t := 26) ?hr ?_; (case hd => rfl); (case hg => rfl); (case hr => first | (go_simp; done) | (go_simp; rfl)); intro gb342 hg w6 hbox hb; have n0_ := Aside0.mk (blk_below (g := gb340) (o := .cells #[.slice A0_0 l0_0.length c0_0, .int .i64 a0_1, .int .i64 a0_2] 26 (0, 0)) (by (with_reducible repeat (first | refine blk_drewN ?_ _ | refine blk_drew ?_ | refine blk_alloc ?_ _)); exact BK340.out) hb); have n1_ := Aside0.mk (blk_below (g := gb341) (o := .cells #[.slice A1_0 l1_0.length c1_0, .slice A1_1 l1_1.length c1_1, .int .i64 a1_2, .int .i64 a1_3] 32 (0, 0)) (by (with_reducible repeat (first | refine blk_drewN ?_ _ | refine blk_drew ?_ | refine blk_alloc ?_ _)); exact BK341.out) hb); have n2_ := Aside0.mk (below_step z25_ hb); have n3_ := Aside0.mk (hbox); have n4_ := Aside0.mk ((by rw [hg]; exact (below_size z25_) : w.heap.size ≤ gb342)); have n5_ := Aside0.mk ((by rw [hg]; exact (below_size z25_) : w.heap.size ≤ gb342)); have n6_ := Aside0.mk ((by rw [hg]; exact Nat.ne_of_lt (blk_lt (g := gb340) (o := .cells #[.slice A0_0 l0_0.length c0_0, .int .i64 a0_1, .int .i64 a0_2] 26 (0, 0)) (by (with_reducible repeat (first | refine blk_drewN ?_ _ | refine blk_drew ?_ | refine blk_alloc ?_ _)); exact BK340.out)) : gb340 ≠ gb342)); have n7_ := Aside0.mk ((by rw [hg]; exact Nat.ne_of_gt (blk_lt (g := gb340) (o := .cells #[.slice A0_0 l0_0.length c0_0, .int .i64 a0_1, .int .i64 a0_2] 26 (0, 0)) (by (with_reducible repeat (first | refine blk_drewN ?_ _ | refine blk_drew ?_ | refine blk_alloc ?_ _)); exact BK340.out)) : gb342 ≠ gb340)); have n8_ := Aside0.mk ((by rw [hg]; exact Nat.ne_of_lt (blk_lt (g := gb341) (o := .cells #[.slice A1_0 l1_0.length c1_0, .slice A1_1 l1_1.length c1_1, .int .i64 a1_2, .int .i64 a1_3] 32 (0, 0)) (by (with_reducible repeat (first | refine blk_drewN ?_ _ | refine blk_drew ?_ | refine blk_alloc ?_ _)); exact BK341.out)) : gb341 ≠ gb342)); have n9_ := Aside0.mk ((by rw [hg]; exact Nat.ne_of_gt (blk_lt (g := gb341) (o := .cells #[.slice A1_0 l1_0.length c1_0, .slice A1_1 l1_1.length c1_1, .int .i64 a1_2, .int .i64 a1_3] 32 (0, 0)) (by (with_reducible repeat (first | refine blk_drewN ?_ _ | refine blk_drew ?_ | refine blk_alloc ?_ _)); exact BK341.out)) : gb342 ≠ gb341)); clear BK340; clear BK341; clear HB; have BK340 := n0_; have BK341 := n1_; have HB := n2_; have BK342 := n3_; have GW342 := n4_; have GE342 := n5_; have NB340_342 := n6_; have NB342_340 := n7_; have NB341_342 := n8_; have NB342_341 := n9_; clear n0_ n1_ n2_ n3_ n4_ n5_ n6_ n7_ n8_ n9_; clear hb hbox hg))
 (try simp only [Act.put, List.setIfInBounds_toArray, List.set_cons_zero, List.set_cons_succ])
 go_cut [26] (fun v26 wc => ∃ (kq : Nat) (x26_2 : Bool), v26 = .bool x26_2 ∧ Aside0 (tithebarnref16_Apply.j0 kq x26_2 l0_0 a0_1 a0_2 l1_0 l1_1 a1_2 a1_3 = some (r1, r2, r3, r4)) ∧ Aside0 (kq ≤ k) ∧ Aside0 (wc.heap[gb340]? = some (.cells #[(.slice A0_0 l0_0.length c0_0), .int .i64 a0_1, .int .i64 a0_2] 26 (0, 0))) ∧ Aside0 (wc.heap[gb341]? = some (.cells #[(.slice A1_0 l1_0.length c1_0), (.slice A1_1 l1_1.length c1_1), .int .i64 a1_2, .int .i64 a1_3] 32 (0, 0))) ∧ Aside0 (wc.heap[gb342]? = some (.cells #[(.slice none 0 0), .int .i64 0, .int .i64 0] 26 (0, 0))) ∧ Aside0 (Below w.heap.size w wc))
 case first =>
  have H := HC3.out
  clear HC3
  replace H := Option.bind_eq_some_iff.mp H
  obtain ⟨t343, A70, H⟩ := H
  replace H : (if t343 = true then (if a1_2 < a0_1 then (tithebarnref16_Apply.j0 k true l0_0 a0_1 a0_2 l1_0 l1_1 a1_2 a1_3) else (tithebarnref16_Apply.j0 k (decide (a1_3 < a0_2)) l0_0 a0_1 a0_2 l1_0 l1_1 a1_2 a1_3)) else (tithebarnref16_Apply.j0 k true l0_0 a0_1 a0_2 l1_0 l1_1 a1_2 a1_3)) = some (r1, r2, r3, r4) := H
  have A7 := Aside0.mk A70
  clear A70
  by_cases c8 : t343 = true
  ·subst c8
   have H1 : (if a1_2 < a0_1 then (tithebarnref16_Apply.j0 k true l0_0 a0_1 a0_2 l1_0 l1_1 a1_2 a1_3) else (tithebarnref16_Apply.j0 k (decide (a1_3 < a0_2)) l0_0 a0_1 a0_2 l1_0 l1_1 a1_2 a1_3)) = some (r1, r2, r3, r4) := by rw [if_pos rfl] at H; exact H
   clear H
   have H := H1
   clear H1
   by_cases c9 : a1_2 < a0_1
   ·rw [if_pos c9] at H
    have c9b0 : decide (a1_2 < a0_1) = true := decide_eq_true c9
    clear c9
    (first | rw [c9b0] | (simp only [i64_w, i32_w]; rw [c9b0]) | skip)
    have H' := Aside0.mk H
    clear H
    have hnb10 := NB341_340.out
    have hnc10 := NB340_341.out
    have hnb11 := NB341_342.out
    have hnc11 := NB342_341.out
    have hcz12_0 : w6.cell? ⟨gb341, 0, none⟩ = some (.slice A1_0 l1_0.length c1_0) := (blk_cell BK341.out 0).trans rfl
    have hcz12_1 : w6.cell? ⟨gb341, 1, none⟩ = some (.slice A1_1 l1_1.length c1_1) := (blk_cell BK341.out 1).trans rfl
    have hcz12_2 : w6.cell? ⟨gb341, 2, none⟩ = some (.int .i64 a1_2) := (blk_cell BK341.out 2).trans rfl
    have hcz12_3 : w6.cell? ⟨gb341, 3, none⟩ = some (.int .i64 a1_3) := (blk_cell BK341.out 3).trans rfl
    have hfz12_0 := blk_frozen BK341.out 0
    have hfz12_1 := blk_frozen BK341.out 1
    have hfz12_2 := blk_frozen BK341.out 2
    have hfz12_3 := blk_frozen BK341.out 3
    go_wp2_with (first | ((with_reducible refine gate_callee (f := 23) rfl ?_); refine goesL_ (some 11) rfl rfl Try.func23 (by kernel_rfl) rfl #[.agg #[.slice A1_0 l1_0.length c1_0, .slice A1_1 l1_1.length c1_1, .int .i64 a1_2, .int .i64 a1_3]] rfl (by (try simp only [List.map_toArray, List.map_cons, List.map_nil]); first | done | rfl | (simp only [List.length_drop, List.length_take]; rfl) | (go_simp; simp [IntKind.wrap, IntKind.bits, IntKind.signed]; omega)) ?_; (with_reducible refine (tithebarnref16_Right.calls k _ _ l1_0 _ _ l1_1 a1_2 a1_3 true _ ?side1 ?side2 ?side3 ?side4 A7.out).mono ?_); (case side1 => repeat (first | exact (Kd.C_below HR1_0.out HB.out) | (with_reducible refine Kd.C_alloc ?_ _) | (with_reducible refine Kd.C_drewN ?_ _) | (with_reducible refine Kd.C_drew ?_))); (case side2 => exact HC1_0.out); (case side3 => repeat (first | exact (Kd.C_below HR1_1.out HB.out) | (with_reducible refine Kd.C_alloc ?_ _) | (with_reducible refine Kd.C_drewN ?_ _) | (with_reducible refine Kd.C_drew ?_))); (case side4 => exact HC1_1.out); rintro e w13 ⟨rfl, hb⟩; refine ⟨_, rfl, ?_⟩; have n0_ := Aside0.mk (blk_below (g := gb340) (o := .cells #[.slice A0_0 l0_0.length c0_0, .int .i64 a0_1, .int .i64 a0_2] 26 (0, 0)) (by (with_reducible repeat (first | refine blk_drewN ?_ _ | refine blk_drew ?_ | refine blk_alloc ?_ _)); exact BK340.out) hb); have n1_ := Aside0.mk (blk_below (g := gb341) (o := .cells #[.slice A1_0 l1_0.length c1_0, .slice A1_1 l1_1.length c1_1, .int .i64 a1_2, .int .i64 a1_3] 32 (0, 0)) (by (with_reducible repeat (first | refine blk_drewN ?_ _ | refine blk_drew ?_ | refine blk_alloc ?_ _)); exact BK341.out) hb); have n2_ := Aside0.mk (blk_below (g := gb342) (o := .cells #[.slice none 0 0, .int .i64 0, .int .i64 0] 26 (0, 0)) (by (with_reducible repeat (first | refine blk_drewN ?_ _ | refine blk_drew ?_ | refine blk_alloc ?_ _)); exact BK342.out) hb); have n3_ := Aside0.mk (below_step z1_ hb); clear BK340; clear BK341; clear BK342; clear HB; have BK340 := n0_; have BK341 := n1_; have BK342 := n2_; have HB := n3_; clear n0_ n1_ n2_ n3_; (try clear hb); (try clear hb2); (try clear hk); (try clear hi); have hcz14_0 : w13.cell? ⟨gb341, 0, none⟩ = some (.slice A1_0 l1_0.length c1_0) := (blk_cell BK341.out 0).trans rfl; have hcz14_1 : w13.cell? ⟨gb341, 1, none⟩ = some (.slice A1_1 l1_1.length c1_1) := (blk_cell BK341.out 1).trans rfl; have hcz14_2 : w13.cell? ⟨gb341, 2, none⟩ = some (.int .i64 a1_2) := (blk_cell BK341.out 2).trans rfl; have hcz14_3 : w13.cell? ⟨gb341, 3, none⟩ = some (.int .i64 a1_3) := (blk_cell BK341.out 3).trans rfl; have hfz14_0 := blk_frozen BK341.out 0; have hfz14_1 := blk_frozen BK341.out 1; have hfz14_2 := blk_frozen BK341.out 2; have hfz14_3 := blk_frozen BK341.out 3; have hnb15 := NB340_342.out; have hnc15 := NB342_340.out; have hcz16_0 : w13.cell? ⟨gb340, 0, none⟩ = some (.slice A0_0 l0_0.length c0_0) := (blk_cell BK340.out 0).trans rfl; have hcz16_1 : w13.cell? ⟨gb340, 1, none⟩ = some (.int .i64 a0_1) := (blk_cell BK340.out 1).trans rfl; have hcz16_2 : w13.cell? ⟨gb340, 2, none⟩ = some (.int .i64 a0_2) := (blk_cell BK340.out 2).trans rfl; have hfz16_0 := blk_frozen BK340.out 0; have hfz16_1 := blk_frozen BK340.out 1; have hfz16_2 := blk_frozen BK340.out 2))
    go_meet
    case rel => exact ⟨_, (true), z4_, H', ⟨by first | omega | exact Nat.le_refl _⟩, ⟨by (with_reducible repeat (first | refine blk_drewN ?_ _ | refine blk_drew ?_ | refine blk_alloc ?_ _)); exact BK340.out⟩, ⟨by (with_reducible repeat (first | refine blk_drewN ?_ _ | refine blk_drew ?_ | refine blk_alloc ?_ _)); exact BK341.out⟩, ⟨by (with_reducible repeat (first | refine blk_drewN ?_ _ | refine blk_drew ?_ | refine blk_alloc ?_ _)); exact BK342.out⟩, ⟨z1_⟩⟩
   ·rw [if_neg c9] at H
    have c9b0 : decide (a1_2 < a0_1) = false := decide_eq_false c9
    clear c9
    (first | rw [c9b0] | (simp only [i64_w, i32_w]; rw [c9b0]) | skip)
    have H' := Aside0.mk H
    clear H
    have hnb17 := NB341_340.out
    have hnc17 := NB340_341.out
    have hnb18 := NB341_342.out
    have hnc18 := NB342_341.out
    have hcz19_0 : w6.cell? ⟨gb341, 0, none⟩ = some (.slice A1_0 l1_0.length c1_0) := (blk_cell BK341.out 0).trans rfl
    have hcz19_1 : w6.cell? ⟨gb341, 1, none⟩ = some (.slice A1_1 l1_1.length c1_1) := (blk_cell BK341.out 1).trans rfl
    have hcz19_2 : w6.cell? ⟨gb341, 2, none⟩ = some (.int .i64 a1_2) := (blk_cell BK341.out 2).trans rfl
    have hcz19_3 : w6.cell? ⟨gb341, 3, none⟩ = some (.int .i64 a1_3) := (blk_cell BK341.out 3).trans rfl
    have hfz19_0 := blk_frozen BK341.out 0
    have hfz19_1 := blk_frozen BK341.out 1
    have hfz19_2 := blk_frozen BK341.out 2
    have hfz19_3 := blk_frozen BK341.out 3
    go_wp2_with (first | ((with_reducible refine gate_callee (f := 23) rfl ?_); refine goesL_ (some 11) rfl rfl Try.func23 (by kernel_rfl) rfl #[.agg #[.slice A1_0 l1_0.length c1_0, .slice A1_1 l1_1.length c1_1, .int .i64 a1_2, .int .i64 a1_3]] rfl (by (try simp only [List.map_toArray, List.map_cons, List.map_nil]); first | done | rfl | (simp only [List.length_drop, List.length_take]; rfl) | (go_simp; simp [IntKind.wrap, IntKind.bits, IntKind.signed]; omega)) ?_; (with_reducible refine (tithebarnref16_Right.calls k _ _ l1_0 _ _ l1_1 a1_2 a1_3 true _ ?side1 ?side2 ?side3 ?side4 A7.out).mono ?_); (case side1 => repeat (first | exact (Kd.C_below HR1_0.out HB.out) | (with_reducible refine Kd.C_alloc ?_ _) | (with_reducible refine Kd.C_drewN ?_ _) | (with_reducible refine Kd.C_drew ?_))); (case side2 => exact HC1_0.out); (case side3 => repeat (first | exact (Kd.C_below HR1_1.out HB.out) | (with_reducible refine Kd.C_alloc ?_ _) | (with_reducible refine Kd.C_drewN ?_ _) | (with_reducible refine Kd.C_drew ?_))); (case side4 => exact HC1_1.out); rintro e w20 ⟨rfl, hb⟩; refine ⟨_, rfl, ?_⟩; have n0_ := Aside0.mk (blk_below (g := gb340) (o := .cells #[.slice A0_0 l0_0.length c0_0, .int .i64 a0_1, .int .i64 a0_2] 26 (0, 0)) (by (with_reducible repeat (first | refine blk_drewN ?_ _ | refine blk_drew ?_ | refine blk_alloc ?_ _)); exact BK340.out) hb); have n1_ := Aside0.mk (blk_below (g := gb341) (o := .cells #[.slice A1_0 l1_0.length c1_0, .slice A1_1 l1_1.length c1_1, .int .i64 a1_2, .int .i64 a1_3] 32 (0, 0)) (by (with_reducible repeat (first | refine blk_drewN ?_ _ | refine blk_drew ?_ | refine blk_alloc ?_ _)); exact BK341.out) hb); have n2_ := Aside0.mk (blk_below (g := gb342) (o := .cells #[.slice none 0 0, .int .i64 0, .int .i64 0] 26 (0, 0)) (by (with_reducible repeat (first | refine blk_drewN ?_ _ | refine blk_drew ?_ | refine blk_alloc ?_ _)); exact BK342.out) hb); have n3_ := Aside0.mk (below_step z1_ hb); clear BK340; clear BK341; clear BK342; clear HB; have BK340 := n0_; have BK341 := n1_; have BK342 := n2_; have HB := n3_; clear n0_ n1_ n2_ n3_; (try clear hb); (try clear hb2); (try clear hk); (try clear hi); have hcz21_0 : w20.cell? ⟨gb341, 0, none⟩ = some (.slice A1_0 l1_0.length c1_0) := (blk_cell BK341.out 0).trans rfl; have hcz21_1 : w20.cell? ⟨gb341, 1, none⟩ = some (.slice A1_1 l1_1.length c1_1) := (blk_cell BK341.out 1).trans rfl; have hcz21_2 : w20.cell? ⟨gb341, 2, none⟩ = some (.int .i64 a1_2) := (blk_cell BK341.out 2).trans rfl; have hcz21_3 : w20.cell? ⟨gb341, 3, none⟩ = some (.int .i64 a1_3) := (blk_cell BK341.out 3).trans rfl; have hfz21_0 := blk_frozen BK341.out 0; have hfz21_1 := blk_frozen BK341.out 1; have hfz21_2 := blk_frozen BK341.out 2; have hfz21_3 := blk_frozen BK341.out 3; have hnb22 := NB340_342.out; have hnc22 := NB342_340.out; have hcz23_0 : w20.cell? ⟨gb340, 0, none⟩ = some (.slice A0_0 l0_0.length c0_0) := (blk_cell BK340.out 0).trans rfl; have hcz23_1 : w20.cell? ⟨gb340, 1, none⟩ = some (.int .i64 a0_1) := (blk_cell BK340.out 1).trans rfl; have hcz23_2 : w20.cell? ⟨gb340, 2, none⟩ = some (.int .i64 a0_2) := (blk_cell BK340.out 2).trans rfl; have hfz23_0 := blk_frozen BK340.out 0; have hfz23_1 := blk_frozen BK340.out 1; have hfz23_2 := blk_frozen BK340.out 2))
    go_meet
    case rel => exact ⟨_, (decide (a1_3 < a0_2)), z4_, H', ⟨by first | omega | exact Nat.le_refl _⟩, ⟨by (with_reducible repeat (first | refine blk_drewN ?_ _ | refine blk_drew ?_ | refine blk_alloc ?_ _)); exact BK340.out⟩, ⟨by (with_reducible repeat (first | refine blk_drewN ?_ _ | refine blk_drew ?_ | refine blk_alloc ?_ _)); exact BK341.out⟩, ⟨by (with_reducible repeat (first | refine blk_drewN ?_ _ | refine blk_drew ?_ | refine blk_alloc ?_ _)); exact BK342.out⟩, ⟨z1_⟩⟩
  ·replace c8 := Bool.eq_false_iff.mpr c8
   subst c8
   have H1 : (tithebarnref16_Apply.j0 k true l0_0 a0_1 a0_2 l1_0 l1_1 a1_2 a1_3) = some (r1, r2, r3, r4) := by rw [if_neg (show ¬ (false = true) by decide)] at H; exact H
   clear H
   have H := H1
   clear H1
   have H' := Aside0.mk H
   clear H
   have hnb24 := NB341_340.out
   have hnc24 := NB340_341.out
   have hnb25 := NB341_342.out
   have hnc25 := NB342_341.out
   have hcz26_0 : w6.cell? ⟨gb341, 0, none⟩ = some (.slice A1_0 l1_0.length c1_0) := (blk_cell BK341.out 0).trans rfl
   have hcz26_1 : w6.cell? ⟨gb341, 1, none⟩ = some (.slice A1_1 l1_1.length c1_1) := (blk_cell BK341.out 1).trans rfl
   have hcz26_2 : w6.cell? ⟨gb341, 2, none⟩ = some (.int .i64 a1_2) := (blk_cell BK341.out 2).trans rfl
   have hcz26_3 : w6.cell? ⟨gb341, 3, none⟩ = some (.int .i64 a1_3) := (blk_cell BK341.out 3).trans rfl
   have hfz26_0 := blk_frozen BK341.out 0
   have hfz26_1 := blk_frozen BK341.out 1
   have hfz26_2 := blk_frozen BK341.out 2
   have hfz26_3 := blk_frozen BK341.out 3
   go_wp2_with (first | ((with_reducible refine gate_callee (f := 23) rfl ?_); refine goesL_ (some 11) rfl rfl Try.func23 (by kernel_rfl) rfl #[.agg #[.slice A1_0 l1_0.length c1_0, .slice A1_1 l1_1.length c1_1, .int .i64 a1_2, .int .i64 a1_3]] rfl (by (try simp only [List.map_toArray, List.map_cons, List.map_nil]); first | done | rfl | (simp only [List.length_drop, List.length_take]; rfl) | (go_simp; simp [IntKind.wrap, IntKind.bits, IntKind.signed]; omega)) ?_; (with_reducible refine (tithebarnref16_Right.calls k _ _ l1_0 _ _ l1_1 a1_2 a1_3 false _ ?side1 ?side2 ?side3 ?side4 A7.out).mono ?_); (case side1 => repeat (first | exact (Kd.C_below HR1_0.out HB.out) | (with_reducible refine Kd.C_alloc ?_ _) | (with_reducible refine Kd.C_drewN ?_ _) | (with_reducible refine Kd.C_drew ?_))); (case side2 => exact HC1_0.out); (case side3 => repeat (first | exact (Kd.C_below HR1_1.out HB.out) | (with_reducible refine Kd.C_alloc ?_ _) | (with_reducible refine Kd.C_drewN ?_ _) | (with_reducible refine Kd.C_drew ?_))); (case side4 => exact HC1_1.out); rintro e w27 ⟨rfl, hb⟩; refine ⟨_, rfl, ?_⟩; have n0_ := Aside0.mk (blk_below (g := gb340) (o := .cells #[.slice A0_0 l0_0.length c0_0, .int .i64 a0_1, .int .i64 a0_2] 26 (0, 0)) (by (with_reducible repeat (first | refine blk_drewN ?_ _ | refine blk_drew ?_ | refine blk_alloc ?_ _)); exact BK340.out) hb); have n1_ := Aside0.mk (blk_below (g := gb341) (o := .cells #[.slice A1_0 l1_0.length c1_0, .slice A1_1 l1_1.length c1_1, .int .i64 a1_2, .int .i64 a1_3] 32 (0, 0)) (by (with_reducible repeat (first | refine blk_drewN ?_ _ | refine blk_drew ?_ | refine blk_alloc ?_ _)); exact BK341.out) hb); have n2_ := Aside0.mk (blk_below (g := gb342) (o := .cells #[.slice none 0 0, .int .i64 0, .int .i64 0] 26 (0, 0)) (by (with_reducible repeat (first | refine blk_drewN ?_ _ | refine blk_drew ?_ | refine blk_alloc ?_ _)); exact BK342.out) hb); have n3_ := Aside0.mk (below_step z1_ hb); clear BK340; clear BK341; clear BK342; clear HB; have BK340 := n0_; have BK341 := n1_; have BK342 := n2_; have HB := n3_; clear n0_ n1_ n2_ n3_; (try clear hb); (try clear hb2); (try clear hk); (try clear hi)))
   go_meet
   case rel => exact ⟨_, (true), z4_, H', ⟨by first | omega | exact Nat.le_refl _⟩, ⟨by (with_reducible repeat (first | refine blk_drewN ?_ _ | refine blk_drew ?_ | refine blk_alloc ?_ _)); exact BK340.out⟩, ⟨by (with_reducible repeat (first | refine blk_drewN ?_ _ | refine blk_drew ?_ | refine blk_alloc ?_ _)); exact BK341.out⟩, ⟨by (with_reducible repeat (first | refine blk_drewN ?_ _ | refine blk_drew ?_ | refine blk_alloc ?_ _)); exact BK342.out⟩, ⟨z1_⟩⟩
 case rest =>
  clear HC3
  try clear c1
  try clear c2
  try clear p2
  try clear c8
  try clear c9
  try clear c9b0
  try clear c10
  try clear c11
  try clear c14
  try clear c15
  try clear c17
  try clear c18
  try clear c22
  try clear c23
  try clear c24
  try clear c25
  try clear hcz12_0
  try clear hcz12_1
  try clear hcz12_2
  try clear hcz12_3
  try clear hcz14_0
  try clear hcz14_1
  try clear hcz14_2
  try clear hcz14_3
  try clear hcz16_0
  try clear hcz16_1
  try clear hcz16_2
  try clear hcz19_0
  try clear hcz19_1
  try clear hcz19_2
  try clear hcz19_3
  try clear hcz21_0
  try clear hcz21_1
  try clear hcz21_2
  try clear hcz21_3
  try clear hcz23_0
  try clear hcz23_1
  try clear hcz23_2
  try clear hcz26_0
  try clear hcz26_1
  try clear hcz26_2
  try clear hcz26_3
  try clear hfz12_0
  try clear hfz12_1
  try clear hfz12_2
  try clear hfz12_3
  try clear hfz14_0
  try clear hfz14_1
  try clear hfz14_2
  try clear hfz14_3
  try clear hfz16_0
  try clear hfz16_1
  try clear hfz16_2
  try clear hfz19_0
  try clear hfz19_1
  try clear hfz19_2
  try clear hfz19_3
  try clear hfz21_0
  try clear hfz21_1
  try clear hfz21_2
  try clear hfz21_3
  try clear hfz23_0
  try clear hfz23_1
  try clear hfz23_2
  try clear hfz26_0
  try clear hfz26_1
  try clear hfz26_2
  try clear hfz26_3
  obtain ⟨kq, x26_2, rfl, HA, HJ2, BK340, BK341, BK342, HB⟩ := hcut
  cases kq with
  | zero => exact absurd HA.out (by simp [tithebarnref16_Apply.j0])
  | succ kj2 =>
   have H := HA.out
   clear HA
   simp only [tithebarnref16_Apply.j0] at H
   by_cases c28 : x26_2 = true
   ·subst c28
    have H1 : (some (([] : List (S36)), 0, 0, 8)) = some (r1, r2, r3, r4) := by rw [if_pos rfl] at H; exact H
    clear H
    have H := H1
    clear H1
    simp only [Option.some.injEq, Prod.mk.injEq] at H
    obtain ⟨rfl, rfl, rfl, rfl⟩ := H
    have hnb29 := NB342_340.out
    have hnc29 := NB340_342.out
    have hnb30 := NB342_341.out
    have hnc30 := NB341_342.out
    have hcz31_0 : wc.cell? ⟨gb342, 0, none⟩ = some (.slice none 0 0) := (blk_cell BK342.out 0).trans rfl
    have hcz31_1 : wc.cell? ⟨gb342, 1, none⟩ = some (.int .i64 0) := (blk_cell BK342.out 1).trans rfl
    have hcz31_2 : wc.cell? ⟨gb342, 2, none⟩ = some (.int .i64 0) := (blk_cell BK342.out 2).trans rfl
    have hfz31_0 := blk_frozen BK342.out 0
    have hfz31_1 := blk_frozen BK342.out 1
    have hfz31_2 := blk_frozen BK342.out 2
    go_wp2
    refine bodyPost_ret (results_ct rfl _ _ gb342 26 #[.slice none 0 0, .int .i64 0, .int .i64 0] (0, 0) _ rfl (by (with_reducible repeat (first | refine blk_drewN ?_ _ | refine blk_drew ?_ | refine blk_alloc ?_ _)); refine blk_put (cs := #[.slice none 0 0, .int .i64 0, .int .i64 0]) ?_ 2 _ rfl; (with_reducible repeat (first | refine blk_drewN ?_ _ | refine blk_drew ?_ | refine blk_alloc ?_ _)); refine blk_put (cs := #[.slice none 0 0, .int .i64 0, .int .i64 0]) ?_ 1 _ rfl; (with_reducible repeat (first | refine blk_drewN ?_ _ | refine blk_drew ?_ | refine blk_alloc ?_ _)); refine blk_put (cs := #[.slice none 0 0, .int .i64 0, .int .i64 0]) ?_ 0 _ rfl; (with_reducible repeat (first | refine blk_drewN ?_ _ | refine blk_drew ?_ | refine blk_alloc ?_ _)); exact BK342.out) Try.underlying26 rfl (by kernel_rfl)) rfl ?_
    exact ⟨_, z2_, z22_, z1_⟩
   ·replace c28 := Bool.eq_false_iff.mpr c28
    subst c28
    have H1 : (if ([] : List (S36)).length + l0_0.length < 1759218604441 then (tithebarnref16_Apply.l0 kj2 (([] : List (S36)) ++ l0_0) 0 l1_0 l1_1 a1_2 a1_3) else (none)) = some (r1, r2, r3, r4) := by rw [if_neg (show ¬ (false = true) by decide)] at H; exact H
    clear H
    have H := H1
    clear H1
    by_cases c32 : ([] : List (S36)).length + l0_0.length < 1759218604441
    ·rw [if_pos c32] at H
     have LMc32 := Aside0.mk c32
     clear c32
     obtain ⟨y344, hy344⟩ : ∃ y_ : List (S36), y_ = (([] : List (S36)) ++ l0_0) := ⟨_, rfl⟩
     replace H : (tithebarnref16_Apply.l0 kj2 y344 0 l1_0 l1_1 a1_2 a1_3) = some (r1, r2, r3, r4) := by first | (rw [hy344]; with_reducible exact H) | (have H2_ := (Option.bind_some _ _).symm.trans H; rw [hy344]; with_reducible exact H2_) | (have H2_ := (Option.bind_some _ _).symm.trans H; with_reducible exact H2_) | with_reducible exact H | (rw [hy344]; exact H) | exact H
     have Ny344 := Aside0.mk hy344
     clear hy344
     have H' := Aside0.mk H
     clear H
     have hnb33 := NB340_341.out
     have hnc33 := NB341_340.out
     have hnb34 := NB340_342.out
     have hnc34 := NB342_340.out
     have hcz35_0 : wc.cell? ⟨gb340, 0, none⟩ = some (.slice A0_0 l0_0.length c0_0) := (blk_cell BK340.out 0).trans rfl
     have hcz35_1 : wc.cell? ⟨gb340, 1, none⟩ = some (.int .i64 a0_1) := (blk_cell BK340.out 1).trans rfl
     have hcz35_2 : wc.cell? ⟨gb340, 2, none⟩ = some (.int .i64 a0_2) := (blk_cell BK340.out 2).trans rfl
     have hfz35_0 := blk_frozen BK340.out 0
     have hfz35_1 := blk_frozen BK340.out 1
     have hfz35_2 := blk_frozen BK340.out 2
     go_wp2_with (first | ((with_reducible refine gate_builtin (b := .append) (xs := #[.const (.slice none 0 0), .tmp 29]) rfl ?_); at_builtin; refine Kd.R_append_rows k36 (w0 := w) w.heap.size rfl (.const (.slice none 0 0)) (.tmp 29) 24 36 (.agg #[(.int .i64 0), (.int .i64 0), (.bool false), (.int .i64 0), (.string ⟨#[]⟩), (.bool false), (.int .i64 0), (.string ⟨#[]⟩)]) 80 rfl Try.underlying24 info36 rfl (by decide) (by omega) (.slice none 0 0) ([] : List (S36)) l0_0 _ _ _ (fun _ => True) (fun _ => False) rfl rfl ?aO ?aR (fun _ _ h => h) (fun _ h => h.elim) ?aF ?aB ?aS ?aL ?_; (case aR => repeat (first | exact (Kd.C_below HR0_0.out HB.out) | (with_reducible refine Kd.C_alloc ?_ _) | (with_reducible refine Kd.C_drewN ?_ _) | (with_reducible refine Kd.C_drew ?_))); (case aB => exact z1_); (case aF => exact (fun _ _ => trivial)); (case aO => exact ((Kd.R_nil _ _ _ _ (fun _ => True)))); (case aS => exact (below_size z1_)); (case aL => have := LMc32.out; omega); intro v345 w36 ho hb hg hat; rw [← Ny344.out] at ho; have n0_ := Aside0.mk (blk_grown (g := gb340) (o := .cells #[.slice A0_0 l0_0.length c0_0, .int .i64 a0_1, .int .i64 a0_2] 26 (0, 0)) (by (with_reducible repeat (first | refine blk_drewN ?_ _ | refine blk_drew ?_ | refine blk_alloc ?_ _)); exact BK340.out) hg (by simp [Value.ownBlock])); have n1_ := Aside0.mk (blk_grown (g := gb341) (o := .cells #[.slice A1_0 l1_0.length c1_0, .slice A1_1 l1_1.length c1_1, .int .i64 a1_2, .int .i64 a1_3] 32 (0, 0)) (by (with_reducible repeat (first | refine blk_drewN ?_ _ | refine blk_drew ?_ | refine blk_alloc ?_ _)); exact BK341.out) hg (by simp [Value.ownBlock])); have n2_ := Aside0.mk (blk_grown (g := gb342) (o := .cells #[.slice none 0 0, .int .i64 0, .int .i64 0] 26 (0, 0)) (by (with_reducible repeat (first | refine blk_drewN ?_ _ | refine blk_drew ?_ | refine blk_alloc ?_ _)); exact BK342.out) hg (by simp [Value.ownBlock])); have n3_ := Aside0.mk (hb); have n4_ := Aside0.mk (ho); clear BK340; clear BK341; clear BK342; clear HB; have BK340 := n0_; have BK341 := n1_; have BK342 := n2_; have HB := n3_; have HO346 := n4_; clear n0_ n1_ n2_ n3_ n4_; clear ho hb hg hat))
     go_loopg [6, 7] kj2 (fun kq v6 v7 w' => ∃ (x6_2 : List (S36)) (x7_2 : Int) (x343001_2 : Int) (x343002_2 : Int), v7 = .int .i64 x7_2 ∧ Aside0 (tithebarnref16_Apply.l0 kq x6_2 x7_2 l1_0 l1_1 a1_2 a1_3 = some (r1, r2, r3, r4)) ∧ Aside0 (kq ≤ kj2) ∧ Aside0 (Kd.R k36 36 w' w.heap.size (fun _ => True) v6 x6_2) ∧ Aside0 (w'.heap[gb340]? = some (.cells #[(.slice A0_0 l0_0.length c0_0), .int .i64 a0_1, .int .i64 a0_2] 26 (0, 0))) ∧ Aside0 (w'.heap[gb341]? = some (.cells #[(.slice A1_0 l1_0.length c1_0), (.slice A1_1 l1_1.length c1_1), .int .i64 a1_2, .int .i64 a1_3] 32 (0, 0))) ∧ Aside0 (w'.heap[gb342]? = some (.cells #[(.slice none 0 0), .int .i64 x343001_2, .int .i64 x343002_2] 26 (0, 0))) ∧ Aside0 (Below w.heap.size w w'))
     case atStart => exact ⟨(y344), (0), (0), (0), z4_, H', ⟨Nat.le_refl _⟩, ⟨by (with_reducible repeat (first | apply Kd.R_alloc | apply Kd.R_drewN | apply Kd.R_drew)); exact HO346.out⟩, ⟨by (with_reducible repeat (first | refine blk_drewN ?_ _ | refine blk_drew ?_ | refine blk_alloc ?_ _)); exact BK340.out⟩, ⟨by (with_reducible repeat (first | refine blk_drewN ?_ _ | refine blk_drew ?_ | refine blk_alloc ?_ _)); exact BK341.out⟩, ⟨by (with_reducible repeat (first | refine blk_drewN ?_ _ | refine blk_drew ?_ | refine blk_alloc ?_ _)); exact BK342.out⟩, ⟨z1_⟩⟩
     case round =>
      clear H'
      try clear c1
      try clear c2
      try clear p2
      try clear c3
      try clear c8
      try clear c9
      try clear c9b0
      try clear c10
      try clear c11
      try clear c14
      try clear c15
      try clear c17
      try clear c18
      try clear c22
      try clear c23
      try clear c24
      try clear c25
      try clear c28
      try clear c29
      try clear c30
      try clear c32
      try clear c33
      try clear c34
      try clear hcz12_0
      try clear hcz12_1
      try clear hcz12_2
      try clear hcz12_3
      try clear hcz14_0
      try clear hcz14_1
      try clear hcz14_2
      try clear hcz14_3
      try clear hcz16_0
      try clear hcz16_1
      try clear hcz16_2
      try clear hcz19_0
      try clear hcz19_1
      try clear hcz19_2
      try clear hcz19_3
      try clear hcz21_0
      try clear hcz21_1
      try clear hcz21_2
      try clear hcz21_3
      try clear hcz23_0
      try clear hcz23_1
      try clear hcz23_2
      try clear hcz26_0
      try clear hcz26_1
      try clear hcz26_2
      try clear hcz26_3
      try clear hcz31_0
      try clear hcz31_1
      try clear hcz31_2
      try clear hcz35_0
      try clear hcz35_1
      try clear hcz35_2
      try clear hfz12_0
      try clear hfz12_1
      try clear hfz12_2
      try clear hfz12_3
      try clear hfz14_0
      try clear hfz14_1
      try clear hfz14_2
      try clear hfz14_3
      try clear hfz16_0
      try clear hfz16_1
      try clear hfz16_2
      try clear hfz19_0
      try clear hfz19_1
      try clear hfz19_2
      try clear hfz19_3
      try clear hfz21_0
      try clear hfz21_1
      try clear hfz21_2
      try clear hfz21_3
      try clear hfz23_0
      try clear hfz23_1
      try clear hfz23_2
      try clear hfz26_0
      try clear hfz26_1
      try clear hfz26_2
      try clear hfz26_3
      try clear hfz31_0
      try clear hfz31_1
      try clear hfz31_2
      try clear hfz35_0
      try clear hfz35_1
      try clear hfz35_2
      try clear p2
      obtain ⟨x6_2, x7_2, x343001_2, x343002_2, rfl, HA, HK2, HO_6, BK340, BK341, BK342, HB⟩ := hrel
      cases gk with
      | zero => exact absurd HA.out (by simp [tithebarnref16_Apply.l0])
      | succ k2 =>
       have H := HA.out
       clear HA
       simp only [tithebarnref16_Apply.l0] at H
       by_cases c37 : x7_2 < (l1_0.length : Int)
       ·rw [if_pos c37] at H
        have c37b0 : decide (x7_2 < (l1_0.length : Int)) = true := decide_eq_true c37
        clear c37
        by_cases c38 : 0 ≤ x7_2
        ·rw [if_pos c38] at H
         have c38b0 : decide (0 ≤ x7_2) = true := decide_eq_true c38
         clear c38
         replace H := Option.bind_eq_some_iff.mp H
         obtain ⟨t348, A390, H⟩ := H
         replace H : (if t348 < 0 then (some (([] : List (S36)), 0, 0, 8)) else (tithebarnref16_Apply.l1 k2 x6_2 x7_2 l1_0 l1_1 a1_2 a1_3)) = some (r1, r2, r3, r4) := H
         have A39 := Aside0.mk A390
         clear A390
         by_cases c40 : t348 < 0
         ·rw [if_pos c40] at H
          have c40b0 : decide (t348 < 0) = true := decide_eq_true c40
          clear c40
          simp only [Option.some.injEq, Prod.mk.injEq] at H
          obtain ⟨rfl, rfl, rfl, rfl⟩ := H
          have hnb41 := NB341_340.out
          have hnc41 := NB340_341.out
          have hnb42 := NB341_342.out
          have hnc42 := NB342_341.out
          have hcz43_0 : wr.cell? ⟨gb341, 0, none⟩ = some (.slice A1_0 l1_0.length c1_0) := (blk_cell BK341.out 0).trans rfl
          have hcz43_1 : wr.cell? ⟨gb341, 1, none⟩ = some (.slice A1_1 l1_1.length c1_1) := (blk_cell BK341.out 1).trans rfl
          have hcz43_2 : wr.cell? ⟨gb341, 2, none⟩ = some (.int .i64 a1_2) := (blk_cell BK341.out 2).trans rfl
          have hcz43_3 : wr.cell? ⟨gb341, 3, none⟩ = some (.int .i64 a1_3) := (blk_cell BK341.out 3).trans rfl
          have hfz43_0 := blk_frozen BK341.out 0
          have hfz43_1 := blk_frozen BK341.out 1
          have hfz43_2 := blk_frozen BK341.out 2
          have hfz43_3 := blk_frozen BK341.out 3
          have p347 : 0 ≤ (x7_2 : Int) := of_decide_eq_true z5_
          have q347 : x7_2 < (l1_0.length : Int) := of_decide_eq_true z5_
          obtain ⟨ad347, e347, hx347_0⟩ := Kd.at_int HR1_0.out x7_2 p347 q347
          cases e347
          replace hx347_0 := (HB.out.cell (World.block_lt_of_cell? w _ hx347_0)).trans hx347_0
          replace p347 := eq_true p347
          replace q347 := eq_true q347
          obtain ⟨Ao44, co44, eo44⟩ := Kd.R_slice HO_6.out
          subst eo44
          go_wp2_with (first | ((with_reducible refine gate_callee (f := 27) rfl ?_); refine goesL_ (some 44) rfl rfl Try.func27 (by kernel_rfl) rfl #[.slice Ao44 x6_2.length co44, .int .i64 (rd l1_0 x7_2)] rfl (by (try simp only [List.map_toArray, List.map_cons, List.map_nil]); first | done | rfl | (simp only [List.length_drop, List.length_take]; rfl) | (go_simp; simp [IntKind.wrap, IntKind.bits, IntKind.signed]; omega)) ?_; (with_reducible refine (tithebarnref16_at.calls k2 _ _ x6_2 (rd l1_0 x7_2) t348 _ ?side1 ?side2 A39.out).mono ?_); (case side1 => repeat (first | exact (Kd.R_reads' HO_6.out).2.2 | (with_reducible refine Kd.C_alloc ?_ _) | (with_reducible refine Kd.C_drewN ?_ _) | (with_reducible refine Kd.C_drew ?_))); (case side2 => exact (Kd.R_reads' HO_6.out).2.1); rintro e w' ⟨rfl, ⟨nd, rfl⟩⟩; refine ⟨_, rfl, ?_⟩; (try (rw [drewN_self wr]; generalize hq_ : World.drewN wr _ = wr; have n0_ : Aside0 (Kd.R k36 36 wr w.heap.size (fun _ => True) (.slice Ao44 x6_2.length co44) x6_2) := ⟨by rw [← hq_]; exact (by (with_reducible repeat (first | apply Kd.R_alloc | apply Kd.R_drewN | apply Kd.R_drew)); exact HO_6.out)⟩; have n1_ : Aside0 (wr.heap[gb340]? = some (.cells #[.slice A0_0 l0_0.length c0_0, .int .i64 a0_1, .int .i64 a0_2] 26 (0, 0))) := ⟨by rw [← hq_]; exact (by (with_reducible repeat (first | refine blk_drewN ?_ _ | refine blk_drew ?_ | refine blk_alloc ?_ _)); exact BK340.out)⟩; have n2_ : Aside0 (wr.heap[gb341]? = some (.cells #[.slice (some ad347) l1_0.length c1_0, .slice A1_1 l1_1.length c1_1, .int .i64 a1_2, .int .i64 a1_3] 32 (0, 0))) := ⟨by rw [← hq_]; exact (by (with_reducible repeat (first | refine blk_drewN ?_ _ | refine blk_drew ?_ | refine blk_alloc ?_ _)); exact BK341.out)⟩; have n3_ : Aside0 (wr.heap[gb342]? = some (.cells #[.slice none 0 0, .int .i64 x343001_2, .int .i64 x343002_2] 26 (0, 0))) := ⟨by rw [← hq_]; exact (by (with_reducible repeat (first | refine blk_drewN ?_ _ | refine blk_drew ?_ | refine blk_alloc ?_ _)); exact BK342.out)⟩; have n4_ : Aside0 (Below w.heap.size w wr) := ⟨by rw [← hq_]; exact z1_⟩; clear HO_6 BK340 BK341 BK342 HB hq_; have HO_6 := n0_; have BK340 := n1_; have BK341 := n2_; have BK342 := n3_; have HB := n4_; clear n0_ n1_ n2_ n3_ n4_)); have hnb45 := NB342_340.out; have hnc45 := NB340_342.out; have hcz46_0 : wr.cell? ⟨gb342, 0, none⟩ = some (.slice none 0 0) := (blk_cell BK342.out 0).trans rfl; have hcz46_1 : wr.cell? ⟨gb342, 1, none⟩ = some (.int .i64 x343001_2) := (blk_cell BK342.out 1).trans rfl; have hcz46_2 : wr.cell? ⟨gb342, 2, none⟩ = some (.int .i64 x343002_2) := (blk_cell BK342.out 2).trans rfl; have hfz46_0 := blk_frozen BK342.out 0; have hfz46_1 := blk_frozen BK342.out 1; have hfz46_2 := blk_frozen BK342.out 2))
          refine bodyPost_ret (results_ct rfl _ _ gb342 26 #[.slice none 0 0, .int .i64 0, .int .i64 0] (0, 0) _ rfl (by (with_reducible repeat (first | refine blk_drewN ?_ _ | refine blk_drew ?_ | refine blk_alloc ?_ _)); refine blk_put (cs := #[.slice none 0 0, .int .i64 0, .int .i64 x343002_2]) ?_ 2 _ rfl; (with_reducible repeat (first | refine blk_drewN ?_ _ | refine blk_drew ?_ | refine blk_alloc ?_ _)); refine blk_put (cs := #[.slice none 0 0, .int .i64 x343001_2, .int .i64 x343002_2]) ?_ 1 _ rfl; (with_reducible repeat (first | refine blk_drewN ?_ _ | refine blk_drew ?_ | refine blk_alloc ?_ _)); refine blk_put (cs := #[.slice none 0 0, .int .i64 x343001_2, .int .i64 x343002_2]) ?_ 0 _ rfl; (with_reducible repeat (first | refine blk_drewN ?_ _ | refine blk_drew ?_ | refine blk_alloc ?_ _)); exact BK342.out) Try.underlying26 rfl (by kernel_rfl)) rfl ?_
          exact ⟨_, z2_, z22_, z1_⟩
         ·rw [if_neg c40] at H
          have c40b0 : decide (t348 < 0) = false := decide_eq_false c40
          clear c40
          have H' := Aside0.mk H
          clear H
          have hnb47 := NB341_340.out
          have hnc47 := NB340_341.out
          have hnb48 := NB341_342.out
          have hnc48 := NB342_341.out
          have hcz49_0 : wr.cell? ⟨gb341, 0, none⟩ = some (.slice A1_0 l1_0.length c1_0) := (blk_cell BK341.out 0).trans rfl
          have hcz49_1 : wr.cell? ⟨gb341, 1, none⟩ = some (.slice A1_1 l1_1.length c1_1) := (blk_cell BK341.out 1).trans rfl
          have hcz49_2 : wr.cell? ⟨gb341, 2, none⟩ = some (.int .i64 a1_2) := (blk_cell BK341.out 2).trans rfl
          have hcz49_3 : wr.cell? ⟨gb341, 3, none⟩ = some (.int .i64 a1_3) := (blk_cell BK341.out 3).trans rfl
          have hfz49_0 := blk_frozen BK341.out 0
          have hfz49_1 := blk_frozen BK341.out 1
          have hfz49_2 := blk_frozen BK341.out 2
          have hfz49_3 := blk_frozen BK341.out 3
          have p347 : 0 ≤ (x7_2 : Int) := of_decide_eq_true z5_
          have q347 : x7_2 < (l1_0.length : Int) := of_decide_eq_true z5_
          obtain ⟨ad347, e347, hx347_0⟩ := Kd.at_int HR1_0.out x7_2 p347 q347
          cases e347
          replace hx347_0 := (HB.out.cell (World.block_lt_of_cell? w _ hx347_0)).trans hx347_0
          replace p347 := eq_true p347
          replace q347 := eq_true q347
          obtain ⟨Ao50, co50, eo50⟩ := Kd.R_slice HO_6.out
          subst eo50
          go_wp2_with (first | ((with_reducible refine gate_callee (f := 27) rfl ?_); refine goesL_ (some 44) rfl rfl Try.func27 (by kernel_rfl) rfl #[.slice Ao50 x6_2.length co50, .int .i64 (rd l1_0 x7_2)] rfl (by (try simp only [List.map_toArray, List.map_cons, List.map_nil]); first | done | rfl | (simp only [List.length_drop, List.length_take]; rfl) | (go_simp; simp [IntKind.wrap, IntKind.bits, IntKind.signed]; omega)) ?_; (with_reducible refine (tithebarnref16_at.calls k2 _ _ x6_2 (rd l1_0 x7_2) t348 _ ?side1 ?side2 A39.out).mono ?_); (case side1 => repeat (first | exact (Kd.R_reads' HO_6.out).2.2 | (with_reducible refine Kd.C_alloc ?_ _) | (with_reducible refine Kd.C_drewN ?_ _) | (with_reducible refine Kd.C_drew ?_))); (case side2 => exact (Kd.R_reads' HO_6.out).2.1); rintro e w' ⟨rfl, ⟨nd, rfl⟩⟩; refine ⟨_, rfl, ?_⟩))
          go_loopg [6] k2 (fun kq v6 w' => ∃ (x6_3 : List (S36)), Aside0 (tithebarnref16_Apply.l1 kq x6_3 x7_2 l1_0 l1_1 a1_2 a1_3 = some (r1, r2, r3, r4)) ∧ Aside0 (kq ≤ k2) ∧ Aside0 (Kd.R k36 36 w' w.heap.size (fun _ => True) v6 x6_3) ∧ Aside0 (w'.heap[gb340]? = some (.cells #[(.slice A0_0 l0_0.length c0_0), .int .i64 a0_1, .int .i64 a0_2] 26 (0, 0))) ∧ Aside0 (w'.heap[gb341]? = some (.cells #[(.slice (some ad347) l1_0.length c1_0), (.slice A1_1 l1_1.length c1_1), .int .i64 a1_2, .int .i64 a1_3] 32 (0, 0))) ∧ Aside0 (w'.heap[gb342]? = some (.cells #[(.slice none 0 0), .int .i64 x343001_2, .int .i64 x343002_2] 26 (0, 0))) ∧ Aside0 (Below w.heap.size w w'))
          case atStart => exact ⟨(x6_2), H', ⟨Nat.le_refl _⟩, ⟨by (with_reducible repeat (first | apply Kd.R_alloc | apply Kd.R_drewN | apply Kd.R_drew)); exact HO_6.out⟩, ⟨by (with_reducible repeat (first | refine blk_drewN ?_ _ | refine blk_drew ?_ | refine blk_alloc ?_ _)); exact BK340.out⟩, ⟨by (with_reducible repeat (first | refine blk_drewN ?_ _ | refine blk_drew ?_ | refine blk_alloc ?_ _)); exact BK341.out⟩, ⟨by (with_reducible repeat (first | refine blk_drewN ?_ _ | refine blk_drew ?_ | refine blk_alloc ?_ _)); exact BK342.out⟩, ⟨z1_⟩⟩
          case round =>
           clear H'
           try clear c1
           try clear c2
           try clear p2
           try clear c3
           try clear p3
           try clear q3
           try clear hx3
           try clear c4
           try clear c8
           try clear c9
           try clear c9b0
           try clear c10
           try clear c11
           try clear c14
           try clear c15
           try clear c17
           try clear c18
           try clear c22
           try clear c23
           try clear c24
           try clear c25
           try clear c27
           try clear c28
           try clear c29
           try clear c30
           try clear c32
           try clear c33
           try clear c34
           try clear p34
           try clear q34
           try clear hx34
           try clear c37
           try clear c37b0
           try clear c38
           try clear c38b0
           try clear c40
           try clear c40b0
           try clear c41
           try clear c42
           try clear c45
           try clear c47
           try clear c48
           try clear hcz12_0
           try clear hcz12_1
           try clear hcz12_2
           try clear hcz12_3
           try clear hcz14_0
           try clear hcz14_1
           try clear hcz14_2
           try clear hcz14_3
           try clear hcz16_0
           try clear hcz16_1
           try clear hcz16_2
           try clear hcz19_0
           try clear hcz19_1
           try clear hcz19_2
           try clear hcz19_3
           try clear hcz21_0
           try clear hcz21_1
           try clear hcz21_2
           try clear hcz21_3
           try clear hcz23_0
           try clear hcz23_1
           try clear hcz23_2
           try clear hcz26_0
           try clear hcz26_1
           try clear hcz26_2
           try clear hcz26_3
           try clear hcz31_0
           try clear hcz31_1
           try clear hcz31_2
           try clear hcz35_0
           try clear hcz35_1
           try clear hcz35_2
           try clear hcz43_0
           try clear hcz43_1
           try clear hcz43_2
           try clear hcz43_3
           try clear hcz46_0
           try clear hcz46_1
           try clear hcz46_2
           try clear hcz49_0
           try clear hcz49_1
           try clear hcz49_2
           try clear hcz49_3
           try clear hfz12_0
           try clear hfz12_1
           try clear hfz12_2
           try clear hfz12_3
           try clear hfz14_0
           try clear hfz14_1
           try clear hfz14_2
           try clear hfz14_3
           try clear hfz16_0
           try clear hfz16_1
           try clear hfz16_2
           try clear hfz19_0
           try clear hfz19_1
           try clear hfz19_2
           try clear hfz19_3
           try clear hfz21_0
           try clear hfz21_1
           try clear hfz21_2
           try clear hfz21_3
           try clear hfz23_0
           try clear hfz23_1
           try clear hfz23_2
           try clear hfz26_0
           try clear hfz26_1
           try clear hfz26_2
           try clear hfz26_3
           try clear hfz31_0
           try clear hfz31_1
           try clear hfz31_2
           try clear hfz35_0
           try clear hfz35_1
           try clear hfz35_2
           try clear hfz43_0
           try clear hfz43_1
           try clear hfz43_2
           try clear hfz43_3
           try clear hfz46_0
           try clear hfz46_1
           try clear hfz46_2
           try clear hfz49_0
           try clear hfz49_1
           try clear hfz49_2
           try clear hfz49_3
           try clear hx347_0
           try clear p2
           try clear p347
           try clear q347
           obtain ⟨x6_3, HA, HK3, HO_6, BK340, BK341, BK342, HB⟩ := hrel
           cases gk with
           | zero => exact absurd HA.out (by simp [tithebarnref16_Apply.l1])
           | succ k3 =>
            have H := HA.out
            clear HA
            simp only [tithebarnref16_Apply.l1] at H
            by_cases c51 : 0 ≤ x7_2
            ·rw [if_pos c51] at H
             have c51b0 : decide (0 ≤ x7_2) = true := decide_eq_true c51
             clear c51
             by_cases c52 : x7_2 < (l1_0.length : Int)
             ·rw [if_pos c52] at H
              have c52b0 : decide (x7_2 < (l1_0.length : Int)) = true := decide_eq_true c52
              clear c52
              replace H := Option.bind_eq_some_iff.mp H
              obtain ⟨t350, A530, H⟩ := H
              replace H : (if t350 ≥ 0 then ((tithebarnref16_at.f k3 x6_3 (rd l1_0 x7_2)).bind fun t352 => (if 0 ≤ t352 then (if t352 ≤ (x6_3.length : Int) then ((some (x6_3.take (t352 : Int).toNat : List (S36))).bind fun y353 => (if ([] : List (S36)).length + y353.length < 1759218604441 then ((some (([] : List (S36)) ++ y353 : List (S36))).bind fun y357 => (if 0 ≤ (wrap64 (t352 + 1)) then (if (wrap64 (t352 + 1)) ≤ (x6_3.length : Int) then ((some (x6_3.drop ((wrap64 (t352 + 1)) : Int).toNat : List (S36))).bind fun y360 => (if y357.length + y360.length < 1759218604441 then (tithebarnref16_Apply.l1 k3 (y357 ++ y360) x7_2 l1_0 l1_1 a1_2 a1_3) else (none))) else (none)) else (none))) else (none))) else (none)) else (none))) else (tithebarnref16_Apply.l0 k3 x6_3 (wrap64 (x7_2 + 1)) l1_0 l1_1 a1_2 a1_3)) = some (r1, r2, r3, r4) := H
              have A53 := Aside0.mk A530
              clear A530
              by_cases c54 : t350 ≥ 0
              ·rw [if_pos c54] at H
               have c54b0 : decide (0 ≤ t350) = true := decide_eq_true c54
               clear c54
               replace H := Option.bind_eq_some_iff.mp H
               obtain ⟨t352, A550, H⟩ := H
               replace H : (if 0 ≤ t352 then (if t352 ≤ (x6_3.length : Int) then ((some (x6_3.take (t352 : Int).toNat : List (S36))).bind fun y353 => (if ([] : List (S36)).length + y353.length < 1759218604441 then ((some (([] : List (S36)) ++ y353 : List (S36))).bind fun y357 => (if 0 ≤ (wrap64 (t352 + 1)) then (if (wrap64 (t352 + 1)) ≤ (x6_3.length : Int) then ((some (x6_3.drop ((wrap64 (t352 + 1)) : Int).toNat : List (S36))).bind fun y360 => (if y357.length + y360.length < 1759218604441 then (tithebarnref16_Apply.l1 k3 (y357 ++ y360) x7_2 l1_0 l1_1 a1_2 a1_3) else (none))) else (none)) else (none))) else (none))) else (none)) else (none)) = some (r1, r2, r3, r4) := H
               have A55 := Aside0.mk A550
               clear A550
               by_cases c56 : 0 ≤ t352
               ·rw [if_pos c56] at H
                have c56b0 := eq_true c56
                have c56b1 : decide (0 ≤ t352) = true := decide_eq_true c56
                clear c56
                by_cases c57 : t352 ≤ (x6_3.length : Int)
                ·rw [if_pos c57] at H
                 have c57b0 := eq_true c57
                 have c57b1 : decide (t352 ≤ (x6_3.length : Int)) = true := decide_eq_true c57
                 clear c57
                 obtain ⟨y353, hy353⟩ : ∃ y_ : List (S36), y_ = (x6_3.take (t352 : Int).toNat) := ⟨_, rfl⟩
                 replace H : (if ([] : List (S36)).length + y353.length < 1759218604441 then ((some (([] : List (S36)) ++ y353 : List (S36))).bind fun y357 => (if 0 ≤ (wrap64 (t352 + 1)) then (if (wrap64 (t352 + 1)) ≤ (x6_3.length : Int) then ((some (x6_3.drop ((wrap64 (t352 + 1)) : Int).toNat : List (S36))).bind fun y360 => (if y357.length + y360.length < 1759218604441 then (tithebarnref16_Apply.l1 k3 (y357 ++ y360) x7_2 l1_0 l1_1 a1_2 a1_3) else (none))) else (none)) else (none))) else (none)) = some (r1, r2, r3, r4) := by first | (rw [hy353]; with_reducible exact H) | (have H2_ := (Option.bind_some _ _).symm.trans H; rw [hy353]; with_reducible exact H2_) | (have H2_ := (Option.bind_some _ _).symm.trans H; with_reducible exact H2_) | with_reducible exact H | (rw [hy353]; exact H) | exact H
                 have Ny353 := Aside0.mk hy353
                 clear hy353
                 by_cases c58 : ([] : List (S36)).length + y353.length < 1759218604441
                 ·rw [if_pos c58] at H
                  have LMc58 := Aside0.mk c58
                  clear c58
                  obtain ⟨y357, hy357⟩ : ∃ y_ : List (S36), y_ = (([] : List (S36)) ++ y353) := ⟨_, rfl⟩
                  replace H : (if 0 ≤ (wrap64 (t352 + 1)) then (if (wrap64 (t352 + 1)) ≤ (x6_3.length : Int) then ((some (x6_3.drop ((wrap64 (t352 + 1)) : Int).toNat : List (S36))).bind fun y360 => (if y357.length + y360.length < 1759218604441 then (tithebarnref16_Apply.l1 k3 (y357 ++ y360) x7_2 l1_0 l1_1 a1_2 a1_3) else (none))) else (none)) else (none)) = some (r1, r2, r3, r4) := by first | (rw [hy357]; with_reducible exact H) | (have H2_ := (Option.bind_some _ _).symm.trans H; rw [hy357]; with_reducible exact H2_) | (have H2_ := (Option.bind_some _ _).symm.trans H; with_reducible exact H2_) | with_reducible exact H | (rw [hy357]; exact H) | exact H
                  have Ny357 := Aside0.mk hy357
                  clear hy357
                  obtain ⟨ji59, hji59⟩ : ∃ j_ : Int, (wrap64 (t352 + 1)) = j_ := ⟨_, rfl⟩
                  replace H : (if 0 ≤ (ji59) then (if (ji59) ≤ (x6_3.length : Int) then ((some (x6_3.drop ((ji59) : Int).toNat : List (S36))).bind fun y360 => (if y357.length + y360.length < 1759218604441 then (tithebarnref16_Apply.l1 k3 (y357 ++ y360) x7_2 l1_0 l1_1 a1_2 a1_3) else (none))) else (none)) else (none)) = some (r1, r2, r3, r4) := by first | (rw [hji59] at H; exact H) | (simp only [hji59] at H ⊢; exact H)
                  (try rw [hji59] at A53)
                  (try rw [hji59] at A55)
                  have hji59w : (IntKind.i64.wrap (t352 + 1)) = ji59 := (i64_w _).trans hji59
                  by_cases c60 : 0 ≤ (ji59)
                  ·rw [if_pos c60] at H
                   have c60b0 := eq_true c60
                   have c60b1 : decide (0 ≤ (ji59)) = true := decide_eq_true c60
                   clear c60
                   by_cases c61 : (ji59) ≤ (x6_3.length : Int)
                   ·rw [if_pos c61] at H
                    have c61b0 := eq_true c61
                    have c61b1 : decide ((ji59) ≤ (x6_3.length : Int)) = true := decide_eq_true c61
                    clear c61
                    obtain ⟨y360, hy360⟩ : ∃ y_ : List (S36), y_ = (x6_3.drop ((ji59) : Int).toNat) := ⟨_, rfl⟩
                    replace H : (if y357.length + y360.length < 1759218604441 then (tithebarnref16_Apply.l1 k3 (y357 ++ y360) x7_2 l1_0 l1_1 a1_2 a1_3) else (none)) = some (r1, r2, r3, r4) := by first | (rw [hy360]; with_reducible exact H) | (have H2_ := (Option.bind_some _ _).symm.trans H; rw [hy360]; with_reducible exact H2_) | (have H2_ := (Option.bind_some _ _).symm.trans H; with_reducible exact H2_) | with_reducible exact H | (rw [hy360]; exact H) | exact H
                    have Ny360 := Aside0.mk hy360
                    clear hy360
                    by_cases c62 : y357.length + y360.length < 1759218604441
                    ·rw [if_pos c62] at H
                     have LMc62 := Aside0.mk c62
                     clear c62
                     obtain ⟨y364, hy364⟩ : ∃ y_ : List (S36), y_ = (y357 ++ y360) := ⟨_, rfl⟩
                     replace H : (tithebarnref16_Apply.l1 k3 y364 x7_2 l1_0 l1_1 a1_2 a1_3) = some (r1, r2, r3, r4) := by first | (rw [hy364]; with_reducible exact H) | (have H2_ := (Option.bind_some _ _).symm.trans H; rw [hy364]; with_reducible exact H2_) | (have H2_ := (Option.bind_some _ _).symm.trans H; with_reducible exact H2_) | with_reducible exact H | (rw [hy364]; exact H) | exact H
                     have Ny364 := Aside0.mk hy364
                     clear hy364
                     have H' := Aside0.mk H
                     clear H
                     have hnb63 := NB341_340.out
                     have hnc63 := NB340_341.out
                     have hnb64 := NB341_342.out
                     have hnc64 := NB342_341.out
                     have hcz65_0 : wr.cell? ⟨gb341, 0, none⟩ = some (.slice (some ad347) l1_0.length c1_0) := (blk_cell BK341.out 0).trans rfl
                     have hcz65_1 : wr.cell? ⟨gb341, 1, none⟩ = some (.slice A1_1 l1_1.length c1_1) := (blk_cell BK341.out 1).trans rfl
                     have hcz65_2 : wr.cell? ⟨gb341, 2, none⟩ = some (.int .i64 a1_2) := (blk_cell BK341.out 2).trans rfl
                     have hcz65_3 : wr.cell? ⟨gb341, 3, none⟩ = some (.int .i64 a1_3) := (blk_cell BK341.out 3).trans rfl
                     have hfz65_0 := blk_frozen BK341.out 0
                     have hfz65_1 := blk_frozen BK341.out 1
                     have hfz65_2 := blk_frozen BK341.out 2
                     have hfz65_3 := blk_frozen BK341.out 3
                     have p349 : 0 ≤ (x7_2 : Int) := of_decide_eq_true z5_
                     have q349 : x7_2 < (l1_0.length : Int) := of_decide_eq_true z5_
                     obtain ⟨ad349, e349, hx349_0⟩ := Kd.at_int HR1_0.out x7_2 p349 q349
                     obtain rfl : ad347 = ad349 := (by injection e349)
                     replace hx349_0 := (HB.out.cell (World.block_lt_of_cell? w _ hx349_0)).trans hx349_0
                     replace p349 := eq_true p349
                     replace q349 := eq_true q349
                     obtain ⟨Ao66, co66, eo66⟩ := Kd.R_slice HO_6.out
                     subst eo66
                     try go_wp2_with (first | ((with_reducible refine gate_callee (f := 27) rfl ?_); refine goesL_ (some 54) rfl rfl Try.func27 (by kernel_rfl) rfl #[.slice Ao66 x6_3.length co66, .int .i64 (rd l1_0 x7_2)] rfl (by (try simp only [List.map_toArray, List.map_cons, List.map_nil]); first | done | rfl | (simp only [List.length_drop, List.length_take]; rfl) | (go_simp; simp [IntKind.wrap, IntKind.bits, IntKind.signed]; omega)) ?_; (with_reducible refine (tithebarnref16_at.calls k3 _ _ x6_3 (rd l1_0 x7_2) t350 _ ?side1 ?side2 A53.out).mono ?_); (case side1 => repeat (first | exact (Kd.R_reads' HO_6.out).2.2 | (with_reducible refine Kd.C_alloc ?_ _) | (with_reducible refine Kd.C_drewN ?_ _) | (with_reducible refine Kd.C_drew ?_))); (case side2 => exact (Kd.R_reads' HO_6.out).2.1); rintro e w' ⟨rfl, ⟨nd, rfl⟩⟩; refine ⟨_, rfl, ?_⟩; have p351 : 0 ≤ (x7_2 : Int) := of_decide_eq_true z5_; have q351 : x7_2 < (l1_0.length : Int) := of_decide_eq_true z5_; obtain ⟨ad351, e351, hx351_0⟩ := Kd.at_int HR1_0.out x7_2 p351 q351; obtain rfl : ad347 = ad351 := (by injection e351); replace hx351_0 := (HB.out.cell (World.block_lt_of_cell? w _ hx351_0)).trans hx351_0; replace p351 := eq_true p351; replace q351 := eq_true q351) | ((with_reducible refine gate_callee (f := 27) rfl ?_); refine goesL_ (some 62) rfl rfl Try.func27 (by kernel_rfl) rfl #[.slice Ao66 x6_3.length co66, .int .i64 (rd l1_0 x7_2)] rfl (by (try simp only [List.map_toArray, List.map_cons, List.map_nil]); first | done | rfl | (simp only [List.length_drop, List.length_take]; rfl) | (go_simp; simp [IntKind.wrap, IntKind.bits, IntKind.signed]; omega)) ?_; (with_reducible refine (tithebarnref16_at.calls k3 _ _ x6_3 (rd l1_0 x7_2) t352 _ ?side1 ?side2 A55.out).mono ?_); (case side1 => repeat (first | exact (Kd.R_reads' HO_6.out).2.2 | (with_reducible refine Kd.C_alloc ?_ _) | (with_reducible refine Kd.C_drewN ?_ _) | (with_reducible refine Kd.C_drew ?_))); (case side2 => exact (Kd.R_reads' HO_6.out).2.1); rintro e w' ⟨rfl, ⟨nd, rfl⟩⟩; refine ⟨_, rfl, ?_⟩))
                     (try (rw [drewN_self wr]; generalize hq_ : World.drewN wr _ = wr; have n0_ : Aside0 (Kd.R k36 36 wr w.heap.size (fun _ => True) (.slice Ao66 x6_3.length co66) x6_3) := ⟨by rw [← hq_]; exact (by (with_reducible repeat (first | apply Kd.R_alloc | apply Kd.R_drewN | apply Kd.R_drew)); exact HO_6.out)⟩; have n1_ : Aside0 (wr.heap[gb340]? = some (.cells #[.slice A0_0 l0_0.length c0_0, .int .i64 a0_1, .int .i64 a0_2] 26 (0, 0))) := ⟨by rw [← hq_]; exact (by (with_reducible repeat (first | refine blk_drewN ?_ _ | refine blk_drew ?_ | refine blk_alloc ?_ _)); exact BK340.out)⟩; have n2_ : Aside0 (wr.heap[gb341]? = some (.cells #[.slice (some ad347) l1_0.length c1_0, .slice A1_1 l1_1.length c1_1, .int .i64 a1_2, .int .i64 a1_3] 32 (0, 0))) := ⟨by rw [← hq_]; exact (by (with_reducible repeat (first | refine blk_drewN ?_ _ | refine blk_drew ?_ | refine blk_alloc ?_ _)); exact BK341.out)⟩; have n3_ : Aside0 (wr.heap[gb342]? = some (.cells #[.slice none 0 0, .int .i64 x343001_2, .int .i64 x343002_2] 26 (0, 0))) := ⟨by rw [← hq_]; exact (by (with_reducible repeat (first | refine blk_drewN ?_ _ | refine blk_drew ?_ | refine blk_alloc ?_ _)); exact BK342.out)⟩; have n4_ : Aside0 (Below w.heap.size w wr) := ⟨by rw [← hq_]; exact z1_⟩; clear HO_6 BK340 BK341 BK342 HB hq_; have HO_6 := n0_; have BK340 := n1_; have BK341 := n2_; have BK342 := n3_; have HB := n4_; clear n0_ n1_ n2_ n3_ n4_))
                     have n0_ := Aside0.mk (Kd.R_drew HO_6.out)
                     have n1_ := Aside0.mk (blk_drew BK340.out)
                     have n2_ := Aside0.mk (blk_drew BK341.out)
                     have n3_ := Aside0.mk (blk_drew BK342.out)
                     have n4_ := Aside0.mk (below_drew1 HB.out)
                     clear HO_6
                     clear BK340
                     clear BK341
                     clear BK342
                     clear HB
                     have HO_6 := n0_
                     have BK340 := n1_
                     have BK341 := n2_
                     have BK342 := n3_
                     have HB := n4_
                     clear n0_ n1_ n2_ n3_ n4_
                     have q68 : (t352 : Int) ≤ ((x6_3.length : Int) : Int) := of_decide_eq_true z5_
                     obtain ⟨i068, hi068, _, hsz68, _⟩ := info_parts info36
                     have hroom68 : x6_3.length ≤ co66 := (Kd.R_reads' HO_6.out).2.1
                     have hC68 : Kd.C k36 _ Ao66 x6_3.length x6_3 := (Kd.R_reads' HO_6.out).2.2
                     have hcut68 := cut_to (P := Try.prog) 24 36 .i64 Try.underlying24 hi068 Ao66 x6_3.length co66 t352 (of_decide_eq_true z5_) q68 hroom68
                     have hr68 := Kd.C_take (m := (t352 : Int).toNat) hC68 (by omega)
                     have hy68 : y353.length = (t352 : Int).toNat := (by rw [Ny353.out, List.length_take]; omega)
                     rw [← Ny353.out] at hr68
                     rw [← hy68] at hcut68
                     have HR356 := Aside0.mk hr68
                     have HC356 := Aside0.mk (show y353.length ≤ co66 from by omega)
                     clear hr68 hC68 hroom68 hi068 hsz68
                     have KY68 := Aside0.mk hy68
                     clear hy68
                     have KL68 := Aside0.mk (show (t352 : Int).toNat ≤ x6_3.length from by omega)
                     replace q68 := eq_true q68
                     have q69 : ((ji59) : Int) ≤ ((x6_3.length : Int) : Int) := of_decide_eq_true z5_
                     obtain ⟨i069, hi069, _, hsz69, _⟩ := info_parts info36
                     have hroom69 : x6_3.length ≤ co66 := (Kd.R_reads' HO_6.out).2.1
                     have hC69 : Kd.C k36 _ Ao66 x6_3.length x6_3 := (Kd.R_reads' HO_6.out).2.2
                     have q069 : (0 : Int) ≤ ((ji59) : Int) := of_decide_eq_true z5_
                     have hcut69 := cut_from (P := Try.prog) 24 36 .i64 Try.underlying24 hi069 8 hsz69 Ao66 x6_3.length co66 (ji59) q069 q69
                     have hr69 := Kd.C_drop (m := ((ji59) : Int).toNat) (c := co66) hC69 (by omega) hroom69
                     obtain ⟨A69, hA69⟩ : ∃ A1, A1 = (if co66 = ((ji59) : Int).toNat then Ao66 else (Ao66 : Option Addr).map (·.add (((ji59) : Int).toNat * 8))) := ⟨_, rfl⟩
                     obtain ⟨c69, hc69⟩ : ∃ c1, c1 = co66 - ((ji59) : Int).toNat := ⟨_, rfl⟩
                     have hy69 : y360.length = x6_3.length - ((ji59) : Int).toNat := (by rw [Ny360.out, List.length_drop] <;> omega)
                     rw [show (x6_3).drop ((ji59) : Int).toNat = y360 from Ny360.out.symm] at hr69
                     replace hr69 : Kd.C k36 _ A69 y360.length y360 := (by rw [hA69]; exact hr69)
                     rw [← hy69, ← hA69, ← hc69] at hcut69
                     have HR363 := Aside0.mk hr69
                     have HC363 := Aside0.mk (show y360.length ≤ c69 from by rw [hy69, hc69]; exact Nat.sub_le_sub_right hroom69 _)
                     clear hr69 hC69 hroom69 hi069 hsz69 hc69
                     have KY69 := Aside0.mk hy69
                     have KA69 := Aside0.mk hA69
                     clear hy69 hA69
                     have KL69 := Aside0.mk (show ((ji59) : Int).toNat ≤ x6_3.length from by omega)
                     replace q69 := eq_true q69
                     refine start_ (n := 10) (S := fun w' => True) (ds := []) (bs_ 10 0) (by kernel_rfl) rfl rfl trivial (fun hHeld => ?_); refine with_tabW tithebarnref16_Apply.tab12 tithebarnref16_Apply.bits12 (fun HT_ HW_ => ?_)
                     generalize wr.drew = w67 at HO_6 BK340 BK341 BK342 HB HR356 HR363 hHeld ⊢
                     refine pA_ 0 (some 63) (bs_ 10 1) HT_ ?_ ?_ ?_ ?_ ?_
                     rotate_left; (intro w'; go_simp; with_reducible rfl); rotate_left; (simp only [PT_]; rfl)
                     refine pA_ 1 (some 64) (bs_ 10 3) HT_ ?_ ?_ ?_ ?_ ?_
                     rotate_left; (intro w'; go_simp; with_reducible rfl); rotate_left; (simp only [PT_]; rfl)
                     refine pA_ 2 (some 65) (bs_ 10 7) HT_ ?_ ?_ ?_ ?_ ?_
                     rotate_left; (intro w'; go_simp; with_reducible rfl); rotate_left; (simp only [PT_]; rfl)
                     refine pA_ 4 (some 67) (bs_ 10 23) HT_ ?_ ?_ ?_ ?_ ?_
                     rotate_left; (intro w'; go_simp; with_reducible rfl); rotate_left; (simp only [PT_]; rfl)
                     refine pA_ 5 (some 68) (bs_ 10 55) HT_ ?_ ?_ ?_ ?_ ?_
                     rotate_left; (intro w'; go_simp; with_reducible rfl); rotate_left; (simp only [PT_]; rfl)
                     refine pA_ 6 (some 69) (bs_ 10 119) HT_ ?_ ?_ ?_ ?_ ?_
                     rotate_left; (intro w'; go_simp; with_reducible rfl); rotate_left; (simp only [PT_]; rfl)
                     refine pA_ 7 (some 70) (bs_ 10 247) HT_ ?_ ?_ ?_ ?_ ?_
                     rotate_left; (intro w'; go_simp; with_reducible rfl); rotate_left; (simp only [PT_]; rfl)
                     refine oA_ 3 (some 66) (bs_ 10 255) HT_ (fun K hK => ?_)
                     refine Kd.R_append_rows_step k36 (w0 := w) w.heap.size (by rfl) (.const (.slice none 0 0)) (.tmp 65) 24 36 (.agg #[(.int .i64 0), (.int .i64 0), (.bool false), (.int .i64 0), (.string ⟨#[]⟩), (.bool false), (.int .i64 0), (.string ⟨#[]⟩)]) 80 rfl Try.underlying24 info36 rfl (by decide) (by omega) (.slice none 0 0) ([] : List (S36)) y353 _ _ _ (fun k_ => some k_ ≠ (.slice Ao66 x6_3.length co66 : Value).ownBlock) (fun _ => False) rfl rfl ?aO ?aR (fun _ _ h => h) (fun _ h => h.elim) ?aF ?aB ?aS ?aL ?_
                     (case aR => repeat (first | exact (by repeat (first | (with_reducible exact HR356.out) | (with_reducible refine Kd.C_alloc ?_ _) | (with_reducible refine Kd.C_drewN ?_ _) | (with_reducible refine Kd.C_drew ?_) | exact HR356.out)) | (with_reducible refine Kd.C_alloc ?_ _) | (with_reducible refine Kd.C_drewN ?_ _) | (with_reducible refine Kd.C_drew ?_)))
                     (case aB => exact z1_)
                     (case aF => exact (fun k_ hk => Kd.fresh' (Kd.R_lt (by (with_reducible repeat (first | apply Kd.R_alloc | apply Kd.R_drewN | apply Kd.R_drew)); exact HO_6.out)) k_ hk))
                     (case aO => exact ((Kd.R_nil _ _ _ _ (fun k_ => some k_ ≠ (.slice Ao66 x6_3.length co66 : Value).ownBlock))))
                     (case aS => exact (below_size z1_))
                     (case aL => have := LMc58.out; omega)
                     intro v358 w70 ho hb hg hat
                     rw [← Ny357.out] at ho
                     have n0_ := Aside0.mk (Kd.R_after (Kd.R_apart_nil (by (with_reducible repeat (first | apply Kd.R_alloc | apply Kd.R_drewN | apply Kd.R_drew)); exact HO_6.out)) hg hat)
                     have n1_ := Aside0.mk (blk_grown (g := gb340) (o := .cells #[.slice A0_0 l0_0.length c0_0, .int .i64 a0_1, .int .i64 a0_2] 26 (0, 0)) (by (with_reducible repeat (first | refine blk_drewN ?_ _ | refine blk_drew ?_ | refine blk_alloc ?_ _)); exact BK340.out) hg (by simp [Value.ownBlock]))
                     have n2_ := Aside0.mk (blk_grown (g := gb341) (o := .cells #[.slice (some ad347) l1_0.length c1_0, .slice A1_1 l1_1.length c1_1, .int .i64 a1_2, .int .i64 a1_3] 32 (0, 0)) (by (with_reducible repeat (first | refine blk_drewN ?_ _ | refine blk_drew ?_ | refine blk_alloc ?_ _)); exact BK341.out) hg (by simp [Value.ownBlock]))
                     have n3_ := Aside0.mk (blk_grown (g := gb342) (o := .cells #[.slice none 0 0, .int .i64 x343001_2, .int .i64 x343002_2] 26 (0, 0)) (by (with_reducible repeat (first | refine blk_drewN ?_ _ | refine blk_drew ?_ | refine blk_alloc ?_ _)); exact BK342.out) hg (by simp [Value.ownBlock]))
                     have n4_ := Aside0.mk (hb)
                     have n5_ := Aside0.mk ((show Kd.C k36 w70 Ao66 y353.length y353 from by rw [Ny353.out]; exact Kd.C_take (m := (t352 : Int).toNat) ((Kd.R_reads' (Kd.R_after (Kd.R_apart_nil (by (with_reducible repeat (first | apply Kd.R_alloc | apply Kd.R_drewN | apply Kd.R_drew)); exact HO_6.out)) hg hat)).2.2) KL68.out))
                     have n6_ := Aside0.mk ((show Kd.C k36 w70 A69 y360.length y360 from by rw [Ny360.out, KA69.out]; exact Kd.C_drop (m := ((ji59) : Int).toNat) (c := co66) ((Kd.R_reads' (Kd.R_after (Kd.R_apart_nil (by (with_reducible repeat (first | apply Kd.R_alloc | apply Kd.R_drewN | apply Kd.R_drew)); exact HO_6.out)) hg hat)).2.2) KL69.out ((Kd.R_reads' (Kd.R_after (Kd.R_apart_nil (by (with_reducible repeat (first | apply Kd.R_alloc | apply Kd.R_drewN | apply Kd.R_drew)); exact HO_6.out)) hg hat)).2.1)))
                     have n7_ := Aside0.mk (ho)
                     clear HO_6
                     clear BK340
                     clear BK341
                     clear BK342
                     clear HB
                     clear HR356
                     clear HR363
                     have HO_6 := n0_
                     have BK340 := n1_
                     have BK341 := n2_
                     have BK342 := n3_
                     have HB := n4_
                     have HR356 := n5_
                     have HR363 := n6_
                     have HO359 := n7_
                     clear n0_ n1_ n2_ n3_ n4_ n5_ n6_ n7_
                     clear ho hb hg hat
                     refine hK.out _ _ trivial (fun hHeld => ?_)
                     clear hK K
                     refine norm_ (a' := ?_) ?_ ?_; rotate_left; (show Act.put _ (some 66) _ = _; simp only [PT_]; rfl)
                     refine oA_ 8 (some 71) (bs_ 10 511) HT_ (fun K hK => ?_)
                     refine Kd.R_append_rows_step k36 (w0 := w) w.heap.size (by rfl) (.tmp 66) (.tmp 70) 24 36 (.agg #[(.int .i64 0), (.int .i64 0), (.bool false), (.int .i64 0), (.string ⟨#[]⟩), (.bool false), (.int .i64 0), (.string ⟨#[]⟩)]) 80 rfl Try.underlying24 info36 rfl (by decide) (by omega) v358 y357 y360 _ _ _ (fun k_ => some k_ ≠ (.slice Ao66 x6_3.length co66 : Value).ownBlock) (fun _ => False) rfl rfl ?aO ?aR (fun _ _ h => h) (fun _ h => h.elim) ?aF ?aB ?aS ?aL ?_
                     (case aR => repeat (first | exact (by repeat (first | (with_reducible exact HR363.out) | (with_reducible refine Kd.C_alloc ?_ _) | (with_reducible refine Kd.C_drewN ?_ _) | (with_reducible refine Kd.C_drew ?_) | exact HR363.out)) | (with_reducible refine Kd.C_alloc ?_ _) | (with_reducible refine Kd.C_drewN ?_ _) | (with_reducible refine Kd.C_drew ?_)))
                     (case aB => exact z1_)
                     (case aF => exact (fun k_ hk => Kd.fresh' (Kd.R_lt (by (with_reducible repeat (first | apply Kd.R_alloc | apply Kd.R_drewN | apply Kd.R_drew)); exact HO_6.out)) k_ hk))
                     (case aO => exact (by (with_reducible repeat (first | apply Kd.R_alloc | apply Kd.R_drewN | apply Kd.R_drew)); exact HO359.out))
                     (case aS => exact (below_size z1_))
                     (case aL => have := LMc62.out; omega)
                     intro v365 w71 ho hb hg hat
                     rw [← Ny364.out] at ho
                     have n0_ := Aside0.mk (Kd.R_after (ok := (fun _ => True)) (by (with_reducible repeat (first | apply Kd.R_alloc | apply Kd.R_drewN | apply Kd.R_drew)); exact HO_6.out) hg hat)
                     have n1_ := Aside0.mk (blk_grown (g := gb340) (o := .cells #[.slice A0_0 l0_0.length c0_0, .int .i64 a0_1, .int .i64 a0_2] 26 (0, 0)) (by (with_reducible repeat (first | refine blk_drewN ?_ _ | refine blk_drew ?_ | refine blk_alloc ?_ _)); exact BK340.out) hg (Kd.R_ne HO359.out BK340.out (by decide)))
                     have n2_ := Aside0.mk (blk_grown (g := gb341) (o := .cells #[.slice (some ad347) l1_0.length c1_0, .slice A1_1 l1_1.length c1_1, .int .i64 a1_2, .int .i64 a1_3] 32 (0, 0)) (by (with_reducible repeat (first | refine blk_drewN ?_ _ | refine blk_drew ?_ | refine blk_alloc ?_ _)); exact BK341.out) hg (Kd.R_ne HO359.out BK341.out (by decide)))
                     have n3_ := Aside0.mk (blk_grown (g := gb342) (o := .cells #[.slice none 0 0, .int .i64 x343001_2, .int .i64 x343002_2] 26 (0, 0)) (by (with_reducible repeat (first | refine blk_drewN ?_ _ | refine blk_drew ?_ | refine blk_alloc ?_ _)); exact BK342.out) hg (Kd.R_ne HO359.out BK342.out (by decide)))
                     have n4_ := Aside0.mk (hb)
                     have n5_ := Aside0.mk ((show Kd.C k36 w71 Ao66 y353.length y353 from by rw [Ny353.out]; exact Kd.C_take (m := (t352 : Int).toNat) ((Kd.R_reads' (Kd.R_after (ok := (fun _ => True)) (by (with_reducible repeat (first | apply Kd.R_alloc | apply Kd.R_drewN | apply Kd.R_drew)); exact HO_6.out) hg hat)).2.2) KL68.out))
                     have n6_ := Aside0.mk ((show Kd.C k36 w71 A69 y360.length y360 from by rw [Ny360.out, KA69.out]; exact Kd.C_drop (m := ((ji59) : Int).toNat) (c := co66) ((Kd.R_reads' (Kd.R_after (ok := (fun _ => True)) (by (with_reducible repeat (first | apply Kd.R_alloc | apply Kd.R_drewN | apply Kd.R_drew)); exact HO_6.out) hg hat)).2.2) KL69.out ((Kd.R_reads' (Kd.R_after (ok := (fun _ => True)) (by (with_reducible repeat (first | apply Kd.R_alloc | apply Kd.R_drewN | apply Kd.R_drew)); exact HO_6.out) hg hat)).2.1)))
                     have n7_ := Aside0.mk (ho)
                     clear HO_6
                     clear BK340
                     clear BK341
                     clear BK342
                     clear HB
                     clear HR356
                     clear HR363
                     clear HO359
                     have HO_6 := n0_
                     have BK340 := n1_
                     have BK341 := n2_
                     have BK342 := n3_
                     have HB := n4_
                     have HR356 := n5_
                     have HR363 := n6_
                     have HO366 := n7_
                     clear n0_ n1_ n2_ n3_ n4_ n5_ n6_ n7_
                     clear ho hb hg hat
                     refine hK.out _ _ trivial (fun hHeld => ?_)
                     clear hK K
                     refine norm_ (a' := ?_) ?_ ?_; rotate_left; (show Act.put _ (some 71) _ = _; simp only [PT_]; rfl)
                     refine pA_ 9 (some 6) (bs_ 10 1023) HT_ ?_ ?_ ?_ ?_ ?_
                     rotate_left; (intro w'; go_simp; with_reducible rfl); rotate_left; (simp only [PT_]; rfl)
                     refine done_ (done_of HT_.out (by kernel_rfl)) ?_
                     try go_wp2
                     go_roundg k3
                     case measure => have := HJ2.out; have := HK2.out; have := HK3.out; omega
                     case rel => exact ⟨(y364), H', ⟨by have := HJ2.out; have := HK2.out; have := HK3.out; omega⟩, ⟨by (with_reducible repeat (first | apply Kd.R_alloc | apply Kd.R_drewN | apply Kd.R_drew)); exact Kd.R_mono HO366.out (fun _ hk => trivial)⟩, ⟨by (with_reducible repeat (first | refine blk_drewN ?_ _ | refine blk_drew ?_ | refine blk_alloc ?_ _)); exact BK340.out⟩, ⟨by (with_reducible repeat (first | refine blk_drewN ?_ _ | refine blk_drew ?_ | refine blk_alloc ?_ _)); exact BK341.out⟩, ⟨by (with_reducible repeat (first | refine blk_drewN ?_ _ | refine blk_drew ?_ | refine blk_alloc ?_ _)); exact BK342.out⟩, ⟨z1_⟩⟩
                    ·rw [if_neg c62] at H
                     exact absurd H (by simp)
                   ·rw [if_neg c61] at H
                    exact absurd H (by simp)
                  ·rw [if_neg c60] at H
                   exact absurd H (by simp)
                 ·rw [if_neg c58] at H
                  exact absurd H (by simp)
                ·rw [if_neg c57] at H
                 exact absurd H (by simp)
               ·rw [if_neg c56] at H
                exact absurd H (by simp)
              ·rw [if_neg c54] at H
               have c54b0 : decide (0 ≤ t350) = false := decide_eq_false c54
               clear c54
               have H' := Aside0.mk H
               clear H
               have hnb72 := NB341_340.out
               have hnc72 := NB340_341.out
               have hnb73 := NB341_342.out
               have hnc73 := NB342_341.out
               have hcz74_0 : wr.cell? ⟨gb341, 0, none⟩ = some (.slice (some ad347) l1_0.length c1_0) := (blk_cell BK341.out 0).trans rfl
               have hcz74_1 : wr.cell? ⟨gb341, 1, none⟩ = some (.slice A1_1 l1_1.length c1_1) := (blk_cell BK341.out 1).trans rfl
               have hcz74_2 : wr.cell? ⟨gb341, 2, none⟩ = some (.int .i64 a1_2) := (blk_cell BK341.out 2).trans rfl
               have hcz74_3 : wr.cell? ⟨gb341, 3, none⟩ = some (.int .i64 a1_3) := (blk_cell BK341.out 3).trans rfl
               have hfz74_0 := blk_frozen BK341.out 0
               have hfz74_1 := blk_frozen BK341.out 1
               have hfz74_2 := blk_frozen BK341.out 2
               have hfz74_3 := blk_frozen BK341.out 3
               have p349 : 0 ≤ (x7_2 : Int) := of_decide_eq_true z5_
               have q349 : x7_2 < (l1_0.length : Int) := of_decide_eq_true z5_
               obtain ⟨ad349, e349, hx349_0⟩ := Kd.at_int HR1_0.out x7_2 p349 q349
               obtain rfl : ad347 = ad349 := (by injection e349)
               replace hx349_0 := (HB.out.cell (World.block_lt_of_cell? w _ hx349_0)).trans hx349_0
               replace p349 := eq_true p349
               replace q349 := eq_true q349
               obtain ⟨Ao75, co75, eo75⟩ := Kd.R_slice HO_6.out
               subst eo75
               go_wp2_with (first | ((with_reducible refine gate_callee (f := 27) rfl ?_); refine goesL_ (some 54) rfl rfl Try.func27 (by kernel_rfl) rfl #[.slice Ao75 x6_3.length co75, .int .i64 (rd l1_0 x7_2)] rfl (by (try simp only [List.map_toArray, List.map_cons, List.map_nil]); first | done | rfl | (simp only [List.length_drop, List.length_take]; rfl) | (go_simp; simp [IntKind.wrap, IntKind.bits, IntKind.signed]; omega)) ?_; (with_reducible refine (tithebarnref16_at.calls k3 _ _ x6_3 (rd l1_0 x7_2) t350 _ ?side1 ?side2 A53.out).mono ?_); (case side1 => repeat (first | exact (Kd.R_reads' HO_6.out).2.2 | (with_reducible refine Kd.C_alloc ?_ _) | (with_reducible refine Kd.C_drewN ?_ _) | (with_reducible refine Kd.C_drew ?_))); (case side2 => exact (Kd.R_reads' HO_6.out).2.1); rintro e w' ⟨rfl, ⟨nd, rfl⟩⟩; refine ⟨_, rfl, ?_⟩))
               go_roundg k3
               case measure => have := HJ2.out; have := HK2.out; have := HK3.out; omega
               case rel => exact ⟨(x6_3), (wrap64 (x7_2 + 1)), (x343001_2), (x343002_2), z4_, H', ⟨by have := HJ2.out; have := HK2.out; have := HK3.out; omega⟩, ⟨by (with_reducible repeat (first | apply Kd.R_alloc | apply Kd.R_drewN | apply Kd.R_drew)); exact HO_6.out⟩, ⟨by (with_reducible repeat (first | refine blk_drewN ?_ _ | refine blk_drew ?_ | refine blk_alloc ?_ _)); exact BK340.out⟩, ⟨by (with_reducible repeat (first | refine blk_drewN ?_ _ | refine blk_drew ?_ | refine blk_alloc ?_ _)); exact BK341.out⟩, ⟨by (with_reducible repeat (first | refine blk_drewN ?_ _ | refine blk_drew ?_ | refine blk_alloc ?_ _)); exact BK342.out⟩, ⟨z1_⟩⟩
             ·rw [if_neg c52] at H
              exact absurd H (by simp)
            ·rw [if_neg c51] at H
             exact absurd H (by simp)
        ·rw [if_neg c38] at H
         exact absurd H (by simp)
       ·rw [if_neg c37] at H
        have c37b0 : decide (x7_2 < (l1_0.length : Int)) = false := decide_eq_false c37
        clear c37
        have H' := Aside0.mk H
        clear H
        have hnb76 := NB341_340.out
        have hnc76 := NB340_341.out
        have hnb77 := NB341_342.out
        have hnc77 := NB342_341.out
        have hcz78_0 : wr.cell? ⟨gb341, 0, none⟩ = some (.slice A1_0 l1_0.length c1_0) := (blk_cell BK341.out 0).trans rfl
        have hcz78_1 : wr.cell? ⟨gb341, 1, none⟩ = some (.slice A1_1 l1_1.length c1_1) := (blk_cell BK341.out 1).trans rfl
        have hcz78_2 : wr.cell? ⟨gb341, 2, none⟩ = some (.int .i64 a1_2) := (blk_cell BK341.out 2).trans rfl
        have hcz78_3 : wr.cell? ⟨gb341, 3, none⟩ = some (.int .i64 a1_3) := (blk_cell BK341.out 3).trans rfl
        have hfz78_0 := blk_frozen BK341.out 0
        have hfz78_1 := blk_frozen BK341.out 1
        have hfz78_2 := blk_frozen BK341.out 2
        have hfz78_3 := blk_frozen BK341.out 3
        go_wp2
        go_loopg [6, 9] k2 (fun kq v6 v9 w' => ∃ (x6_3 : List (S36)) (x9_3 : Int) (x343001_3 : Int) (x343002_3 : Int), v9 = .int .i64 x9_3 ∧ Aside0 (tithebarnref16_Apply.l2 kq x6_3 x9_3 l1_0 l1_1 a1_2 a1_3 = some (r1, r2, r3, r4)) ∧ Aside0 (kq ≤ k2) ∧ Aside0 (Kd.R k36 36 w' w.heap.size (fun _ => True) v6 x6_3) ∧ Aside0 (w'.heap[gb340]? = some (.cells #[(.slice A0_0 l0_0.length c0_0), .int .i64 a0_1, .int .i64 a0_2] 26 (0, 0))) ∧ Aside0 (w'.heap[gb341]? = some (.cells #[(.slice A1_0 l1_0.length c1_0), (.slice A1_1 l1_1.length c1_1), .int .i64 a1_2, .int .i64 a1_3] 32 (0, 0))) ∧ Aside0 (w'.heap[gb342]? = some (.cells #[(.slice none 0 0), .int .i64 x343001_3, .int .i64 x343002_3] 26 (0, 0))) ∧ Aside0 (Below w.heap.size w w'))
        case atStart => exact ⟨(x6_2), (0), (x343001_2), (x343002_2), z4_, H', ⟨Nat.le_refl _⟩, ⟨by (with_reducible repeat (first | apply Kd.R_alloc | apply Kd.R_drewN | apply Kd.R_drew)); exact HO_6.out⟩, ⟨by (with_reducible repeat (first | refine blk_drewN ?_ _ | refine blk_drew ?_ | refine blk_alloc ?_ _)); exact BK340.out⟩, ⟨by (with_reducible repeat (first | refine blk_drewN ?_ _ | refine blk_drew ?_ | refine blk_alloc ?_ _)); exact BK341.out⟩, ⟨by (with_reducible repeat (first | refine blk_drewN ?_ _ | refine blk_drew ?_ | refine blk_alloc ?_ _)); exact BK342.out⟩, ⟨z1_⟩⟩
        case round =>
         clear H'
         try clear c1
         try clear c2
         try clear p2
         try clear c3
         try clear p3
         try clear q3
         try clear hx3
         try clear c4
         try clear c5
         try clear c6
         try clear p6
         try clear q6
         try clear c7
         try clear c8
         try clear c9
         try clear c9b0
         try clear c10
         try clear c11
         try clear c14
         try clear c15
         try clear c17
         try clear c18
         try clear c22
         try clear c23
         try clear c24
         try clear c25
         try clear c27
         try clear c28
         try clear c29
         try clear c30
         try clear c32
         try clear c33
         try clear c34
         try clear p34
         try clear q34
         try clear hx34
         try clear p35
         try clear q35
         try clear hx35
         try clear c37
         try clear c37b0
         try clear c38
         try clear c38b0
         try clear c40
         try clear c40b0
         try clear c41
         try clear c42
         try clear c45
         try clear c47
         try clear c48
         try clear c51
         try clear c51b0
         try clear c52
         try clear c52b0
         try clear c54
         try clear c54b0
         try clear c56
         try clear c56b0
         try clear c56b1
         try clear c57
         try clear c57b0
         try clear c57b1
         try clear c58
         try clear c60
         try clear c60b0
         try clear c60b1
         try clear c61
         try clear c61b0
         try clear c61b1
         try clear c62
         try clear c63
         try clear c64
         try clear p64
         try clear q68
         try clear c69
         try clear q69
         try clear c72
         try clear c73
         try clear c76
         try clear c77
         try clear hcz12_0
         try clear hcz12_1
         try clear hcz12_2
         try clear hcz12_3
         try clear hcz14_0
         try clear hcz14_1
         try clear hcz14_2
         try clear hcz14_3
         try clear hcz16_0
         try clear hcz16_1
         try clear hcz16_2
         try clear hcz19_0
         try clear hcz19_1
         try clear hcz19_2
         try clear hcz19_3
         try clear hcz21_0
         try clear hcz21_1
         try clear hcz21_2
         try clear hcz21_3
         try clear hcz23_0
         try clear hcz23_1
         try clear hcz23_2
         try clear hcz26_0
         try clear hcz26_1
         try clear hcz26_2
         try clear hcz26_3
         try clear hcz31_0
         try clear hcz31_1
         try clear hcz31_2
         try clear hcz35_0
         try clear hcz35_1
         try clear hcz35_2
         try clear hcz43_0
         try clear hcz43_1
         try clear hcz43_2
         try clear hcz43_3
         try clear hcz46_0
         try clear hcz46_1
         try clear hcz46_2
         try clear hcz49_0
         try clear hcz49_1
         try clear hcz49_2
         try clear hcz49_3
         try clear hcz65_0
         try clear hcz65_1
         try clear hcz65_2
         try clear hcz65_3
         try clear hcz74_0
         try clear hcz74_1
         try clear hcz74_2
         try clear hcz74_3
         try clear hcz78_0
         try clear hcz78_1
         try clear hcz78_2
         try clear hcz78_3
         try clear hfz12_0
         try clear hfz12_1
         try clear hfz12_2
         try clear hfz12_3
         try clear hfz14_0
         try clear hfz14_1
         try clear hfz14_2
         try clear hfz14_3
         try clear hfz16_0
         try clear hfz16_1
         try clear hfz16_2
         try clear hfz19_0
         try clear hfz19_1
         try clear hfz19_2
         try clear hfz19_3
         try clear hfz21_0
         try clear hfz21_1
         try clear hfz21_2
         try clear hfz21_3
         try clear hfz23_0
         try clear hfz23_1
         try clear hfz23_2
         try clear hfz26_0
         try clear hfz26_1
         try clear hfz26_2
         try clear hfz26_3
         try clear hfz31_0
         try clear hfz31_1
         try clear hfz31_2
         try clear hfz35_0
         try clear hfz35_1
         try clear hfz35_2
         try clear hfz43_0
         try clear hfz43_1
         try clear hfz43_2
         try clear hfz43_3
         try clear hfz46_0
         try clear hfz46_1
         try clear hfz46_2
         try clear hfz49_0
         try clear hfz49_1
         try clear hfz49_2
         try clear hfz49_3
         try clear hfz65_0
         try clear hfz65_1
         try clear hfz65_2
         try clear hfz65_3
         try clear hfz74_0
         try clear hfz74_1
         try clear hfz74_2
         try clear hfz74_3
         try clear hfz78_0
         try clear hfz78_1
         try clear hfz78_2
         try clear hfz78_3
         try clear hx347_0
         try clear hx349_0
         try clear hx351_0
         try clear p2
         try clear p3
         try clear p34
         try clear p347
         try clear p349
         try clear p351
         try clear q069
         try clear q3
         try clear q34
         try clear q347
         try clear q349
         try clear q351
         try clear q68
         try clear q69
         obtain ⟨x6_3, x9_3, x343001_3, x343002_3, rfl, HA, HK3, HO_6, BK340, BK341, BK342, HB⟩ := hrel
         cases gk with
         | zero => exact absurd HA.out (by simp [tithebarnref16_Apply.l2])
         | succ k3 =>
          have H := HA.out
          clear HA
          simp only [tithebarnref16_Apply.l2] at H
          by_cases c79 : x9_3 < (l1_1.length : Int)
          ·rw [if_pos c79] at H
           have c79b0 : decide (x9_3 < (l1_1.length : Int)) = true := decide_eq_true c79
           clear c79
           by_cases c80 : 0 ≤ x9_3
           ·rw [if_pos c80] at H
            have c80b0 : decide (0 ≤ x9_3) = true := decide_eq_true c80
            clear c80
            by_cases c81 : ((rd_T36 l1_1 x9_3).f0) ≥ a1_3
            ·rw [if_pos c81] at H
             have c81b0 : decide (a1_3 ≤ ((rd_T36 l1_1 x9_3).f0)) = true := decide_eq_true c81
             clear c81
             simp only [Option.some.injEq, Prod.mk.injEq] at H
             obtain ⟨rfl, rfl, rfl, rfl⟩ := H
             have hnb82 := NB341_340.out
             have hnc82 := NB340_341.out
             have hnb83 := NB341_342.out
             have hnc83 := NB342_341.out
             have hcz84_0 : wr.cell? ⟨gb341, 0, none⟩ = some (.slice A1_0 l1_0.length c1_0) := (blk_cell BK341.out 0).trans rfl
             have hcz84_1 : wr.cell? ⟨gb341, 1, none⟩ = some (.slice A1_1 l1_1.length c1_1) := (blk_cell BK341.out 1).trans rfl
             have hcz84_2 : wr.cell? ⟨gb341, 2, none⟩ = some (.int .i64 a1_2) := (blk_cell BK341.out 2).trans rfl
             have hcz84_3 : wr.cell? ⟨gb341, 3, none⟩ = some (.int .i64 a1_3) := (blk_cell BK341.out 3).trans rfl
             have hfz84_0 := blk_frozen BK341.out 0
             have hfz84_1 := blk_frozen BK341.out 1
             have hfz84_2 := blk_frozen BK341.out 2
             have hfz84_3 := blk_frozen BK341.out 3
             try go_wp2
             have n0_ := Aside0.mk (Kd.R_drew HO_6.out)
             have n1_ := Aside0.mk (blk_drew BK340.out)
             have n2_ := Aside0.mk (blk_drew BK341.out)
             have n3_ := Aside0.mk (blk_drew BK342.out)
             have n4_ := Aside0.mk (below_drew1 HB.out)
             clear HO_6
             clear BK340
             clear BK341
             clear BK342
             clear HB
             have HO_6 := n0_
             have BK340 := n1_
             have BK341 := n2_
             have BK342 := n3_
             have HB := n4_
             clear n0_ n1_ n2_ n3_ n4_
             have p367 : 0 ≤ (x9_3 : Int) := of_decide_eq_true z5_
             have q367 : x9_3 < (l1_1.length : Int) := of_decide_eq_true z5_
             obtain ⟨ad367, e367, hx367_0, hx367_1, hx367_2, hx367_3, hx367_4, hx367_5, hx367_6, hx367_7⟩ := at_T36 HR1_1.out x9_3 p367 q367
             have hw367_7 := hx367_7
             have hw367_6 := hx367_6
             have hw367_5 := hx367_5
             have hw367_4 := hx367_4
             have hw367_3 := hx367_3
             have hw367_2 := hx367_2
             have hw367_1 := hx367_1
             have hw367_0 := hx367_0
             cases e367
             replace hx367_0 := (HB.out.cell (World.block_lt_of_cell? w _ hx367_0)).trans hx367_0
             replace hx367_1 := (HB.out.cell (World.block_lt_of_cell? w _ hx367_1)).trans hx367_1
             replace hx367_2 := (HB.out.cell (World.block_lt_of_cell? w _ hx367_2)).trans hx367_2
             replace hx367_3 := (HB.out.cell (World.block_lt_of_cell? w _ hx367_3)).trans hx367_3
             replace hx367_4 := (HB.out.cell (World.block_lt_of_cell? w _ hx367_4)).trans hx367_4
             replace hx367_5 := (HB.out.cell (World.block_lt_of_cell? w _ hx367_5)).trans hx367_5
             replace hx367_6 := (HB.out.cell (World.block_lt_of_cell? w _ hx367_6)).trans hx367_6
             replace hx367_7 := (HB.out.cell (World.block_lt_of_cell? w _ hx367_7)).trans hx367_7
             replace p367 := eq_true p367
             replace q367 := eq_true q367
             refine start_ (n := 20) (S := fun w' => w'.cell? ⟨gb341, 0, none⟩ = some (.slice A1_0 l1_0.length c1_0) ∧ w'.cell? ⟨gb341, 1, none⟩ = some (.slice (some ad367) l1_1.length c1_1) ∧ w'.cell? ⟨gb341, 2, none⟩ = some (.int .i64 a1_2) ∧ w'.cell? ⟨gb341, 3, none⟩ = some (.int .i64 a1_3) ∧ w'.cell? (ad367.add ((x9_3).toNat * 8)) = some (.int .i64 ((rd_T36 l1_1 x9_3).f0)) ∧ w'.cell? ⟨(ad367.add ((x9_3).toNat * 8)).block, (ad367.add ((x9_3).toNat * 8)).off + 1, none⟩ = some (.int .i64 ((rd_T36 l1_1 x9_3).f1)) ∧ w'.cell? ⟨(ad367.add ((x9_3).toNat * 8)).block, (ad367.add ((x9_3).toNat * 8)).off + 2, none⟩ = some (.bool ((rd_T36 l1_1 x9_3).f2.f0)) ∧ w'.cell? ⟨(ad367.add ((x9_3).toNat * 8)).block, (ad367.add ((x9_3).toNat * 8)).off + 3, none⟩ = some (.int .i64 ((rd_T36 l1_1 x9_3).f2.f1)) ∧ w'.cell? ⟨(ad367.add ((x9_3).toNat * 8)).block, (ad367.add ((x9_3).toNat * 8)).off + 4, none⟩ = some (.string ((rd_T36 l1_1 x9_3).f2.f2)) ∧ w'.cell? ⟨(ad367.add ((x9_3).toNat * 8)).block, (ad367.add ((x9_3).toNat * 8)).off + 5, none⟩ = some (.bool ((rd_T36 l1_1 x9_3).f3.f0)) ∧ w'.cell? ⟨(ad367.add ((x9_3).toNat * 8)).block, (ad367.add ((x9_3).toNat * 8)).off + 6, none⟩ = some (.int .i64 ((rd_T36 l1_1 x9_3).f3.f1)) ∧ w'.cell? ⟨(ad367.add ((x9_3).toNat * 8)).block, (ad367.add ((x9_3).toNat * 8)).off + 7, none⟩ = some (.string ((rd_T36 l1_1 x9_3).f3.f2))) (ds := []) (bs_ 20 0) (by kernel_rfl) rfl rfl ⟨(blk_cell BK341.out 0).trans rfl, (blk_cell BK341.out 1).trans rfl, (blk_cell BK341.out 2).trans rfl, (blk_cell BK341.out 3).trans rfl, ((HB.out.cell (World.block_lt_of_cell? w _ hw367_0)).trans hw367_0), ((HB.out.cell (World.block_lt_of_cell? w _ hw367_1)).trans hw367_1), ((HB.out.cell (World.block_lt_of_cell? w _ hw367_2)).trans hw367_2), ((HB.out.cell (World.block_lt_of_cell? w _ hw367_3)).trans hw367_3), ((HB.out.cell (World.block_lt_of_cell? w _ hw367_4)).trans hw367_4), ((HB.out.cell (World.block_lt_of_cell? w _ hw367_5)).trans hw367_5), ((HB.out.cell (World.block_lt_of_cell? w _ hw367_6)).trans hw367_6), ((HB.out.cell (World.block_lt_of_cell? w _ hw367_7)).trans hw367_7)⟩ (fun hHeld => ?_); refine with_tabW tithebarnref16_Apply.tab16 tithebarnref16_Apply.bits16 (fun HT_ HW_ => ?_)
             generalize wr.drew = w85 at HO_6 BK340 BK341 BK342 HB hx367_0 hx367_1 hx367_2 hx367_3 hx367_4 hx367_5 hx367_6 hx367_7 hHeld ⊢
             refine pA_ 0 (some 79) (bs_ 20 1) HT_ ?_ ?_ ?_ ?_ ?_
             rotate_left; (intro w'; go_simp; with_reducible rfl); rotate_left; (simp only [PT_]; rfl)
             refine pA_ 2 (some 81) (bs_ 20 5) HT_ ?_ ?_ ?_ ?_ ?_
             rotate_left; (intro w'; go_simp; with_reducible rfl); rotate_left; (simp only [PT_]; rfl)
             refine pA_ 6 (some 85) (bs_ 20 69) HT_ ?_ ?_ ?_ ?_ ?_
             rotate_left; (intro w'; go_simp; with_reducible rfl); rotate_left; (simp only [PT_]; rfl)
             refine take_ (i := 1) (N := some 80) (v := ?_) (a' := ?_) (bs_ 20 71) rfl rfl (take_ofW HT_.out HW_.out (by kernel_rfl)) (fun _ _ _ h => h) (Or.inl ⟨by rfl, ?_⟩) hHeld ?_ ?_
             rotate_left
             ·rintro w' ⟨s0, s1, s2, s3, s4, s5, s6, s7, s8, s9, s10, s11⟩
              go_simp
              with_reducible rfl
             rotate_left
             ·simp only [PT_]
              rfl
             refine pA_ 3 (some 82) (bs_ 20 79) HT_ ?_ ?_ ?_ ?_ ?_
             rotate_left; (intro w'; go_simp; with_reducible rfl); rotate_left; (simp only [PT_]; rfl)
             refine pA_ 4 (some 83) (bs_ 20 95) HT_ ?_ ?_ ?_ ?_ ?_
             rotate_left; (intro w'; go_simp; with_reducible rfl); rotate_left; (simp only [PT_]; rfl)
             refine take_ (i := 5) (N := some 84) (v := ?_) (a' := ?_) (bs_ 20 127) rfl rfl (take_ofW HT_.out HW_.out (by kernel_rfl)) (fun _ _ _ h => h) (Or.inl ⟨by rfl, ?_⟩) hHeld ?_ ?_
             rotate_left
             ·rintro w' ⟨s0, s1, s2, s3, s4, s5, s6, s7, s8, s9, s10, s11⟩
              go_simp
              with_reducible rfl
             rotate_left
             ·simp only [PT_]
              rfl
             refine take_ (i := 7) (N := some 86) (v := ?_) (a' := ?_) (bs_ 20 255) rfl rfl (take_ofW HT_.out HW_.out (by kernel_rfl)) (fun _ _ _ h => h) (Or.inl ⟨by rfl, ?_⟩) hHeld ?_ ?_
             rotate_left
             ·rintro w' ⟨s0, s1, s2, s3, s4, s5, s6, s7, s8, s9, s10, s11⟩
              go_simp
              with_reducible rfl
             rotate_left
             ·simp only [PT_]
              rfl
             refine pA_ 8 (some 87) (bs_ 20 511) HT_ ?_ ?_ ?_ ?_ ?_
             rotate_left; (intro w'; go_simp; with_reducible rfl); rotate_left; (simp only [PT_]; rfl)
             refine pA_ 9 (some 88) (bs_ 20 1023) HT_ ?_ ?_ ?_ ?_ ?_
             rotate_left; (intro w'; go_simp; with_reducible rfl); rotate_left; (simp only [PT_]; rfl)
             refine pB_ 10 (some 89) (bs_ 20 2047) HT_ ?_ ?_ ?_
             rotate_left
             ·simp only [PT_]
              rfl
             refine pB_ 11 (some 90) (bs_ 20 4095) HT_ ?_ ?_ ?_
             rotate_left
             ·simp only [PT_]
              rfl
             refine pB_ 12 (some 91) (bs_ 20 8191) HT_ ?_ ?_ ?_
             rotate_left
             ·simp only [PT_]
              rfl
             refine pB_ 13 (some 92) (bs_ 20 16383) HT_ ?_ ?_ ?_
             rotate_left
             ·simp only [PT_]
              rfl
             refine pB_ 14 (some 93) (bs_ 20 32767) HT_ ?_ ?_ ?_
             rotate_left
             ·simp only [PT_]
              rfl
             refine pB_ 15 (some 94) (bs_ 20 65535) HT_ ?_ ?_ ?_
             rotate_left
             ·simp only [PT_]
              rfl
             refine pB_ 16 (some 95) (bs_ 20 131071) HT_ ?_ ?_ ?_
             rotate_left
             ·simp only [PT_]
              rfl
             refine pB_ 17 (some 96) (bs_ 20 262143) HT_ ?_ ?_ ?_
             rotate_left
             ·simp only [PT_]
              rfl
             refine pB_ 18 (some 97) (bs_ 20 524287) HT_ ?_ ?_ ?_
             rotate_left
             ·simp only [PT_]
              rfl
             refine pA_ 19 (some 98) (bs_ 20 1048575) HT_ ?_ ?_ ?_ ?_ ?_
             rotate_left; (intro w'; go_simp; with_reducible rfl); rotate_left; (simp only [PT_]; rfl)
             refine done_ (done_of HT_.out (by kernel_rfl)) ?_
             have hnb86 := NB342_340.out
             have hnc86 := NB340_342.out
             have hcz87_0 : w85.cell? ⟨gb342, 0, none⟩ = some (.slice none 0 0) := (blk_cell BK342.out 0).trans rfl
             have hcz87_1 : w85.cell? ⟨gb342, 1, none⟩ = some (.int .i64 x343001_3) := (blk_cell BK342.out 1).trans rfl
             have hcz87_2 : w85.cell? ⟨gb342, 2, none⟩ = some (.int .i64 x343002_3) := (blk_cell BK342.out 2).trans rfl
             have hfz87_0 := blk_frozen BK342.out 0
             have hfz87_1 := blk_frozen BK342.out 1
             have hfz87_2 := blk_frozen BK342.out 2
             try go_wp2
             refine bodyPost_ret (results_ct rfl _ _ gb342 26 #[.slice none 0 0, .int .i64 0, .int .i64 0] (0, 0) _ rfl (by (with_reducible repeat (first | refine blk_drewN ?_ _ | refine blk_drew ?_ | refine blk_alloc ?_ _)); refine blk_put (cs := #[.slice none 0 0, .int .i64 0, .int .i64 x343002_3]) ?_ 2 _ rfl; (with_reducible repeat (first | refine blk_drewN ?_ _ | refine blk_drew ?_ | refine blk_alloc ?_ _)); refine blk_put (cs := #[.slice none 0 0, .int .i64 x343001_3, .int .i64 x343002_3]) ?_ 1 _ rfl; (with_reducible repeat (first | refine blk_drewN ?_ _ | refine blk_drew ?_ | refine blk_alloc ?_ _)); refine blk_put (cs := #[.slice none 0 0, .int .i64 x343001_3, .int .i64 x343002_3]) ?_ 0 _ rfl; (with_reducible repeat (first | refine blk_drewN ?_ _ | refine blk_drew ?_ | refine blk_alloc ?_ _)); exact BK342.out) Try.underlying26 rfl (by kernel_rfl)) rfl ?_
             exact ⟨_, z2_, z22_, z1_⟩
            ·rw [if_neg c81] at H
             have c81b0 : decide (a1_3 ≤ ((rd_T36 l1_1 x9_3).f0)) = false := decide_eq_false c81
             clear c81
             replace H := Option.bind_eq_some_iff.mp H
             obtain ⟨t369, A880, H⟩ := H
             replace H : (if t369 ≥ 0 then (some (([] : List (S36)), 0, 0, 8)) else (if x6_3.length < 2814749766000 then (tithebarnref16_Apply.l2 k3 (x6_3 ++ [(⟨(rd_T36 l1_1 x9_3).f0, (rd_T36 l1_1 x9_3).f1, (⟨(rd_T36 l1_1 x9_3).f2.f0, (rd_T36 l1_1 x9_3).f2.f1, (rd_T36 l1_1 x9_3).f2.f2⟩ : S34), (⟨(rd_T36 l1_1 x9_3).f3.f0, (rd_T36 l1_1 x9_3).f3.f1, (rd_T36 l1_1 x9_3).f3.f2⟩ : S34)⟩ : S36)]) (wrap64 (x9_3 + 1)) l1_0 l1_1 a1_2 a1_3) else (none))) = some (r1, r2, r3, r4) := H
             have A88 := Aside0.mk A880
             clear A880
             by_cases c89 : t369 ≥ 0
             ·rw [if_pos c89] at H
              have c89b0 : decide (0 ≤ t369) = true := decide_eq_true c89
              clear c89
              simp only [Option.some.injEq, Prod.mk.injEq] at H
              obtain ⟨rfl, rfl, rfl, rfl⟩ := H
              have hnb90 := NB341_340.out
              have hnc90 := NB340_341.out
              have hnb91 := NB341_342.out
              have hnc91 := NB342_341.out
              have hcz92_0 : wr.cell? ⟨gb341, 0, none⟩ = some (.slice A1_0 l1_0.length c1_0) := (blk_cell BK341.out 0).trans rfl
              have hcz92_1 : wr.cell? ⟨gb341, 1, none⟩ = some (.slice A1_1 l1_1.length c1_1) := (blk_cell BK341.out 1).trans rfl
              have hcz92_2 : wr.cell? ⟨gb341, 2, none⟩ = some (.int .i64 a1_2) := (blk_cell BK341.out 2).trans rfl
              have hcz92_3 : wr.cell? ⟨gb341, 3, none⟩ = some (.int .i64 a1_3) := (blk_cell BK341.out 3).trans rfl
              have hfz92_0 := blk_frozen BK341.out 0
              have hfz92_1 := blk_frozen BK341.out 1
              have hfz92_2 := blk_frozen BK341.out 2
              have hfz92_3 := blk_frozen BK341.out 3
              try go_wp2
              have n0_ := Aside0.mk (Kd.R_drew HO_6.out)
              have n1_ := Aside0.mk (blk_drew BK340.out)
              have n2_ := Aside0.mk (blk_drew BK341.out)
              have n3_ := Aside0.mk (blk_drew BK342.out)
              have n4_ := Aside0.mk (below_drew1 HB.out)
              clear HO_6
              clear BK340
              clear BK341
              clear BK342
              clear HB
              have HO_6 := n0_
              have BK340 := n1_
              have BK341 := n2_
              have BK342 := n3_
              have HB := n4_
              clear n0_ n1_ n2_ n3_ n4_
              have p367 : 0 ≤ (x9_3 : Int) := of_decide_eq_true z5_
              have q367 : x9_3 < (l1_1.length : Int) := of_decide_eq_true z5_
              obtain ⟨ad367, e367, hx367_0, hx367_1, hx367_2, hx367_3, hx367_4, hx367_5, hx367_6, hx367_7⟩ := at_T36 HR1_1.out x9_3 p367 q367
              have hw367_7 := hx367_7
              have hw367_6 := hx367_6
              have hw367_5 := hx367_5
              have hw367_4 := hx367_4
              have hw367_3 := hx367_3
              have hw367_2 := hx367_2
              have hw367_1 := hx367_1
              have hw367_0 := hx367_0
              cases e367
              replace hx367_0 := (HB.out.cell (World.block_lt_of_cell? w _ hx367_0)).trans hx367_0
              replace hx367_1 := (HB.out.cell (World.block_lt_of_cell? w _ hx367_1)).trans hx367_1
              replace hx367_2 := (HB.out.cell (World.block_lt_of_cell? w _ hx367_2)).trans hx367_2
              replace hx367_3 := (HB.out.cell (World.block_lt_of_cell? w _ hx367_3)).trans hx367_3
              replace hx367_4 := (HB.out.cell (World.block_lt_of_cell? w _ hx367_4)).trans hx367_4
              replace hx367_5 := (HB.out.cell (World.block_lt_of_cell? w _ hx367_5)).trans hx367_5
              replace hx367_6 := (HB.out.cell (World.block_lt_of_cell? w _ hx367_6)).trans hx367_6
              replace hx367_7 := (HB.out.cell (World.block_lt_of_cell? w _ hx367_7)).trans hx367_7
              replace p367 := eq_true p367
              replace q367 := eq_true q367
              have p368 : 0 ≤ (x9_3 : Int) := of_decide_eq_true z5_
              have q368 : x9_3 < (l1_1.length : Int) := of_decide_eq_true z5_
              obtain ⟨ad368, e368, hx368_0, hx368_1, hx368_2, hx368_3, hx368_4, hx368_5, hx368_6, hx368_7⟩ := at_T36 HR1_1.out x9_3 p368 q368
              have hw368_7 := hx368_7
              have hw368_6 := hx368_6
              have hw368_5 := hx368_5
              have hw368_4 := hx368_4
              have hw368_3 := hx368_3
              have hw368_2 := hx368_2
              have hw368_1 := hx368_1
              have hw368_0 := hx368_0
              obtain rfl : ad367 = ad368 := (by injection e368)
              replace hx368_0 := (HB.out.cell (World.block_lt_of_cell? w _ hx368_0)).trans hx368_0
              replace hx368_1 := (HB.out.cell (World.block_lt_of_cell? w _ hx368_1)).trans hx368_1
              replace hx368_2 := (HB.out.cell (World.block_lt_of_cell? w _ hx368_2)).trans hx368_2
              replace hx368_3 := (HB.out.cell (World.block_lt_of_cell? w _ hx368_3)).trans hx368_3
              replace hx368_4 := (HB.out.cell (World.block_lt_of_cell? w _ hx368_4)).trans hx368_4
              replace hx368_5 := (HB.out.cell (World.block_lt_of_cell? w _ hx368_5)).trans hx368_5
              replace hx368_6 := (HB.out.cell (World.block_lt_of_cell? w _ hx368_6)).trans hx368_6
              replace hx368_7 := (HB.out.cell (World.block_lt_of_cell? w _ hx368_7)).trans hx368_7
              replace p368 := eq_true p368
              replace q368 := eq_true q368
              obtain ⟨Ao94, co94, eo94⟩ := Kd.R_slice HO_6.out
              (first | subst eo94 | (injection eo94 with f1_ f2_ f3_; have f4_ := f1_.symm; have f5_ := f3_.symm; clear f1_ f2_ f3_; subst f4_; subst f5_))
              refine start_ (n := 20) (S := fun w' => w'.cell? ⟨gb341, 0, none⟩ = some (.slice A1_0 l1_0.length c1_0) ∧ w'.cell? ⟨gb341, 1, none⟩ = some (.slice (some ad367) l1_1.length c1_1) ∧ w'.cell? ⟨gb341, 2, none⟩ = some (.int .i64 a1_2) ∧ w'.cell? ⟨gb341, 3, none⟩ = some (.int .i64 a1_3) ∧ w'.cell? (ad367.add ((x9_3).toNat * 8)) = some (.int .i64 ((rd_T36 l1_1 x9_3).f0)) ∧ w'.cell? ⟨(ad367.add ((x9_3).toNat * 8)).block, (ad367.add ((x9_3).toNat * 8)).off + 1, none⟩ = some (.int .i64 ((rd_T36 l1_1 x9_3).f1)) ∧ w'.cell? ⟨(ad367.add ((x9_3).toNat * 8)).block, (ad367.add ((x9_3).toNat * 8)).off + 2, none⟩ = some (.bool ((rd_T36 l1_1 x9_3).f2.f0)) ∧ w'.cell? ⟨(ad367.add ((x9_3).toNat * 8)).block, (ad367.add ((x9_3).toNat * 8)).off + 3, none⟩ = some (.int .i64 ((rd_T36 l1_1 x9_3).f2.f1)) ∧ w'.cell? ⟨(ad367.add ((x9_3).toNat * 8)).block, (ad367.add ((x9_3).toNat * 8)).off + 4, none⟩ = some (.string ((rd_T36 l1_1 x9_3).f2.f2)) ∧ w'.cell? ⟨(ad367.add ((x9_3).toNat * 8)).block, (ad367.add ((x9_3).toNat * 8)).off + 5, none⟩ = some (.bool ((rd_T36 l1_1 x9_3).f3.f0)) ∧ w'.cell? ⟨(ad367.add ((x9_3).toNat * 8)).block, (ad367.add ((x9_3).toNat * 8)).off + 6, none⟩ = some (.int .i64 ((rd_T36 l1_1 x9_3).f3.f1)) ∧ w'.cell? ⟨(ad367.add ((x9_3).toNat * 8)).block, (ad367.add ((x9_3).toNat * 8)).off + 7, none⟩ = some (.string ((rd_T36 l1_1 x9_3).f3.f2)) ∧ w'.cell? (ad367.add ((x9_3).toNat * 8)) = some (.int .i64 ((rd_T36 l1_1 x9_3).f0)) ∧ w'.cell? ⟨(ad367.add ((x9_3).toNat * 8)).block, (ad367.add ((x9_3).toNat * 8)).off + 1, none⟩ = some (.int .i64 ((rd_T36 l1_1 x9_3).f1)) ∧ w'.cell? ⟨(ad367.add ((x9_3).toNat * 8)).block, (ad367.add ((x9_3).toNat * 8)).off + 2, none⟩ = some (.bool ((rd_T36 l1_1 x9_3).f2.f0)) ∧ w'.cell? ⟨(ad367.add ((x9_3).toNat * 8)).block, (ad367.add ((x9_3).toNat * 8)).off + 3, none⟩ = some (.int .i64 ((rd_T36 l1_1 x9_3).f2.f1)) ∧ w'.cell? ⟨(ad367.add ((x9_3).toNat * 8)).block, (ad367.add ((x9_3).toNat * 8)).off + 4, none⟩ = some (.string ((rd_T36 l1_1 x9_3).f2.f2)) ∧ w'.cell? ⟨(ad367.add ((x9_3).toNat * 8)).block, (ad367.add ((x9_3).toNat * 8)).off + 5, none⟩ = some (.bool ((rd_T36 l1_1 x9_3).f3.f0)) ∧ w'.cell? ⟨(ad367.add ((x9_3).toNat * 8)).block, (ad367.add ((x9_3).toNat * 8)).off + 6, none⟩ = some (.int .i64 ((rd_T36 l1_1 x9_3).f3.f1)) ∧ w'.cell? ⟨(ad367.add ((x9_3).toNat * 8)).block, (ad367.add ((x9_3).toNat * 8)).off + 7, none⟩ = some (.string ((rd_T36 l1_1 x9_3).f3.f2))) (ds := []) (bs_ 20 0) (by kernel_rfl) rfl rfl ⟨(blk_cell BK341.out 0).trans rfl, (blk_cell BK341.out 1).trans rfl, (blk_cell BK341.out 2).trans rfl, (blk_cell BK341.out 3).trans rfl, ((HB.out.cell (World.block_lt_of_cell? w _ hw367_0)).trans hw367_0), ((HB.out.cell (World.block_lt_of_cell? w _ hw367_1)).trans hw367_1), ((HB.out.cell (World.block_lt_of_cell? w _ hw367_2)).trans hw367_2), ((HB.out.cell (World.block_lt_of_cell? w _ hw367_3)).trans hw367_3), ((HB.out.cell (World.block_lt_of_cell? w _ hw367_4)).trans hw367_4), ((HB.out.cell (World.block_lt_of_cell? w _ hw367_5)).trans hw367_5), ((HB.out.cell (World.block_lt_of_cell? w _ hw367_6)).trans hw367_6), ((HB.out.cell (World.block_lt_of_cell? w _ hw367_7)).trans hw367_7), ((HB.out.cell (World.block_lt_of_cell? w _ hw368_0)).trans hw368_0), ((HB.out.cell (World.block_lt_of_cell? w _ hw368_1)).trans hw368_1), ((HB.out.cell (World.block_lt_of_cell? w _ hw368_2)).trans hw368_2), ((HB.out.cell (World.block_lt_of_cell? w _ hw368_3)).trans hw368_3), ((HB.out.cell (World.block_lt_of_cell? w _ hw368_4)).trans hw368_4), ((HB.out.cell (World.block_lt_of_cell? w _ hw368_5)).trans hw368_5), ((HB.out.cell (World.block_lt_of_cell? w _ hw368_6)).trans hw368_6), ((HB.out.cell (World.block_lt_of_cell? w _ hw368_7)).trans hw368_7)⟩ (fun hHeld => ?_); refine with_tabW tithebarnref16_Apply.tab16 tithebarnref16_Apply.bits16 (fun HT_ HW_ => ?_)
              generalize wr.drew = w93 at HO_6 BK340 BK341 BK342 HB hx367_0 hx367_1 hx367_2 hx367_3 hx367_4 hx367_5 hx367_6 hx367_7 hx368_0 hx368_1 hx368_2 hx368_3 hx368_4 hx368_5 hx368_6 hx368_7 hHeld ⊢
              refine pA_ 0 (some 79) (bs_ 20 1) HT_ ?_ ?_ ?_ ?_ ?_
              rotate_left; (intro w'; go_simp; with_reducible rfl); rotate_left; (simp only [PT_]; rfl)
              refine pA_ 2 (some 81) (bs_ 20 5) HT_ ?_ ?_ ?_ ?_ ?_
              rotate_left; (intro w'; go_simp; with_reducible rfl); rotate_left; (simp only [PT_]; rfl)
              refine pA_ 6 (some 85) (bs_ 20 69) HT_ ?_ ?_ ?_ ?_ ?_
              rotate_left; (intro w'; go_simp; with_reducible rfl); rotate_left; (simp only [PT_]; rfl)
              refine take_ (i := 1) (N := some 80) (v := ?_) (a' := ?_) (bs_ 20 71) rfl rfl (take_ofW HT_.out HW_.out (by kernel_rfl)) (fun _ _ _ h => h) (Or.inl ⟨by rfl, ?_⟩) hHeld ?_ ?_
              rotate_left
              ·rintro w' ⟨s0, s1, s2, s3, s4, s5, s6, s7, s8, s9, s10, s11, s12, s13, s14, s15, s16, s17, s18, s19⟩
               go_simp
               with_reducible rfl
              rotate_left
              ·simp only [PT_]
               rfl
              refine pA_ 3 (some 82) (bs_ 20 79) HT_ ?_ ?_ ?_ ?_ ?_
              rotate_left; (intro w'; go_simp; with_reducible rfl); rotate_left; (simp only [PT_]; rfl)
              refine pA_ 4 (some 83) (bs_ 20 95) HT_ ?_ ?_ ?_ ?_ ?_
              rotate_left; (intro w'; go_simp; with_reducible rfl); rotate_left; (simp only [PT_]; rfl)
              refine take_ (i := 5) (N := some 84) (v := ?_) (a' := ?_) (bs_ 20 127) rfl rfl (take_ofW HT_.out HW_.out (by kernel_rfl)) (fun _ _ _ h => h) (Or.inl ⟨by rfl, ?_⟩) hHeld ?_ ?_
              rotate_left
              ·rintro w' ⟨s0, s1, s2, s3, s4, s5, s6, s7, s8, s9, s10, s11, s12, s13, s14, s15, s16, s17, s18, s19⟩
               go_simp
               with_reducible rfl
              rotate_left
              ·simp only [PT_]
               rfl
              refine take_ (i := 7) (N := some 86) (v := ?_) (a' := ?_) (bs_ 20 255) rfl rfl (take_ofW HT_.out HW_.out (by kernel_rfl)) (fun _ _ _ h => h) (Or.inl ⟨by rfl, ?_⟩) hHeld ?_ ?_
              rotate_left
              ·rintro w' ⟨s0, s1, s2, s3, s4, s5, s6, s7, s8, s9, s10, s11, s12, s13, s14, s15, s16, s17, s18, s19⟩
               go_simp
               with_reducible rfl
              rotate_left
              ·simp only [PT_]
               rfl
              refine pA_ 8 (some 87) (bs_ 20 511) HT_ ?_ ?_ ?_ ?_ ?_
              rotate_left; (intro w'; go_simp; with_reducible rfl); rotate_left; (simp only [PT_]; rfl)
              refine pA_ 9 (some 88) (bs_ 20 1023) HT_ ?_ ?_ ?_ ?_ ?_
              rotate_left; (intro w'; go_simp; with_reducible rfl); rotate_left; (simp only [PT_]; rfl)
              refine pA_ 10 (some 89) (bs_ 20 2047) HT_ ?_ ?_ ?_ ?_ ?_
              rotate_left; (intro w'; go_simp; with_reducible rfl); rotate_left; (simp only [PT_]; rfl)
              refine pA_ 11 (some 90) (bs_ 20 4095) HT_ ?_ ?_ ?_ ?_ ?_
              rotate_left; (intro w'; go_simp; with_reducible rfl); rotate_left; (simp only [PT_]; rfl)
              refine pA_ 13 (some 92) (bs_ 20 12287) HT_ ?_ ?_ ?_ ?_ ?_
              rotate_left; (intro w'; go_simp; with_reducible rfl); rotate_left; (simp only [PT_]; rfl)
              refine take_ (i := 12) (N := some 91) (v := ?_) (a' := ?_) (bs_ 20 16383) rfl rfl (take_ofW HT_.out HW_.out (by kernel_rfl)) (fun _ _ _ h => h) (Or.inl ⟨by rfl, ?_⟩) hHeld ?_ ?_
              rotate_left
              ·rintro w' ⟨s0, s1, s2, s3, s4, s5, s6, s7, s8, s9, s10, s11, s12, s13, s14, s15, s16, s17, s18, s19⟩
               go_simp
               with_reducible rfl
              rotate_left
              ·simp only [PT_]
               rfl
              refine pA_ 14 (some 93) (bs_ 20 32767) HT_ ?_ ?_ ?_ ?_ ?_
              rotate_left; (intro w'; go_simp; with_reducible rfl); rotate_left; (simp only [PT_]; rfl)
              refine pA_ 15 (some 94) (bs_ 20 65535) HT_ ?_ ?_ ?_ ?_ ?_
              rotate_left; (intro w'; go_simp; with_reducible rfl); rotate_left; (simp only [PT_]; rfl)
              refine take_ (i := 16) (N := some 95) (v := ?_) (a' := ?_) (bs_ 20 131071) rfl rfl (take_ofW HT_.out HW_.out (by kernel_rfl)) (fun _ _ _ h => h) (Or.inl ⟨by rfl, ?_⟩) hHeld ?_ ?_
              rotate_left
              ·rintro w' ⟨s0, s1, s2, s3, s4, s5, s6, s7, s8, s9, s10, s11, s12, s13, s14, s15, s16, s17, s18, s19⟩
               go_simp
               with_reducible rfl
              rotate_left
              ·simp only [PT_]
               rfl
              refine oA_ 17 (some 96) (bs_ 20 262143) HT_ (fun K hK => ?_)
              refine goes_ Try.func27 (by kernel_rfl) rfl #[.slice Ao94 x6_3.length co94, .int .i64 ((rd_T36 l1_1 x9_3).f0)] (by rfl) rfl rfl (by (try simp only [List.map_toArray, List.map_cons, List.map_nil]); first | done | rfl | (simp only [List.length_drop, List.length_take]; rfl)) ?_
              with_reducible refine (tithebarnref16_at.calls k3 _ _ x6_3 ((rd_T36 l1_1 x9_3).f0) t369 _ ?side1 ?side2 A88.out).mono ?_
              (case side1 => repeat (first | exact (Kd.R_reads' HO_6.out).2.2 | (with_reducible refine Kd.C_alloc ?_ _) | (with_reducible refine Kd.C_drewN ?_ _) | (with_reducible refine Kd.C_drew ?_)))
              (case side2 => exact (Kd.R_reads' HO_6.out).2.1)
              rintro e w' ⟨rfl, ⟨nd, rfl⟩⟩
              refine ⟨_, rfl, ?_⟩
              refine hK.out _ _ ⟨(blk_cell BK341.out 0).trans rfl, (blk_cell BK341.out 1).trans rfl, (blk_cell BK341.out 2).trans rfl, (blk_cell BK341.out 3).trans rfl, ((HB.out.cell (World.block_lt_of_cell? w _ hw367_0)).trans hw367_0), ((HB.out.cell (World.block_lt_of_cell? w _ hw367_1)).trans hw367_1), ((HB.out.cell (World.block_lt_of_cell? w _ hw367_2)).trans hw367_2), ((HB.out.cell (World.block_lt_of_cell? w _ hw367_3)).trans hw367_3), ((HB.out.cell (World.block_lt_of_cell? w _ hw367_4)).trans hw367_4), ((HB.out.cell (World.block_lt_of_cell? w _ hw367_5)).trans hw367_5), ((HB.out.cell (World.block_lt_of_cell? w _ hw367_6)).trans hw367_6), ((HB.out.cell (World.block_lt_of_cell? w _ hw367_7)).trans hw367_7), ((HB.out.cell (World.block_lt_of_cell? w _ hw368_0)).trans hw368_0), ((HB.out.cell (World.block_lt_of_cell? w _ hw368_1)).trans hw368_1), ((HB.out.cell (World.block_lt_of_cell? w _ hw368_2)).trans hw368_2), ((HB.out.cell (World.block_lt_of_cell? w _ hw368_3)).trans hw368_3), ((HB.out.cell (World.block_lt_of_cell? w _ hw368_4)).trans hw368_4), ((HB.out.cell (World.block_lt_of_cell? w _ hw368_5)).trans hw368_5), ((HB.out.cell (World.block_lt_of_cell? w _ hw368_6)).trans hw368_6), ((HB.out.cell (World.block_lt_of_cell? w _ hw368_7)).trans hw368_7)⟩ (fun hHeld => ?_)
              clear hK K
              refine norm_ (a' := ?_) ?_ ?_; rotate_left; (show Act.put _ (some 96) _ = _; simp only [PT_]; rfl)
              refine pA_ 18 (some 97) (bs_ 20 524287) HT_ ?_ ?_ ?_ ?_ ?_
              rotate_left; (intro w'; go_simp; with_reducible rfl); rotate_left; (simp only [PT_]; rfl)
              refine pA_ 19 (some 98) (bs_ 20 1048575) HT_ ?_ ?_ ?_ ?_ ?_
              rotate_left; (intro w'; go_simp; with_reducible rfl); rotate_left; (simp only [PT_]; rfl)
              refine done_ (done_of HT_.out (by kernel_rfl)) ?_
              have hnb95 := NB342_340.out
              have hnc95 := NB340_342.out
              have hcz96_0 : w93.cell? ⟨gb342, 0, none⟩ = some (.slice none 0 0) := (blk_cell BK342.out 0).trans rfl
              have hcz96_1 : w93.cell? ⟨gb342, 1, none⟩ = some (.int .i64 x343001_3) := (blk_cell BK342.out 1).trans rfl
              have hcz96_2 : w93.cell? ⟨gb342, 2, none⟩ = some (.int .i64 x343002_3) := (blk_cell BK342.out 2).trans rfl
              have hfz96_0 := blk_frozen BK342.out 0
              have hfz96_1 := blk_frozen BK342.out 1
              have hfz96_2 := blk_frozen BK342.out 2
              try go_wp2
              refine bodyPost_ret (results_ct rfl _ _ gb342 26 #[.slice none 0 0, .int .i64 0, .int .i64 0] (0, 0) _ rfl (by (with_reducible repeat (first | refine blk_drewN ?_ _ | refine blk_drew ?_ | refine blk_alloc ?_ _)); refine blk_put (cs := #[.slice none 0 0, .int .i64 0, .int .i64 x343002_3]) ?_ 2 _ rfl; (with_reducible repeat (first | refine blk_drewN ?_ _ | refine blk_drew ?_ | refine blk_alloc ?_ _)); refine blk_put (cs := #[.slice none 0 0, .int .i64 x343001_3, .int .i64 x343002_3]) ?_ 1 _ rfl; (with_reducible repeat (first | refine blk_drewN ?_ _ | refine blk_drew ?_ | refine blk_alloc ?_ _)); refine blk_put (cs := #[.slice none 0 0, .int .i64 x343001_3, .int .i64 x343002_3]) ?_ 0 _ rfl; (with_reducible repeat (first | refine blk_drewN ?_ _ | refine blk_drew ?_ | refine blk_alloc ?_ _)); exact BK342.out) Try.underlying26 rfl (by kernel_rfl)) rfl ?_
              exact ⟨_, z2_, z22_, z1_⟩
             ·rw [if_neg c89] at H
              have c89b0 : decide (0 ≤ t369) = false := decide_eq_false c89
              clear c89
              by_cases c97 : x6_3.length < 2814749766000
              ·rw [if_pos c97] at H
               have LMc97 := Aside0.mk c97
               clear c97
               obtain ⟨y371, hy371⟩ : ∃ y_ : List (S36), y_ = (x6_3 ++ [(⟨(rd_T36 l1_1 x9_3).f0, (rd_T36 l1_1 x9_3).f1, (⟨(rd_T36 l1_1 x9_3).f2.f0, (rd_T36 l1_1 x9_3).f2.f1, (rd_T36 l1_1 x9_3).f2.f2⟩ : S34), (⟨(rd_T36 l1_1 x9_3).f3.f0, (rd_T36 l1_1 x9_3).f3.f1, (rd_T36 l1_1 x9_3).f3.f2⟩ : S34)⟩ : S36)]) := ⟨_, rfl⟩
               replace H : (tithebarnref16_Apply.l2 k3 y371 (wrap64 (x9_3 + 1)) l1_0 l1_1 a1_2 a1_3) = some (r1, r2, r3, r4) := by first | (rw [hy371]; with_reducible exact H) | (have H2_ := (Option.bind_some _ _).symm.trans H; rw [hy371]; with_reducible exact H2_) | (have H2_ := (Option.bind_some _ _).symm.trans H; with_reducible exact H2_) | with_reducible exact H | (rw [hy371]; exact H) | exact H
               have Ny371 := Aside0.mk hy371
               clear hy371
               have H' := Aside0.mk H
               clear H
               have hnb98 := NB341_340.out
               have hnc98 := NB340_341.out
               have hnb99 := NB341_342.out
               have hnc99 := NB342_341.out
               have hcz100_0 : wr.cell? ⟨gb341, 0, none⟩ = some (.slice A1_0 l1_0.length c1_0) := (blk_cell BK341.out 0).trans rfl
               have hcz100_1 : wr.cell? ⟨gb341, 1, none⟩ = some (.slice A1_1 l1_1.length c1_1) := (blk_cell BK341.out 1).trans rfl
               have hcz100_2 : wr.cell? ⟨gb341, 2, none⟩ = some (.int .i64 a1_2) := (blk_cell BK341.out 2).trans rfl
               have hcz100_3 : wr.cell? ⟨gb341, 3, none⟩ = some (.int .i64 a1_3) := (blk_cell BK341.out 3).trans rfl
               have hfz100_0 := blk_frozen BK341.out 0
               have hfz100_1 := blk_frozen BK341.out 1
               have hfz100_2 := blk_frozen BK341.out 2
               have hfz100_3 := blk_frozen BK341.out 3
               try go_wp2
               have n0_ := Aside0.mk (Kd.R_drew HO_6.out)
               have n1_ := Aside0.mk (blk_drew BK340.out)
               have n2_ := Aside0.mk (blk_drew BK341.out)
               have n3_ := Aside0.mk (blk_drew BK342.out)
               have n4_ := Aside0.mk (below_drew1 HB.out)
               clear HO_6
               clear BK340
               clear BK341
               clear BK342
               clear HB
               have HO_6 := n0_
               have BK340 := n1_
               have BK341 := n2_
               have BK342 := n3_
               have HB := n4_
               clear n0_ n1_ n2_ n3_ n4_
               have p367 : 0 ≤ (x9_3 : Int) := of_decide_eq_true z5_
               have q367 : x9_3 < (l1_1.length : Int) := of_decide_eq_true z5_
               obtain ⟨ad367, e367, hx367_0, hx367_1, hx367_2, hx367_3, hx367_4, hx367_5, hx367_6, hx367_7⟩ := at_T36 HR1_1.out x9_3 p367 q367
               have hw367_7 := hx367_7
               have hw367_6 := hx367_6
               have hw367_5 := hx367_5
               have hw367_4 := hx367_4
               have hw367_3 := hx367_3
               have hw367_2 := hx367_2
               have hw367_1 := hx367_1
               have hw367_0 := hx367_0
               cases e367
               replace hx367_0 := (HB.out.cell (World.block_lt_of_cell? w _ hx367_0)).trans hx367_0
               replace hx367_1 := (HB.out.cell (World.block_lt_of_cell? w _ hx367_1)).trans hx367_1
               replace hx367_2 := (HB.out.cell (World.block_lt_of_cell? w _ hx367_2)).trans hx367_2
               replace hx367_3 := (HB.out.cell (World.block_lt_of_cell? w _ hx367_3)).trans hx367_3
               replace hx367_4 := (HB.out.cell (World.block_lt_of_cell? w _ hx367_4)).trans hx367_4
               replace hx367_5 := (HB.out.cell (World.block_lt_of_cell? w _ hx367_5)).trans hx367_5
               replace hx367_6 := (HB.out.cell (World.block_lt_of_cell? w _ hx367_6)).trans hx367_6
               replace hx367_7 := (HB.out.cell (World.block_lt_of_cell? w _ hx367_7)).trans hx367_7
               replace p367 := eq_true p367
               replace q367 := eq_true q367
               have p368 : 0 ≤ (x9_3 : Int) := of_decide_eq_true z5_
               have q368 : x9_3 < (l1_1.length : Int) := of_decide_eq_true z5_
               obtain ⟨ad368, e368, hx368_0, hx368_1, hx368_2, hx368_3, hx368_4, hx368_5, hx368_6, hx368_7⟩ := at_T36 HR1_1.out x9_3 p368 q368
               have hw368_7 := hx368_7
               have hw368_6 := hx368_6
               have hw368_5 := hx368_5
               have hw368_4 := hx368_4
               have hw368_3 := hx368_3
               have hw368_2 := hx368_2
               have hw368_1 := hx368_1
               have hw368_0 := hx368_0
               obtain rfl : ad367 = ad368 := (by injection e368)
               replace hx368_0 := (HB.out.cell (World.block_lt_of_cell? w _ hx368_0)).trans hx368_0
               replace hx368_1 := (HB.out.cell (World.block_lt_of_cell? w _ hx368_1)).trans hx368_1
               replace hx368_2 := (HB.out.cell (World.block_lt_of_cell? w _ hx368_2)).trans hx368_2
               replace hx368_3 := (HB.out.cell (World.block_lt_of_cell? w _ hx368_3)).trans hx368_3
               replace hx368_4 := (HB.out.cell (World.block_lt_of_cell? w _ hx368_4)).trans hx368_4
               replace hx368_5 := (HB.out.cell (World.block_lt_of_cell? w _ hx368_5)).trans hx368_5
               replace hx368_6 := (HB.out.cell (World.block_lt_of_cell? w _ hx368_6)).trans hx368_6
               replace hx368_7 := (HB.out.cell (World.block_lt_of_cell? w _ hx368_7)).trans hx368_7
               replace p368 := eq_true p368
               replace q368 := eq_true q368
               obtain ⟨Ao102, co102, eo102⟩ := Kd.R_slice HO_6.out
               (first | subst eo102 | (injection eo102 with f1_ f2_ f3_; have f4_ := f1_.symm; have f5_ := f3_.symm; clear f1_ f2_ f3_; subst f4_; subst f5_))
               refine start_ (n := 20) (S := fun w' => w'.cell? ⟨gb341, 0, none⟩ = some (.slice A1_0 l1_0.length c1_0) ∧ w'.cell? ⟨gb341, 1, none⟩ = some (.slice (some ad367) l1_1.length c1_1) ∧ w'.cell? ⟨gb341, 2, none⟩ = some (.int .i64 a1_2) ∧ w'.cell? ⟨gb341, 3, none⟩ = some (.int .i64 a1_3) ∧ w'.cell? (ad367.add ((x9_3).toNat * 8)) = some (.int .i64 ((rd_T36 l1_1 x9_3).f0)) ∧ w'.cell? ⟨(ad367.add ((x9_3).toNat * 8)).block, (ad367.add ((x9_3).toNat * 8)).off + 1, none⟩ = some (.int .i64 ((rd_T36 l1_1 x9_3).f1)) ∧ w'.cell? ⟨(ad367.add ((x9_3).toNat * 8)).block, (ad367.add ((x9_3).toNat * 8)).off + 2, none⟩ = some (.bool ((rd_T36 l1_1 x9_3).f2.f0)) ∧ w'.cell? ⟨(ad367.add ((x9_3).toNat * 8)).block, (ad367.add ((x9_3).toNat * 8)).off + 3, none⟩ = some (.int .i64 ((rd_T36 l1_1 x9_3).f2.f1)) ∧ w'.cell? ⟨(ad367.add ((x9_3).toNat * 8)).block, (ad367.add ((x9_3).toNat * 8)).off + 4, none⟩ = some (.string ((rd_T36 l1_1 x9_3).f2.f2)) ∧ w'.cell? ⟨(ad367.add ((x9_3).toNat * 8)).block, (ad367.add ((x9_3).toNat * 8)).off + 5, none⟩ = some (.bool ((rd_T36 l1_1 x9_3).f3.f0)) ∧ w'.cell? ⟨(ad367.add ((x9_3).toNat * 8)).block, (ad367.add ((x9_3).toNat * 8)).off + 6, none⟩ = some (.int .i64 ((rd_T36 l1_1 x9_3).f3.f1)) ∧ w'.cell? ⟨(ad367.add ((x9_3).toNat * 8)).block, (ad367.add ((x9_3).toNat * 8)).off + 7, none⟩ = some (.string ((rd_T36 l1_1 x9_3).f3.f2)) ∧ w'.cell? (ad367.add ((x9_3).toNat * 8)) = some (.int .i64 ((rd_T36 l1_1 x9_3).f0)) ∧ w'.cell? ⟨(ad367.add ((x9_3).toNat * 8)).block, (ad367.add ((x9_3).toNat * 8)).off + 1, none⟩ = some (.int .i64 ((rd_T36 l1_1 x9_3).f1)) ∧ w'.cell? ⟨(ad367.add ((x9_3).toNat * 8)).block, (ad367.add ((x9_3).toNat * 8)).off + 2, none⟩ = some (.bool ((rd_T36 l1_1 x9_3).f2.f0)) ∧ w'.cell? ⟨(ad367.add ((x9_3).toNat * 8)).block, (ad367.add ((x9_3).toNat * 8)).off + 3, none⟩ = some (.int .i64 ((rd_T36 l1_1 x9_3).f2.f1)) ∧ w'.cell? ⟨(ad367.add ((x9_3).toNat * 8)).block, (ad367.add ((x9_3).toNat * 8)).off + 4, none⟩ = some (.string ((rd_T36 l1_1 x9_3).f2.f2)) ∧ w'.cell? ⟨(ad367.add ((x9_3).toNat * 8)).block, (ad367.add ((x9_3).toNat * 8)).off + 5, none⟩ = some (.bool ((rd_T36 l1_1 x9_3).f3.f0)) ∧ w'.cell? ⟨(ad367.add ((x9_3).toNat * 8)).block, (ad367.add ((x9_3).toNat * 8)).off + 6, none⟩ = some (.int .i64 ((rd_T36 l1_1 x9_3).f3.f1)) ∧ w'.cell? ⟨(ad367.add ((x9_3).toNat * 8)).block, (ad367.add ((x9_3).toNat * 8)).off + 7, none⟩ = some (.string ((rd_T36 l1_1 x9_3).f3.f2))) (ds := []) (bs_ 20 0) (by kernel_rfl) rfl rfl ⟨(blk_cell BK341.out 0).trans rfl, (blk_cell BK341.out 1).trans rfl, (blk_cell BK341.out 2).trans rfl, (blk_cell BK341.out 3).trans rfl, ((HB.out.cell (World.block_lt_of_cell? w _ hw367_0)).trans hw367_0), ((HB.out.cell (World.block_lt_of_cell? w _ hw367_1)).trans hw367_1), ((HB.out.cell (World.block_lt_of_cell? w _ hw367_2)).trans hw367_2), ((HB.out.cell (World.block_lt_of_cell? w _ hw367_3)).trans hw367_3), ((HB.out.cell (World.block_lt_of_cell? w _ hw367_4)).trans hw367_4), ((HB.out.cell (World.block_lt_of_cell? w _ hw367_5)).trans hw367_5), ((HB.out.cell (World.block_lt_of_cell? w _ hw367_6)).trans hw367_6), ((HB.out.cell (World.block_lt_of_cell? w _ hw367_7)).trans hw367_7), ((HB.out.cell (World.block_lt_of_cell? w _ hw368_0)).trans hw368_0), ((HB.out.cell (World.block_lt_of_cell? w _ hw368_1)).trans hw368_1), ((HB.out.cell (World.block_lt_of_cell? w _ hw368_2)).trans hw368_2), ((HB.out.cell (World.block_lt_of_cell? w _ hw368_3)).trans hw368_3), ((HB.out.cell (World.block_lt_of_cell? w _ hw368_4)).trans hw368_4), ((HB.out.cell (World.block_lt_of_cell? w _ hw368_5)).trans hw368_5), ((HB.out.cell (World.block_lt_of_cell? w _ hw368_6)).trans hw368_6), ((HB.out.cell (World.block_lt_of_cell? w _ hw368_7)).trans hw368_7)⟩ (fun hHeld => ?_); refine with_tabW tithebarnref16_Apply.tab16 tithebarnref16_Apply.bits16 (fun HT_ HW_ => ?_)
               generalize wr.drew = w101 at HO_6 BK340 BK341 BK342 HB hx367_0 hx367_1 hx367_2 hx367_3 hx367_4 hx367_5 hx367_6 hx367_7 hx368_0 hx368_1 hx368_2 hx368_3 hx368_4 hx368_5 hx368_6 hx368_7 hHeld ⊢
               refine pA_ 0 (some 79) (bs_ 20 1) HT_ ?_ ?_ ?_ ?_ ?_
               rotate_left; (intro w'; go_simp; with_reducible rfl); rotate_left; (simp only [PT_]; rfl)
               refine pA_ 2 (some 81) (bs_ 20 5) HT_ ?_ ?_ ?_ ?_ ?_
               rotate_left; (intro w'; go_simp; with_reducible rfl); rotate_left; (simp only [PT_]; rfl)
               refine pA_ 6 (some 85) (bs_ 20 69) HT_ ?_ ?_ ?_ ?_ ?_
               rotate_left; (intro w'; go_simp; with_reducible rfl); rotate_left; (simp only [PT_]; rfl)
               refine take_ (i := 1) (N := some 80) (v := ?_) (a' := ?_) (bs_ 20 71) rfl rfl (take_ofW HT_.out HW_.out (by kernel_rfl)) (fun _ _ _ h => h) (Or.inl ⟨by rfl, ?_⟩) hHeld ?_ ?_
               rotate_left
               ·rintro w' ⟨s0, s1, s2, s3, s4, s5, s6, s7, s8, s9, s10, s11, s12, s13, s14, s15, s16, s17, s18, s19⟩
                go_simp
                with_reducible rfl
               rotate_left
               ·simp only [PT_]
                rfl
               refine pA_ 3 (some 82) (bs_ 20 79) HT_ ?_ ?_ ?_ ?_ ?_
               rotate_left; (intro w'; go_simp; with_reducible rfl); rotate_left; (simp only [PT_]; rfl)
               refine pA_ 4 (some 83) (bs_ 20 95) HT_ ?_ ?_ ?_ ?_ ?_
               rotate_left; (intro w'; go_simp; with_reducible rfl); rotate_left; (simp only [PT_]; rfl)
               refine take_ (i := 5) (N := some 84) (v := ?_) (a' := ?_) (bs_ 20 127) rfl rfl (take_ofW HT_.out HW_.out (by kernel_rfl)) (fun _ _ _ h => h) (Or.inl ⟨by rfl, ?_⟩) hHeld ?_ ?_
               rotate_left
               ·rintro w' ⟨s0, s1, s2, s3, s4, s5, s6, s7, s8, s9, s10, s11, s12, s13, s14, s15, s16, s17, s18, s19⟩
                go_simp
                with_reducible rfl
               rotate_left
               ·simp only [PT_]
                rfl
               refine take_ (i := 7) (N := some 86) (v := ?_) (a' := ?_) (bs_ 20 255) rfl rfl (take_ofW HT_.out HW_.out (by kernel_rfl)) (fun _ _ _ h => h) (Or.inl ⟨by rfl, ?_⟩) hHeld ?_ ?_
               rotate_left
               ·rintro w' ⟨s0, s1, s2, s3, s4, s5, s6, s7, s8, s9, s10, s11, s12, s13, s14, s15, s16, s17, s18, s19⟩
                go_simp
                with_reducible rfl
               rotate_left
               ·simp only [PT_]
                rfl
               refine pA_ 8 (some 87) (bs_ 20 511) HT_ ?_ ?_ ?_ ?_ ?_
               rotate_left; (intro w'; go_simp; with_reducible rfl); rotate_left; (simp only [PT_]; rfl)
               refine pA_ 9 (some 88) (bs_ 20 1023) HT_ ?_ ?_ ?_ ?_ ?_
               rotate_left; (intro w'; go_simp; with_reducible rfl); rotate_left; (simp only [PT_]; rfl)
               refine pA_ 10 (some 89) (bs_ 20 2047) HT_ ?_ ?_ ?_ ?_ ?_
               rotate_left; (intro w'; go_simp; with_reducible rfl); rotate_left; (simp only [PT_]; rfl)
               refine pA_ 11 (some 90) (bs_ 20 4095) HT_ ?_ ?_ ?_ ?_ ?_
               rotate_left; (intro w'; go_simp; with_reducible rfl); rotate_left; (simp only [PT_]; rfl)
               refine pA_ 13 (some 92) (bs_ 20 12287) HT_ ?_ ?_ ?_ ?_ ?_
               rotate_left; (intro w'; go_simp; with_reducible rfl); rotate_left; (simp only [PT_]; rfl)
               refine take_ (i := 12) (N := some 91) (v := ?_) (a' := ?_) (bs_ 20 16383) rfl rfl (take_ofW HT_.out HW_.out (by kernel_rfl)) (fun _ _ _ h => h) (Or.inl ⟨by rfl, ?_⟩) hHeld ?_ ?_
               rotate_left
               ·rintro w' ⟨s0, s1, s2, s3, s4, s5, s6, s7, s8, s9, s10, s11, s12, s13, s14, s15, s16, s17, s18, s19⟩
                go_simp
                with_reducible rfl
               rotate_left
               ·simp only [PT_]
                rfl
               refine pA_ 14 (some 93) (bs_ 20 32767) HT_ ?_ ?_ ?_ ?_ ?_
               rotate_left; (intro w'; go_simp; with_reducible rfl); rotate_left; (simp only [PT_]; rfl)
               refine pA_ 15 (some 94) (bs_ 20 65535) HT_ ?_ ?_ ?_ ?_ ?_
               rotate_left; (intro w'; go_simp; with_reducible rfl); rotate_left; (simp only [PT_]; rfl)
               refine take_ (i := 16) (N := some 95) (v := ?_) (a' := ?_) (bs_ 20 131071) rfl rfl (take_ofW HT_.out HW_.out (by kernel_rfl)) (fun _ _ _ h => h) (Or.inl ⟨by rfl, ?_⟩) hHeld ?_ ?_
               rotate_left
               ·rintro w' ⟨s0, s1, s2, s3, s4, s5, s6, s7, s8, s9, s10, s11, s12, s13, s14, s15, s16, s17, s18, s19⟩
                go_simp
                with_reducible rfl
               rotate_left
               ·simp only [PT_]
                rfl
               refine oA_ 17 (some 96) (bs_ 20 262143) HT_ (fun K hK => ?_)
               refine goes_ Try.func27 (by kernel_rfl) rfl #[.slice Ao102 x6_3.length co102, .int .i64 ((rd_T36 l1_1 x9_3).f0)] (by rfl) rfl rfl (by (try simp only [List.map_toArray, List.map_cons, List.map_nil]); first | done | rfl | (simp only [List.length_drop, List.length_take]; rfl)) ?_
               with_reducible refine (tithebarnref16_at.calls k3 _ _ x6_3 ((rd_T36 l1_1 x9_3).f0) t369 _ ?side1 ?side2 A88.out).mono ?_
               (case side1 => repeat (first | exact (Kd.R_reads' HO_6.out).2.2 | (with_reducible refine Kd.C_alloc ?_ _) | (with_reducible refine Kd.C_drewN ?_ _) | (with_reducible refine Kd.C_drew ?_)))
               (case side2 => exact (Kd.R_reads' HO_6.out).2.1)
               rintro e w' ⟨rfl, ⟨nd, rfl⟩⟩
               refine ⟨_, rfl, ?_⟩
               refine hK.out _ _ ⟨(blk_cell BK341.out 0).trans rfl, (blk_cell BK341.out 1).trans rfl, (blk_cell BK341.out 2).trans rfl, (blk_cell BK341.out 3).trans rfl, ((HB.out.cell (World.block_lt_of_cell? w _ hw367_0)).trans hw367_0), ((HB.out.cell (World.block_lt_of_cell? w _ hw367_1)).trans hw367_1), ((HB.out.cell (World.block_lt_of_cell? w _ hw367_2)).trans hw367_2), ((HB.out.cell (World.block_lt_of_cell? w _ hw367_3)).trans hw367_3), ((HB.out.cell (World.block_lt_of_cell? w _ hw367_4)).trans hw367_4), ((HB.out.cell (World.block_lt_of_cell? w _ hw367_5)).trans hw367_5), ((HB.out.cell (World.block_lt_of_cell? w _ hw367_6)).trans hw367_6), ((HB.out.cell (World.block_lt_of_cell? w _ hw367_7)).trans hw367_7), ((HB.out.cell (World.block_lt_of_cell? w _ hw368_0)).trans hw368_0), ((HB.out.cell (World.block_lt_of_cell? w _ hw368_1)).trans hw368_1), ((HB.out.cell (World.block_lt_of_cell? w _ hw368_2)).trans hw368_2), ((HB.out.cell (World.block_lt_of_cell? w _ hw368_3)).trans hw368_3), ((HB.out.cell (World.block_lt_of_cell? w _ hw368_4)).trans hw368_4), ((HB.out.cell (World.block_lt_of_cell? w _ hw368_5)).trans hw368_5), ((HB.out.cell (World.block_lt_of_cell? w _ hw368_6)).trans hw368_6), ((HB.out.cell (World.block_lt_of_cell? w _ hw368_7)).trans hw368_7)⟩ (fun hHeld => ?_)
               clear hK K
               refine norm_ (a' := ?_) ?_ ?_; rotate_left; (show Act.put _ (some 96) _ = _; simp only [PT_]; rfl)
               refine pA_ 18 (some 97) (bs_ 20 524287) HT_ ?_ ?_ ?_ ?_ ?_
               rotate_left; (intro w'; go_simp; with_reducible rfl); rotate_left; (simp only [PT_]; rfl)
               refine pA_ 19 (some 98) (bs_ 20 1048575) HT_ ?_ ?_ ?_ ?_ ?_
               rotate_left; (intro w'; go_simp; with_reducible rfl); rotate_left; (simp only [PT_]; rfl)
               refine done_ (done_of HT_.out (by kernel_rfl)) ?_
               have hcz103_0 : w101.cell? ⟨gb341, 0, none⟩ = some (.slice A1_0 l1_0.length c1_0) := (blk_cell BK341.out 0).trans rfl
               have hcz103_1 : w101.cell? ⟨gb341, 1, none⟩ = some (.slice (some ad367) l1_1.length c1_1) := (blk_cell BK341.out 1).trans rfl
               have hcz103_2 : w101.cell? ⟨gb341, 2, none⟩ = some (.int .i64 a1_2) := (blk_cell BK341.out 2).trans rfl
               have hcz103_3 : w101.cell? ⟨gb341, 3, none⟩ = some (.int .i64 a1_3) := (blk_cell BK341.out 3).trans rfl
               have hfz103_0 := blk_frozen BK341.out 0
               have hfz103_1 := blk_frozen BK341.out 1
               have hfz103_2 := blk_frozen BK341.out 2
               have hfz103_3 := blk_frozen BK341.out 3
               have p370 : 0 ≤ (x9_3 : Int) := of_decide_eq_true z5_
               have q370 : x9_3 < (l1_1.length : Int) := of_decide_eq_true z5_
               obtain ⟨ad370, e370, hx370_0, hx370_1, hx370_2, hx370_3, hx370_4, hx370_5, hx370_6, hx370_7⟩ := at_T36 HR1_1.out x9_3 p370 q370
               obtain rfl : ad367 = ad370 := (by injection e370)
               replace hx370_0 := (HB.out.cell (World.block_lt_of_cell? w _ hx370_0)).trans hx370_0
               replace hx370_1 := (HB.out.cell (World.block_lt_of_cell? w _ hx370_1)).trans hx370_1
               replace hx370_2 := (HB.out.cell (World.block_lt_of_cell? w _ hx370_2)).trans hx370_2
               replace hx370_3 := (HB.out.cell (World.block_lt_of_cell? w _ hx370_3)).trans hx370_3
               replace hx370_4 := (HB.out.cell (World.block_lt_of_cell? w _ hx370_4)).trans hx370_4
               replace hx370_5 := (HB.out.cell (World.block_lt_of_cell? w _ hx370_5)).trans hx370_5
               replace hx370_6 := (HB.out.cell (World.block_lt_of_cell? w _ hx370_6)).trans hx370_6
               replace hx370_7 := (HB.out.cell (World.block_lt_of_cell? w _ hx370_7)).trans hx370_7
               replace p370 := eq_true p370
               replace q370 := eq_true q370
               try go_wp2_with (first | ((with_reducible refine gate_builtin (b := .append) (xs := #[.tmp 100, .tmp 106]) rfl ?_); at_builtin; refine R_append_wide k36 (w0 := w) w.heap.size rfl (.tmp 100) (.tmp 106) 24 36 (.agg #[(.int .i64 0), (.int .i64 0), (.bool false), (.int .i64 0), (.string ⟨#[]⟩), (.bool false), (.int .i64 0), (.string ⟨#[]⟩)]) 80 rfl Try.underlying24 info36 rfl (by decide) (by omega) (.slice Ao102 x6_3.length co102) x6_3 (⟨(rd_T36 l1_1 x9_3).f0, (rd_T36 l1_1 x9_3).f1, (⟨(rd_T36 l1_1 x9_3).f2.f0, (rd_T36 l1_1 x9_3).f2.f1, (rd_T36 l1_1 x9_3).f2.f2⟩ : S34), (⟨(rd_T36 l1_1 x9_3).f3.f0, (rd_T36 l1_1 x9_3).f3.f1, (rd_T36 l1_1 x9_3).f3.f2⟩ : S34)⟩ : S36) [.int .i64 ((rd_T36 l1_1 x9_3).f0), .int .i64 ((rd_T36 l1_1 x9_3).f1), .bool ((rd_T36 l1_1 x9_3).f2.f0), .int .i64 ((rd_T36 l1_1 x9_3).f2.f1), .string ((rd_T36 l1_1 x9_3).f2.f2), .bool ((rd_T36 l1_1 x9_3).f3.f0), .int .i64 ((rd_T36 l1_1 x9_3).f3.f1), .string ((rd_T36 l1_1 x9_3).f3.f2)] (fun _ => True) (fun _ => False) rfl rfl ?aP (fun _ hk => hk.elim) ?aF ?aO ?aB ?aS ?aL ?_; (case aP => exact k36_mkM _ _ _ (⟨(rd_T36 l1_1 x9_3).f0, (rd_T36 l1_1 x9_3).f1, (⟨(rd_T36 l1_1 x9_3).f2.f0, (rd_T36 l1_1 x9_3).f2.f1, (rd_T36 l1_1 x9_3).f2.f2⟩ : S34), (⟨(rd_T36 l1_1 x9_3).f3.f0, (rd_T36 l1_1 x9_3).f3.f1, (rd_T36 l1_1 x9_3).f3.f2⟩ : S34)⟩ : S36)); (case aB => exact z1_); (case aF => exact (fun _ _ => trivial)); (case aO => exact (by (with_reducible repeat (first | apply Kd.R_alloc | apply Kd.R_drewN | apply Kd.R_drew)); exact HO_6.out)); (case aS => exact (below_size z1_)); (case aL => have := LMc97.out; omega); intro v372 w104 ho hb hg hat; rw [← Ny371.out] at ho; have n0_ := Aside0.mk (blk_grown (g := gb340) (o := .cells #[.slice A0_0 l0_0.length c0_0, .int .i64 a0_1, .int .i64 a0_2] 26 (0, 0)) (by (with_reducible repeat (first | refine blk_drewN ?_ _ | refine blk_drew ?_ | refine blk_alloc ?_ _)); exact BK340.out) hg (Kd.R_ne HO_6.out BK340.out (by decide))); have n1_ := Aside0.mk (blk_grown (g := gb341) (o := .cells #[.slice A1_0 l1_0.length c1_0, .slice (some ad367) l1_1.length c1_1, .int .i64 a1_2, .int .i64 a1_3] 32 (0, 0)) (by (with_reducible repeat (first | refine blk_drewN ?_ _ | refine blk_drew ?_ | refine blk_alloc ?_ _)); exact BK341.out) hg (Kd.R_ne HO_6.out BK341.out (by decide))); have n2_ := Aside0.mk (blk_grown (g := gb342) (o := .cells #[.slice none 0 0, .int .i64 x343001_3, .int .i64 x343002_3] 26 (0, 0)) (by (with_reducible repeat (first | refine blk_drewN ?_ _ | refine blk_drew ?_ | refine blk_alloc ?_ _)); exact BK342.out) hg (Kd.R_ne HO_6.out BK342.out (by decide))); have n3_ := Aside0.mk (hb); have n4_ := Aside0.mk (ho); clear BK340; clear BK341; clear BK342; clear HB; clear HO_6; have BK340 := n0_; have BK341 := n1_; have BK342 := n2_; have HB := n3_; have HO373 := n4_; clear n0_ n1_ n2_ n3_ n4_; clear ho hb hg hat))
               go_roundg k3
               case measure => have := HJ2.out; have := HK2.out; have := HK3.out; omega
               case rel => exact ⟨(y371), (wrap64 (x9_3 + 1)), (x343001_3), (x343002_3), z4_, H', ⟨by have := HJ2.out; have := HK2.out; have := HK3.out; omega⟩, ⟨by (with_reducible repeat (first | apply Kd.R_alloc | apply Kd.R_drewN | apply Kd.R_drew)); exact HO373.out⟩, ⟨by (with_reducible repeat (first | refine blk_drewN ?_ _ | refine blk_drew ?_ | refine blk_alloc ?_ _)); exact BK340.out⟩, ⟨by (with_reducible repeat (first | refine blk_drewN ?_ _ | refine blk_drew ?_ | refine blk_alloc ?_ _)); exact BK341.out⟩, ⟨by (with_reducible repeat (first | refine blk_drewN ?_ _ | refine blk_drew ?_ | refine blk_alloc ?_ _)); exact BK342.out⟩, ⟨z1_⟩⟩
              ·rw [if_neg c97] at H
               exact absurd H (by simp)
           ·rw [if_neg c80] at H
            exact absurd H (by simp)
          ·rw [if_neg c79] at H
           have c79b0 : decide (x9_3 < (l1_1.length : Int)) = false := decide_eq_false c79
           clear c79
           simp only [Option.some.injEq, Prod.mk.injEq] at H
           obtain ⟨rfl, rfl, rfl, rfl⟩ := H
           have hnb105 := NB341_340.out
           have hnc105 := NB340_341.out
           have hnb106 := NB341_342.out
           have hnc106 := NB342_341.out
           have hcz107_0 : wr.cell? ⟨gb341, 0, none⟩ = some (.slice A1_0 l1_0.length c1_0) := (blk_cell BK341.out 0).trans rfl
           have hcz107_1 : wr.cell? ⟨gb341, 1, none⟩ = some (.slice A1_1 l1_1.length c1_1) := (blk_cell BK341.out 1).trans rfl
           have hcz107_2 : wr.cell? ⟨gb341, 2, none⟩ = some (.int .i64 a1_2) := (blk_cell BK341.out 2).trans rfl
           have hcz107_3 : wr.cell? ⟨gb341, 3, none⟩ = some (.int .i64 a1_3) := (blk_cell BK341.out 3).trans rfl
           have hfz107_0 := blk_frozen BK341.out 0
           have hfz107_1 := blk_frozen BK341.out 1
           have hfz107_2 := blk_frozen BK341.out 2
           have hfz107_3 := blk_frozen BK341.out 3
           obtain ⟨Ao108, co108, eo108⟩ := Kd.R_slice HO_6.out
           subst eo108
           have hnb109 := NB342_340.out
           have hnc109 := NB340_342.out
           have hcz110_0 : wr.cell? ⟨gb342, 0, none⟩ = some (.slice none 0 0) := (blk_cell BK342.out 0).trans rfl
           have hcz110_1 : wr.cell? ⟨gb342, 1, none⟩ = some (.int .i64 x343001_3) := (blk_cell BK342.out 1).trans rfl
           have hcz110_2 : wr.cell? ⟨gb342, 2, none⟩ = some (.int .i64 x343002_3) := (blk_cell BK342.out 2).trans rfl
           have hfz110_0 := blk_frozen BK342.out 0
           have hfz110_1 := blk_frozen BK342.out 1
           have hfz110_2 := blk_frozen BK342.out 2
           go_wp2
           refine bodyPost_ret (results_ct rfl _ _ gb342 26 #[.slice Ao108 x6_3.length co108, .int .i64 a1_2, .int .i64 a1_3] (0, 0) _ rfl (by (with_reducible repeat (first | refine blk_drewN ?_ _ | refine blk_drew ?_ | refine blk_alloc ?_ _)); refine blk_put (cs := #[.slice Ao108 x6_3.length co108, .int .i64 a1_2, .int .i64 x343002_3]) ?_ 2 _ rfl; (with_reducible repeat (first | refine blk_drewN ?_ _ | refine blk_drew ?_ | refine blk_alloc ?_ _)); refine blk_put (cs := #[.slice Ao108 x6_3.length co108, .int .i64 x343001_3, .int .i64 x343002_3]) ?_ 1 _ rfl; (with_reducible repeat (first | refine blk_drewN ?_ _ | refine blk_drew ?_ | refine blk_alloc ?_ _)); refine blk_put (cs := #[.slice none 0 0, .int .i64 x343001_3, .int .i64 x343002_3]) ?_ 0 _ rfl; (with_reducible repeat (first | refine blk_drewN ?_ _ | refine blk_drew ?_ | refine blk_alloc ?_ _)); exact BK342.out) Try.underlying26 rfl (by kernel_rfl)) rfl ?_
           exact ⟨_, z2_, by (with_reducible repeat (first | apply Kd.R_alloc | apply Kd.R_drewN | apply Kd.R_drew)); exact Kd.R_mono (Kd.R_far (p := ⟨gb342, 2, none⟩) (Kd.R_far (p := ⟨gb342, 1, none⟩) (Kd.R_far (p := ⟨gb342, 0, none⟩) (Kd.R_types HO_6.out BK342.out (by decide)) (fun _ hk => hk.2) (.slice Ao108 x6_3.length co108)) (fun _ hk => hk.2) (.int .i64 a1_2)) (fun _ hk => hk.2) (.int .i64 a1_3)) (fun _ hk => trivial), z1_⟩
    ·rw [if_neg c32] at H
     exact absurd H (by simp)
end Go.Proofs.Ytagokgijffpdnaa.G
namespace Go.Proofs.Ytagokgijffpdnaa.G
open Go.RowKit Go.Proofs.YtagokgijffpdnaaQ Go.Proofs.YtagokgijffpdnaaW.PrintWords Go.Proofs.YtagokgijffpdnaaW.PrintLast Go.Proofs.YtagokgijffpdnaaW.PrintMore
set_option linter.unusedVariables false
set_option linter.unusedSimpArgs false
def ixL (x : Int) : List SP → Nat
 | [] => 0
 | p :: l => if p.f0 = x then 0 else ixL x l + 1
def atL (l : List SP) (x : Int) (i : Nat) : Int := if x ∈ idsOf (l.drop i) then ((i + ixL x (l.drop i) : Nat) : Int) else -1
theorem ixL_spec (x : Int) : ∀ l : List SP, x ∈ idsOf l → ixL x l < l.length ∧ (l.take (ixL x l) ++ l.drop (ixL x l + 1)).filter (fun p => decide (p.f0 ≠ x)) = l.filter (fun p => decide (p.f0 ≠ x))
 | [], h => by simp [idsOf] at h
 | p :: l, h => by
  unfold ixL
  by_cases e : p.f0 = x
  ·rw [if_pos e]
   exact ⟨by simp, by simp [e]⟩
  ·rw [if_neg e]
   have hm : x ∈ idsOf l := by
    simp only [idsOf, List.map_cons, List.mem_cons] at h
    exact h.resolve_left (Ne.symm e)
   obtain ⟨h1, h2⟩ := ixL_spec x l hm
   refine ⟨by rw [List.length_cons]; omega, ?_⟩
   rw [List.take_succ_cons, List.drop_succ_cons, List.cons_append, List.filter_cons_of_pos (by simp [e]), List.filter_cons_of_pos (by simp [e]), h2]
theorem at_l0 (l : List SP) (x : Int) (hl : l.length ≤ 4611686018427387904) : ∀ (m i k : Nat), i + m = l.length → m < k → tithebarnref16_at.l0 k l x (i : Int) = some (atL l x i) := by
 intro m
 induction m with
 | zero =>
  intro i k hi hk
  obtain ⟨k, rfl⟩ : ∃ m, k = m + 1 := ⟨k - 1, by omega⟩
  simp only [tithebarnref16_at.l0]
  unfold atL
  rw [if_neg (by omega), List.drop_eq_nil_of_le (show l.length ≤ i by omega), if_neg (by simp [idsOf])]
 | succ m ih =>
  intro i k hi hk
  obtain ⟨k, rfl⟩ : ∃ m, k = m + 1 := ⟨k - 1, by omega⟩
  simp only [tithebarnref16_at.l0]
  have EW : Aside0 (wrap64 ((i : Int) + 1) = ((i + 1 : Nat) : Int)) := ⟨by rw [w64 (by omega) (by omega)]; omega⟩
  have hd := rdP_drop (show i < l.length by omega)
  rw [if_pos (by omega), if_pos (by omega)]
  unfold atL
  rw [hd]
  generalize rd_T36 l (i : Int) = p
  have hids : idsOf (p :: l.drop (i + 1)) = p.f0 :: idsOf (l.drop (i + 1)) := rfl
  rw [hids]
  by_cases e : p.f0 = x
  ·rw [if_pos e, if_pos (by simp [e])]
   unfold ixL
   rw [if_pos e]; rfl
  ·rw [if_neg e, EW.out, ih (i + 1) k (by omega) (by omega)]
   unfold atL
   by_cases h : x ∈ idsOf (l.drop (i + 1))
   ·rw [if_pos h, if_pos (List.mem_cons_of_mem _ h)]
    conv => rhs; unfold ixL
    rw [if_neg e]
    congr 2; omega
   ·rw [if_neg h, if_neg (by simp only [List.mem_cons, not_or]; exact ⟨Ne.symm e, h⟩)]
theorem at_f (l : List SP) (x : Int) (hl : l.length ≤ 4611686018427387904) {k : Nat} (hk : l.length < k) : tithebarnref16_at.f k l x = some (atL l x 0) := by
 unfold tithebarnref16_at.f
 have := at_l0 l x hl l.length 0 k (by omega) hk
 rw [show ((0 : Nat) : Int) = 0 from rfl] at this
 exact this
theorem at_neg {l : List SP} {x : Int} (h : ¬ x ∈ idsOf l) : atL l x 0 = -1 := by unfold atL; rw [List.drop_zero, if_neg h]
theorem at_pos {l : List SP} {x : Int} (h : x ∈ idsOf l) : ∃ i : Nat, atL l x 0 = (i : Int) ∧ i < l.length ∧ (l.take i ++ l.drop (i + 1)).filter (fun p => decide (p.f0 ≠ x)) = l.filter (fun p => decide (p.f0 ≠ x)) :=
 ⟨ixL x l, by unfold atL; rw [List.drop_zero, if_pos h, Nat.zero_add], (ixL_spec x l h).1, (ixL_spec x l h).2⟩
theorem Apply_l1 (d : List Int) (a : List SP) (fl nx : Int) {j : Nat} (hj : j < d.length) (hd : d.length ≤ 1000) (L : Nat) (hL : L ≤ 1759218604390) {K : Nat} {R : Option (List SP × Int × Int × Int)} : ∀ (n : Nat) (l : List SP) (k : Nat), l.length = n → n ≤ L → K + n + L + 5 ≤ k →
  (∀ k, K ≤ k → tithebarnref16_Apply.l0 k (l.filter fun p => decide (p.f0 ≠ rd d (j : Int))) ((j + 1 : Nat) : Int) d a fl nx = R) → tithebarnref16_Apply.l1 k l (j : Int) d a fl nx = R := by
 intro n
 induction n with
 | zero =>
  intro l k hn hl hk hnext
  obtain ⟨k, rfl⟩ : ∃ m, k = m + 1 := ⟨k - 1, by omega⟩
  obtain rfl := List.length_eq_zero_iff.mp hn
  simp only [tithebarnref16_Apply.l1]
  have EW : Aside0 (wrap64 ((j : Int) + 1) = ((j + 1 : Nat) : Int)) := ⟨by rw [w64 (by omega) (by omega)]; omega⟩
  rw [if_pos (by omega), if_pos (by omega), at_f [] _ (by simp) (by simp; omega), Option.bind_some, at_neg (by simp [idsOf]), if_neg (by omega), EW.out]
  exact hnext k (by omega)
 | succ n ih =>
  intro l k hn hl hk hnext
  obtain ⟨k, rfl⟩ : ∃ m, k = m + 1 := ⟨k - 1, by omega⟩
  simp only [tithebarnref16_Apply.l1]
  have EW : Aside0 (wrap64 ((j : Int) + 1) = ((j + 1 : Nat) : Int)) := ⟨by rw [w64 (by omega) (by omega)]; omega⟩
  rw [if_pos (by omega), if_pos (by omega), at_f l _ (by omega) (by omega), Option.bind_some]
  by_cases hx : rd d (j : Int) ∈ idsOf l
  ·obtain ⟨i, hi, hil, hfl⟩ := at_pos hx
   have HX := Aside0.mk hx; clear hx
   have ei : wrap64 ((i : Int) + 1) = ((i + 1 : Nat) : Int) := by rw [w64 (by omega) (by omega)]; omega
   have EI := Aside0.mk ei; clear ei
   have t1 : (l.take i).length ≤ l.length := List.length_take_le' _ _
   have t2 : (l.take i).length + (l.drop (i + 1)).length ≤ l.length := by rw [List.length_take, List.length_drop]; omega
   rw [hi, if_pos (by omega), Option.bind_some, if_pos (by omega), if_pos (by omega), Option.bind_some, Int.toNat_natCast, if_pos (by rw [List.length_nil]; omega), Option.bind_some, EI.out, if_pos (by omega), if_pos (by omega), Option.bind_some, Int.toNat_natCast, List.nil_append, if_pos (by omega)]
   refine ih (l.take i ++ l.drop (i + 1)) k (by rw [List.length_append, List.length_take, List.length_drop]; omega) (by omega) (by omega) ?_
   rw [hfl]
   exact hnext
  ·have hf : l.filter (fun p => decide (p.f0 ≠ rd d (j : Int))) = l := List.filter_eq_self.mpr (fun p hp => by
    simp only [ne_eq, decide_not, Bool.not_eq_true', decide_eq_false_iff_not]
    intro e; exact hx (by rw [← e]; exact List.mem_map.mpr ⟨p, hp, rfl⟩))
   rw [at_neg hx, if_neg (by omega), EW.out]
   rw [hf] at hnext
   exact hnext k (by omega)
def refD : List SP → List Int → Option (List SP)
 | l, [] => some l
 | l, x :: d => if x ∈ idsOf l then refD (l.filter fun p => decide (p.f0 ≠ x)) d else none
theorem refD_is : ∀ (d : List Int) (s : List SP), refD s d = if d.all (goodD s d) = true then some (keptL s d) else none
 | [], s => by
  unfold refD
  rw [if_pos (show ([] : List Int).all (goodD s []) = true from rfl)]
  congr 1
  unfold keptL
  simp only [List.contains_nil, Bool.not_false]
  exact (List.filter_eq_self.mpr (fun _ _ => rfl)).symm
 | x :: d, s => by
  unfold refD
  by_cases hx : x ∈ idsOf s
  ·rw [if_pos hx, refD_is d]
   have hk : keptL (s.filter fun p => decide (p.f0 ≠ x)) d = keptL s (x :: d) := by
    unfold keptL
    rw [List.filter_filter]
    congr 1; funext p
    simp only [List.contains_cons, Bool.not_or, ne_eq, decide_not]
    rw [Bool.and_comm]
    congr 1
   have hg : (d.all (goodD (s.filter fun p => decide (p.f0 ≠ x)) d)) = ((x :: d).all (goodD s (x :: d))) := by
    rw [Bool.eq_iff_iff]
    simp only [List.all_eq_true, List.all_cons, Bool.and_eq_true]
    have hin : ∀ y, y ∈ idsOf (s.filter fun p => decide (p.f0 ≠ x)) ↔ (y ≠ x ∧ y ∈ idsOf s) := fun y => by
     unfold idsOf
     simp only [List.mem_map, List.mem_filter, ne_eq, decide_not, Bool.not_eq_true', decide_eq_false_iff_not]
     constructor
     ·rintro ⟨p, ⟨h1, h2⟩, rfl⟩; exact ⟨h2, p, h1, rfl⟩
     ·rintro ⟨h1, p, h2, rfl⟩; exact ⟨p, ⟨h2, h1⟩, rfl⟩
    have gd : ∀ (s : List SP) (d : List Int) (y : Int), goodD s d y = true ↔ (d.count y ≤ 1 ∧ y ∈ idsOf s) := fun s d y => by unfold goodD; simp
    constructor
    ·intro h
     have hnx : ¬ x ∈ d := fun hm => ((hin x).mp ((gd _ _ _).mp (h x hm)).2).1 rfl
     refine ⟨(gd _ _ _).mpr ⟨?_, hx⟩, fun y hy => (gd _ _ _).mpr ?_⟩
     ·rw [List.count_cons_self, List.count_eq_zero_of_not_mem hnx]; omega
     ·have h1 := (gd _ _ _).mp (h y hy)
      have h2 := (hin y).mp h1.2
      rw [List.count_cons_of_ne (Ne.symm h2.1)]
      exact ⟨h1.1, h2.2⟩
    ·rintro ⟨h0, h⟩ y hy
     have h0' := (gd _ _ _).mp h0
     rw [List.count_cons_self] at h0'
     have hnx : ¬ x ∈ d := fun hm => by have := List.count_pos_iff.mpr hm; omega
     have h1 := (gd _ _ _).mp (h y hy)
     have hne : y ≠ x := fun e => hnx (e ▸ hy)
     rw [List.count_cons_of_ne (Ne.symm hne)] at h1
     exact (gd _ _ _).mpr ⟨h1.1, (hin y).mpr ⟨hne, h1.2⟩⟩
   rw [hk, hg]
  ·rw [if_neg hx, if_neg]
   simp only [List.all_cons, Bool.and_eq_true, not_and]
   intro h
   unfold goodD at h
   simp [hx] at h
theorem Apply_l2 (d : List Int) (a : List SP) (fl nx : Int) (ha : a.length ≤ 1000) : ∀ (m i : Nat) (l : List SP) (k : Nat), i + m = a.length → l.length ≤ 1759218604390 + i → m + 1759218605400 ≤ k → tithebarnref16_Apply.l2 k l (i : Int) d a fl nx = some (if addB nx (idsOf l) (a.drop i) = true then (l ++ a.drop i, fl, nx, 0) else ([], 0, 0, 8)) := by
 intro m
 induction m with
 | zero =>
  intro i l k hi hl hk
  obtain ⟨k, rfl⟩ : ∃ m, k = m + 1 := ⟨k - 1, by omega⟩
  simp only [tithebarnref16_Apply.l2]
  rw [if_neg (by omega), List.drop_eq_nil_of_le (show a.length ≤ i by omega)]
  unfold addB
  rw [if_pos rfl, List.append_nil]
 | succ m ih =>
  intro i l k hi hl hk
  obtain ⟨k, rfl⟩ : ∃ m, k = m + 1 := ⟨k - 1, by omega⟩
  simp only [tithebarnref16_Apply.l2]
  have EW : Aside0 (wrap64 ((i : Int) + 1) = ((i + 1 : Nat) : Int)) := ⟨by rw [w64 (by omega) (by omega)]; omega⟩
  rw [if_pos (by omega), if_pos (by omega), rdP_drop (show i < a.length by omega)]
  obtain ⟨p, hp⟩ : ∃ p, rd_T36 a (i : Int) = p := ⟨_, rfl⟩
  rw [hp]
  unfold addB
  by_cases h1 : p.f0 ≥ nx
  ·rw [if_pos h1, decide_eq_true (show nx ≤ p.f0 from h1)]
   simp
  ·rw [if_neg h1, decide_eq_false (show ¬ nx ≤ p.f0 from h1), at_f l _ (by omega) (by omega), Option.bind_some]
   by_cases h2 : p.f0 ∈ idsOf l
   ·obtain ⟨j, hj, _⟩ := at_pos h2
    rw [hj, if_pos (by omega)]
    simp [h2]
   ·rw [at_neg h2, if_neg (by omega), if_pos (by omega), EW.out]
    have := ih (i + 1) (l ++ [p]) k (by omega) (by rw [List.length_append, List.length_singleton]; omega) (by omega)
    rw [idsOf_snoc] at this
    refine this.trans ?_
    have h3 : (idsOf l).contains p.f0 = false := by simpa using h2
    rw [h3, List.append_assoc, List.singleton_append]
    simp
theorem Apply_l0 (d : List Int) (a : List SP) (fl nx : Int) (ha : a.length ≤ 1000) (hd : d.length ≤ 1000) : ∀ (m j : Nat) (l : List SP) (k : Nat), j + m = d.length → l.length ≤ 1759218604390 → (m + 1) * 3518437208800 + 1759218606410 ≤ k →
  tithebarnref16_Apply.l0 k l (j : Int) d a fl nx = some (match refD l (d.drop j) with | some l2 => if addB nx (idsOf l2) a = true then (l2 ++ a, fl, nx, 0) else ([], 0, 0, 8) | none => ([], 0, 0, 8)) := by
 obtain ⟨W, hW⟩ : ∃ W, W = 3518437208800 := ⟨_, rfl⟩
 rw [← hW]
 intro m
 induction m with
 | zero =>
  intro j l k hj hl hk
  obtain ⟨k, rfl⟩ : ∃ m, k = m + 1 := ⟨k - 1, by omega⟩
  simp only [tithebarnref16_Apply.l0]
  rw [if_neg (by omega), List.drop_eq_nil_of_le (show d.length ≤ j by omega)]
  have := Apply_l2 d a fl nx ha a.length 0 l k (by omega) (by omega) (by omega)
  rw [show ((0 : Nat) : Int) = 0 from rfl, List.drop_zero] at this
  rw [this]; rfl
 | succ m ih =>
  intro j l k hj hl hk
  rw [Nat.succ_mul] at hk
  obtain ⟨k, rfl⟩ : ∃ m, k = m + 1 := ⟨k - 1, by omega⟩
  simp only [tithebarnref16_Apply.l0]
  have hdr : d.drop j = rd d (j : Int) :: d.drop (j + 1) := by
   rw [List.drop_eq_getElem_cons (show j < d.length by omega)]
   unfold rd
   rw [Int.toNat_natCast, List.getD_eq_getElem?_getD, List.getElem?_eq_getElem (show j < d.length by omega)]; rfl
  rw [if_pos (by omega), if_pos (by omega), at_f l _ (by omega) (by omega), Option.bind_some, hdr]
  unfold refD
  by_cases hx : rd d (j : Int) ∈ idsOf l
  ·obtain ⟨i, hi, _⟩ := at_pos hx
   rw [hi, if_neg (by omega), if_pos hx]
   refine Apply_l1 d a fl nx (by omega) hd 1759218604390 (by omega) (K := (m + 1) * W + 1759218606410) l.length l k rfl hl (by omega) (fun k hk => ?_)
   exact ih (j + 1) _ k (by omega) (Nat.le_trans (List.length_filter_le _ _) hl) hk
  ·rw [at_neg hx, if_pos (by omega), if_neg hx]
theorem rApply_f (s : List SP) (sf sn : Int) (d : List Int) (a : List SP) (fl nx : Int) (hs : s.length ≤ 1759218604390) {k : Nat} (hk : 4000000000000000 ≤ k) : tithebarnref16_Apply.f k s sf sn d a fl nx = some (applyL s sf sn d a fl nx) := by
 obtain ⟨k, rfl⟩ : ∃ m, k = m + 1 := ⟨k - 1, by omega⟩
 unfold tithebarnref16_Apply.f applyL
 rw [rRight_f d a fl nx (by omega), Option.bind_some]
 have j1 : tithebarnref16_Apply.j0 (k + 1) true s sf sn d a fl nx = some ([], 0, 0, 8) := by simp only [tithebarnref16_Apply.j0, if_true]
 cases hr : rightB d a fl nx
 ·rw [if_neg (by decide), j1, if_neg (by simp)]
 ·obtain ⟨q1, q2, -⟩ := right_d hr
  rw [if_pos rfl]
  by_cases h1 : fl < sf
  ·rw [if_pos h1, j1, decide_eq_false (show ¬ sf ≤ fl by omega), if_neg (by simp)]
  ·rw [if_neg h1, decide_eq_true (show sf ≤ fl by omega)]
   by_cases h2 : nx < sn
   ·rw [decide_eq_true h2, j1, decide_eq_false (show ¬ sn ≤ nx by omega), if_neg (by simp)]
   ·rw [decide_eq_false h2, decide_eq_true (show sn ≤ nx by omega)]
    simp only [tithebarnref16_Apply.j0]
    rw [if_neg (by decide), if_pos (by rw [List.length_nil]; omega), List.nil_append]
    have hb : (d.length + 1) * 3518437208800 + 1759218606410 ≤ k := Nat.le_trans (Nat.add_le_add_right (Nat.mul_le_mul_right _ (show d.length + 1 ≤ 1001 by omega)) _) (by omega)
    have := Apply_l0 d a fl nx q2 q1 d.length 0 s k (by omega) hs hb
    rw [show ((0 : Nat) : Int) = 0 from rfl, List.drop_zero, refD_is] at this
    rw [this]
    cases d.all (goodD s d)
    ·simp
    ·simp
end Go.Proofs.Ytagokgijffpdnaa.G
