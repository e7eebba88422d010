import Derived.Test.YtagokgijffpdnaaZG0
import Derived.Test.YtagokgijffpdnaaZG12
import Derived.Test.YtagokgijffpdnaaZG13
namespace Go.Proofs.Ytagokgijffpdnaa.G
open Go.RowKit Go.Proofs.YtagokgijffpdnaaQ Go.Proofs.YtagokgijffpdnaaW.PrintWords Go.Proofs.YtagokgijffpdnaaW.PrintLast Go.Proofs.YtagokgijffpdnaaW.PrintMore
attribute [local go_sem] max2_int min2_int max_two min_two max_three min_three max_four min_four   -- for this text's walks alone
set_option linter.unusedVariables false
set_option linter.unusedSimpArgs false
mutual
def tithebarnref16_Write.l0 : Nat → ByteArray → Int → List Int → List (S36) → Int → Int → Option (ByteArray × Int)
  | 0, _, _, _, _, _, _ => none
  | k + 1, x4, x5, x325000, x325001, x325002, x325003 => if x5 < (x325000.length : Int) then (if 0 ≤ x5 then ((tithebarnref16_num.f k (rd x325000 x5)).bind fun t328 => (if x4.size + t328.size ≤ 9223372036854775807 then (tithebarnref16_Write.l0 k (x4 ++ t328) (wrap64 (x5 + 1)) x325000 x325001 x325002 x325003) else (none))) else (none)) else ((tithebarnref16_num.f k (x325001.length : Int)).bind fun t329 => (if x4.size + t329.size ≤ 9223372036854775807 then (tithebarnref16_Write.l1 k (x4 ++ t329) 0 x325000 x325001 x325002 x325003) else (none)))
def tithebarnref16_Write.l1 : Nat → ByteArray → Int → List Int → List (S36) → Int → Int → Option (ByteArray × Int)
  | 0, _, _, _, _, _, _ => none
  | k + 1, x4, x6, x325000, x325001, x325002, x325003 => if x6 < (x325001.length : Int) then (if 0 ≤ x6 then ((tithebarnref16_num.f k ((rd_T36 x325001 x6).f0)).bind fun t335 => ((tithebarnref16_num.f k ((rd_T36 x325001 x6).f1)).bind fun t336 => (if t335.size + t336.size ≤ 9223372036854775807 then ((tithebarnref16_value.f k ((rd_T36 x325001 x6).f2.f0) ((rd_T36 x325001 x6).f2.f1) ((rd_T36 x325001 x6).f2.f2)).bind fun t337 => (if (t335 ++ t336).size + t337.size ≤ 9223372036854775807 then ((tithebarnref16_value.f k ((rd_T36 x325001 x6).f3.f0) ((rd_T36 x325001 x6).f3.f1) ((rd_T36 x325001 x6).f3.f2)).bind fun t338 => (if ((t335 ++ t336) ++ t337).size + t338.size ≤ 9223372036854775807 then (if x4.size + (((t335 ++ t336) ++ t337) ++ t338).size ≤ 9223372036854775807 then (tithebarnref16_Write.l1 k (x4 ++ (((t335 ++ t336) ++ t337) ++ t338)) (wrap64 (x6 + 1)) x325000 x325001 x325002 x325003) else (none)) else (none))) else (none))) else (none)))) else (none)) else ((tithebarnref16_num.f k x325002).bind fun t330 => (if x4.size + t330.size ≤ 9223372036854775807 then ((tithebarnref16_num.f k x325003).bind fun t331 => (if (x4 ++ t330).size + t331.size ≤ 9223372036854775807 then ((tithebarnref08_Write.f ((x4 ++ t330) ++ t331)).bind fun t332 => (some (t332, 0))) else (none))) else (none)))
end
def tithebarnref16_Write.f (k : Nat) (l0_0 : List Int) (l0_1 : List (S36)) (a0_2 : Int) (a0_3 : Int) : Option (ByteArray × Int) := (tithebarnref16_Right.f k l0_0 l0_1 a0_2 a0_3).bind fun t325 => (if t325 = true then ((tithebarnref16_num.f k (l0_0.length : Int)).bind fun t326 => (tithebarnref16_Write.l0 k t326 0 l0_0 l0_1 a0_2 a0_3)) else (some ((⟨#[]⟩ : ByteArray), 1)))
theorem tithebarnref16_Write.mono_l : ∀ k, (∀ y0 y1 y2 y3 y4 y5, LeO (tithebarnref16_Write.l0 k y0 y1 y2 y3 y4 y5) (tithebarnref16_Write.l0 (k + 1) y0 y1 y2 y3 y4 y5)) ∧ (∀ y0 y1 y2 y3 y4 y5, LeO (tithebarnref16_Write.l1 k y0 y1 y2 y3 y4 y5) (tithebarnref16_Write.l1 (k + 1) y0 y1 y2 y3 y4 y5))
  | 0 => ⟨fun _ _ _ _ _ _ r h => by simp [tithebarnref16_Write.l0] at h, fun _ _ _ _ _ _ r h => by simp [tithebarnref16_Write.l1] at h⟩
  | k + 1 => by
    obtain ⟨ih0, ih1⟩ := tithebarnref16_Write.mono_l k
    refine ⟨?_, ?_⟩
    · intro y0 y1 y2 y3 y4 y5
      unfold tithebarnref16_Write.l0
      repeat' first
      | (with_reducible exact ih0 _ _ _ _ _ _)
      | (with_reducible exact ih1 _ _ _ _ _ _)
      | (with_reducible exact tithebarnref16_Right.mono _ _ _ _ _)
      | (with_reducible exact tithebarnref16_num.mono _ _)
      | (with_reducible exact tithebarnref16_value.mono _ _ _ _)
      | (with_reducible exact LeO.refl _)
      | (with_reducible exact LeO.none _)
      | (with_reducible refine LeO.ite ?_ ?_)
      | (with_reducible refine LeO.bind ?_ (fun _ => ?_))
      | exact ih0 _ _ _ _ _ _
      | exact ih1 _ _ _ _ _ _
      | exact tithebarnref16_Right.mono _ _ _ _ _
      | exact tithebarnref16_num.mono _ _
      | exact tithebarnref16_value.mono _ _ _ _
      | exact LeO.none _
      | refine LeO.ite ?_ ?_
      | refine LeO.bind ?_ (fun _ => ?_)
    · intro y0 y1 y2 y3 y4 y5
      unfold tithebarnref16_Write.l1
      repeat' first
      | (with_reducible exact ih0 _ _ _ _ _ _)
      | (with_reducible exact ih1 _ _ _ _ _ _)
      | (with_reducible exact tithebarnref16_Right.mono _ _ _ _ _)
      | (with_reducible exact tithebarnref16_num.mono _ _)
      | (with_reducible exact tithebarnref16_value.mono _ _ _ _)
      | (with_reducible exact LeO.refl _)
      | (with_reducible exact LeO.none _)
      | (with_reducible refine LeO.ite ?_ ?_)
      | (with_reducible refine LeO.bind ?_ (fun _ => ?_))
      | exact ih0 _ _ _ _ _ _
      | exact ih1 _ _ _ _ _ _
      | exact tithebarnref16_Right.mono _ _ _ _ _
      | exact tithebarnref16_num.mono _ _
      | exact tithebarnref16_value.mono _ _ _ _
      | exact LeO.none _
      | refine LeO.ite ?_ ?_
      | refine LeO.bind ?_ (fun _ => ?_)
theorem tithebarnref16_Write.mono : ∀ a0 a1 a2 a3 k, LeO (tithebarnref16_Write.f k a0 a1 a2 a3) (tithebarnref16_Write.f (k + 1) a0 a1 a2 a3) := by
  intro a0 a1 a2 a3 k
  obtain ⟨ih0, ih1⟩ := tithebarnref16_Write.mono_l k
  unfold tithebarnref16_Write.f
  repeat' first
      | (with_reducible exact ih0 _ _ _ _ _ _)
      | (with_reducible exact ih1 _ _ _ _ _ _)
      | (with_reducible exact tithebarnref16_Right.mono _ _ _ _ _)
      | (with_reducible exact tithebarnref16_num.mono _ _)
      | (with_reducible exact tithebarnref16_value.mono _ _ _ _)
      | (with_reducible exact LeO.refl _)
      | (with_reducible exact LeO.none _)
      | (with_reducible refine LeO.ite ?_ ?_)
      | (with_reducible refine LeO.bind ?_ (fun _ => ?_))
      | exact ih0 _ _ _ _ _ _
      | exact ih1 _ _ _ _ _ _
      | exact tithebarnref16_Right.mono _ _ _ _ _
      | exact tithebarnref16_num.mono _ _
      | exact tithebarnref16_value.mono _ _ _ _
      | exact LeO.none _
      | refine LeO.ite ?_ ?_
      | refine LeO.bind ?_ (fun _ => ?_)
def tithebarnref16_Write.T13 : Bool × List (List Nat × List Nat) := (true, [([], []), ([], []), ([1], [1]), ([2], [2]), ([], []), ([4], [4]), ([5, 3], [5]), ([3, 6], [3, 6]), ([], []), ([8], [8]), ([9, 6], [9]), ([7, 10], [7, 10]), ([], []), ([12], [12]), ([13, 10], [13]), ([11, 14], [11, 14]), ([0, 15], [0, 15]), ([16, 14, 0, 1, 2, 3, 4, 5, 6, 7, 8, 9, 10, 11, 12, 13, 14, 15, 16], [0, 16])])
def tithebarnref16_Write.B13 : List Nat := [0, 0, 2, 6, 0, 16, 62, 126, 0, 256, 894, 2046, 0, 4096, 14206, 32766, 65535, 131071]
theorem tithebarnref16_Write.tab13 : rtab .any (opsOf Try.f13 13) = tithebarnref16_Write.T13 := by kernel_rfl
theorem tithebarnref16_Write.bits13 : waitsOk tithebarnref16_Write.T13.2 tithebarnref16_Write.B13 = true := by kernel_rfl
def tithebarnref16_Write.T14 : Bool × List (List Nat × List Nat) := (true, [([], []), ([], []), ([1], [1]), ([2], [2]), ([0, 3], [0, 3]), ([], []), ([5], [5]), ([6, 3], [6]), ([4, 7], [4, 7]), ([8, 7], [8]), ([9, 9, 0, 1, 2, 3, 4, 5, 6, 7, 8, 9], [9]), ([10, 0, 1, 2, 3, 4, 5, 6, 7, 8, 9, 10], [])])
def tithebarnref16_Write.B14 : List Nat := [0, 0, 2, 6, 15, 0, 32, 110, 255, 511, 1023, 2047]
theorem tithebarnref16_Write.tab14 : rtab .any (opsOf Try.f13 14) = tithebarnref16_Write.T14 := by kernel_rfl
theorem tithebarnref16_Write.bits14 : waitsOk tithebarnref16_Write.T14.2 tithebarnref16_Write.B14 = true := by kernel_rfl
set_option maxHeartbeats 8000000 in
set_option maxRecDepth 100000 in
theorem tithebarnref16_Write.calls (k : Nat) (A0_0 : Option Addr) (c0_0 : Nat) (l0_0 : List Int) (A0_1 : Option Addr) (c0_1 : Nat) (l0_1 : List (S36)) (a0_2 : Int) (a0_3 : Int) (r1 : ByteArray) (r2 : Int) (w : World) (hr0_0 : Kd.C (Kd.int .i64) w A0_0 l0_0.length l0_0) (hc0_0 : l0_0.length ≤ c0_0) (hr0_1 : Kd.C k36 w A0_1 l0_1.length l0_1) (hc0_1 : l0_1.length ≤ c0_1) (h : tithebarnref16_Write.f k l0_0 l0_1 a0_2 a0_3 = some (r1, r2)) :
    Calls Try.prog 13 #[.agg #[.slice A0_0 l0_0.length c0_0, .slice A0_1 l0_1.length c0_1, .int .i64 a0_2, .int .i64 a0_3]] w fun e w' => e = .returned (.tuple #[.string r1, .int .i64 r2]) ∧ Below w.heap.size w w' := by
  have hu32 := Try.underlying32
  have hu36 := Try.underlying36
  have hu34 := Try.underlying34
  have HR0_0 := Aside0.mk hr0_0
  have HC0_0 := Aside0.mk hc0_0
  clear hr0_0 hc0_0
  have HR0_1 := Aside0.mk hr0_1
  have HC0_1 := Aside0.mk hc0_1
  clear hr0_1 hc0_1
  have HB := Aside0.mk (Below.refl w.heap.size w)
  have H : ((tithebarnref16_Right.f k l0_0 l0_1 a0_2 a0_3).bind fun t325 => (if t325 = true then ((tithebarnref16_num.f k (l0_0.length : Int)).bind fun t326 => (tithebarnref16_Write.l0 k t326 0 l0_0 l0_1 a0_2 a0_3)) else (some ((⟨#[]⟩ : ByteArray), 1)))) = some (r1, r2) := h
  clear h
  replace H := Option.bind_eq_some_iff.mp H
  obtain ⟨t325, A20, H⟩ := H
  replace H : (if t325 = true then ((tithebarnref16_num.f k (l0_0.length : Int)).bind fun t326 => (tithebarnref16_Write.l0 k t326 0 l0_0 l0_1 a0_2 a0_3)) else (some ((⟨#[]⟩ : ByteArray), 1))) = some (r1, r2) := H
  have A2 := Aside0.mk A20
  clear A20
  by_cases c3 : t325 = true
  · subst c3
    have H1 : ((tithebarnref16_num.f k (l0_0.length : Int)).bind fun t326 => (tithebarnref16_Write.l0 k t326 0 l0_0 l0_1 a0_2 a0_3)) = some (r1, r2) := by rw [if_pos rfl] at H; exact H
    clear H
    have H := H1
    clear H1
    replace H := Option.bind_eq_some_iff.mp H
    obtain ⟨t326, A40, H⟩ := H
    replace H : (tithebarnref16_Write.l0 k t326 0 l0_0 l0_1 a0_2 a0_3) = some (r1, r2) := H
    have A4 := Aside0.mk A40
    clear A40
    have H' := Aside0.mk H
    clear H
    go_enter Try.func13, Try.ntmps13
    go_wp2_with (first | ((with_reducible refine gate_dst (N := 1) rfl ?_); refine box_event ?hg (N := 1) ?hd (cs := #[.slice A0_0 l0_0.length c0_0, .slice A0_1 l0_1.length c0_1, .int .i64 a0_2, .int .i64 a0_3]) (t := 32) ?hr ?_; (case hd => rfl); (case hg => rfl); (case hr => first | (go_simp; done) | (go_simp; rfl)); intro gb324 hg w5 hbox hb; have n0_ := Aside0.mk (below_step (by repeat (first | (with_reducible first | exact HB.out | apply below_alloc | apply pw_below_drewN | apply below_drew1) | exact HB.out)) hb); have n1_ := Aside0.mk (hbox); have n2_ := Aside0.mk ((by rw [hg]; exact (below_size (by repeat (first | (with_reducible first | exact HB.out | apply below_alloc | apply pw_below_drewN | apply below_drew1) | exact HB.out))) : w.heap.size ≤ gb324)); have n3_ := Aside0.mk ((by rw [hg]; exact (below_size (by repeat (first | (with_reducible first | exact HB.out | apply below_alloc | apply pw_below_drewN | apply below_drew1) | exact HB.out))) : w.heap.size ≤ gb324)); clear HB; have HB := n0_; have BK324 := n1_; have GW324 := n2_; have GE324 := n3_; clear n0_ n1_ n2_ n3_; clear hb hbox hg; have hcz6_0 : w5.cell? ⟨gb324, 0, none⟩ = some (.slice A0_0 l0_0.length c0_0) := (blk_cell BK324.out 0).trans rfl; have hcz6_1 : w5.cell? ⟨gb324, 1, none⟩ = some (.slice A0_1 l0_1.length c0_1) := (blk_cell BK324.out 1).trans rfl; have hcz6_2 : w5.cell? ⟨gb324, 2, none⟩ = some (.int .i64 a0_2) := (blk_cell BK324.out 2).trans rfl; have hcz6_3 : w5.cell? ⟨gb324, 3, none⟩ = some (.int .i64 a0_3) := (blk_cell BK324.out 3).trans rfl; have hfz6_0 := blk_frozen BK324.out 0; have hfz6_1 := blk_frozen BK324.out 1; have hfz6_2 := blk_frozen BK324.out 2; have hfz6_3 := blk_frozen BK324.out 3) | ((with_reducible refine gate_callee (f := 23) rfl ?_); refine goesL_ (some 9) rfl rfl Try.func23 (by kernel_rfl) rfl #[.agg #[.slice A0_0 l0_0.length c0_0, .slice A0_1 l0_1.length c0_1, .int .i64 a0_2, .int .i64 a0_3]] rfl (by (try simp only [List.map_toArray, List.map_cons, List.map_nil]); first | done | rfl | (simp only [List.length_drop, List.length_take]; rfl) | (go_simp; simp [IntKind.wrap, IntKind.bits, IntKind.signed]; omega)) ?_; (with_reducible refine (tithebarnref16_Right.calls k _ _ l0_0 _ _ l0_1 a0_2 a0_3 true _ ?side1 ?side2 ?side3 ?side4 A2.out).mono ?_); (case side1 => repeat (first | exact (Kd.C_below HR0_0.out HB.out) | (with_reducible refine Kd.C_alloc ?_ _) | (with_reducible refine Kd.C_drewN ?_ _) | (with_reducible refine Kd.C_drew ?_))); (case side2 => exact HC0_0.out); (case side3 => repeat (first | exact (Kd.C_below HR0_1.out HB.out) | (with_reducible refine Kd.C_alloc ?_ _) | (with_reducible refine Kd.C_drewN ?_ _) | (with_reducible refine Kd.C_drew ?_))); (case side4 => exact HC0_1.out); rintro e w7 ⟨rfl, hb⟩; refine ⟨_, rfl, ?_⟩; have n0_ := Aside0.mk (blk_below (g := gb324) (o := .cells #[.slice A0_0 l0_0.length c0_0, .slice A0_1 l0_1.length c0_1, .int .i64 a0_2, .int .i64 a0_3] 32 (0, 0)) (by (with_reducible repeat (first | refine blk_drewN ?_ _ | refine blk_drew ?_ | refine blk_alloc ?_ _)); exact BK324.out) hb); have n1_ := Aside0.mk (below_step (by repeat (first | (with_reducible first | exact HB.out | apply below_alloc | apply pw_below_drewN | apply below_drew1 | refine below_set ?_ GE324.out) | exact HB.out)) hb); clear BK324; clear HB; have BK324 := n0_; have HB := n1_; clear n0_ n1_; (try clear hb); (try clear hb2); (try clear hk); (try clear hi); have hcz8_0 : w7.cell? ⟨gb324, 0, none⟩ = some (.slice A0_0 l0_0.length c0_0) := (blk_cell BK324.out 0).trans rfl; have hcz8_1 : w7.cell? ⟨gb324, 1, none⟩ = some (.slice A0_1 l0_1.length c0_1) := (blk_cell BK324.out 1).trans rfl; have hcz8_2 : w7.cell? ⟨gb324, 2, none⟩ = some (.int .i64 a0_2) := (blk_cell BK324.out 2).trans rfl; have hcz8_3 : w7.cell? ⟨gb324, 3, none⟩ = some (.int .i64 a0_3) := (blk_cell BK324.out 3).trans rfl; have hfz8_0 := blk_frozen BK324.out 0; have hfz8_1 := blk_frozen BK324.out 1; have hfz8_2 := blk_frozen BK324.out 2; have hfz8_3 := blk_frozen BK324.out 3) | ((with_reducible refine gate_callee (f := 24) rfl ?_); refine goesL_ (some 14) rfl rfl Try.func24 (by kernel_rfl) rfl #[.int .i64 (l0_0.length : Int)] rfl (by (try simp only [List.map_toArray, List.map_cons, List.map_nil]); first | done | rfl | (simp only [List.length_drop, List.length_take]; rfl) | (go_simp; simp [IntKind.wrap, IntKind.bits, IntKind.signed]; omega)) ?_; (with_reducible refine (tithebarnref16_num.calls k (l0_0.length : Int) t326 _ A4.out).mono ?_); rintro e w9 ⟨rfl, hb⟩; refine ⟨_, rfl, ?_⟩; have n0_ := Aside0.mk (blk_below (g := gb324) (o := .cells #[.slice A0_0 l0_0.length c0_0, .slice A0_1 l0_1.length c0_1, .int .i64 a0_2, .int .i64 a0_3] 32 (0, 0)) (by (with_reducible repeat (first | refine blk_drewN ?_ _ | refine blk_drew ?_ | refine blk_alloc ?_ _)); exact BK324.out) hb); have n1_ := Aside0.mk (below_step (by repeat (first | (with_reducible first | exact HB.out | apply below_alloc | apply pw_below_drewN | apply below_drew1 | refine below_set ?_ GE324.out) | exact HB.out)) hb); clear BK324; clear HB; have BK324 := n0_; have HB := n1_; clear n0_ n1_; (try clear hb); (try clear hb2); (try clear hk); (try clear hi)))
    go_loopg [4, 5] k (fun kq v4 v5 w' => ∃ (x4_1 : ByteArray) (x5_1 : Int), v4 = .string x4_1 ∧ v5 = .int .i64 x5_1 ∧ Aside0 (tithebarnref16_Write.l0 kq x4_1 x5_1 l0_0 l0_1 a0_2 a0_3 = some (r1, r2)) ∧ Aside0 (kq ≤ k) ∧ Aside0 (w'.heap[gb324]? = some (.cells #[(.slice A0_0 l0_0.length c0_0), (.slice A0_1 l0_1.length c0_1), .int .i64 a0_2, .int .i64 a0_3] 32 (0, 0))) ∧ Aside0 (Below w.heap.size w w'))
    case atStart => exact ⟨(t326), (0), (by first | rfl | (simp; done) | (simp [*]; done)), (by first | rfl | (simp; done) | (simp [*]; done)), H', ⟨Nat.le_refl _⟩, ⟨by (with_reducible repeat (first | refine blk_drewN ?_ _ | refine blk_drew ?_ | refine blk_alloc ?_ _)); exact BK324.out⟩, ⟨by repeat (first | (with_reducible first | exact HB.out | apply below_alloc | apply pw_below_drewN | apply below_drew1 | refine below_set ?_ GE324.out) | exact HB.out)⟩⟩
    case round =>
      clear H'
      try clear c1
      try clear c2
      try clear p2
      try clear c3
      try clear hcz6_0
      try clear hcz6_1
      try clear hcz6_2
      try clear hcz6_3
      try clear hcz8_0
      try clear hcz8_1
      try clear hcz8_2
      try clear hcz8_3
      try clear hfz6_0
      try clear hfz6_1
      try clear hfz6_2
      try clear hfz6_3
      try clear hfz8_0
      try clear hfz8_1
      try clear hfz8_2
      try clear hfz8_3
      obtain ⟨x4_1, x5_1, rfl, rfl, HA, HK1, BK324, HB⟩ := hrel
      cases gk with
      | zero => exact absurd HA.out (by simp [tithebarnref16_Write.l0])
      | succ k1 =>
        have H := HA.out
        clear HA
        simp only [tithebarnref16_Write.l0] at H
        by_cases c10 : x5_1 < (l0_0.length : Int)
        · rw [if_pos c10] at H
          have c10b0 : decide (x5_1 < (l0_0.length : Int)) = true := decide_eq_true c10
          clear c10
          by_cases c11 : 0 ≤ x5_1
          · rw [if_pos c11] at H
            have c11b0 : decide (0 ≤ x5_1) = true := decide_eq_true c11
            clear c11
            replace H := Option.bind_eq_some_iff.mp H
            obtain ⟨t328, A120, H⟩ := H
            replace H : (if x4_1.size + t328.size ≤ 9223372036854775807 then (tithebarnref16_Write.l0 k1 (x4_1 ++ t328) (wrap64 (x5_1 + 1)) l0_0 l0_1 a0_2 a0_3) else (none)) = some (r1, r2) := H
            have A12 := Aside0.mk A120
            clear A120
            by_cases c13 : x4_1.size + t328.size ≤ 9223372036854775807
            · rw [if_pos c13] at H
              have c13b0 := eq_true c13
              have c13b1 : decide (x4_1.size + t328.size ≤ 9223372036854775807) = true := decide_eq_true c13
              try have c13b2 : (9223372036854775807 < x4_1.size + t328.size) = False := eq_false (Nat.not_lt.2 c13)
              try (have c13b3 := c13b2; simp only [ByteArray.size_append] at c13b3)
              try (have c13b4 := c13b0; simp only [ByteArray.size_append] at c13b4)
              try (have c13b5 := c13b1; simp only [ByteArray.size_append] at c13b5)
              have H' := Aside0.mk H
              clear H
              have hcz14_0 : wr.cell? ⟨gb324, 0, none⟩ = some (.slice A0_0 l0_0.length c0_0) := (blk_cell BK324.out 0).trans rfl
              have hcz14_1 : wr.cell? ⟨gb324, 1, none⟩ = some (.slice A0_1 l0_1.length c0_1) := (blk_cell BK324.out 1).trans rfl
              have hcz14_2 : wr.cell? ⟨gb324, 2, none⟩ = some (.int .i64 a0_2) := (blk_cell BK324.out 2).trans rfl
              have hcz14_3 : wr.cell? ⟨gb324, 3, none⟩ = some (.int .i64 a0_3) := (blk_cell BK324.out 3).trans rfl
              have hfz14_0 := blk_frozen BK324.out 0
              have hfz14_1 := blk_frozen BK324.out 1
              have hfz14_2 := blk_frozen BK324.out 2
              have hfz14_3 := blk_frozen BK324.out 3
              have p327 : 0 ≤ (x5_1 : Int) := of_decide_eq_true (by first | (with_reducible assumption) | assumption)
              have q327 : x5_1 < (l0_0.length : Int) := of_decide_eq_true (by first | (with_reducible assumption) | assumption)
              obtain ⟨ad327, e327, hx327_0⟩ := Kd.at_int HR0_0.out x5_1 p327 q327
              cases e327
              replace hx327_0 := (HB.out.cell (World.block_lt_of_cell? w _ hx327_0)).trans hx327_0
              replace p327 := eq_true p327
              replace q327 := eq_true q327
              go_wp2_with (first | ((with_reducible refine gate_callee (f := 24) rfl ?_); refine goesL_ (some 28) rfl rfl Try.func24 (by kernel_rfl) rfl #[.int .i64 (rd l0_0 x5_1)] rfl (by (try simp only [List.map_toArray, List.map_cons, List.map_nil]); first | done | rfl | (simp only [List.length_drop, List.length_take]; rfl) | (go_simp; simp [IntKind.wrap, IntKind.bits, IntKind.signed]; omega)) ?_; (with_reducible refine (tithebarnref16_num.calls k1 (rd l0_0 x5_1) t328 _ A12.out).mono ?_); rintro e w15 ⟨rfl, hb⟩; refine ⟨_, rfl, ?_⟩; have n0_ := Aside0.mk (blk_below (g := gb324) (o := .cells #[.slice (some ad327) l0_0.length c0_0, .slice A0_1 l0_1.length c0_1, .int .i64 a0_2, .int .i64 a0_3] 32 (0, 0)) (by (with_reducible repeat (first | refine blk_drewN ?_ _ | refine blk_drew ?_ | refine blk_alloc ?_ _)); exact BK324.out) hb); have n1_ := Aside0.mk (below_step (by repeat (first | (with_reducible first | exact HB.out | apply below_alloc | apply pw_below_drewN | apply below_drew1 | refine below_set ?_ GE324.out) | exact HB.out)) hb); clear BK324; clear HB; have BK324 := n0_; have HB := n1_; clear n0_ n1_; (try clear hb); (try clear hb2); (try clear hk); (try clear hi)))
              go_roundg k1
              case measure => have := HK1.out; omega
              case rel => exact ⟨(x4_1 ++ t328), (wrap64 (x5_1 + 1)), (by first | rfl | (simp; done) | (simp [*]; done)), (by first | rfl | (simp; done) | (simp [*]; done)), H', ⟨by have := HK1.out; omega⟩, ⟨by (with_reducible repeat (first | refine blk_drewN ?_ _ | refine blk_drew ?_ | refine blk_alloc ?_ _)); exact BK324.out⟩, ⟨by repeat (first | (with_reducible first | exact HB.out | apply below_alloc | apply pw_below_drewN | apply below_drew1 | refine below_set ?_ GE324.out) | exact HB.out)⟩⟩
            · rw [if_neg c13] at H
              exact absurd H (by simp)
          · rw [if_neg c11] at H
            exact absurd H (by simp)
        · rw [if_neg c10] at H
          have c10b0 : decide (x5_1 < (l0_0.length : Int)) = false := decide_eq_false c10
          clear c10
          replace H := Option.bind_eq_some_iff.mp H
          obtain ⟨t329, A160, H⟩ := H
          replace H : (if x4_1.size + t329.size ≤ 9223372036854775807 then (tithebarnref16_Write.l1 k1 (x4_1 ++ t329) 0 l0_0 l0_1 a0_2 a0_3) else (none)) = some (r1, r2) := H
          have A16 := Aside0.mk A160
          clear A160
          by_cases c17 : x4_1.size + t329.size ≤ 9223372036854775807
          · rw [if_pos c17] at H
            have c17b0 := eq_true c17
            have c17b1 : decide (x4_1.size + t329.size ≤ 9223372036854775807) = true := decide_eq_true c17
            try have c17b2 : (9223372036854775807 < x4_1.size + t329.size) = False := eq_false (Nat.not_lt.2 c17)
            try (have c17b3 := c17b2; simp only [ByteArray.size_append] at c17b3)
            try (have c17b4 := c17b0; simp only [ByteArray.size_append] at c17b4)
            try (have c17b5 := c17b1; simp only [ByteArray.size_append] at c17b5)
            have H' := Aside0.mk H
            clear H
            have hcz18_0 : wr.cell? ⟨gb324, 0, none⟩ = some (.slice A0_0 l0_0.length c0_0) := (blk_cell BK324.out 0).trans rfl
            have hcz18_1 : wr.cell? ⟨gb324, 1, none⟩ = some (.slice A0_1 l0_1.length c0_1) := (blk_cell BK324.out 1).trans rfl
            have hcz18_2 : wr.cell? ⟨gb324, 2, none⟩ = some (.int .i64 a0_2) := (blk_cell BK324.out 2).trans rfl
            have hcz18_3 : wr.cell? ⟨gb324, 3, none⟩ = some (.int .i64 a0_3) := (blk_cell BK324.out 3).trans rfl
            have hfz18_0 := blk_frozen BK324.out 0
            have hfz18_1 := blk_frozen BK324.out 1
            have hfz18_2 := blk_frozen BK324.out 2
            have hfz18_3 := blk_frozen BK324.out 3
            go_wp2_with (first | ((with_reducible refine gate_callee (f := 24) rfl ?_); refine goesL_ (some 34) rfl rfl Try.func24 (by kernel_rfl) rfl #[.int .i64 (l0_1.length : Int)] rfl (by (try simp only [List.map_toArray, List.map_cons, List.map_nil]); first | done | rfl | (simp only [List.length_drop, List.length_take]; rfl) | (go_simp; simp [IntKind.wrap, IntKind.bits, IntKind.signed]; omega)) ?_; (with_reducible refine (tithebarnref16_num.calls k1 (l0_1.length : Int) t329 _ A16.out).mono ?_); rintro e w19 ⟨rfl, hb⟩; refine ⟨_, rfl, ?_⟩; have n0_ := Aside0.mk (blk_below (g := gb324) (o := .cells #[.slice A0_0 l0_0.length c0_0, .slice A0_1 l0_1.length c0_1, .int .i64 a0_2, .int .i64 a0_3] 32 (0, 0)) (by (with_reducible repeat (first | refine blk_drewN ?_ _ | refine blk_drew ?_ | refine blk_alloc ?_ _)); exact BK324.out) hb); have n1_ := Aside0.mk (below_step (by repeat (first | (with_reducible first | exact HB.out | apply below_alloc | apply pw_below_drewN | apply below_drew1 | refine below_set ?_ GE324.out) | exact HB.out)) hb); clear BK324; clear HB; have BK324 := n0_; have HB := n1_; clear n0_ n1_; (try clear hb); (try clear hb2); (try clear hk); (try clear hi)))
            go_loopg [4, 6] k1 (fun kq v4 v6 w' => ∃ (x4_2 : ByteArray) (x6_2 : Int), v4 = .string x4_2 ∧ v6 = .int .i64 x6_2 ∧ Aside0 (tithebarnref16_Write.l1 kq x4_2 x6_2 l0_0 l0_1 a0_2 a0_3 = some (r1, r2)) ∧ Aside0 (kq ≤ k1) ∧ Aside0 (w'.heap[gb324]? = some (.cells #[(.slice A0_0 l0_0.length c0_0), (.slice A0_1 l0_1.length c0_1), .int .i64 a0_2, .int .i64 a0_3] 32 (0, 0))) ∧ Aside0 (Below w.heap.size w w'))
            case atStart => exact ⟨(x4_1 ++ t329), (0), (by first | rfl | (simp; done) | (simp [*]; done)), (by first | rfl | (simp; done) | (simp [*]; done)), H', ⟨Nat.le_refl _⟩, ⟨by (with_reducible repeat (first | refine blk_drewN ?_ _ | refine blk_drew ?_ | refine blk_alloc ?_ _)); exact BK324.out⟩, ⟨by repeat (first | (with_reducible first | exact HB.out | apply below_alloc | apply pw_below_drewN | apply below_drew1 | refine below_set ?_ GE324.out) | exact HB.out)⟩⟩
            case round =>
              clear H'
              try clear c1
              try clear c2
              try clear p2
              try clear c3
              try clear p3
              try clear q3
              try clear hx3
              try clear p6
              try clear c10
              try clear c10b0
              try clear c11
              try clear c11b0
              try clear c13
              try clear c13b0
              try clear c13b1
              try clear c13b2
              try clear c17
              try clear c17b0
              try clear c17b1
              try clear c17b2
              try clear hcz14_0
              try clear hcz14_1
              try clear hcz14_2
              try clear hcz14_3
              try clear hcz18_0
              try clear hcz18_1
              try clear hcz18_2
              try clear hcz18_3
              try clear hcz6_0
              try clear hcz6_1
              try clear hcz6_2
              try clear hcz6_3
              try clear hcz8_0
              try clear hcz8_1
              try clear hcz8_2
              try clear hcz8_3
              try clear hfz14_0
              try clear hfz14_1
              try clear hfz14_2
              try clear hfz14_3
              try clear hfz18_0
              try clear hfz18_1
              try clear hfz18_2
              try clear hfz18_3
              try clear hfz6_0
              try clear hfz6_1
              try clear hfz6_2
              try clear hfz6_3
              try clear hfz8_0
              try clear hfz8_1
              try clear hfz8_2
              try clear hfz8_3
              try clear hx327_0
              try clear p2
              try clear p327
              try clear q327
              obtain ⟨x4_2, x6_2, rfl, rfl, HA, HK2, BK324, HB⟩ := hrel
              cases gk with
              | zero => exact absurd HA.out (by simp [tithebarnref16_Write.l1])
              | succ k2 =>
                have H := HA.out
                clear HA
                simp only [tithebarnref16_Write.l1] at H
                by_cases c20 : x6_2 < (l0_1.length : Int)
                · rw [if_pos c20] at H
                  have c20b0 : decide (x6_2 < (l0_1.length : Int)) = true := decide_eq_true c20
                  clear c20
                  by_cases c21 : 0 ≤ x6_2
                  · rw [if_pos c21] at H
                    have c21b0 : decide (0 ≤ x6_2) = true := decide_eq_true c21
                    clear c21
                    replace H := Option.bind_eq_some_iff.mp H
                    obtain ⟨t335, A220, H⟩ := H
                    replace H : ((tithebarnref16_num.f k2 ((rd_T36 l0_1 x6_2).f1)).bind fun t336 => (if t335.size + t336.size ≤ 9223372036854775807 then ((tithebarnref16_value.f k2 ((rd_T36 l0_1 x6_2).f2.f0) ((rd_T36 l0_1 x6_2).f2.f1) ((rd_T36 l0_1 x6_2).f2.f2)).bind fun t337 => (if (t335 ++ t336).size + t337.size ≤ 9223372036854775807 then ((tithebarnref16_value.f k2 ((rd_T36 l0_1 x6_2).f3.f0) ((rd_T36 l0_1 x6_2).f3.f1) ((rd_T36 l0_1 x6_2).f3.f2)).bind fun t338 => (if ((t335 ++ t336) ++ t337).size + t338.size ≤ 9223372036854775807 then (if x4_2.size + (((t335 ++ t336) ++ t337) ++ t338).size ≤ 9223372036854775807 then (tithebarnref16_Write.l1 k2 (x4_2 ++ (((t335 ++ t336) ++ t337) ++ t338)) (wrap64 (x6_2 + 1)) l0_0 l0_1 a0_2 a0_3) else (none)) else (none))) else (none))) else (none))) = some (r1, r2) := H
                    have A22 := Aside0.mk A220
                    clear A220
                    replace H := Option.bind_eq_some_iff.mp H
                    obtain ⟨t336, A230, H⟩ := H
                    replace H : (if t335.size + t336.size ≤ 9223372036854775807 then ((tithebarnref16_value.f k2 ((rd_T36 l0_1 x6_2).f2.f0) ((rd_T36 l0_1 x6_2).f2.f1) ((rd_T36 l0_1 x6_2).f2.f2)).bind fun t337 => (if (t335 ++ t336).size + t337.size ≤ 9223372036854775807 then ((tithebarnref16_value.f k2 ((rd_T36 l0_1 x6_2).f3.f0) ((rd_T36 l0_1 x6_2).f3.f1) ((rd_T36 l0_1 x6_2).f3.f2)).bind fun t338 => (if ((t335 ++ t336) ++ t337).size + t338.size ≤ 9223372036854775807 then (if x4_2.size + (((t335 ++ t336) ++ t337) ++ t338).size ≤ 9223372036854775807 then (tithebarnref16_Write.l1 k2 (x4_2 ++ (((t335 ++ t336) ++ t337) ++ t338)) (wrap64 (x6_2 + 1)) l0_0 l0_1 a0_2 a0_3) else (none)) else (none))) else (none))) else (none)) = some (r1, r2) := H
                    have A23 := Aside0.mk A230
                    clear A230
                    by_cases c24 : t335.size + t336.size ≤ 9223372036854775807
                    · rw [if_pos c24] at H
                      have c24b0 := eq_true c24
                      have c24b1 : decide (t335.size + t336.size ≤ 9223372036854775807) = true := decide_eq_true c24
                      try have c24b2 : (9223372036854775807 < t335.size + t336.size) = False := eq_false (Nat.not_lt.2 c24)
                      try (have c24b3 := c24b2; simp only [ByteArray.size_append] at c24b3)
                      try (have c24b4 := c24b0; simp only [ByteArray.size_append] at c24b4)
                      try (have c24b5 := c24b1; simp only [ByteArray.size_append] at c24b5)
                      replace H := Option.bind_eq_some_iff.mp H
                      obtain ⟨t337, A250, H⟩ := H
                      replace H : (if (t335 ++ t336).size + t337.size ≤ 9223372036854775807 then ((tithebarnref16_value.f k2 ((rd_T36 l0_1 x6_2).f3.f0) ((rd_T36 l0_1 x6_2).f3.f1) ((rd_T36 l0_1 x6_2).f3.f2)).bind fun t338 => (if ((t335 ++ t336) ++ t337).size + t338.size ≤ 9223372036854775807 then (if x4_2.size + (((t335 ++ t336) ++ t337) ++ t338).size ≤ 9223372036854775807 then (tithebarnref16_Write.l1 k2 (x4_2 ++ (((t335 ++ t336) ++ t337) ++ t338)) (wrap64 (x6_2 + 1)) l0_0 l0_1 a0_2 a0_3) else (none)) else (none))) else (none)) = some (r1, r2) := H
                      have A25 := Aside0.mk A250
                      clear A250
                      by_cases c26 : (t335 ++ t336).size + t337.size ≤ 9223372036854775807
                      · rw [if_pos c26] at H
                        have c26b0 := eq_true c26
                        have c26b1 : decide ((t335 ++ t336).size + t337.size ≤ 9223372036854775807) = true := decide_eq_true c26
                        try have c26b2 : (9223372036854775807 < (t335 ++ t336).size + t337.size) = False := eq_false (Nat.not_lt.2 c26)
                        try (have c26b3 := c26b2; simp only [ByteArray.size_append] at c26b3)
                        try (have c26b4 := c26b0; simp only [ByteArray.size_append] at c26b4)
                        try (have c26b5 := c26b1; simp only [ByteArray.size_append] at c26b5)
                        replace H := Option.bind_eq_some_iff.mp H
                        obtain ⟨t338, A270, H⟩ := H
                        replace H : (if ((t335 ++ t336) ++ t337).size + t338.size ≤ 9223372036854775807 then (if x4_2.size + (((t335 ++ t336) ++ t337) ++ t338).size ≤ 9223372036854775807 then (tithebarnref16_Write.l1 k2 (x4_2 ++ (((t335 ++ t336) ++ t337) ++ t338)) (wrap64 (x6_2 + 1)) l0_0 l0_1 a0_2 a0_3) else (none)) else (none)) = some (r1, r2) := H
                        have A27 := Aside0.mk A270
                        clear A270
                        by_cases c28 : ((t335 ++ t336) ++ t337).size + t338.size ≤ 9223372036854775807
                        · rw [if_pos c28] at H
                          have c28b0 := eq_true c28
                          have c28b1 : decide (((t335 ++ t336) ++ t337).size + t338.size ≤ 9223372036854775807) = true := decide_eq_true c28
                          try have c28b2 : (9223372036854775807 < ((t335 ++ t336) ++ t337).size + t338.size) = False := eq_false (Nat.not_lt.2 c28)
                          try (have c28b3 := c28b2; simp only [ByteArray.size_append] at c28b3)
                          try (have c28b4 := c28b0; simp only [ByteArray.size_append] at c28b4)
                          try (have c28b5 := c28b1; simp only [ByteArray.size_append] at c28b5)
                          by_cases c29 : x4_2.size + (((t335 ++ t336) ++ t337) ++ t338).size ≤ 9223372036854775807
                          · rw [if_pos c29] at H
                            have c29b0 := eq_true c29
                            have c29b1 : decide (x4_2.size + (((t335 ++ t336) ++ t337) ++ t338).size ≤ 9223372036854775807) = true := decide_eq_true c29
                            try have c29b2 : (9223372036854775807 < x4_2.size + (((t335 ++ t336) ++ t337) ++ t338).size) = False := eq_false (Nat.not_lt.2 c29)
                            try (have c29b3 := c29b2; simp only [ByteArray.size_append] at c29b3)
                            try (have c29b4 := c29b0; simp only [ByteArray.size_append] at c29b4)
                            try (have c29b5 := c29b1; simp only [ByteArray.size_append] at c29b5)
                            have H' := Aside0.mk H
                            clear H
                            have hcz30_0 : wr.cell? ⟨gb324, 0, none⟩ = some (.slice A0_0 l0_0.length c0_0) := (blk_cell BK324.out 0).trans rfl
                            have hcz30_1 : wr.cell? ⟨gb324, 1, none⟩ = some (.slice A0_1 l0_1.length c0_1) := (blk_cell BK324.out 1).trans rfl
                            have hcz30_2 : wr.cell? ⟨gb324, 2, none⟩ = some (.int .i64 a0_2) := (blk_cell BK324.out 2).trans rfl
                            have hcz30_3 : wr.cell? ⟨gb324, 3, none⟩ = some (.int .i64 a0_3) := (blk_cell BK324.out 3).trans rfl
                            have hfz30_0 := blk_frozen BK324.out 0
                            have hfz30_1 := blk_frozen BK324.out 1
                            have hfz30_2 := blk_frozen BK324.out 2
                            have hfz30_3 := blk_frozen BK324.out 3
                            have p333 : 0 ≤ (x6_2 : Int) := of_decide_eq_true (by first | (with_reducible assumption) | assumption)
                            have q333 : x6_2 < (l0_1.length : Int) := of_decide_eq_true (by first | (with_reducible assumption) | assumption)
                            obtain ⟨ad333, e333, hx333_0, hx333_1, hx333_2, hx333_3, hx333_4, hx333_5, hx333_6, hx333_7⟩ := at_T36 HR0_1.out x6_2 p333 q333
                            cases e333
                            replace hx333_0 := (HB.out.cell (World.block_lt_of_cell? w _ hx333_0)).trans hx333_0
                            replace hx333_1 := (HB.out.cell (World.block_lt_of_cell? w _ hx333_1)).trans hx333_1
                            replace hx333_2 := (HB.out.cell (World.block_lt_of_cell? w _ hx333_2)).trans hx333_2
                            replace hx333_3 := (HB.out.cell (World.block_lt_of_cell? w _ hx333_3)).trans hx333_3
                            replace hx333_4 := (HB.out.cell (World.block_lt_of_cell? w _ hx333_4)).trans hx333_4
                            replace hx333_5 := (HB.out.cell (World.block_lt_of_cell? w _ hx333_5)).trans hx333_5
                            replace hx333_6 := (HB.out.cell (World.block_lt_of_cell? w _ hx333_6)).trans hx333_6
                            replace hx333_7 := (HB.out.cell (World.block_lt_of_cell? w _ hx333_7)).trans hx333_7
                            replace p333 := eq_true p333
                            replace q333 := eq_true q333
                            try go_wp2_with (first | ((with_reducible refine gate_dst (N := 7) rfl ?_); refine box_event ?hg (N := 7) ?hd (cs := #[.int .i64 0, .int .i64 0, .bool false, .int .i64 0, .string (⟨#[]⟩ : ByteArray), .bool false, .int .i64 0, .string (⟨#[]⟩ : ByteArray)]) (t := 36) ?hr ?_; (case hd => rfl); (case hg => rfl); (case hr => first | (go_simp; done) | (go_simp; rfl)); intro gb334 hg w31 hbox hb; have n0_ := Aside0.mk (blk_below (g := gb324) (o := .cells #[.slice A0_0 l0_0.length c0_0, .slice (some ad333) l0_1.length c0_1, .int .i64 a0_2, .int .i64 a0_3] 32 (0, 0)) (by (with_reducible repeat (first | refine blk_drewN ?_ _ | refine blk_drew ?_ | refine blk_alloc ?_ _)); exact BK324.out) hb); have n1_ := Aside0.mk (below_step (by repeat (first | (with_reducible first | exact HB.out | apply below_alloc | apply pw_below_drewN | apply below_drew1 | refine below_set ?_ GE324.out) | exact HB.out)) hb); have n2_ := Aside0.mk (hbox); have n3_ := Aside0.mk ((by rw [hg]; exact (below_size (by repeat (first | (with_reducible first | exact HB.out | apply below_alloc | apply pw_below_drewN | apply below_drew1 | refine below_set ?_ GE324.out) | exact HB.out))) : w.heap.size ≤ gb334)); have n4_ := Aside0.mk ((by rw [hg]; exact (below_size (by repeat (first | (with_reducible first | exact HB.out | apply below_alloc | apply pw_below_drewN | apply below_drew1 | refine below_set ?_ GE324.out) | exact HB.out))) : w.heap.size ≤ gb334)); have n5_ := Aside0.mk ((by rw [hg]; exact Nat.ne_of_lt (blk_lt (g := gb324) (o := .cells #[.slice A0_0 l0_0.length c0_0, .slice (some ad333) l0_1.length c0_1, .int .i64 a0_2, .int .i64 a0_3] 32 (0, 0)) (by (with_reducible repeat (first | refine blk_drewN ?_ _ | refine blk_drew ?_ | refine blk_alloc ?_ _)); exact BK324.out)) : gb324 ≠ gb334)); have n6_ := Aside0.mk ((by rw [hg]; exact Nat.ne_of_gt (blk_lt (g := gb324) (o := .cells #[.slice A0_0 l0_0.length c0_0, .slice (some ad333) l0_1.length c0_1, .int .i64 a0_2, .int .i64 a0_3] 32 (0, 0)) (by (with_reducible repeat (first | refine blk_drewN ?_ _ | refine blk_drew ?_ | refine blk_alloc ?_ _)); exact BK324.out)) : gb334 ≠ gb324)); clear BK324; clear HB; have BK324 := n0_; have HB := n1_; have BK334 := n2_; have GW334 := n3_; have GE334 := n4_; have NB324_334 := n5_; have NB334_324 := n6_; clear n0_ n1_ n2_ n3_ n4_ n5_ n6_; clear hb hbox hg; have hnb32 := NB334_324.out; have hnc32 := NB324_334.out; have hcz33_0 : w31.cell? ⟨gb334, 0, none⟩ = some (.int .i64 0) := (blk_cell BK334.out 0).trans rfl; have hcz33_1 : w31.cell? ⟨gb334, 1, none⟩ = some (.int .i64 0) := (blk_cell BK334.out 1).trans rfl; have hcz33_2 : w31.cell? ⟨gb334, 2, none⟩ = some (.bool false) := (blk_cell BK334.out 2).trans rfl; have hcz33_3 : w31.cell? ⟨gb334, 3, none⟩ = some (.int .i64 0) := (blk_cell BK334.out 3).trans rfl; have hcz33_4 : w31.cell? ⟨gb334, 4, none⟩ = some (.string (⟨#[]⟩ : ByteArray)) := (blk_cell BK334.out 4).trans rfl; have hcz33_5 : w31.cell? ⟨gb334, 5, none⟩ = some (.bool false) := (blk_cell BK334.out 5).trans rfl; have hcz33_6 : w31.cell? ⟨gb334, 6, none⟩ = some (.int .i64 0) := (blk_cell BK334.out 6).trans rfl; have hcz33_7 : w31.cell? ⟨gb334, 7, none⟩ = some (.string (⟨#[]⟩ : ByteArray)) := (blk_cell BK334.out 7).trans rfl; have hfz33_0 := blk_frozen BK334.out 0; have hfz33_1 := blk_frozen BK334.out 1; have hfz33_2 := blk_frozen BK334.out 2; have hfz33_3 := blk_frozen BK334.out 3; have hfz33_4 := blk_frozen BK334.out 4; have hfz33_5 := blk_frozen BK334.out 5; have hfz33_6 := blk_frozen BK334.out 6; have hfz33_7 := blk_frozen BK334.out 7))
                            have n0_ : Aside0 (((((((((w31.setCell ⟨gb334, 0, none⟩ (.int .i64 ((rd_T36 l0_1 x6_2).f0))).setCell ⟨gb334, 1, none⟩ (.int .i64 ((rd_T36 l0_1 x6_2).f1))).setCell ⟨gb334, 2, none⟩ (.bool ((rd_T36 l0_1 x6_2).f2.f0))).setCell ⟨gb334, 3, none⟩ (.int .i64 ((rd_T36 l0_1 x6_2).f2.f1))).setCell ⟨gb334, 4, none⟩ (.string ((rd_T36 l0_1 x6_2).f2.f2))).setCell ⟨gb334, 5, none⟩ (.bool ((rd_T36 l0_1 x6_2).f3.f0))).setCell ⟨gb334, 6, none⟩ (.int .i64 ((rd_T36 l0_1 x6_2).f3.f1))).setCell ⟨gb334, 7, none⟩ (.string ((rd_T36 l0_1 x6_2).f3.f2))).heap[gb324]? = some (.cells #[.slice A0_0 l0_0.length c0_0, .slice (some ad333) l0_1.length c0_1, .int .i64 a0_2, .int .i64 a0_3] 32 (0, 0))) := ⟨by (with_reducible repeat (first | refine blk_drewN ?_ _ | refine blk_drew ?_ | refine blk_alloc ?_ _)); refine blk_far ?_ NB324_334.out _; (with_reducible repeat (first | refine blk_drewN ?_ _ | refine blk_drew ?_ | refine blk_alloc ?_ _)); refine blk_far ?_ NB324_334.out _; (with_reducible repeat (first | refine blk_drewN ?_ _ | refine blk_drew ?_ | refine blk_alloc ?_ _)); refine blk_far ?_ NB324_334.out _; (with_reducible repeat (first | refine blk_drewN ?_ _ | refine blk_drew ?_ | refine blk_alloc ?_ _)); refine blk_far ?_ NB324_334.out _; (with_reducible repeat (first | refine blk_drewN ?_ _ | refine blk_drew ?_ | refine blk_alloc ?_ _)); refine blk_far ?_ NB324_334.out _; (with_reducible repeat (first | refine blk_drewN ?_ _ | refine blk_drew ?_ | refine blk_alloc ?_ _)); refine blk_far ?_ NB324_334.out _; (with_reducible repeat (first | refine blk_drewN ?_ _ | refine blk_drew ?_ | refine blk_alloc ?_ _)); refine blk_far ?_ NB324_334.out _; (with_reducible repeat (first | refine blk_drewN ?_ _ | refine blk_drew ?_ | refine blk_alloc ?_ _)); refine blk_far ?_ NB324_334.out _; (with_reducible repeat (first | refine blk_drewN ?_ _ | refine blk_drew ?_ | refine blk_alloc ?_ _)); exact BK324.out⟩
                            have n1_ : Aside0 (((((((((w31.setCell ⟨gb334, 0, none⟩ (.int .i64 ((rd_T36 l0_1 x6_2).f0))).setCell ⟨gb334, 1, none⟩ (.int .i64 ((rd_T36 l0_1 x6_2).f1))).setCell ⟨gb334, 2, none⟩ (.bool ((rd_T36 l0_1 x6_2).f2.f0))).setCell ⟨gb334, 3, none⟩ (.int .i64 ((rd_T36 l0_1 x6_2).f2.f1))).setCell ⟨gb334, 4, none⟩ (.string ((rd_T36 l0_1 x6_2).f2.f2))).setCell ⟨gb334, 5, none⟩ (.bool ((rd_T36 l0_1 x6_2).f3.f0))).setCell ⟨gb334, 6, none⟩ (.int .i64 ((rd_T36 l0_1 x6_2).f3.f1))).setCell ⟨gb334, 7, none⟩ (.string ((rd_T36 l0_1 x6_2).f3.f2))).heap[gb334]? = some (.cells #[.int .i64 ((rd_T36 l0_1 x6_2).f0), .int .i64 ((rd_T36 l0_1 x6_2).f1), .bool ((rd_T36 l0_1 x6_2).f2.f0), .int .i64 ((rd_T36 l0_1 x6_2).f2.f1), .string ((rd_T36 l0_1 x6_2).f2.f2), .bool ((rd_T36 l0_1 x6_2).f3.f0), .int .i64 ((rd_T36 l0_1 x6_2).f3.f1), .string ((rd_T36 l0_1 x6_2).f3.f2)] 36 (0, 0))) := ⟨by (with_reducible repeat (first | refine blk_drewN ?_ _ | refine blk_drew ?_ | refine blk_alloc ?_ _)); refine blk_put (cs := #[.int .i64 ((rd_T36 l0_1 x6_2).f0), .int .i64 ((rd_T36 l0_1 x6_2).f1), .bool ((rd_T36 l0_1 x6_2).f2.f0), .int .i64 ((rd_T36 l0_1 x6_2).f2.f1), .string ((rd_T36 l0_1 x6_2).f2.f2), .bool ((rd_T36 l0_1 x6_2).f3.f0), .int .i64 ((rd_T36 l0_1 x6_2).f3.f1), .string (⟨#[]⟩ : ByteArray)]) ?_ 7 _ rfl; (with_reducible repeat (first | refine blk_drewN ?_ _ | refine blk_drew ?_ | refine blk_alloc ?_ _)); refine blk_put (cs := #[.int .i64 ((rd_T36 l0_1 x6_2).f0), .int .i64 ((rd_T36 l0_1 x6_2).f1), .bool ((rd_T36 l0_1 x6_2).f2.f0), .int .i64 ((rd_T36 l0_1 x6_2).f2.f1), .string ((rd_T36 l0_1 x6_2).f2.f2), .bool ((rd_T36 l0_1 x6_2).f3.f0), .int .i64 0, .string (⟨#[]⟩ : ByteArray)]) ?_ 6 _ rfl; (with_reducible repeat (first | refine blk_drewN ?_ _ | refine blk_drew ?_ | refine blk_alloc ?_ _)); refine blk_put (cs := #[.int .i64 ((rd_T36 l0_1 x6_2).f0), .int .i64 ((rd_T36 l0_1 x6_2).f1), .bool ((rd_T36 l0_1 x6_2).f2.f0), .int .i64 ((rd_T36 l0_1 x6_2).f2.f1), .string ((rd_T36 l0_1 x6_2).f2.f2), .bool false, .int .i64 0, .string (⟨#[]⟩ : ByteArray)]) ?_ 5 _ rfl; (with_reducible repeat (first | refine blk_drewN ?_ _ | refine blk_drew ?_ | refine blk_alloc ?_ _)); refine blk_put (cs := #[.int .i64 ((rd_T36 l0_1 x6_2).f0), .int .i64 ((rd_T36 l0_1 x6_2).f1), .bool ((rd_T36 l0_1 x6_2).f2.f0), .int .i64 ((rd_T36 l0_1 x6_2).f2.f1), .string (⟨#[]⟩ : ByteArray), .bool false, .int .i64 0, .string (⟨#[]⟩ : ByteArray)]) ?_ 4 _ rfl; (with_reducible repeat (first | refine blk_drewN ?_ _ | refine blk_drew ?_ | refine blk_alloc ?_ _)); refine blk_put (cs := #[.int .i64 ((rd_T36 l0_1 x6_2).f0), .int .i64 ((rd_T36 l0_1 x6_2).f1), .bool ((rd_T36 l0_1 x6_2).f2.f0), .int .i64 0, .string (⟨#[]⟩ : ByteArray), .bool false, .int .i64 0, .string (⟨#[]⟩ : ByteArray)]) ?_ 3 _ rfl; (with_reducible repeat (first | refine blk_drewN ?_ _ | refine blk_drew ?_ | refine blk_alloc ?_ _)); refine blk_put (cs := #[.int .i64 ((rd_T36 l0_1 x6_2).f0), .int .i64 ((rd_T36 l0_1 x6_2).f1), .bool false, .int .i64 0, .string (⟨#[]⟩ : ByteArray), .bool false, .int .i64 0, .string (⟨#[]⟩ : ByteArray)]) ?_ 2 _ rfl; (with_reducible repeat (first | refine blk_drewN ?_ _ | refine blk_drew ?_ | refine blk_alloc ?_ _)); refine blk_put (cs := #[.int .i64 ((rd_T36 l0_1 x6_2).f0), .int .i64 0, .bool false, .int .i64 0, .string (⟨#[]⟩ : ByteArray), .bool false, .int .i64 0, .string (⟨#[]⟩ : ByteArray)]) ?_ 1 _ rfl; (with_reducible repeat (first | refine blk_drewN ?_ _ | refine blk_drew ?_ | refine blk_alloc ?_ _)); refine blk_put (cs := #[.int .i64 0, .int .i64 0, .bool false, .int .i64 0, .string (⟨#[]⟩ : ByteArray), .bool false, .int .i64 0, .string (⟨#[]⟩ : ByteArray)]) ?_ 0 _ rfl; (with_reducible repeat (first | refine blk_drewN ?_ _ | refine blk_drew ?_ | refine blk_alloc ?_ _)); exact BK334.out⟩
                            have n2_ : Aside0 (Below w.heap.size w ((((((((w31.setCell ⟨gb334, 0, none⟩ (.int .i64 ((rd_T36 l0_1 x6_2).f0))).setCell ⟨gb334, 1, none⟩ (.int .i64 ((rd_T36 l0_1 x6_2).f1))).setCell ⟨gb334, 2, none⟩ (.bool ((rd_T36 l0_1 x6_2).f2.f0))).setCell ⟨gb334, 3, none⟩ (.int .i64 ((rd_T36 l0_1 x6_2).f2.f1))).setCell ⟨gb334, 4, none⟩ (.string ((rd_T36 l0_1 x6_2).f2.f2))).setCell ⟨gb334, 5, none⟩ (.bool ((rd_T36 l0_1 x6_2).f3.f0))).setCell ⟨gb334, 6, none⟩ (.int .i64 ((rd_T36 l0_1 x6_2).f3.f1))).setCell ⟨gb334, 7, none⟩ (.string ((rd_T36 l0_1 x6_2).f3.f2)))) := ⟨by repeat (first | (with_reducible first | exact HB.out | apply below_alloc | apply pw_below_drewN | apply below_drew1 | refine below_set ?_ GE324.out | refine below_set ?_ GE334.out) | exact HB.out)⟩
                            (try clear BK324)
                            (try clear BK334)
                            (try clear HB)
                            generalize ((((((((w31.setCell ⟨gb334, 0, none⟩ (.int .i64 ((rd_T36 l0_1 x6_2).f0))).setCell ⟨gb334, 1, none⟩ (.int .i64 ((rd_T36 l0_1 x6_2).f1))).setCell ⟨gb334, 2, none⟩ (.bool ((rd_T36 l0_1 x6_2).f2.f0))).setCell ⟨gb334, 3, none⟩ (.int .i64 ((rd_T36 l0_1 x6_2).f2.f1))).setCell ⟨gb334, 4, none⟩ (.string ((rd_T36 l0_1 x6_2).f2.f2))).setCell ⟨gb334, 5, none⟩ (.bool ((rd_T36 l0_1 x6_2).f3.f0))).setCell ⟨gb334, 6, none⟩ (.int .i64 ((rd_T36 l0_1 x6_2).f3.f1))).setCell ⟨gb334, 7, none⟩ (.string ((rd_T36 l0_1 x6_2).f3.f2))) = w34 at n0_ n1_ n2_ ⊢
                            have BK324 := n0_
                            have BK334 := n1_
                            have HB := n2_
                            clear n0_ n1_ n2_
                            have n0_ := Aside0.mk (blk_drew BK324.out)
                            have n1_ := Aside0.mk (blk_drew BK334.out)
                            have n2_ := Aside0.mk (below_drew1 HB.out)
                            clear BK324
                            clear BK334
                            clear HB
                            have BK324 := n0_
                            have BK334 := n1_
                            have HB := n2_
                            clear n0_ n1_ n2_
                            refine start_ (n := 18) (S := fun w' => w'.cell? ⟨gb334, 0, none⟩ = some (.int .i64 ((rd_T36 l0_1 x6_2).f0)) ∧ w'.cell? ⟨gb334, 1, none⟩ = some (.int .i64 ((rd_T36 l0_1 x6_2).f1)) ∧ w'.cell? ⟨gb334, 2, none⟩ = some (.bool ((rd_T36 l0_1 x6_2).f2.f0)) ∧ w'.cell? ⟨gb334, 3, none⟩ = some (.int .i64 ((rd_T36 l0_1 x6_2).f2.f1)) ∧ w'.cell? ⟨gb334, 4, none⟩ = some (.string ((rd_T36 l0_1 x6_2).f2.f2)) ∧ w'.cell? ⟨gb334, 5, none⟩ = some (.bool ((rd_T36 l0_1 x6_2).f3.f0)) ∧ w'.cell? ⟨gb334, 6, none⟩ = some (.int .i64 ((rd_T36 l0_1 x6_2).f3.f1)) ∧ w'.cell? ⟨gb334, 7, none⟩ = some (.string ((rd_T36 l0_1 x6_2).f3.f2))) (ds := []) #[false, false, false, false, false, false, false, false, false, false, false, false, false, false, false, false, false, false] (by kernel_rfl) rfl rfl ⟨(blk_cell BK334.out 0).trans rfl, (blk_cell BK334.out 1).trans rfl, (blk_cell BK334.out 2).trans rfl, (blk_cell BK334.out 3).trans rfl, (blk_cell BK334.out 4).trans rfl, (blk_cell BK334.out 5).trans rfl, (blk_cell BK334.out 6).trans rfl, (blk_cell BK334.out 7).trans rfl⟩ (fun hHeld => ?_); refine with_tabW tithebarnref16_Write.tab13 tithebarnref16_Write.bits13 (fun HT_ HW_ => ?_)
                            generalize w34.drew = w35 at BK324 BK334 HB hHeld ⊢
                            refine pure_ (i := 0) (N := some 48) (v := ?_) (a' := ?_) #[true, false, false, false, false, false, false, false, false, false, false, false, false, false, false, false, false, false] rfl rfl (any_of HT_.out (by kernel_rfl)) (fun _ _ _ h => h) (Or.inl ⟨by rfl, ?_⟩) ?_ ?_
                            rotate_left
                            · intro w'
                              go_simp
                              with_reducible rfl
                            rotate_left
                            · simp only [Act.put, List.setIfInBounds_toArray, List.set_cons_zero, List.set_cons_succ, i64_w, i32_w]
                              rfl
                            refine pure_ (i := 1) (N := some 49) (v := ?_) (a' := ?_) #[true, true, false, false, false, false, false, false, false, false, false, false, false, false, false, false, false, false] rfl rfl (any_of HT_.out (by kernel_rfl)) (fun _ _ _ h => h) (Or.inl ⟨by rfl, ?_⟩) ?_ ?_
                            rotate_left
                            · intro w'
                              go_simp
                              with_reducible rfl
                            rotate_left
                            · simp only [Act.put, List.setIfInBounds_toArray, List.set_cons_zero, List.set_cons_succ, i64_w, i32_w]
                              rfl
                            refine pure_ (i := 4) (N := some 52) (v := ?_) (a' := ?_) #[true, true, false, false, true, false, false, false, false, false, false, false, false, false, false, false, false, false] rfl rfl (any_of HT_.out (by kernel_rfl)) (fun _ _ _ h => h) (Or.inl ⟨by rfl, ?_⟩) ?_ ?_
                            rotate_left
                            · intro w'
                              go_simp
                              with_reducible rfl
                            rotate_left
                            · simp only [Act.put, List.setIfInBounds_toArray, List.set_cons_zero, List.set_cons_succ, i64_w, i32_w]
                              rfl
                            refine pure_ (i := 8) (N := some 56) (v := ?_) (a' := ?_) #[true, true, false, false, true, false, false, false, true, false, false, false, false, false, false, false, false, false] rfl rfl (any_of HT_.out (by kernel_rfl)) (fun _ _ _ h => h) (Or.inl ⟨by rfl, ?_⟩) ?_ ?_
                            rotate_left
                            · intro w'
                              go_simp
                              with_reducible rfl
                            rotate_left
                            · simp only [Act.put, List.setIfInBounds_toArray, List.set_cons_zero, List.set_cons_succ, i64_w, i32_w]
                              rfl
                            refine pure_ (i := 12) (N := some 60) (v := ?_) (a' := ?_) #[true, true, false, false, true, false, false, false, true, false, false, false, true, false, false, false, false, false] rfl rfl (any_of HT_.out (by kernel_rfl)) (fun _ _ _ h => h) (Or.inl ⟨by rfl, ?_⟩) ?_ ?_
                            rotate_left
                            · intro w'
                              go_simp
                              with_reducible rfl
                            rotate_left
                            · simp only [Act.put, List.setIfInBounds_toArray, List.set_cons_zero, List.set_cons_succ, i64_w, i32_w]
                              rfl
                            refine take_ (i := 2) (N := some 50) (v := ?_) (a' := ?_) #[true, true, true, false, true, false, false, false, true, false, false, false, true, false, false, false, false, false] rfl rfl (take_ofW HT_.out HW_.out (by kernel_rfl)) (fun _ _ _ h => h) (Or.inl ⟨by rfl, ?_⟩) hHeld ?_ ?_
                            rotate_left
                            · rintro w' ⟨s0, s1, s2, s3, s4, s5, s6, s7⟩
                              go_simp
                              with_reducible rfl
                            rotate_left
                            · simp only [Act.put, List.setIfInBounds_toArray, List.set_cons_zero, List.set_cons_succ, i64_w, i32_w]
                              rfl
                            refine take_ (i := 5) (N := some 53) (v := ?_) (a' := ?_) #[true, true, true, false, true, true, false, false, true, false, false, false, true, false, false, false, false, false] rfl rfl (take_ofW HT_.out HW_.out (by kernel_rfl)) (fun _ _ _ h => h) (Or.inl ⟨by rfl, ?_⟩) hHeld ?_ ?_
                            rotate_left
                            · rintro w' ⟨s0, s1, s2, s3, s4, s5, s6, s7⟩
                              go_simp
                              with_reducible rfl
                            rotate_left
                            · simp only [Act.put, List.setIfInBounds_toArray, List.set_cons_zero, List.set_cons_succ, i64_w, i32_w]
                              rfl
                            refine take_ (i := 9) (N := some 57) (v := ?_) (a' := ?_) #[true, true, true, false, true, true, false, false, true, true, false, false, true, false, false, false, false, false] rfl rfl (take_ofW HT_.out HW_.out (by kernel_rfl)) (fun _ _ _ h => h) (Or.inl ⟨by rfl, ?_⟩) hHeld ?_ ?_
                            rotate_left
                            · rintro w' ⟨s0, s1, s2, s3, s4, s5, s6, s7⟩
                              go_simp
                              with_reducible rfl
                            rotate_left
                            · simp only [Act.put, List.setIfInBounds_toArray, List.set_cons_zero, List.set_cons_succ, i64_w, i32_w]
                              rfl
                            refine take_ (i := 13) (N := some 61) (v := ?_) (a' := ?_) #[true, true, true, false, true, true, false, false, true, true, false, false, true, true, false, false, false, false] rfl rfl (take_ofW HT_.out HW_.out (by kernel_rfl)) (fun _ _ _ h => h) (Or.inl ⟨by rfl, ?_⟩) hHeld ?_ ?_
                            rotate_left
                            · rintro w' ⟨s0, s1, s2, s3, s4, s5, s6, s7⟩
                              go_simp
                              with_reducible rfl
                            rotate_left
                            · simp only [Act.put, List.setIfInBounds_toArray, List.set_cons_zero, List.set_cons_succ, i64_w, i32_w]
                              rfl
                            refine one_ (i := 3) (N := some 51) #[true, true, true, true, true, true, false, false, true, true, false, false, true, true, false, false, false, false] rfl rfl (one_of HT_.out (by kernel_rfl)) (by decide) (fun K hK => ?_)
                            refine goes_ Try.func24 (by kernel_rfl) rfl #[.int .i64 ((rd_T36 l0_1 x6_2).f0)] (by rfl) rfl rfl (by (try simp only [List.map_toArray, List.map_cons, List.map_nil]); first | done | rfl | (simp only [List.length_drop, List.length_take]; rfl)) ?_
                            with_reducible refine (tithebarnref16_num.calls k2 ((rd_T36 l0_1 x6_2).f0) t335 _ A22.out).mono ?_
                            rintro e w36 ⟨rfl, hb⟩
                            refine ⟨_, rfl, ?_⟩
                            have n0_ := Aside0.mk (blk_below (g := gb324) (o := .cells #[.slice A0_0 l0_0.length c0_0, .slice (some ad333) l0_1.length c0_1, .int .i64 a0_2, .int .i64 a0_3] 32 (0, 0)) (by (with_reducible repeat (first | refine blk_drewN ?_ _ | refine blk_drew ?_ | refine blk_alloc ?_ _)); exact BK324.out) hb)
                            have n1_ := Aside0.mk (blk_below (g := gb334) (o := .cells #[.int .i64 ((rd_T36 l0_1 x6_2).f0), .int .i64 ((rd_T36 l0_1 x6_2).f1), .bool ((rd_T36 l0_1 x6_2).f2.f0), .int .i64 ((rd_T36 l0_1 x6_2).f2.f1), .string ((rd_T36 l0_1 x6_2).f2.f2), .bool ((rd_T36 l0_1 x6_2).f3.f0), .int .i64 ((rd_T36 l0_1 x6_2).f3.f1), .string ((rd_T36 l0_1 x6_2).f3.f2)] 36 (0, 0)) (by (with_reducible repeat (first | refine blk_drewN ?_ _ | refine blk_drew ?_ | refine blk_alloc ?_ _)); exact BK334.out) hb)
                            have n2_ := Aside0.mk (below_step (by repeat (first | (with_reducible first | exact HB.out | apply below_alloc | apply pw_below_drewN | apply below_drew1 | refine below_set ?_ GE324.out | refine below_set ?_ GE334.out) | exact HB.out)) hb)
                            clear BK324
                            clear BK334
                            clear HB
                            have BK324 := n0_
                            have BK334 := n1_
                            have HB := n2_
                            clear n0_ n1_ n2_
                            (try clear hb)
                            (try clear hb2)
                            (try clear hk)
                            (try clear hi)
                            refine hK.out _ _ ⟨(blk_cell BK334.out 0).trans rfl, (blk_cell BK334.out 1).trans rfl, (blk_cell BK334.out 2).trans rfl, (blk_cell BK334.out 3).trans rfl, (blk_cell BK334.out 4).trans rfl, (blk_cell BK334.out 5).trans rfl, (blk_cell BK334.out 6).trans rfl, (blk_cell BK334.out 7).trans rfl⟩ (fun hHeld => ?_)
                            clear hK K
                            refine norm_ (a' := ?_) ?_ ?_
                            rotate_left
                            · show Act.put _ (some 51) _ = _
                              simp only [Act.put, List.setIfInBounds_toArray, List.set_cons_zero, List.set_cons_succ, i64_w, i32_w]
                              rfl
                            refine one_ (i := 6) (N := some 54) #[true, true, true, true, true, true, true, false, true, true, false, false, true, true, false, false, false, false] rfl rfl (one_of HT_.out (by kernel_rfl)) (by decide) (fun K hK => ?_)
                            refine goes_ Try.func24 (by kernel_rfl) rfl #[.int .i64 ((rd_T36 l0_1 x6_2).f1)] (by rfl) rfl rfl (by (try simp only [List.map_toArray, List.map_cons, List.map_nil]); first | done | rfl | (simp only [List.length_drop, List.length_take]; rfl)) ?_
                            with_reducible refine (tithebarnref16_num.calls k2 ((rd_T36 l0_1 x6_2).f1) t336 _ A23.out).mono ?_
                            rintro e w37 ⟨rfl, hb⟩
                            refine ⟨_, rfl, ?_⟩
                            have n0_ := Aside0.mk (blk_below (g := gb324) (o := .cells #[.slice A0_0 l0_0.length c0_0, .slice (some ad333) l0_1.length c0_1, .int .i64 a0_2, .int .i64 a0_3] 32 (0, 0)) (by (with_reducible repeat (first | refine blk_drewN ?_ _ | refine blk_drew ?_ | refine blk_alloc ?_ _)); exact BK324.out) hb)
                            have n1_ := Aside0.mk (blk_below (g := gb334) (o := .cells #[.int .i64 ((rd_T36 l0_1 x6_2).f0), .int .i64 ((rd_T36 l0_1 x6_2).f1), .bool ((rd_T36 l0_1 x6_2).f2.f0), .int .i64 ((rd_T36 l0_1 x6_2).f2.f1), .string ((rd_T36 l0_1 x6_2).f2.f2), .bool ((rd_T36 l0_1 x6_2).f3.f0), .int .i64 ((rd_T36 l0_1 x6_2).f3.f1), .string ((rd_T36 l0_1 x6_2).f3.f2)] 36 (0, 0)) (by (with_reducible repeat (first | refine blk_drewN ?_ _ | refine blk_drew ?_ | refine blk_alloc ?_ _)); exact BK334.out) hb)
                            have n2_ := Aside0.mk (below_step (by repeat (first | (with_reducible first | exact HB.out | apply below_alloc | apply pw_below_drewN | apply below_drew1 | refine below_set ?_ GE324.out | refine below_set ?_ GE334.out) | exact HB.out)) hb)
                            clear BK324
                            clear BK334
                            clear HB
                            have BK324 := n0_
                            have BK334 := n1_
                            have HB := n2_
                            clear n0_ n1_ n2_
                            (try clear hb)
                            (try clear hb2)
                            (try clear hk)
                            (try clear hi)
                            refine hK.out _ _ ⟨(blk_cell BK334.out 0).trans rfl, (blk_cell BK334.out 1).trans rfl, (blk_cell BK334.out 2).trans rfl, (blk_cell BK334.out 3).trans rfl, (blk_cell BK334.out 4).trans rfl, (blk_cell BK334.out 5).trans rfl, (blk_cell BK334.out 6).trans rfl, (blk_cell BK334.out 7).trans rfl⟩ (fun hHeld => ?_)
                            clear hK K
                            refine norm_ (a' := ?_) ?_ ?_
                            rotate_left
                            · show Act.put _ (some 54) _ = _
                              simp only [Act.put, List.setIfInBounds_toArray, List.set_cons_zero, List.set_cons_succ, i64_w, i32_w]
                              rfl
                            refine pure_ (i := 7) (N := some 55) (v := ?_) (a' := ?_) #[true, true, true, true, true, true, true, true, true, true, false, false, true, true, false, false, false, false] rfl rfl (any_of HT_.out (by kernel_rfl)) (fun _ _ _ h => h) (Or.inl ⟨by rfl, ?_⟩) ?_ ?_
                            rotate_left
                            · intro w'
                              go_simp
                              with_reducible rfl
                            rotate_left
                            · simp only [Act.put, List.setIfInBounds_toArray, List.set_cons_zero, List.set_cons_succ, i64_w, i32_w]
                              rfl
                            refine one_ (i := 10) (N := some 58) #[true, true, true, true, true, true, true, true, true, true, true, false, true, true, false, false, false, false] rfl rfl (one_of HT_.out (by kernel_rfl)) (by decide) (fun K hK => ?_)
                            refine goes_ Try.func25 (by kernel_rfl) rfl #[.agg #[.bool ((rd_T36 l0_1 x6_2).f2.f0), .int .i64 ((rd_T36 l0_1 x6_2).f2.f1), .string ((rd_T36 l0_1 x6_2).f2.f2)]] (by rfl) rfl rfl (by (try simp only [List.map_toArray, List.map_cons, List.map_nil]); first | done | rfl | (simp only [List.length_drop, List.length_take]; rfl)) ?_
                            with_reducible refine (tithebarnref16_value.calls k2 ((rd_T36 l0_1 x6_2).f2.f0) ((rd_T36 l0_1 x6_2).f2.f1) ((rd_T36 l0_1 x6_2).f2.f2) t337 _ A25.out).mono ?_
                            rintro e w38 ⟨rfl, hb⟩
                            refine ⟨_, rfl, ?_⟩
                            have n0_ := Aside0.mk (blk_below (g := gb324) (o := .cells #[.slice A0_0 l0_0.length c0_0, .slice (some ad333) l0_1.length c0_1, .int .i64 a0_2, .int .i64 a0_3] 32 (0, 0)) (by (with_reducible repeat (first | refine blk_drewN ?_ _ | refine blk_drew ?_ | refine blk_alloc ?_ _)); exact BK324.out) hb)
                            have n1_ := Aside0.mk (blk_below (g := gb334) (o := .cells #[.int .i64 ((rd_T36 l0_1 x6_2).f0), .int .i64 ((rd_T36 l0_1 x6_2).f1), .bool ((rd_T36 l0_1 x6_2).f2.f0), .int .i64 ((rd_T36 l0_1 x6_2).f2.f1), .string ((rd_T36 l0_1 x6_2).f2.f2), .bool ((rd_T36 l0_1 x6_2).f3.f0), .int .i64 ((rd_T36 l0_1 x6_2).f3.f1), .string ((rd_T36 l0_1 x6_2).f3.f2)] 36 (0, 0)) (by (with_reducible repeat (first | refine blk_drewN ?_ _ | refine blk_drew ?_ | refine blk_alloc ?_ _)); exact BK334.out) hb)
                            have n2_ := Aside0.mk (below_step (by repeat (first | (with_reducible first | exact HB.out | apply below_alloc | apply pw_below_drewN | apply below_drew1 | refine below_set ?_ GE324.out | refine below_set ?_ GE334.out) | exact HB.out)) hb)
                            clear BK324
                            clear BK334
                            clear HB
                            have BK324 := n0_
                            have BK334 := n1_
                            have HB := n2_
                            clear n0_ n1_ n2_
                            (try clear hb)
                            (try clear hb2)
                            (try clear hk)
                            (try clear hi)
                            refine hK.out _ _ ⟨(blk_cell BK334.out 0).trans rfl, (blk_cell BK334.out 1).trans rfl, (blk_cell BK334.out 2).trans rfl, (blk_cell BK334.out 3).trans rfl, (blk_cell BK334.out 4).trans rfl, (blk_cell BK334.out 5).trans rfl, (blk_cell BK334.out 6).trans rfl, (blk_cell BK334.out 7).trans rfl⟩ (fun hHeld => ?_)
                            clear hK K
                            refine norm_ (a' := ?_) ?_ ?_
                            rotate_left
                            · show Act.put _ (some 58) _ = _
                              simp only [Act.put, List.setIfInBounds_toArray, List.set_cons_zero, List.set_cons_succ, i64_w, i32_w]
                              rfl
                            refine pure_ (i := 11) (N := some 59) (v := ?_) (a' := ?_) #[true, true, true, true, true, true, true, true, true, true, true, true, true, true, false, false, false, false] rfl rfl (any_of HT_.out (by kernel_rfl)) (fun _ _ _ h => h) (Or.inl ⟨by rfl, ?_⟩) ?_ ?_
                            rotate_left
                            · intro w'
                              go_simp
                              with_reducible rfl
                            rotate_left
                            · simp only [Act.put, List.setIfInBounds_toArray, List.set_cons_zero, List.set_cons_succ, i64_w, i32_w]
                              rfl
                            refine one_ (i := 14) (N := some 62) #[true, true, true, true, true, true, true, true, true, true, true, true, true, true, true, false, false, false] rfl rfl (one_of HT_.out (by kernel_rfl)) (by decide) (fun K hK => ?_)
                            refine goes_ Try.func25 (by kernel_rfl) rfl #[.agg #[.bool ((rd_T36 l0_1 x6_2).f3.f0), .int .i64 ((rd_T36 l0_1 x6_2).f3.f1), .string ((rd_T36 l0_1 x6_2).f3.f2)]] (by rfl) rfl rfl (by (try simp only [List.map_toArray, List.map_cons, List.map_nil]); first | done | rfl | (simp only [List.length_drop, List.length_take]; rfl)) ?_
                            with_reducible refine (tithebarnref16_value.calls k2 ((rd_T36 l0_1 x6_2).f3.f0) ((rd_T36 l0_1 x6_2).f3.f1) ((rd_T36 l0_1 x6_2).f3.f2) t338 _ A27.out).mono ?_
                            rintro e w39 ⟨rfl, hb⟩
                            refine ⟨_, rfl, ?_⟩
                            have n0_ := Aside0.mk (blk_below (g := gb324) (o := .cells #[.slice A0_0 l0_0.length c0_0, .slice (some ad333) l0_1.length c0_1, .int .i64 a0_2, .int .i64 a0_3] 32 (0, 0)) (by (with_reducible repeat (first | refine blk_drewN ?_ _ | refine blk_drew ?_ | refine blk_alloc ?_ _)); exact BK324.out) hb)
                            have n1_ := Aside0.mk (blk_below (g := gb334) (o := .cells #[.int .i64 ((rd_T36 l0_1 x6_2).f0), .int .i64 ((rd_T36 l0_1 x6_2).f1), .bool ((rd_T36 l0_1 x6_2).f2.f0), .int .i64 ((rd_T36 l0_1 x6_2).f2.f1), .string ((rd_T36 l0_1 x6_2).f2.f2), .bool ((rd_T36 l0_1 x6_2).f3.f0), .int .i64 ((rd_T36 l0_1 x6_2).f3.f1), .string ((rd_T36 l0_1 x6_2).f3.f2)] 36 (0, 0)) (by (with_reducible repeat (first | refine blk_drewN ?_ _ | refine blk_drew ?_ | refine blk_alloc ?_ _)); exact BK334.out) hb)
                            have n2_ := Aside0.mk (below_step (by repeat (first | (with_reducible first | exact HB.out | apply below_alloc | apply pw_below_drewN | apply below_drew1 | refine below_set ?_ GE324.out | refine below_set ?_ GE334.out) | exact HB.out)) hb)
                            clear BK324
                            clear BK334
                            clear HB
                            have BK324 := n0_
                            have BK334 := n1_
                            have HB := n2_
                            clear n0_ n1_ n2_
                            (try clear hb)
                            (try clear hb2)
                            (try clear hk)
                            (try clear hi)
                            refine hK.out _ _ ⟨(blk_cell BK334.out 0).trans rfl, (blk_cell BK334.out 1).trans rfl, (blk_cell BK334.out 2).trans rfl, (blk_cell BK334.out 3).trans rfl, (blk_cell BK334.out 4).trans rfl, (blk_cell BK334.out 5).trans rfl, (blk_cell BK334.out 6).trans rfl, (blk_cell BK334.out 7).trans rfl⟩ (fun hHeld => ?_)
                            clear hK K
                            refine norm_ (a' := ?_) ?_ ?_
                            rotate_left
                            · show Act.put _ (some 62) _ = _
                              simp only [Act.put, List.setIfInBounds_toArray, List.set_cons_zero, List.set_cons_succ, i64_w, i32_w]
                              rfl
                            refine pure_ (i := 15) (N := some 63) (v := ?_) (a' := ?_) #[true, true, true, true, true, true, true, true, true, true, true, true, true, true, true, true, false, false] rfl rfl (any_of HT_.out (by kernel_rfl)) (fun _ _ _ h => h) (Or.inl ⟨by rfl, ?_⟩) ?_ ?_
                            rotate_left
                            · intro w'
                              go_simp
                              with_reducible rfl
                            rotate_left
                            · simp only [Act.put, List.setIfInBounds_toArray, List.set_cons_zero, List.set_cons_succ, i64_w, i32_w]
                              rfl
                            refine pure_ (i := 16) (N := some 64) (v := ?_) (a' := ?_) #[true, true, true, true, true, true, true, true, true, true, true, true, true, true, true, true, true, false] rfl rfl (any_of HT_.out (by kernel_rfl)) (fun _ _ _ h => h) (Or.inl ⟨by rfl, ?_⟩) ?_ ?_
                            rotate_left
                            · intro w'
                              go_simp
                              with_reducible rfl
                            rotate_left
                            · simp only [Act.put, List.setIfInBounds_toArray, List.set_cons_zero, List.set_cons_succ, i64_w, i32_w]
                              rfl
                            refine pure_ (i := 17) (N := some 4) (v := ?_) (a' := ?_) #[true, true, true, true, true, true, true, true, true, true, true, true, true, true, true, true, true, true] rfl rfl (any_of HT_.out (by kernel_rfl)) (fun _ _ _ h => h) (Or.inl ⟨by rfl, ?_⟩) ?_ ?_
                            rotate_left
                            · intro w'
                              go_simp
                              with_reducible rfl
                            rotate_left
                            · simp only [Act.put, List.setIfInBounds_toArray, List.set_cons_zero, List.set_cons_succ, i64_w, i32_w]
                              rfl
                            refine done_ (done_of HT_.out (by kernel_rfl)) ?_
                            try go_wp2
                            go_roundg k2
                            case measure => have := HK1.out; have := HK2.out; omega
                            case rel => exact ⟨(x4_2 ++ (((t335 ++ t336) ++ t337) ++ t338)), (wrap64 (x6_2 + 1)), (by first | rfl | (simp; done) | (simp [*]; done)), (by first | rfl | (simp; done) | (simp [*]; done)), H', ⟨by have := HK1.out; have := HK2.out; omega⟩, ⟨by (with_reducible repeat (first | refine blk_drewN ?_ _ | refine blk_drew ?_ | refine blk_alloc ?_ _)); exact BK324.out⟩, ⟨by repeat (first | (with_reducible first | exact HB.out | apply below_alloc | apply pw_below_drewN | apply below_drew1 | refine below_set ?_ GE324.out | refine below_set ?_ GE334.out) | exact HB.out)⟩⟩
                          · rw [if_neg c29] at H
                            exact absurd H (by simp)
                        · rw [if_neg c28] at H
                          exact absurd H (by simp)
                      · rw [if_neg c26] at H
                        exact absurd H (by simp)
                    · rw [if_neg c24] at H
                      exact absurd H (by simp)
                  · rw [if_neg c21] at H
                    exact absurd H (by simp)
                · rw [if_neg c20] at H
                  have c20b0 : decide (x6_2 < (l0_1.length : Int)) = false := decide_eq_false c20
                  clear c20
                  replace H := Option.bind_eq_some_iff.mp H
                  obtain ⟨t330, A400, H⟩ := H
                  replace H : (if x4_2.size + t330.size ≤ 9223372036854775807 then ((tithebarnref16_num.f k2 a0_3).bind fun t331 => (if (x4_2 ++ t330).size + t331.size ≤ 9223372036854775807 then ((tithebarnref08_Write.f ((x4_2 ++ t330) ++ t331)).bind fun t332 => (some (t332, 0))) else (none))) else (none)) = some (r1, r2) := H
                  have A40 := Aside0.mk A400
                  clear A400
                  by_cases c41 : x4_2.size + t330.size ≤ 9223372036854775807
                  · rw [if_pos c41] at H
                    have c41b0 := eq_true c41
                    have c41b1 : decide (x4_2.size + t330.size ≤ 9223372036854775807) = true := decide_eq_true c41
                    try have c41b2 : (9223372036854775807 < x4_2.size + t330.size) = False := eq_false (Nat.not_lt.2 c41)
                    try (have c41b3 := c41b2; simp only [ByteArray.size_append] at c41b3)
                    try (have c41b4 := c41b0; simp only [ByteArray.size_append] at c41b4)
                    try (have c41b5 := c41b1; simp only [ByteArray.size_append] at c41b5)
                    replace H := Option.bind_eq_some_iff.mp H
                    obtain ⟨t331, A420, H⟩ := H
                    replace H : (if (x4_2 ++ t330).size + t331.size ≤ 9223372036854775807 then ((tithebarnref08_Write.f ((x4_2 ++ t330) ++ t331)).bind fun t332 => (some (t332, 0))) else (none)) = some (r1, r2) := H
                    have A42 := Aside0.mk A420
                    clear A420
                    by_cases c43 : (x4_2 ++ t330).size + t331.size ≤ 9223372036854775807
                    · rw [if_pos c43] at H
                      have c43b0 := eq_true c43
                      have c43b1 : decide ((x4_2 ++ t330).size + t331.size ≤ 9223372036854775807) = true := decide_eq_true c43
                      try have c43b2 : (9223372036854775807 < (x4_2 ++ t330).size + t331.size) = False := eq_false (Nat.not_lt.2 c43)
                      try (have c43b3 := c43b2; simp only [ByteArray.size_append] at c43b3)
                      try (have c43b4 := c43b0; simp only [ByteArray.size_append] at c43b4)
                      try (have c43b5 := c43b1; simp only [ByteArray.size_append] at c43b5)
                      replace H := Option.bind_eq_some_iff.mp H
                      obtain ⟨t332, A440, H⟩ := H
                      replace H : (some (t332, 0)) = some (r1, r2) := H
                      have A44 := Aside0.mk A440
                      clear A440
                      simp only [Option.some.injEq, Prod.mk.injEq] at H
                      obtain ⟨rfl, rfl⟩ := H
                      have hcz45_0 : wr.cell? ⟨gb324, 0, none⟩ = some (.slice A0_0 l0_0.length c0_0) := (blk_cell BK324.out 0).trans rfl
                      have hcz45_1 : wr.cell? ⟨gb324, 1, none⟩ = some (.slice A0_1 l0_1.length c0_1) := (blk_cell BK324.out 1).trans rfl
                      have hcz45_2 : wr.cell? ⟨gb324, 2, none⟩ = some (.int .i64 a0_2) := (blk_cell BK324.out 2).trans rfl
                      have hcz45_3 : wr.cell? ⟨gb324, 3, none⟩ = some (.int .i64 a0_3) := (blk_cell BK324.out 3).trans rfl
                      have hfz45_0 := blk_frozen BK324.out 0
                      have hfz45_1 := blk_frozen BK324.out 1
                      have hfz45_2 := blk_frozen BK324.out 2
                      have hfz45_3 := blk_frozen BK324.out 3
                      try go_wp2
                      have n0_ := Aside0.mk (blk_drew BK324.out)
                      have n1_ := Aside0.mk (below_drew1 HB.out)
                      clear BK324
                      clear HB
                      have BK324 := n0_
                      have HB := n1_
                      clear n0_ n1_
                      refine start_ (n := 12) (S := fun w' => w'.cell? ⟨gb324, 0, none⟩ = some (.slice A0_0 l0_0.length c0_0) ∧ w'.cell? ⟨gb324, 1, none⟩ = some (.slice A0_1 l0_1.length c0_1) ∧ w'.cell? ⟨gb324, 2, none⟩ = some (.int .i64 a0_2) ∧ w'.cell? ⟨gb324, 3, none⟩ = some (.int .i64 a0_3)) (ds := []) #[false, false, false, false, false, false, false, false, false, false, false, false] (by kernel_rfl) rfl rfl ⟨(blk_cell BK324.out 0).trans rfl, (blk_cell BK324.out 1).trans rfl, (blk_cell BK324.out 2).trans rfl, (blk_cell BK324.out 3).trans rfl⟩ (fun hHeld => ?_); refine with_tabW tithebarnref16_Write.tab14 tithebarnref16_Write.bits14 (fun HT_ HW_ => ?_)
                      generalize wr.drew = w46 at BK324 HB hHeld ⊢
                      refine pure_ (i := 0) (N := some 65) (v := ?_) (a' := ?_) #[true, false, false, false, false, false, false, false, false, false, false, false] rfl rfl (any_of HT_.out (by kernel_rfl)) (fun _ _ _ h => h) (Or.inl ⟨by rfl, ?_⟩) ?_ ?_
                      rotate_left
                      · intro w'
                        go_simp
                        with_reducible rfl
                      rotate_left
                      · simp only [Act.put, List.setIfInBounds_toArray, List.set_cons_zero, List.set_cons_succ, i64_w, i32_w]
                        rfl
                      refine pure_ (i := 1) (N := some 66) (v := ?_) (a' := ?_) #[true, true, false, false, false, false, false, false, false, false, false, false] rfl rfl (any_of HT_.out (by kernel_rfl)) (fun _ _ _ h => h) (Or.inl ⟨by rfl, ?_⟩) ?_ ?_
                      rotate_left
                      · intro w'
                        go_simp
                        with_reducible rfl
                      rotate_left
                      · simp only [Act.put, List.setIfInBounds_toArray, List.set_cons_zero, List.set_cons_succ, i64_w, i32_w]
                        rfl
                      refine pure_ (i := 5) (N := some 70) (v := ?_) (a' := ?_) #[true, true, false, false, false, true, false, false, false, false, false, false] rfl rfl (any_of HT_.out (by kernel_rfl)) (fun _ _ _ h => h) (Or.inl ⟨by rfl, ?_⟩) ?_ ?_
                      rotate_left
                      · intro w'
                        go_simp
                        with_reducible rfl
                      rotate_left
                      · simp only [Act.put, List.setIfInBounds_toArray, List.set_cons_zero, List.set_cons_succ, i64_w, i32_w]
                        rfl
                      refine take_ (i := 2) (N := some 67) (v := ?_) (a' := ?_) #[true, true, true, false, false, true, false, false, false, false, false, false] rfl rfl (take_ofW HT_.out HW_.out (by kernel_rfl)) (fun _ _ _ h => h) (Or.inl ⟨by rfl, ?_⟩) hHeld ?_ ?_
                      rotate_left
                      · rintro w' ⟨s0, s1, s2, s3⟩
                        go_simp
                        with_reducible rfl
                      rotate_left
                      · simp only [Act.put, List.setIfInBounds_toArray, List.set_cons_zero, List.set_cons_succ, i64_w, i32_w]
                        rfl
                      refine take_ (i := 6) (N := some 71) (v := ?_) (a' := ?_) #[true, true, true, false, false, true, true, false, false, false, false, false] rfl rfl (take_ofW HT_.out HW_.out (by kernel_rfl)) (fun _ _ _ h => h) (Or.inl ⟨by rfl, ?_⟩) hHeld ?_ ?_
                      rotate_left
                      · rintro w' ⟨s0, s1, s2, s3⟩
                        go_simp
                        with_reducible rfl
                      rotate_left
                      · simp only [Act.put, List.setIfInBounds_toArray, List.set_cons_zero, List.set_cons_succ, i64_w, i32_w]
                        rfl
                      refine one_ (i := 3) (N := some 68) #[true, true, true, true, false, true, true, false, false, false, false, false] rfl rfl (one_of HT_.out (by kernel_rfl)) (by decide) (fun K hK => ?_)
                      refine goes_ Try.func24 (by kernel_rfl) rfl #[.int .i64 a0_2] (by rfl) rfl rfl (by (try simp only [List.map_toArray, List.map_cons, List.map_nil]); first | done | rfl | (simp only [List.length_drop, List.length_take]; rfl)) ?_
                      with_reducible refine (tithebarnref16_num.calls k2 a0_2 t330 _ A40.out).mono ?_
                      rintro e w47 ⟨rfl, hb⟩
                      refine ⟨_, rfl, ?_⟩
                      have n0_ := Aside0.mk (blk_below (g := gb324) (o := .cells #[.slice A0_0 l0_0.length c0_0, .slice A0_1 l0_1.length c0_1, .int .i64 a0_2, .int .i64 a0_3] 32 (0, 0)) (by (with_reducible repeat (first | refine blk_drewN ?_ _ | refine blk_drew ?_ | refine blk_alloc ?_ _)); exact BK324.out) hb)
                      have n1_ := Aside0.mk (below_step (by repeat (first | (with_reducible first | exact HB.out | apply below_alloc | apply pw_below_drewN | apply below_drew1 | refine below_set ?_ GE324.out) | exact HB.out)) hb)
                      clear BK324
                      clear HB
                      have BK324 := n0_
                      have HB := n1_
                      clear n0_ n1_
                      (try clear hb)
                      (try clear hb2)
                      (try clear hk)
                      (try clear hi)
                      refine hK.out _ _ ⟨(blk_cell BK324.out 0).trans rfl, (blk_cell BK324.out 1).trans rfl, (blk_cell BK324.out 2).trans rfl, (blk_cell BK324.out 3).trans rfl⟩ (fun hHeld => ?_)
                      clear hK K
                      refine norm_ (a' := ?_) ?_ ?_
                      rotate_left
                      · show Act.put _ (some 68) _ = _
                        simp only [Act.put, List.setIfInBounds_toArray, List.set_cons_zero, List.set_cons_succ, i64_w, i32_w]
                        rfl
                      refine pure_ (i := 4) (N := some 69) (v := ?_) (a' := ?_) #[true, true, true, true, true, true, true, false, false, false, false, false] rfl rfl (any_of HT_.out (by kernel_rfl)) (fun _ _ _ h => h) (Or.inl ⟨by rfl, ?_⟩) ?_ ?_
                      rotate_left
                      · intro w'
                        go_simp
                        with_reducible rfl
                      rotate_left
                      · simp only [Act.put, List.setIfInBounds_toArray, List.set_cons_zero, List.set_cons_succ, i64_w, i32_w]
                        rfl
                      refine one_ (i := 7) (N := some 72) #[true, true, true, true, true, true, true, true, false, false, false, false] rfl rfl (one_of HT_.out (by kernel_rfl)) (by decide) (fun K hK => ?_)
                      refine goes_ Try.func24 (by kernel_rfl) rfl #[.int .i64 a0_3] (by rfl) rfl rfl (by (try simp only [List.map_toArray, List.map_cons, List.map_nil]); first | done | rfl | (simp only [List.length_drop, List.length_take]; rfl)) ?_
                      with_reducible refine (tithebarnref16_num.calls k2 a0_3 t331 _ A42.out).mono ?_
                      rintro e w48 ⟨rfl, hb⟩
                      refine ⟨_, rfl, ?_⟩
                      have n0_ := Aside0.mk (blk_below (g := gb324) (o := .cells #[.slice A0_0 l0_0.length c0_0, .slice A0_1 l0_1.length c0_1, .int .i64 a0_2, .int .i64 a0_3] 32 (0, 0)) (by (with_reducible repeat (first | refine blk_drewN ?_ _ | refine blk_drew ?_ | refine blk_alloc ?_ _)); exact BK324.out) hb)
                      have n1_ := Aside0.mk (below_step (by repeat (first | (with_reducible first | exact HB.out | apply below_alloc | apply pw_below_drewN | apply below_drew1 | refine below_set ?_ GE324.out) | exact HB.out)) hb)
                      clear BK324
                      clear HB
                      have BK324 := n0_
                      have HB := n1_
                      clear n0_ n1_
                      (try clear hb)
                      (try clear hb2)
                      (try clear hk)
                      (try clear hi)
                      refine hK.out _ _ ⟨(blk_cell BK324.out 0).trans rfl, (blk_cell BK324.out 1).trans rfl, (blk_cell BK324.out 2).trans rfl, (blk_cell BK324.out 3).trans rfl⟩ (fun hHeld => ?_)
                      clear hK K
                      refine norm_ (a' := ?_) ?_ ?_
                      rotate_left
                      · show Act.put _ (some 72) _ = _
                        simp only [Act.put, List.setIfInBounds_toArray, List.set_cons_zero, List.set_cons_succ, i64_w, i32_w]
                        rfl
                      refine pure_ (i := 8) (N := some 73) (v := ?_) (a' := ?_) #[true, true, true, true, true, true, true, true, true, false, false, false] rfl rfl (any_of HT_.out (by kernel_rfl)) (fun _ _ _ h => h) (Or.inl ⟨by rfl, ?_⟩) ?_ ?_
                      rotate_left
                      · intro w'
                        go_simp
                        with_reducible rfl
                      rotate_left
                      · simp only [Act.put, List.setIfInBounds_toArray, List.set_cons_zero, List.set_cons_succ, i64_w, i32_w]
                        rfl
                      refine one_ (i := 9) (N := some 74) #[true, true, true, true, true, true, true, true, true, true, false, false] rfl rfl (one_of HT_.out (by kernel_rfl)) (by decide) (fun K hK => ?_)
                      refine goes_ Try.func26 (by kernel_rfl) rfl #[.string ((x4_2 ++ t330) ++ t331)] (by rfl) rfl rfl (by (try simp only [List.map_toArray, List.map_cons, List.map_nil]); first | done | rfl | (simp only [List.length_drop, List.length_take]; rfl)) ?_
                      with_reducible refine (tithebarnref08_Write.calls ((x4_2 ++ t330) ++ t331) t332 _ A44.out).mono ?_
                      rintro e w49 ⟨rfl, hb⟩
                      refine ⟨_, rfl, ?_⟩
                      have n0_ := Aside0.mk (blk_below (g := gb324) (o := .cells #[.slice A0_0 l0_0.length c0_0, .slice A0_1 l0_1.length c0_1, .int .i64 a0_2, .int .i64 a0_3] 32 (0, 0)) (by (with_reducible repeat (first | refine blk_drewN ?_ _ | refine blk_drew ?_ | refine blk_alloc ?_ _)); exact BK324.out) hb)
                      have n1_ := Aside0.mk (below_step (by repeat (first | (with_reducible first | exact HB.out | apply below_alloc | apply pw_below_drewN | apply below_drew1 | refine below_set ?_ GE324.out) | exact HB.out)) hb)
                      clear BK324
                      clear HB
                      have BK324 := n0_
                      have HB := n1_
                      clear n0_ n1_
                      (try clear hb)
                      (try clear hb2)
                      (try clear hk)
                      (try clear hi)
                      refine hK.out _ _ ⟨(blk_cell BK324.out 0).trans rfl, (blk_cell BK324.out 1).trans rfl, (blk_cell BK324.out 2).trans rfl, (blk_cell BK324.out 3).trans rfl⟩ (fun hHeld => ?_)
                      clear hK K
                      refine norm_ (a' := ?_) ?_ ?_
                      rotate_left
                      · show Act.put _ (some 74) _ = _
                        simp only [Act.put, List.setIfInBounds_toArray, List.set_cons_zero, List.set_cons_succ, i64_w, i32_w]
                        rfl
                      refine pure_ (i := 10) (N := some 2) (v := ?_) (a' := ?_) #[true, true, true, true, true, true, true, true, true, true, true, false] rfl rfl (any_of HT_.out (by kernel_rfl)) (fun _ _ _ h => h) (Or.inl ⟨by rfl, ?_⟩) ?_ ?_
                      rotate_left
                      · intro w'
                        go_simp
                        with_reducible rfl
                      rotate_left
                      · simp only [Act.put, List.setIfInBounds_toArray, List.set_cons_zero, List.set_cons_succ, i64_w, i32_w]
                        rfl
                      refine pure_ (i := 11) (N := some 3) (v := ?_) (a' := ?_) #[true, true, true, true, true, true, true, true, true, true, true, true] rfl rfl (any_of HT_.out (by kernel_rfl)) (fun _ _ _ h => h) (Or.inl ⟨by rfl, ?_⟩) ?_ ?_
                      rotate_left
                      · intro w'
                        go_simp
                        with_reducible rfl
                      rotate_left
                      · simp only [Act.put, List.setIfInBounds_toArray, List.set_cons_zero, List.set_cons_succ, i64_w, i32_w]
                        rfl
                      refine done_ (done_of HT_.out (by kernel_rfl)) ?_
                      try go_wp2
                      go_ret2
                      exact ⟨by first | rfl | (simp [errW_none, errW_some] <;> rfl) | (simp [*, errW_none, errW_some] <;> rfl), by repeat (first | (with_reducible first | exact HB.out | apply below_alloc | apply pw_below_drewN | apply below_drew1 | refine below_set ?_ GE324.out) | exact HB.out)⟩
                    · rw [if_neg c43] at H
                      exact absurd H (by simp)
                  · rw [if_neg c41] at H
                    exact absurd H (by simp)
          · rw [if_neg c17] at H
            exact absurd H (by simp)
  · replace c3 := Bool.eq_false_iff.mpr c3
    subst c3
    have H1 : (some ((⟨#[]⟩ : ByteArray), 1)) = some (r1, r2) := by rw [if_neg (show ¬ (false = true) by decide)] at H; exact H
    clear H
    have H := H1
    clear H1
    simp only [Option.some.injEq, Prod.mk.injEq] at H
    obtain ⟨rfl, rfl⟩ := H
    go_enter Try.func13, Try.ntmps13
    go_wp2_with (first | ((with_reducible refine gate_dst (N := 1) rfl ?_); refine box_event ?hg (N := 1) ?hd (cs := #[.slice A0_0 l0_0.length c0_0, .slice A0_1 l0_1.length c0_1, .int .i64 a0_2, .int .i64 a0_3]) (t := 32) ?hr ?_; (case hd => rfl); (case hg => rfl); (case hr => first | (go_simp; done) | (go_simp; rfl)); intro gb324 hg w50 hbox hb; have n0_ := Aside0.mk (below_step (by repeat (first | (with_reducible first | exact HB.out | apply below_alloc | apply pw_below_drewN | apply below_drew1) | exact HB.out)) hb); have n1_ := Aside0.mk (hbox); have n2_ := Aside0.mk ((by rw [hg]; exact (below_size (by repeat (first | (with_reducible first | exact HB.out | apply below_alloc | apply pw_below_drewN | apply below_drew1) | exact HB.out))) : w.heap.size ≤ gb324)); have n3_ := Aside0.mk ((by rw [hg]; exact (below_size (by repeat (first | (with_reducible first | exact HB.out | apply below_alloc | apply pw_below_drewN | apply below_drew1) | exact HB.out))) : w.heap.size ≤ gb324)); clear HB; have HB := n0_; have BK324 := n1_; have GW324 := n2_; have GE324 := n3_; clear n0_ n1_ n2_ n3_; clear hb hbox hg; have hcz51_0 : w50.cell? ⟨gb324, 0, none⟩ = some (.slice A0_0 l0_0.length c0_0) := (blk_cell BK324.out 0).trans rfl; have hcz51_1 : w50.cell? ⟨gb324, 1, none⟩ = some (.slice A0_1 l0_1.length c0_1) := (blk_cell BK324.out 1).trans rfl; have hcz51_2 : w50.cell? ⟨gb324, 2, none⟩ = some (.int .i64 a0_2) := (blk_cell BK324.out 2).trans rfl; have hcz51_3 : w50.cell? ⟨gb324, 3, none⟩ = some (.int .i64 a0_3) := (blk_cell BK324.out 3).trans rfl; have hfz51_0 := blk_frozen BK324.out 0; have hfz51_1 := blk_frozen BK324.out 1; have hfz51_2 := blk_frozen BK324.out 2; have hfz51_3 := blk_frozen BK324.out 3) | ((with_reducible refine gate_callee (f := 23) rfl ?_); refine goesL_ (some 9) rfl rfl Try.func23 (by kernel_rfl) rfl #[.agg #[.slice A0_0 l0_0.length c0_0, .slice A0_1 l0_1.length c0_1, .int .i64 a0_2, .int .i64 a0_3]] rfl (by (try simp only [List.map_toArray, List.map_cons, List.map_nil]); first | done | rfl | (simp only [List.length_drop, List.length_take]; rfl) | (go_simp; simp [IntKind.wrap, IntKind.bits, IntKind.signed]; omega)) ?_; (with_reducible refine (tithebarnref16_Right.calls k _ _ l0_0 _ _ l0_1 a0_2 a0_3 false _ ?side1 ?side2 ?side3 ?side4 A2.out).mono ?_); (case side1 => repeat (first | exact (Kd.C_below HR0_0.out HB.out) | (with_reducible refine Kd.C_alloc ?_ _) | (with_reducible refine Kd.C_drewN ?_ _) | (with_reducible refine Kd.C_drew ?_))); (case side2 => exact HC0_0.out); (case side3 => repeat (first | exact (Kd.C_below HR0_1.out HB.out) | (with_reducible refine Kd.C_alloc ?_ _) | (with_reducible refine Kd.C_drewN ?_ _) | (with_reducible refine Kd.C_drew ?_))); (case side4 => exact HC0_1.out); rintro e w52 ⟨rfl, hb⟩; refine ⟨_, rfl, ?_⟩; have n0_ := Aside0.mk (blk_below (g := gb324) (o := .cells #[.slice A0_0 l0_0.length c0_0, .slice A0_1 l0_1.length c0_1, .int .i64 a0_2, .int .i64 a0_3] 32 (0, 0)) (by (with_reducible repeat (first | refine blk_drewN ?_ _ | refine blk_drew ?_ | refine blk_alloc ?_ _)); exact BK324.out) hb); have n1_ := Aside0.mk (below_step (by repeat (first | (with_reducible first | exact HB.out | apply below_alloc | apply pw_below_drewN | apply below_drew1 | refine below_set ?_ GE324.out) | exact HB.out)) hb); clear BK324; clear HB; have BK324 := n0_; have HB := n1_; clear n0_ n1_; (try clear hb); (try clear hb2); (try clear hk); (try clear hi)))
    go_ret2
    exact ⟨by first | rfl | (simp [errW_none, errW_some] <;> rfl) | (simp [*, errW_none, errW_some] <;> rfl), by repeat (first | (with_reducible first | exact HB.out | apply below_alloc | apply pw_below_drewN | apply below_drew1 | refine below_set ?_ GE324.out) | exact HB.out)⟩
end Go.Proofs.Ytagokgijffpdnaa.G
