import Derived.Test.YtagokgijffpdnaaZG0
import Derived.Test.YtagokgijffpdnaaZG4
import Derived.Test.YtagokgijffpdnaaZG5
import Derived.Test.YtagokgijffpdnaaZG7
import Derived.Test.YtagokgijffpdnaaZG10
import Derived.Test.YtagokgijffpdnaaZG13
import Derived.Test.YtagokgijffpdnaaZG14
import Derived.Test.YtagokgijffpdnaaZG16
namespace Go.Proofs.Ytagokgijffpdnaa.G
open Go.RowKit Go.Proofs.YtagokgijffpdnaaQ Go.Proofs.YtagokgijffpdnaaW.PrintWords Go.Proofs.YtagokgijffpdnaaW.PrintLast Go.Proofs.YtagokgijffpdnaaW.PrintMore
attribute [local go_sem] max2_int min2_int max_two min_two max_three min_three max_four min_four   -- for this text's walks alone
set_option linter.unusedVariables false
set_option linter.unusedSimpArgs false
def tithebarnlaw16_ManifestWrites.g (k : Nat) (l0_0 : List (S36)) (a0_1 : Int) (a0_2 : Int) (l1_0 : List Int) (l1_1 : List (S36)) (a1_2 : Int) (a1_3 : Int) : Option (Bool) := (tithebarnlaw16_lives.f k).bind fun t376 => (if t376 = true then ((manifest_Write.f k l1_0 l1_1 a1_2 a1_3).bind fun bt377 => ((tithebarnref16_Write.f k l1_0 l1_1 a1_2 a1_3).bind fun bt379 => ((manifest_Apply.f l0_0 a0_1 a0_2 l1_0 l1_1 a1_2 a1_3).bind fun bt381 => ((tithebarnref16_Apply.f k l0_0 a0_1 a0_2 l1_0 l1_1 a1_2 a1_3).bind fun bt388 => (if bt377.1.toList = bt379.1.toList then (if bt377.2 = bt379.2 then (if bt381.2.2.2 = bt388.2.2.2 then ((tithebarnref16_Same.f k bt381.1 bt381.2.1 bt381.2.2.1 bt388.1 bt388.2.1 bt388.2.2.1).bind fun t395 => (some t395)) else (some false)) else (some false)) else (some false)))))) else (some false))
theorem tithebarnlaw16_ManifestWrites.monog : ∀ a0 a1 a2 a3 a4 a5 a6 k, LeO (tithebarnlaw16_ManifestWrites.g k a0 a1 a2 a3 a4 a5 a6) (tithebarnlaw16_ManifestWrites.g (k + 1) a0 a1 a2 a3 a4 a5 a6) := by
  intro a0 a1 a2 a3 a4 a5 a6 k
  unfold tithebarnlaw16_ManifestWrites.g
  repeat' first
      | (with_reducible exact manifest_Write.mono _ _ _ _ _)
      | (with_reducible exact tithebarnlaw16_lives.mono _)
      | (with_reducible exact tithebarnref16_Apply.mono _ _ _ _ _ _ _ _)
      | (with_reducible exact tithebarnref16_Same.mono _ _ _ _ _ _ _)
      | (with_reducible exact tithebarnref16_Write.mono _ _ _ _ _)
      | (with_reducible exact LeO.refl _)
      | (with_reducible exact LeO.none _)
      | (with_reducible refine LeO.ite ?_ ?_)
      | (with_reducible refine LeO.bind ?_ (fun _ => ?_))
      | exact manifest_Write.mono _ _ _ _ _
      | exact tithebarnlaw16_lives.mono _
      | exact tithebarnref16_Apply.mono _ _ _ _ _ _ _ _
      | exact tithebarnref16_Same.mono _ _ _ _ _ _ _
      | exact tithebarnref16_Write.mono _ _ _ _ _
      | exact LeO.none _
      | refine LeO.ite ?_ ?_
      | refine LeO.bind ?_ (fun _ => ?_)
set_option maxHeartbeats 8000000 in
set_option maxRecDepth 100000 in
theorem tithebarnlaw16_ManifestWrites.callsT (k : Nat) (A0_0 : Option Addr) (c0_0 : Nat) (l0_0 : List (S36)) (a0_1 : Int) (a0_2 : Int) (A1_0 : Option Addr) (c1_0 : Nat) (l1_0 : List Int) (A1_1 : Option Addr) (c1_1 : Nat) (l1_1 : List (S36)) (a1_2 : Int) (a1_3 : Int) (r : Bool) (w : World) (hr0_0 : Kd.C k36 w A0_0 l0_0.length l0_0) (hc0_0 : l0_0.length ≤ c0_0) (hr1_0 : Kd.C (Kd.int .i64) w A1_0 l1_0.length l1_0) (hc1_0 : l1_0.length ≤ c1_0) (hr1_1 : Kd.C k36 w A1_1 l1_1.length l1_1) (hc1_1 : l1_1.length ≤ c1_1) (hr_ : r = true) (h : tithebarnlaw16_ManifestWrites.g k l0_0 a0_1 a0_2 l1_0 l1_1 a1_2 a1_3 = some r) :
    Calls Try.prog 5 #[.agg #[.slice A0_0 l0_0.length c0_0, .int .i64 a0_1, .int .i64 a0_2], .agg #[.slice A1_0 l1_0.length c1_0, .slice A1_1 l1_1.length c1_1, .int .i64 a1_2, .int .i64 a1_3]] w fun e w' => e = .returned (.bool r) ∧ Below w.heap.size w w' := by
  have HR_ := Aside0.mk hr_; clear hr_
  have hu26 := Try.underlying26
  have hu32 := Try.underlying32
  have HR0_0 := Aside0.mk hr0_0
  have HC0_0 := Aside0.mk hc0_0
  clear hr0_0 hc0_0
  have HR1_0 := Aside0.mk hr1_0
  have HC1_0 := Aside0.mk hc1_0
  clear hr1_0 hc1_0
  have HR1_1 := Aside0.mk hr1_1
  have HC1_1 := Aside0.mk hc1_1
  clear hr1_1 hc1_1
  have HB := Aside0.mk (Below.refl w.heap.size w)
  have H : ((tithebarnlaw16_lives.f k).bind fun t376 => (if t376 = true then ((manifest_Write.f k l1_0 l1_1 a1_2 a1_3).bind fun bt377 => ((tithebarnref16_Write.f k l1_0 l1_1 a1_2 a1_3).bind fun bt379 => ((manifest_Apply.f l0_0 a0_1 a0_2 l1_0 l1_1 a1_2 a1_3).bind fun bt381 => ((tithebarnref16_Apply.f k l0_0 a0_1 a0_2 l1_0 l1_1 a1_2 a1_3).bind fun bt388 => (if bt377.1.toList = bt379.1.toList then (if bt377.2 = bt379.2 then (if bt381.2.2.2 = bt388.2.2.2 then ((tithebarnref16_Same.f k bt381.1 bt381.2.1 bt381.2.2.1 bt388.1 bt388.2.1 bt388.2.2.1).bind fun t395 => (some t395)) else (some false)) else (some false)) else (some false)))))) else (some false))) = some r := h
  clear h
  replace H := Option.bind_eq_some_iff.mp H
  obtain ⟨t376, A30, H⟩ := H
  replace H : (if t376 = true then ((manifest_Write.f k l1_0 l1_1 a1_2 a1_3).bind fun bt377 => ((tithebarnref16_Write.f k l1_0 l1_1 a1_2 a1_3).bind fun bt379 => ((manifest_Apply.f l0_0 a0_1 a0_2 l1_0 l1_1 a1_2 a1_3).bind fun bt381 => ((tithebarnref16_Apply.f k l0_0 a0_1 a0_2 l1_0 l1_1 a1_2 a1_3).bind fun bt388 => (if bt377.1.toList = bt379.1.toList then (if bt377.2 = bt379.2 then (if bt381.2.2.2 = bt388.2.2.2 then ((tithebarnref16_Same.f k bt381.1 bt381.2.1 bt381.2.2.1 bt388.1 bt388.2.1 bt388.2.2.1).bind fun t395 => (some t395)) else (some false)) else (some false)) else (some false)))))) else (some false)) = some r := H
  have A3 := Aside0.mk A30
  clear A30
  by_cases c4 : t376 = true
  · subst c4
    have H1 : ((manifest_Write.f k l1_0 l1_1 a1_2 a1_3).bind fun bt377 => ((tithebarnref16_Write.f k l1_0 l1_1 a1_2 a1_3).bind fun bt379 => ((manifest_Apply.f l0_0 a0_1 a0_2 l1_0 l1_1 a1_2 a1_3).bind fun bt381 => ((tithebarnref16_Apply.f k l0_0 a0_1 a0_2 l1_0 l1_1 a1_2 a1_3).bind fun bt388 => (if bt377.1.toList = bt379.1.toList then (if bt377.2 = bt379.2 then (if bt381.2.2.2 = bt388.2.2.2 then ((tithebarnref16_Same.f k bt381.1 bt381.2.1 bt381.2.2.1 bt388.1 bt388.2.1 bt388.2.2.1).bind fun t395 => (some t395)) else (some false)) else (some false)) else (some false)))))) = some r := by rw [if_pos rfl] at H; exact H
    clear H
    have H := H1
    clear H1
    replace H := Option.bind_eq_some_iff.mp H
    obtain ⟨⟨t377, t378⟩, A50, H⟩ := H
    replace H : ((tithebarnref16_Write.f k l1_0 l1_1 a1_2 a1_3).bind fun bt379 => ((manifest_Apply.f l0_0 a0_1 a0_2 l1_0 l1_1 a1_2 a1_3).bind fun bt381 => ((tithebarnref16_Apply.f k l0_0 a0_1 a0_2 l1_0 l1_1 a1_2 a1_3).bind fun bt388 => (if t377.toList = bt379.1.toList then (if t378 = bt379.2 then (if bt381.2.2.2 = bt388.2.2.2 then ((tithebarnref16_Same.f k bt381.1 bt381.2.1 bt381.2.2.1 bt388.1 bt388.2.1 bt388.2.2.1).bind fun t395 => (some t395)) else (some false)) else (some false)) else (some false))))) = some r := H
    have A5 := Aside0.mk A50
    clear A50
    replace H := Option.bind_eq_some_iff.mp H
    obtain ⟨⟨t379, t380⟩, A60, H⟩ := H
    replace H : ((manifest_Apply.f l0_0 a0_1 a0_2 l1_0 l1_1 a1_2 a1_3).bind fun bt381 => ((tithebarnref16_Apply.f k l0_0 a0_1 a0_2 l1_0 l1_1 a1_2 a1_3).bind fun bt388 => (if t377.toList = t379.toList then (if t378 = t380 then (if bt381.2.2.2 = bt388.2.2.2 then ((tithebarnref16_Same.f k bt381.1 bt381.2.1 bt381.2.2.1 bt388.1 bt388.2.1 bt388.2.2.1).bind fun t395 => (some t395)) else (some false)) else (some false)) else (some false)))) = some r := H
    have A6 := Aside0.mk A60
    clear A60
    replace H := Option.bind_eq_some_iff.mp H
    obtain ⟨⟨t381, t384, t385, t386⟩, A70, H⟩ := H
    replace H : ((tithebarnref16_Apply.f k l0_0 a0_1 a0_2 l1_0 l1_1 a1_2 a1_3).bind fun bt388 => (if t377.toList = t379.toList then (if t378 = t380 then (if t386 = bt388.2.2.2 then ((tithebarnref16_Same.f k t381 t384 t385 bt388.1 bt388.2.1 bt388.2.2.1).bind fun t395 => (some t395)) else (some false)) else (some false)) else (some false))) = some r := H
    have A7 := Aside0.mk A70
    clear A70
    replace H := Option.bind_eq_some_iff.mp H
    obtain ⟨⟨t388, t391, t392, t393⟩, A80, H⟩ := H
    replace H : (if t377.toList = t379.toList then (if t378 = t380 then (if t386 = t393 then ((tithebarnref16_Same.f k t381 t384 t385 t388 t391 t392).bind fun t395 => (some t395)) else (some false)) else (some false)) else (some false)) = some r := H
    have A8 := Aside0.mk A80
    clear A80
    by_cases c9 : t377.toList = t379.toList
    · rw [if_pos c9] at H
      have c9b0 : (t377.toList == t379.toList) = true := beq_iff_eq.mpr c9
      have c9b1 : (t377.toList != t379.toList) = false := bne_eq_false_iff_eq.mpr c9
      clear c9
      by_cases c10 : t378 = t380
      · rw [if_pos c10] at H
        have c10b0 : (t378 == t380) = true := beq_iff_eq.mpr c10
        have c10b1 : (t378 != t380) = false := bne_eq_false_iff_eq.mpr c10
        clear c10
        by_cases c11 : t386 = t393
        · rw [if_pos c11] at H
          have c11b0 : (t386 == t393) = true := beq_iff_eq.mpr c11
          have c11b1 : (t386 != t393) = false := bne_eq_false_iff_eq.mpr c11
          clear c11
          replace H := Option.bind_eq_some_iff.mp H
          obtain ⟨t395, A120, H⟩ := H
          replace H : (some t395) = some r := H
          have A12 := Aside0.mk A120
          clear A120
          skip   -- leaf 0 stays
          obtain rfl := Option.some.inj H
          go_enter Try.func5, Try.ntmps5
          go_wp2_with (first | ((with_reducible refine gate_dst (N := 2) rfl ?_); refine box_event ?hg (N := 2) ?hd (cs := #[.slice A0_0 l0_0.length c0_0, .int .i64 a0_1, .int .i64 a0_2]) (t := 26) ?hr ?_; (case hd => rfl); (case hg => rfl); (case hr => first | (go_simp; done) | (go_simp; rfl)); intro gb374 hg w13 hbox hb; have n0_ := Aside0.mk (below_step (by repeat (first | (with_reducible first | exact HB.out | apply below_alloc | apply pw_below_drewN | apply below_drew1) | exact HB.out)) hb); have n1_ := Aside0.mk (hbox); have n2_ := Aside0.mk ((by rw [hg]; exact (below_size (by repeat (first | (with_reducible first | exact HB.out | apply below_alloc | apply pw_below_drewN | apply below_drew1) | exact HB.out))) : w.heap.size ≤ gb374)); have n3_ := Aside0.mk ((by rw [hg]; exact (below_size (by repeat (first | (with_reducible first | exact HB.out | apply below_alloc | apply pw_below_drewN | apply below_drew1) | exact HB.out))) : w.heap.size ≤ gb374)); clear HB; have HB := n0_; have BK374 := n1_; have GW374 := n2_; have GE374 := n3_; clear n0_ n1_ n2_ n3_; clear hb hbox hg) | ((with_reducible refine gate_dst (N := 3) rfl ?_); refine box_event ?hg (N := 3) ?hd (cs := #[.slice A1_0 l1_0.length c1_0, .slice A1_1 l1_1.length c1_1, .int .i64 a1_2, .int .i64 a1_3]) (t := 32) ?hr ?_; (case hd => rfl); (case hg => rfl); (case hr => first | (go_simp; done) | (go_simp; rfl)); intro gb375 hg w14 hbox hb; have n0_ := Aside0.mk (blk_below (g := gb374) (o := .cells #[.slice A0_0 l0_0.length c0_0, .int .i64 a0_1, .int .i64 a0_2] 26 (0, 0)) (by (with_reducible repeat (first | refine blk_drewN ?_ _ | refine blk_drew ?_ | refine blk_alloc ?_ _)); exact BK374.out) hb); have n1_ := Aside0.mk (below_step (by repeat (first | (with_reducible first | exact HB.out | apply below_alloc | apply pw_below_drewN | apply below_drew1 | refine below_set ?_ GE374.out) | exact HB.out)) hb); have n2_ := Aside0.mk (hbox); have n3_ := Aside0.mk ((by rw [hg]; exact (below_size (by repeat (first | (with_reducible first | exact HB.out | apply below_alloc | apply pw_below_drewN | apply below_drew1 | refine below_set ?_ GE374.out) | exact HB.out))) : w.heap.size ≤ gb375)); have n4_ := Aside0.mk ((by rw [hg]; exact (below_size (by repeat (first | (with_reducible first | exact HB.out | apply below_alloc | apply pw_below_drewN | apply below_drew1 | refine below_set ?_ GE374.out) | exact HB.out))) : w.heap.size ≤ gb375)); have n5_ := Aside0.mk ((by rw [hg]; exact Nat.ne_of_lt (blk_lt (g := gb374) (o := .cells #[.slice A0_0 l0_0.length c0_0, .int .i64 a0_1, .int .i64 a0_2] 26 (0, 0)) (by (with_reducible repeat (first | refine blk_drewN ?_ _ | refine blk_drew ?_ | refine blk_alloc ?_ _)); exact BK374.out)) : gb374 ≠ gb375)); have n6_ := Aside0.mk ((by rw [hg]; exact Nat.ne_of_gt (blk_lt (g := gb374) (o := .cells #[.slice A0_0 l0_0.length c0_0, .int .i64 a0_1, .int .i64 a0_2] 26 (0, 0)) (by (with_reducible repeat (first | refine blk_drewN ?_ _ | refine blk_drew ?_ | refine blk_alloc ?_ _)); exact BK374.out)) : gb375 ≠ gb374)); clear BK374; clear HB; have BK374 := n0_; have HB := n1_; have BK375 := n2_; have GW375 := n3_; have GE375 := n4_; have NB374_375 := n5_; have NB375_374 := n6_; clear n0_ n1_ n2_ n3_ n4_ n5_ n6_; clear hb hbox hg) | ((with_reducible refine gate_callee (f := 8) rfl ?_); refine goesL_ (some 13) rfl rfl Try.func8 (by kernel_rfl) rfl #[] rfl (by (try simp only [List.map_toArray, List.map_cons, List.map_nil]); first | done | rfl | (simp only [List.length_drop, List.length_take]; rfl) | (go_simp; simp [IntKind.wrap, IntKind.bits, IntKind.signed]; omega)) ?_; (with_reducible refine (tithebarnlaw16_lives.calls k  true _ A3.out).mono ?_); rintro e w15 ⟨rfl, hb⟩; refine ⟨_, rfl, ?_⟩; have n0_ := Aside0.mk (blk_below (g := gb374) (o := .cells #[.slice A0_0 l0_0.length c0_0, .int .i64 a0_1, .int .i64 a0_2] 26 (0, 0)) (by (with_reducible repeat (first | refine blk_drewN ?_ _ | refine blk_drew ?_ | refine blk_alloc ?_ _)); exact BK374.out) hb); have n1_ := Aside0.mk (blk_below (g := gb375) (o := .cells #[.slice A1_0 l1_0.length c1_0, .slice A1_1 l1_1.length c1_1, .int .i64 a1_2, .int .i64 a1_3] 32 (0, 0)) (by (with_reducible repeat (first | refine blk_drewN ?_ _ | refine blk_drew ?_ | refine blk_alloc ?_ _)); exact BK375.out) hb); have n2_ := Aside0.mk (below_step (by repeat (first | (with_reducible first | exact HB.out | apply below_alloc | apply pw_below_drewN | apply below_drew1 | refine below_set ?_ GE374.out | refine below_set ?_ GE375.out) | exact HB.out)) hb); clear BK374; clear BK375; clear HB; have BK374 := n0_; have BK375 := n1_; have HB := n2_; clear n0_ n1_ n2_; (try clear hb); (try clear hb2); (try clear hk); (try clear hi); have hnb16 := NB375_374.out; have hnc16 := NB374_375.out; have hcz17_0 : w15.cell? ⟨gb375, 0, none⟩ = some (.slice A1_0 l1_0.length c1_0) := (blk_cell BK375.out 0).trans rfl; have hcz17_1 : w15.cell? ⟨gb375, 1, none⟩ = some (.slice A1_1 l1_1.length c1_1) := (blk_cell BK375.out 1).trans rfl; have hcz17_2 : w15.cell? ⟨gb375, 2, none⟩ = some (.int .i64 a1_2) := (blk_cell BK375.out 2).trans rfl; have hcz17_3 : w15.cell? ⟨gb375, 3, none⟩ = some (.int .i64 a1_3) := (blk_cell BK375.out 3).trans rfl; have hfz17_0 := blk_frozen BK375.out 0; have hfz17_1 := blk_frozen BK375.out 1; have hfz17_2 := blk_frozen BK375.out 2; have hfz17_3 := blk_frozen BK375.out 3) | ((with_reducible refine gate_callee (f := 12) rfl ?_); refine goesL_ (some 17) rfl rfl Try.func12 (by kernel_rfl) rfl #[.agg #[.slice A1_0 l1_0.length c1_0, .slice A1_1 l1_1.length c1_1, .int .i64 a1_2, .int .i64 a1_3]] rfl (by (try simp only [List.map_toArray, List.map_cons, List.map_nil]); first | done | rfl | (simp only [List.length_drop, List.length_take]; rfl) | (go_simp; simp [IntKind.wrap, IntKind.bits, IntKind.signed]; omega)) ?_; (with_reducible refine (manifest_Write.calls k _ _ l1_0 _ _ l1_1 a1_2 a1_3 t377 t378 _ ?side1 ?side2 ?side3 ?side4 A5.out).mono ?_); (case side1 => repeat (first | exact (Kd.C_below HR1_0.out HB.out) | (with_reducible refine Kd.C_alloc ?_ _) | (with_reducible refine Kd.C_drewN ?_ _) | (with_reducible refine Kd.C_drew ?_))); (case side2 => exact HC1_0.out); (case side3 => repeat (first | exact (Kd.C_below HR1_1.out HB.out) | (with_reducible refine Kd.C_alloc ?_ _) | (with_reducible refine Kd.C_drewN ?_ _) | (with_reducible refine Kd.C_drew ?_))); (case side4 => exact HC1_1.out); rintro e w18 ⟨rfl, hb⟩; refine ⟨_, rfl, ?_⟩; have n0_ := Aside0.mk (blk_below (g := gb374) (o := .cells #[.slice A0_0 l0_0.length c0_0, .int .i64 a0_1, .int .i64 a0_2] 26 (0, 0)) (by (with_reducible repeat (first | refine blk_drewN ?_ _ | refine blk_drew ?_ | refine blk_alloc ?_ _)); exact BK374.out) hb); have n1_ := Aside0.mk (blk_below (g := gb375) (o := .cells #[.slice A1_0 l1_0.length c1_0, .slice A1_1 l1_1.length c1_1, .int .i64 a1_2, .int .i64 a1_3] 32 (0, 0)) (by (with_reducible repeat (first | refine blk_drewN ?_ _ | refine blk_drew ?_ | refine blk_alloc ?_ _)); exact BK375.out) hb); have n2_ := Aside0.mk (below_step (by repeat (first | (with_reducible first | exact HB.out | apply below_alloc | apply pw_below_drewN | apply below_drew1 | refine below_set ?_ GE374.out | refine below_set ?_ GE375.out) | exact HB.out)) hb); clear BK374; clear BK375; clear HB; have BK374 := n0_; have BK375 := n1_; have HB := n2_; clear n0_ n1_ n2_; (try clear hb); (try clear hb2); (try clear hk); (try clear hi); have hcz19_0 : w18.cell? ⟨gb375, 0, none⟩ = some (.slice A1_0 l1_0.length c1_0) := (blk_cell BK375.out 0).trans rfl; have hcz19_1 : w18.cell? ⟨gb375, 1, none⟩ = some (.slice A1_1 l1_1.length c1_1) := (blk_cell BK375.out 1).trans rfl; have hcz19_2 : w18.cell? ⟨gb375, 2, none⟩ = some (.int .i64 a1_2) := (blk_cell BK375.out 2).trans rfl; have hcz19_3 : w18.cell? ⟨gb375, 3, none⟩ = some (.int .i64 a1_3) := (blk_cell BK375.out 3).trans rfl; have hfz19_0 := blk_frozen BK375.out 0; have hfz19_1 := blk_frozen BK375.out 1; have hfz19_2 := blk_frozen BK375.out 2; have hfz19_3 := blk_frozen BK375.out 3) | ((with_reducible refine gate_callee (f := 13) rfl ?_); refine goesL_ (some 22) rfl rfl Try.func13 (by kernel_rfl) rfl #[.agg #[.slice A1_0 l1_0.length c1_0, .slice A1_1 l1_1.length c1_1, .int .i64 a1_2, .int .i64 a1_3]] rfl (by (try simp only [List.map_toArray, List.map_cons, List.map_nil]); first | done | rfl | (simp only [List.length_drop, List.length_take]; rfl) | (go_simp; simp [IntKind.wrap, IntKind.bits, IntKind.signed]; omega)) ?_; (with_reducible refine (tithebarnref16_Write.calls k _ _ l1_0 _ _ l1_1 a1_2 a1_3 t379 t380 _ ?side1 ?side2 ?side3 ?side4 A6.out).mono ?_); (case side1 => repeat (first | exact (Kd.C_below HR1_0.out HB.out) | (with_reducible refine Kd.C_alloc ?_ _) | (with_reducible refine Kd.C_drewN ?_ _) | (with_reducible refine Kd.C_drew ?_))); (case side2 => exact HC1_0.out); (case side3 => repeat (first | exact (Kd.C_below HR1_1.out HB.out) | (with_reducible refine Kd.C_alloc ?_ _) | (with_reducible refine Kd.C_drewN ?_ _) | (with_reducible refine Kd.C_drew ?_))); (case side4 => exact HC1_1.out); rintro e w20 ⟨rfl, hb⟩; refine ⟨_, rfl, ?_⟩; have n0_ := Aside0.mk (blk_below (g := gb374) (o := .cells #[.slice A0_0 l0_0.length c0_0, .int .i64 a0_1, .int .i64 a0_2] 26 (0, 0)) (by (with_reducible repeat (first | refine blk_drewN ?_ _ | refine blk_drew ?_ | refine blk_alloc ?_ _)); exact BK374.out) hb); have n1_ := Aside0.mk (blk_below (g := gb375) (o := .cells #[.slice A1_0 l1_0.length c1_0, .slice A1_1 l1_1.length c1_1, .int .i64 a1_2, .int .i64 a1_3] 32 (0, 0)) (by (with_reducible repeat (first | refine blk_drewN ?_ _ | refine blk_drew ?_ | refine blk_alloc ?_ _)); exact BK375.out) hb); have n2_ := Aside0.mk (below_step (by repeat (first | (with_reducible first | exact HB.out | apply below_alloc | apply pw_below_drewN | apply below_drew1 | refine below_set ?_ GE374.out | refine below_set ?_ GE375.out) | exact HB.out)) hb); clear BK374; clear BK375; clear HB; have BK374 := n0_; have BK375 := n1_; have HB := n2_; clear n0_ n1_ n2_; (try clear hb); (try clear hb2); (try clear hk); (try clear hi); have hcz21_0 : w20.cell? ⟨gb374, 0, none⟩ = some (.slice A0_0 l0_0.length c0_0) := (blk_cell BK374.out 0).trans rfl; have hcz21_1 : w20.cell? ⟨gb374, 1, none⟩ = some (.int .i64 a0_1) := (blk_cell BK374.out 1).trans rfl; have hcz21_2 : w20.cell? ⟨gb374, 2, none⟩ = some (.int .i64 a0_2) := (blk_cell BK374.out 2).trans rfl; have hfz21_0 := blk_frozen BK374.out 0; have hfz21_1 := blk_frozen BK374.out 1; have hfz21_2 := blk_frozen BK374.out 2; have hcz22_0 : w20.cell? ⟨gb375, 0, none⟩ = some (.slice A1_0 l1_0.length c1_0) := (blk_cell BK375.out 0).trans rfl; have hcz22_1 : w20.cell? ⟨gb375, 1, none⟩ = some (.slice A1_1 l1_1.length c1_1) := (blk_cell BK375.out 1).trans rfl; have hcz22_2 : w20.cell? ⟨gb375, 2, none⟩ = some (.int .i64 a1_2) := (blk_cell BK375.out 2).trans rfl; have hcz22_3 : w20.cell? ⟨gb375, 3, none⟩ = some (.int .i64 a1_3) := (blk_cell BK375.out 3).trans rfl; have hfz22_0 := blk_frozen BK375.out 0; have hfz22_1 := blk_frozen BK375.out 1; have hfz22_2 := blk_frozen BK375.out 2; have hfz22_3 := blk_frozen BK375.out 3) | ((with_reducible refine gate_callee (f := 9) rfl ?_); refine goesL_ (some 28) rfl rfl Try.func9 (by kernel_rfl) rfl #[.agg #[.slice A0_0 l0_0.length c0_0, .int .i64 a0_1, .int .i64 a0_2], .agg #[.slice A1_0 l1_0.length c1_0, .slice A1_1 l1_1.length c1_1, .int .i64 a1_2, .int .i64 a1_3]] rfl (by (try simp only [List.map_toArray, List.map_cons, List.map_nil]); first | done | rfl | (simp only [List.length_drop, List.length_take]; rfl) | (go_simp; simp [IntKind.wrap, IntKind.bits, IntKind.signed]; omega)) ?_; (with_reducible refine (manifest_Apply.calls _ _ l0_0 a0_1 a0_2 _ _ l1_0 _ _ l1_1 a1_2 a1_3 t381 t384 t385 t386 _ ?side1 ?side2 ?side3 ?side4 ?side5 ?side6 A7.out).mono ?_); (case side1 => repeat (first | exact (Kd.C_below HR0_0.out HB.out) | (with_reducible refine Kd.C_alloc ?_ _) | (with_reducible refine Kd.C_drewN ?_ _) | (with_reducible refine Kd.C_drew ?_))); (case side2 => exact HC0_0.out); (case side3 => repeat (first | exact (Kd.C_below HR1_0.out HB.out) | (with_reducible refine Kd.C_alloc ?_ _) | (with_reducible refine Kd.C_drewN ?_ _) | (with_reducible refine Kd.C_drew ?_))); (case side4 => exact HC1_0.out); (case side5 => repeat (first | exact (Kd.C_below HR1_1.out HB.out) | (with_reducible refine Kd.C_alloc ?_ _) | (with_reducible refine Kd.C_drewN ?_ _) | (with_reducible refine Kd.C_drew ?_))); (case side6 => exact HC1_1.out); rintro e w23 ⟨v382, rfl, ho0, hb⟩; refine ⟨_, rfl, ?_⟩; have n0_ := Aside0.mk (Kd.R_lower ho0 (below_size (by repeat (first | (with_reducible first | exact HB.out | apply below_alloc | apply pw_below_drewN | apply below_drew1 | refine below_set ?_ GE374.out | refine below_set ?_ GE375.out) | exact HB.out)))); have n1_ := Aside0.mk (blk_below (g := gb374) (o := .cells #[.slice A0_0 l0_0.length c0_0, .int .i64 a0_1, .int .i64 a0_2] 26 (0, 0)) (by (with_reducible repeat (first | refine blk_drewN ?_ _ | refine blk_drew ?_ | refine blk_alloc ?_ _)); exact BK374.out) hb); have n2_ := Aside0.mk (blk_below (g := gb375) (o := .cells #[.slice A1_0 l1_0.length c1_0, .slice A1_1 l1_1.length c1_1, .int .i64 a1_2, .int .i64 a1_3] 32 (0, 0)) (by (with_reducible repeat (first | refine blk_drewN ?_ _ | refine blk_drew ?_ | refine blk_alloc ?_ _)); exact BK375.out) hb); have n3_ := Aside0.mk (below_step (by repeat (first | (with_reducible first | exact HB.out | apply below_alloc | apply pw_below_drewN | apply below_drew1 | refine below_set ?_ GE374.out | refine below_set ?_ GE375.out) | exact HB.out)) hb); clear BK374; clear BK375; clear HB; have HO383 := n0_; have BK374 := n1_; have BK375 := n2_; have HB := n3_; clear n0_ n1_ n2_ n3_; (try clear hb); (try clear hb2); (try clear hk); (try clear hi); (try clear ho0)) | ((with_reducible refine gate_dst (N := 9) rfl ?_); refine box_event ?hg (N := 9) ?hd (cs := #[.slice none 0 0, .int .i64 0, .int .i64 0]) (t := 26) ?hr ?_; (case hd => rfl); (case hg => rfl); (case hr => first | (go_simp; done) | (go_simp; rfl)); intro gb387 hg w24 hbox hb; have n0_ := Aside0.mk (Kd.R_below (by (with_reducible repeat (first | apply Kd.R_alloc | apply Kd.R_drewN | apply Kd.R_drew)); exact HO383.out) hb); have n1_ := Aside0.mk (blk_below (g := gb374) (o := .cells #[.slice A0_0 l0_0.length c0_0, .int .i64 a0_1, .int .i64 a0_2] 26 (0, 0)) (by (with_reducible repeat (first | refine blk_drewN ?_ _ | refine blk_drew ?_ | refine blk_alloc ?_ _)); exact BK374.out) hb); have n2_ := Aside0.mk (blk_below (g := gb375) (o := .cells #[.slice A1_0 l1_0.length c1_0, .slice A1_1 l1_1.length c1_1, .int .i64 a1_2, .int .i64 a1_3] 32 (0, 0)) (by (with_reducible repeat (first | refine blk_drewN ?_ _ | refine blk_drew ?_ | refine blk_alloc ?_ _)); exact BK375.out) hb); have n3_ := Aside0.mk (below_step (by repeat (first | (with_reducible first | exact HB.out | apply below_alloc | apply pw_below_drewN | apply below_drew1 | refine below_set ?_ GE374.out | refine below_set ?_ GE375.out) | exact HB.out)) hb); have n4_ := Aside0.mk (hbox); have n5_ := Aside0.mk ((by rw [hg]; exact (below_size (by repeat (first | (with_reducible first | exact HB.out | apply below_alloc | apply pw_below_drewN | apply below_drew1 | refine below_set ?_ GE374.out | refine below_set ?_ GE375.out) | exact HB.out))) : w.heap.size ≤ gb387)); have n6_ := Aside0.mk ((by rw [hg]; exact (below_size (by repeat (first | (with_reducible first | exact HB.out | apply below_alloc | apply pw_below_drewN | apply below_drew1 | refine below_set ?_ GE374.out | refine below_set ?_ GE375.out) | exact HB.out))) : w.heap.size ≤ gb387)); have n7_ := Aside0.mk ((by rw [hg]; exact Nat.ne_of_lt (blk_lt (g := gb374) (o := .cells #[.slice A0_0 l0_0.length c0_0, .int .i64 a0_1, .int .i64 a0_2] 26 (0, 0)) (by (with_reducible repeat (first | refine blk_drewN ?_ _ | refine blk_drew ?_ | refine blk_alloc ?_ _)); exact BK374.out)) : gb374 ≠ gb387)); have n8_ := Aside0.mk ((by rw [hg]; exact Nat.ne_of_gt (blk_lt (g := gb374) (o := .cells #[.slice A0_0 l0_0.length c0_0, .int .i64 a0_1, .int .i64 a0_2] 26 (0, 0)) (by (with_reducible repeat (first | refine blk_drewN ?_ _ | refine blk_drew ?_ | refine blk_alloc ?_ _)); exact BK374.out)) : gb387 ≠ gb374)); have n9_ := Aside0.mk ((by rw [hg]; exact Nat.ne_of_lt (blk_lt (g := gb375) (o := .cells #[.slice A1_0 l1_0.length c1_0, .slice A1_1 l1_1.length c1_1, .int .i64 a1_2, .int .i64 a1_3] 32 (0, 0)) (by (with_reducible repeat (first | refine blk_drewN ?_ _ | refine blk_drew ?_ | refine blk_alloc ?_ _)); exact BK375.out)) : gb375 ≠ gb387)); have n10_ := Aside0.mk ((by rw [hg]; exact Nat.ne_of_gt (blk_lt (g := gb375) (o := .cells #[.slice A1_0 l1_0.length c1_0, .slice A1_1 l1_1.length c1_1, .int .i64 a1_2, .int .i64 a1_3] 32 (0, 0)) (by (with_reducible repeat (first | refine blk_drewN ?_ _ | refine blk_drew ?_ | refine blk_alloc ?_ _)); exact BK375.out)) : gb387 ≠ gb375)); clear HO383; clear BK374; clear BK375; clear HB; have HO383 := n0_; have BK374 := n1_; have BK375 := n2_; have HB := n3_; have BK387 := n4_; have GW387 := n5_; have GE387 := n6_; have NB374_387 := n7_; have NB387_374 := n8_; have NB375_387 := n9_; have NB387_375 := n10_; clear n0_ n1_ n2_ n3_ n4_ n5_ n6_ n7_ n8_ n9_ n10_; clear hb hbox hg; obtain ⟨Ao25, co25, eo25⟩ := Kd.R_slice HO383.out; subst eo25; have hnb26 := NB387_374.out; have hnc26 := NB374_387.out; have hnb27 := NB387_375.out; have hnc27 := NB375_387.out; have hcz28_0 : w24.cell? ⟨gb387, 0, none⟩ = some (.slice none 0 0) := (blk_cell BK387.out 0).trans rfl; have hcz28_1 : w24.cell? ⟨gb387, 1, none⟩ = some (.int .i64 0) := (blk_cell BK387.out 1).trans rfl; have hcz28_2 : w24.cell? ⟨gb387, 2, none⟩ = some (.int .i64 0) := (blk_cell BK387.out 2).trans rfl; have hfz28_0 := blk_frozen BK387.out 0; have hfz28_1 := blk_frozen BK387.out 1; have hfz28_2 := blk_frozen BK387.out 2; have hcz29_0 : w24.cell? ⟨gb374, 0, none⟩ = some (.slice A0_0 l0_0.length c0_0) := (blk_cell BK374.out 0).trans rfl; have hcz29_1 : w24.cell? ⟨gb374, 1, none⟩ = some (.int .i64 a0_1) := (blk_cell BK374.out 1).trans rfl; have hcz29_2 : w24.cell? ⟨gb374, 2, none⟩ = some (.int .i64 a0_2) := (blk_cell BK374.out 2).trans rfl; have hfz29_0 := blk_frozen BK374.out 0; have hfz29_1 := blk_frozen BK374.out 1; have hfz29_2 := blk_frozen BK374.out 2; have hcz30_0 : w24.cell? ⟨gb375, 0, none⟩ = some (.slice A1_0 l1_0.length c1_0) := (blk_cell BK375.out 0).trans rfl; have hcz30_1 : w24.cell? ⟨gb375, 1, none⟩ = some (.slice A1_1 l1_1.length c1_1) := (blk_cell BK375.out 1).trans rfl; have hcz30_2 : w24.cell? ⟨gb375, 2, none⟩ = some (.int .i64 a1_2) := (blk_cell BK375.out 2).trans rfl; have hcz30_3 : w24.cell? ⟨gb375, 3, none⟩ = some (.int .i64 a1_3) := (blk_cell BK375.out 3).trans rfl; have hfz30_0 := blk_frozen BK375.out 0; have hfz30_1 := blk_frozen BK375.out 1; have hfz30_2 := blk_frozen BK375.out 2; have hfz30_3 := blk_frozen BK375.out 3) | ((with_reducible refine gate_callee (f := 14) rfl ?_); refine goesL_ (some 34) rfl rfl Try.func14 (by kernel_rfl) rfl #[.agg #[.slice A0_0 l0_0.length c0_0, .int .i64 a0_1, .int .i64 a0_2], .agg #[.slice A1_0 l1_0.length c1_0, .slice A1_1 l1_1.length c1_1, .int .i64 a1_2, .int .i64 a1_3]] rfl (by (try simp only [List.map_toArray, List.map_cons, List.map_nil]); first | done | rfl | (simp only [List.length_drop, List.length_take]; rfl) | (go_simp; simp [IntKind.wrap, IntKind.bits, IntKind.signed]; omega)) ?_; (with_reducible refine (tithebarnref16_Apply.calls k _ _ l0_0 a0_1 a0_2 _ _ l1_0 _ _ l1_1 a1_2 a1_3 t388 t391 t392 t393 _ ?side1 ?side2 ?side3 ?side4 ?side5 ?side6 A8.out).mono ?_); (case side1 => exact Kd.C_below HR0_0.out (by repeat (first | (with_reducible first | exact HB.out | apply below_alloc | apply pw_below_drewN | apply below_drew1 | refine below_set ?_ GE374.out | refine below_set ?_ GE375.out | refine below_set ?_ GE387.out) | exact HB.out))); (case side2 => exact HC0_0.out); (case side3 => exact Kd.C_below HR1_0.out (by repeat (first | (with_reducible first | exact HB.out | apply below_alloc | apply pw_below_drewN | apply below_drew1 | refine below_set ?_ GE374.out | refine below_set ?_ GE375.out | refine below_set ?_ GE387.out) | exact HB.out))); (case side4 => exact HC1_0.out); (case side5 => exact Kd.C_below HR1_1.out (by repeat (first | (with_reducible first | exact HB.out | apply below_alloc | apply pw_below_drewN | apply below_drew1 | refine below_set ?_ GE374.out | refine below_set ?_ GE375.out | refine below_set ?_ GE387.out) | exact HB.out))); (case side6 => exact HC1_1.out); rintro e w31 ⟨v389, rfl, ho0, hb⟩; refine ⟨_, rfl, ?_⟩; have n0_ := Aside0.mk (Kd.R_elder' (by (with_reducible repeat (first | apply Kd.R_alloc | apply Kd.R_drewN | apply Kd.R_drew)); exact (Kd.R_mono (Kd.R_far (p := ⟨gb387, 2, none⟩) (Kd.R_far (p := ⟨gb387, 1, none⟩) (Kd.R_far (p := ⟨gb387, 0, none⟩) (Kd.R_types HO383.out BK387.out (by decide)) (fun _ hk => hk.2) (.slice Ao25 t381.length co25)) (fun _ hk => hk.2) (.int .i64 t384)) (fun _ hk => hk.2) (.int .i64 t385)) (fun _ h_ => h_.1))) (Kd.R_base ho0) hb); have n1_ := Aside0.mk (Kd.R_lower (Kd.R_new' ho0 (Kd.R_lt (by (with_reducible repeat (first | apply Kd.R_alloc | apply Kd.R_drewN | apply Kd.R_drew)); exact (Kd.R_mono (Kd.R_far (p := ⟨gb387, 2, none⟩) (Kd.R_far (p := ⟨gb387, 1, none⟩) (Kd.R_far (p := ⟨gb387, 0, none⟩) (Kd.R_types HO383.out BK387.out (by decide)) (fun _ hk => hk.2) (.slice Ao25 t381.length co25)) (fun _ hk => hk.2) (.int .i64 t384)) (fun _ hk => hk.2) (.int .i64 t385)) (fun _ h_ => h_.1))))) (below_size (by repeat (first | (with_reducible first | exact HB.out | apply below_alloc | apply pw_below_drewN | apply below_drew1 | refine below_set ?_ GE374.out | refine below_set ?_ GE375.out | refine below_set ?_ GE387.out) | exact HB.out)))); have n2_ := Aside0.mk (blk_below (g := gb374) (o := .cells #[.slice A0_0 l0_0.length c0_0, .int .i64 a0_1, .int .i64 a0_2] 26 (0, 0)) (by (with_reducible repeat (first | refine blk_drewN ?_ _ | refine blk_drew ?_ | refine blk_alloc ?_ _)); refine blk_far ?_ NB374_387.out _; (with_reducible repeat (first | refine blk_drewN ?_ _ | refine blk_drew ?_ | refine blk_alloc ?_ _)); refine blk_far ?_ NB374_387.out _; (with_reducible repeat (first | refine blk_drewN ?_ _ | refine blk_drew ?_ | refine blk_alloc ?_ _)); refine blk_far ?_ NB374_387.out _; (with_reducible repeat (first | refine blk_drewN ?_ _ | refine blk_drew ?_ | refine blk_alloc ?_ _)); exact BK374.out) hb); have n3_ := Aside0.mk (blk_below (g := gb375) (o := .cells #[.slice A1_0 l1_0.length c1_0, .slice A1_1 l1_1.length c1_1, .int .i64 a1_2, .int .i64 a1_3] 32 (0, 0)) (by (with_reducible repeat (first | refine blk_drewN ?_ _ | refine blk_drew ?_ | refine blk_alloc ?_ _)); refine blk_far ?_ NB375_387.out _; (with_reducible repeat (first | refine blk_drewN ?_ _ | refine blk_drew ?_ | refine blk_alloc ?_ _)); refine blk_far ?_ NB375_387.out _; (with_reducible repeat (first | refine blk_drewN ?_ _ | refine blk_drew ?_ | refine blk_alloc ?_ _)); refine blk_far ?_ NB375_387.out _; (with_reducible repeat (first | refine blk_drewN ?_ _ | refine blk_drew ?_ | refine blk_alloc ?_ _)); exact BK375.out) hb); have n4_ := Aside0.mk (blk_below (g := gb387) (o := .cells #[.slice Ao25 t381.length co25, .int .i64 t384, .int .i64 t385] 26 (0, 0)) (by (with_reducible repeat (first | refine blk_drewN ?_ _ | refine blk_drew ?_ | refine blk_alloc ?_ _)); refine blk_put (cs := #[.slice Ao25 t381.length co25, .int .i64 t384, .int .i64 0]) ?_ 2 _ rfl; (with_reducible repeat (first | refine blk_drewN ?_ _ | refine blk_drew ?_ | refine blk_alloc ?_ _)); refine blk_put (cs := #[.slice Ao25 t381.length co25, .int .i64 0, .int .i64 0]) ?_ 1 _ rfl; (with_reducible repeat (first | refine blk_drewN ?_ _ | refine blk_drew ?_ | refine blk_alloc ?_ _)); refine blk_put (cs := #[.slice none 0 0, .int .i64 0, .int .i64 0]) ?_ 0 _ rfl; (with_reducible repeat (first | refine blk_drewN ?_ _ | refine blk_drew ?_ | refine blk_alloc ?_ _)); exact BK387.out) hb); have n5_ := Aside0.mk (below_step (by repeat (first | (with_reducible first | exact HB.out | apply below_alloc | apply pw_below_drewN | apply below_drew1 | refine below_set ?_ GE374.out | refine below_set ?_ GE375.out | refine below_set ?_ GE387.out) | exact HB.out)) hb); clear HO383; clear BK374; clear BK375; clear BK387; clear HB; have HO383 := n0_; have HO390 := n1_; have BK374 := n2_; have BK375 := n3_; have BK387 := n4_; have HB := n5_; clear n0_ n1_ n2_ n3_ n4_ n5_; (try clear hb); (try clear hb2); (try clear hk); (try clear hi); (try clear ho0)) | ((with_reducible refine gate_dst (N := 11) rfl ?_); refine box_event ?hg (N := 11) ?hd (cs := #[.slice none 0 0, .int .i64 0, .int .i64 0]) (t := 26) ?hr ?_; (case hd => rfl); (case hg => rfl); (case hr => first | (go_simp; done) | (go_simp; rfl)); intro gb394 hg w32 hbox hb; have n0_ := Aside0.mk (Kd.R_below (by (with_reducible repeat (first | apply Kd.R_alloc | apply Kd.R_drewN | apply Kd.R_drew)); exact HO383.out) hb); have n1_ := Aside0.mk (Kd.R_below (by (with_reducible repeat (first | apply Kd.R_alloc | apply Kd.R_drewN | apply Kd.R_drew)); exact HO390.out) hb); have n2_ := Aside0.mk (blk_below (g := gb374) (o := .cells #[.slice A0_0 l0_0.length c0_0, .int .i64 a0_1, .int .i64 a0_2] 26 (0, 0)) (by (with_reducible repeat (first | refine blk_drewN ?_ _ | refine blk_drew ?_ | refine blk_alloc ?_ _)); exact BK374.out) hb); have n3_ := Aside0.mk (blk_below (g := gb375) (o := .cells #[.slice A1_0 l1_0.length c1_0, .slice A1_1 l1_1.length c1_1, .int .i64 a1_2, .int .i64 a1_3] 32 (0, 0)) (by (with_reducible repeat (first | refine blk_drewN ?_ _ | refine blk_drew ?_ | refine blk_alloc ?_ _)); exact BK375.out) hb); have n4_ := Aside0.mk (blk_below (g := gb387) (o := .cells #[.slice Ao25 t381.length co25, .int .i64 t384, .int .i64 t385] 26 (0, 0)) (by (with_reducible repeat (first | refine blk_drewN ?_ _ | refine blk_drew ?_ | refine blk_alloc ?_ _)); exact BK387.out) hb); have n5_ := Aside0.mk (below_step (by repeat (first | (with_reducible first | exact HB.out | apply below_alloc | apply pw_below_drewN | apply below_drew1 | refine below_set ?_ GE374.out | refine below_set ?_ GE375.out | refine below_set ?_ GE387.out) | exact HB.out)) hb); have n6_ := Aside0.mk (hbox); have n7_ := Aside0.mk ((by rw [hg]; exact (below_size (by repeat (first | (with_reducible first | exact HB.out | apply below_alloc | apply pw_below_drewN | apply below_drew1 | refine below_set ?_ GE374.out | refine below_set ?_ GE375.out | refine below_set ?_ GE387.out) | exact HB.out))) : w.heap.size ≤ gb394)); have n8_ := Aside0.mk ((by rw [hg]; exact (below_size (by repeat (first | (with_reducible first | exact HB.out | apply below_alloc | apply pw_below_drewN | apply below_drew1 | refine below_set ?_ GE374.out | refine below_set ?_ GE375.out | refine below_set ?_ GE387.out) | exact HB.out))) : w.heap.size ≤ gb394)); have n9_ := Aside0.mk ((by rw [hg]; exact Nat.ne_of_lt (blk_lt (g := gb374) (o := .cells #[.slice A0_0 l0_0.length c0_0, .int .i64 a0_1, .int .i64 a0_2] 26 (0, 0)) (by (with_reducible repeat (first | refine blk_drewN ?_ _ | refine blk_drew ?_ | refine blk_alloc ?_ _)); exact BK374.out)) : gb374 ≠ gb394)); have n10_ := Aside0.mk ((by rw [hg]; exact Nat.ne_of_gt (blk_lt (g := gb374) (o := .cells #[.slice A0_0 l0_0.length c0_0, .int .i64 a0_1, .int .i64 a0_2] 26 (0, 0)) (by (with_reducible repeat (first | refine blk_drewN ?_ _ | refine blk_drew ?_ | refine blk_alloc ?_ _)); exact BK374.out)) : gb394 ≠ gb374)); have n11_ := Aside0.mk ((by rw [hg]; exact Nat.ne_of_lt (blk_lt (g := gb375) (o := .cells #[.slice A1_0 l1_0.length c1_0, .slice A1_1 l1_1.length c1_1, .int .i64 a1_2, .int .i64 a1_3] 32 (0, 0)) (by (with_reducible repeat (first | refine blk_drewN ?_ _ | refine blk_drew ?_ | refine blk_alloc ?_ _)); exact BK375.out)) : gb375 ≠ gb394)); have n12_ := Aside0.mk ((by rw [hg]; exact Nat.ne_of_gt (blk_lt (g := gb375) (o := .cells #[.slice A1_0 l1_0.length c1_0, .slice A1_1 l1_1.length c1_1, .int .i64 a1_2, .int .i64 a1_3] 32 (0, 0)) (by (with_reducible repeat (first | refine blk_drewN ?_ _ | refine blk_drew ?_ | refine blk_alloc ?_ _)); exact BK375.out)) : gb394 ≠ gb375)); have n13_ := Aside0.mk ((by rw [hg]; exact Nat.ne_of_lt (blk_lt (g := gb387) (o := .cells #[.slice Ao25 t381.length co25, .int .i64 t384, .int .i64 t385] 26 (0, 0)) (by (with_reducible repeat (first | refine blk_drewN ?_ _ | refine blk_drew ?_ | refine blk_alloc ?_ _)); exact BK387.out)) : gb387 ≠ gb394)); have n14_ := Aside0.mk ((by rw [hg]; exact Nat.ne_of_gt (blk_lt (g := gb387) (o := .cells #[.slice Ao25 t381.length co25, .int .i64 t384, .int .i64 t385] 26 (0, 0)) (by (with_reducible repeat (first | refine blk_drewN ?_ _ | refine blk_drew ?_ | refine blk_alloc ?_ _)); exact BK387.out)) : gb394 ≠ gb387)); clear HO383; clear HO390; clear BK374; clear BK375; clear BK387; clear HB; have HO383 := n0_; have HO390 := n1_; have BK374 := n2_; have BK375 := n3_; have BK387 := n4_; have HB := n5_; have BK394 := n6_; have GW394 := n7_; have GE394 := n8_; have NB374_394 := n9_; have NB394_374 := n10_; have NB375_394 := n11_; have NB394_375 := n12_; have NB387_394 := n13_; have NB394_387 := n14_; clear n0_ n1_ n2_ n3_ n4_ n5_ n6_ n7_ n8_ n9_ n10_ n11_ n12_ n13_ n14_; clear hb hbox hg; obtain ⟨Ao33, co33, eo33⟩ := Kd.R_slice HO390.out; subst eo33; have hnb34 := NB394_374.out; have hnc34 := NB374_394.out; have hnb35 := NB394_375.out; have hnc35 := NB375_394.out; have hnb36 := NB394_387.out; have hnc36 := NB387_394.out; have hcz37_0 : w32.cell? ⟨gb394, 0, none⟩ = some (.slice none 0 0) := (blk_cell BK394.out 0).trans rfl; have hcz37_1 : w32.cell? ⟨gb394, 1, none⟩ = some (.int .i64 0) := (blk_cell BK394.out 1).trans rfl; have hcz37_2 : w32.cell? ⟨gb394, 2, none⟩ = some (.int .i64 0) := (blk_cell BK394.out 2).trans rfl; have hfz37_0 := blk_frozen BK394.out 0; have hfz37_1 := blk_frozen BK394.out 1; have hfz37_2 := blk_frozen BK394.out 2; have hcz38_0 : w32.cell? ⟨gb387, 0, none⟩ = some (.slice Ao25 t381.length co25) := (blk_cell BK387.out 0).trans rfl; have hcz38_1 : w32.cell? ⟨gb387, 1, none⟩ = some (.int .i64 t384) := (blk_cell BK387.out 1).trans rfl; have hcz38_2 : w32.cell? ⟨gb387, 2, none⟩ = some (.int .i64 t385) := (blk_cell BK387.out 2).trans rfl; have hfz38_0 := blk_frozen BK387.out 0; have hfz38_1 := blk_frozen BK387.out 1; have hfz38_2 := blk_frozen BK387.out 2) | (go_at_call 11; (with_reducible refine (tithebarnref16_Same.calls k _ _ t381 t384 t385 _ _ t388 t391 t392 t395 _ ?side1 ?side2 ?side3 ?side4 A12.out).mono ?_); (case side1 => refine (Kd.R_reads' (e := 36) (base := w.heap.size) (ok := fun k_ => (True ∧ some k_ ≠ (.slice Ao33 t388.length co33 : Value).ownBlock)) (n := t381.length) (c := co25) ?_).2.2; exact (by (with_reducible repeat (first | apply Kd.R_alloc | apply Kd.R_drewN | apply Kd.R_drew)); exact (Kd.R_mono (Kd.R_far (p := ⟨gb394, 2, none⟩) (Kd.R_far (p := ⟨gb394, 1, none⟩) (Kd.R_far (p := ⟨gb394, 0, none⟩) (Kd.R_types HO383.out BK394.out (by decide)) (fun _ hk => hk.2) (.slice Ao33 t388.length co33)) (fun _ hk => hk.2) (.int .i64 t391)) (fun _ hk => hk.2) (.int .i64 t392)) (fun _ h_ => h_.1)))); (case side2 => exact (Kd.R_reads' HO383.out).2.1); (case side3 => refine (Kd.R_reads' (e := 36) (base := w.heap.size) (ok := fun k_ => (True ∧ some k_ ≠ (.slice Ao25 t381.length co25 : Value).ownBlock)) (n := t388.length) (c := co33) ?_).2.2; exact (by (with_reducible repeat (first | apply Kd.R_alloc | apply Kd.R_drewN | apply Kd.R_drew)); exact (Kd.R_mono (Kd.R_far (p := ⟨gb394, 2, none⟩) (Kd.R_far (p := ⟨gb394, 1, none⟩) (Kd.R_far (p := ⟨gb394, 0, none⟩) (Kd.R_types HO390.out BK394.out (by decide)) (fun _ hk => hk.2) (.slice Ao33 t388.length co33)) (fun _ hk => hk.2) (.int .i64 t391)) (fun _ hk => hk.2) (.int .i64 t392)) (fun _ h_ => h_.1)))); (case side4 => exact (Kd.R_reads' HO390.out).2.1); rintro e w39 ⟨rfl, hb⟩; have n0_ := Aside0.mk (Kd.R_below (by (with_reducible repeat (first | apply Kd.R_alloc | apply Kd.R_drewN | apply Kd.R_drew)); exact (Kd.R_mono (Kd.R_far (p := ⟨gb394, 2, none⟩) (Kd.R_far (p := ⟨gb394, 1, none⟩) (Kd.R_far (p := ⟨gb394, 0, none⟩) (Kd.R_types HO383.out BK394.out (by decide)) (fun _ hk => hk.2) (.slice Ao33 t388.length co33)) (fun _ hk => hk.2) (.int .i64 t391)) (fun _ hk => hk.2) (.int .i64 t392)) (fun _ h_ => h_.1))) hb); have n1_ := Aside0.mk (Kd.R_below (by (with_reducible repeat (first | apply Kd.R_alloc | apply Kd.R_drewN | apply Kd.R_drew)); exact (Kd.R_mono (Kd.R_far (p := ⟨gb394, 2, none⟩) (Kd.R_far (p := ⟨gb394, 1, none⟩) (Kd.R_far (p := ⟨gb394, 0, none⟩) (Kd.R_types HO390.out BK394.out (by decide)) (fun _ hk => hk.2) (.slice Ao33 t388.length co33)) (fun _ hk => hk.2) (.int .i64 t391)) (fun _ hk => hk.2) (.int .i64 t392)) (fun _ h_ => h_.1))) hb); have n2_ := Aside0.mk (blk_below (g := gb374) (o := .cells #[.slice A0_0 l0_0.length c0_0, .int .i64 a0_1, .int .i64 a0_2] 26 (0, 0)) (by (with_reducible repeat (first | refine blk_drewN ?_ _ | refine blk_drew ?_ | refine blk_alloc ?_ _)); refine blk_far ?_ NB374_394.out _; (with_reducible repeat (first | refine blk_drewN ?_ _ | refine blk_drew ?_ | refine blk_alloc ?_ _)); refine blk_far ?_ NB374_394.out _; (with_reducible repeat (first | refine blk_drewN ?_ _ | refine blk_drew ?_ | refine blk_alloc ?_ _)); refine blk_far ?_ NB374_394.out _; (with_reducible repeat (first | refine blk_drewN ?_ _ | refine blk_drew ?_ | refine blk_alloc ?_ _)); exact BK374.out) hb); have n3_ := Aside0.mk (blk_below (g := gb375) (o := .cells #[.slice A1_0 l1_0.length c1_0, .slice A1_1 l1_1.length c1_1, .int .i64 a1_2, .int .i64 a1_3] 32 (0, 0)) (by (with_reducible repeat (first | refine blk_drewN ?_ _ | refine blk_drew ?_ | refine blk_alloc ?_ _)); refine blk_far ?_ NB375_394.out _; (with_reducible repeat (first | refine blk_drewN ?_ _ | refine blk_drew ?_ | refine blk_alloc ?_ _)); refine blk_far ?_ NB375_394.out _; (with_reducible repeat (first | refine blk_drewN ?_ _ | refine blk_drew ?_ | refine blk_alloc ?_ _)); refine blk_far ?_ NB375_394.out _; (with_reducible repeat (first | refine blk_drewN ?_ _ | refine blk_drew ?_ | refine blk_alloc ?_ _)); exact BK375.out) hb); have n4_ := Aside0.mk (blk_below (g := gb387) (o := .cells #[.slice Ao25 t381.length co25, .int .i64 t384, .int .i64 t385] 26 (0, 0)) (by (with_reducible repeat (first | refine blk_drewN ?_ _ | refine blk_drew ?_ | refine blk_alloc ?_ _)); refine blk_far ?_ NB387_394.out _; (with_reducible repeat (first | refine blk_drewN ?_ _ | refine blk_drew ?_ | refine blk_alloc ?_ _)); refine blk_far ?_ NB387_394.out _; (with_reducible repeat (first | refine blk_drewN ?_ _ | refine blk_drew ?_ | refine blk_alloc ?_ _)); refine blk_far ?_ NB387_394.out _; (with_reducible repeat (first | refine blk_drewN ?_ _ | refine blk_drew ?_ | refine blk_alloc ?_ _)); exact BK387.out) hb); have n5_ := Aside0.mk (blk_below (g := gb394) (o := .cells #[.slice Ao33 t388.length co33, .int .i64 t391, .int .i64 t392] 26 (0, 0)) (by (with_reducible repeat (first | refine blk_drewN ?_ _ | refine blk_drew ?_ | refine blk_alloc ?_ _)); refine blk_put (cs := #[.slice Ao33 t388.length co33, .int .i64 t391, .int .i64 0]) ?_ 2 _ rfl; (with_reducible repeat (first | refine blk_drewN ?_ _ | refine blk_drew ?_ | refine blk_alloc ?_ _)); refine blk_put (cs := #[.slice Ao33 t388.length co33, .int .i64 0, .int .i64 0]) ?_ 1 _ rfl; (with_reducible repeat (first | refine blk_drewN ?_ _ | refine blk_drew ?_ | refine blk_alloc ?_ _)); refine blk_put (cs := #[.slice none 0 0, .int .i64 0, .int .i64 0]) ?_ 0 _ rfl; (with_reducible repeat (first | refine blk_drewN ?_ _ | refine blk_drew ?_ | refine blk_alloc ?_ _)); exact BK394.out) hb); have n6_ := Aside0.mk (below_step (by repeat (first | (with_reducible first | exact HB.out | apply below_alloc | apply pw_below_drewN | apply below_drew1 | refine below_set ?_ GE374.out | refine below_set ?_ GE375.out | refine below_set ?_ GE387.out | refine below_set ?_ GE394.out) | exact HB.out)) hb); clear HO383; clear HO390; clear BK374; clear BK375; clear BK387; clear BK394; clear HB; have HO383 := n0_; have HO390 := n1_; have BK374 := n2_; have BK375 := n3_; have BK387 := n4_; have BK394 := n5_; have HB := n6_; clear n0_ n1_ n2_ n3_ n4_ n5_ n6_; (try clear hb); (try clear hb2); (try clear hk); (try clear hi)))
          go_ret
          exact ⟨by first | rfl | (simp [errW_none, errW_some] <;> rfl) | (simp [*, errW_none, errW_some] <;> rfl), by repeat (first | (with_reducible first | exact HB.out | apply below_alloc | apply pw_below_drewN | apply below_drew1 | refine below_set ?_ GE374.out | refine below_set ?_ GE375.out | refine below_set ?_ GE387.out | refine below_set ?_ GE394.out) | exact HB.out)⟩
        · rw [if_neg c11] at H
          have c11b0 : (t386 == t393) = false := beq_eq_false_iff_ne.mpr c11
          have c11b1 : (t386 != t393) = true := bne_iff_ne.mpr c11
          exact absurd ((Option.some.inj H).trans HR_.out) (by decide)   -- leaf 1
      · rw [if_neg c10] at H
        have c10b0 : (t378 == t380) = false := beq_eq_false_iff_ne.mpr c10
        have c10b1 : (t378 != t380) = true := bne_iff_ne.mpr c10
        exact absurd ((Option.some.inj H).trans HR_.out) (by decide)   -- leaf 2
    · rw [if_neg c9] at H
      have c9b0 : (t377.toList == t379.toList) = false := beq_eq_false_iff_ne.mpr c9
      have c9b1 : (t377.toList != t379.toList) = true := bne_iff_ne.mpr c9
      exact absurd ((Option.some.inj H).trans HR_.out) (by decide)   -- leaf 3
  · replace c4 := Bool.eq_false_iff.mpr c4
    subst c4
    have H1 : (some false) = some r := by rw [if_neg (show ¬ (false = true) by decide)] at H; exact H
    clear H
    have H := H1
    clear H1
    exact absurd ((Option.some.inj H).trans HR_.out) (by decide)   -- leaf 4
def tithebarnlaw16_ManifestWrites.f (k : Nat) (l0_0 : List (S36)) (a0_1 : Int) (a0_2 : Int) (l1_0 : List Int) (l1_1 : List (S36)) (a1_2 : Int) (a1_3 : Int) : Option (Bool) := if tithebarnlaw16_ManifestWrites.g k l0_0 a0_1 a0_2 l1_0 l1_1 a1_2 a1_3 = some true then some true else none
theorem tithebarnlaw16_ManifestWrites.mono : ∀ a0 a1 a2 a3 a4 a5 a6 k, LeO (tithebarnlaw16_ManifestWrites.f k a0 a1 a2 a3 a4 a5 a6) (tithebarnlaw16_ManifestWrites.f (k + 1) a0 a1 a2 a3 a4 a5 a6) := by
  intro a0 a1 a2 a3 a4 a5 a6 k r h
  unfold tithebarnlaw16_ManifestWrites.f at h ⊢
  split at h
  · rename_i hg; rw [if_pos (tithebarnlaw16_ManifestWrites.monog a0 a1 a2 a3 a4 a5 a6 k _ hg)]; exact h
  · exact absurd h (by simp)
theorem tithebarnlaw16_ManifestWrites.calls (k : Nat) (A0_0 : Option Addr) (c0_0 : Nat) (l0_0 : List (S36)) (a0_1 : Int) (a0_2 : Int) (A1_0 : Option Addr) (c1_0 : Nat) (l1_0 : List Int) (A1_1 : Option Addr) (c1_1 : Nat) (l1_1 : List (S36)) (a1_2 : Int) (a1_3 : Int) (r : Bool) (w : World) (hr0_0 : Kd.C k36 w A0_0 l0_0.length l0_0) (hc0_0 : l0_0.length ≤ c0_0) (hr1_0 : Kd.C (Kd.int .i64) w A1_0 l1_0.length l1_0) (hc1_0 : l1_0.length ≤ c1_0) (hr1_1 : Kd.C k36 w A1_1 l1_1.length l1_1) (hc1_1 : l1_1.length ≤ c1_1) (h : tithebarnlaw16_ManifestWrites.f k l0_0 a0_1 a0_2 l1_0 l1_1 a1_2 a1_3 = some r) :
    Calls Try.prog 5 #[.agg #[.slice A0_0 l0_0.length c0_0, .int .i64 a0_1, .int .i64 a0_2], .agg #[.slice A1_0 l1_0.length c1_0, .slice A1_1 l1_1.length c1_1, .int .i64 a1_2, .int .i64 a1_3]] w fun e w' => e = .returned (.bool r) ∧ Below w.heap.size w w' := by
  unfold tithebarnlaw16_ManifestWrites.f at h
  split at h
  · rename_i hg; obtain rfl := Option.some.inj h; exact tithebarnlaw16_ManifestWrites.callsT k A0_0 c0_0 l0_0 a0_1 a0_2 A1_0 c1_0 l1_0 A1_1 c1_1 l1_1 a1_2 a1_3 true w hr0_0 hc0_0 hr1_0 hc1_0 hr1_1 hc1_1 rfl hg
  · exact absurd h (by simp)
def frame_get.l0 : Nat → ByteArray → Int → Int → Option (Int)
  | 0, _, _, _ => none
  | k + 1, x0, x3, x4 => if x4 ≥ 0 then (if 0 ≤ x4 then (if x4 < (x0.size : Int) then (frame_get.l0 k x0 (Go.bits .or .u32 ((x3 * 256) % 4294967296) ((bt x0 x4) % 4294967296)) (wrap64 (x4 - 1))) else (none)) else (none)) else (some x3)
def frame_get.f (k : Nat) (a0 : ByteArray) : Option (Int) := frame_get.l0 k a0 0 3
theorem frame_get.mono_l : ∀ k, (∀ y0 y1 y2, LeO (frame_get.l0 k y0 y1 y2) (frame_get.l0 (k + 1) y0 y1 y2))
  | 0 => fun _ _ _ r h => by simp [frame_get.l0] at h
  | k + 1 => by
    have ih0 := frame_get.mono_l k
    · intro y0 y1 y2
      unfold frame_get.l0
      repeat' first
      | (with_reducible exact ih0 _ _ _)
      | (with_reducible exact LeO.refl _)
      | (with_reducible exact LeO.none _)
      | (with_reducible refine LeO.ite ?_ ?_)
      | (with_reducible refine LeO.bind ?_ (fun _ => ?_))
      | exact ih0 _ _ _
      | exact LeO.none _
      | refine LeO.ite ?_ ?_
      | refine LeO.bind ?_ (fun _ => ?_)
theorem frame_get.mono : ∀ a0 k, LeO (frame_get.f k a0) (frame_get.f (k + 1) a0) := by
  intro a0 k
  have ih0 := frame_get.mono_l k
  unfold frame_get.f
  repeat' first
      | (with_reducible exact ih0 _ _ _)
      | (with_reducible exact LeO.refl _)
      | (with_reducible exact LeO.none _)
      | (with_reducible refine LeO.ite ?_ ?_)
      | (with_reducible refine LeO.bind ?_ (fun _ => ?_))
      | exact ih0 _ _ _
      | exact LeO.none _
      | refine LeO.ite ?_ ?_
      | refine LeO.bind ?_ (fun _ => ?_)
set_option maxHeartbeats 8000000 in
set_option maxRecDepth 100000 in
theorem frame_get.calls (k : Nat) (a0 : ByteArray) (r : Int) (w : World) (h : frame_get.f k a0 = some r) :
    Calls Try.prog 68 #[.string a0] w fun e w' => e = .returned (.int .u32 r) ∧ Drawn0 w w' := by
  have H : (frame_get.l0 k a0 0 3) = some r := h
  clear h
  have H' := Aside0.mk H
  clear H
  go_enter Try.func68, Try.ntmps68
  go_wp2
  go_loopg [3, 4] k (fun kq v3 v4 w' => ∃ (x3_1 : Int) (x4_1 : Int), v3 = .int .u32 x3_1 ∧ v4 = .int .i64 x4_1 ∧ Aside0 (frame_get.l0 kq a0 x3_1 x4_1 = some r) ∧ Aside0 (kq ≤ k) ∧ Drawn0 w w')
  case atStart => exact ⟨(0), (3), (by first | rfl | (simp; done) | (simp [*]; done)), (by first | rfl | (simp; done) | (simp [*]; done)), H', ⟨Nat.le_refl _⟩, by repeat (first | exact Drawn0.refl _ | apply Drawn0.step)⟩
  case round =>
    clear H'
    obtain ⟨x3_1, x4_1, rfl, rfl, HA, HK1, ⟨m1, rfl⟩⟩ := hrel
    cases gk with
    | zero => exact absurd HA.out (by simp [frame_get.l0])
    | succ k1 =>
      have H := HA.out
      clear HA
      simp only [frame_get.l0] at H
      by_cases c2 : x4_1 ≥ 0
      · rw [if_pos c2] at H
        have c2b0 : decide (0 ≤ x4_1) = true := decide_eq_true c2
        clear c2
        by_cases c3 : 0 ≤ x4_1
        · rw [if_pos c3] at H
          have c3b0 : decide (0 ≤ x4_1) = true := decide_eq_true c3
          clear c3
          by_cases c4 : x4_1 < (a0.size : Int)
          · rw [if_pos c4] at H
            have c4b0 : decide (x4_1 < (a0.size : Int)) = true := decide_eq_true c4
            clear c4
            have H' := Aside0.mk H
            clear H
            have p5 : 0 ≤ (x4_1 : Int) := of_decide_eq_true (by first | (with_reducible assumption) | assumption)
            have q5 : x4_1 < (a0.size : Int) := of_decide_eq_true (by first | (with_reducible assumption) | assumption)
            have hx5 := bt_at a0 x4_1
            replace p5 := eq_true p5
            replace q5 := eq_true q5
            go_wp2
            go_roundg k1
            case measure => have := HK1.out; omega
            case rel => exact ⟨(Go.bits .or .u32 ((x3_1 * 256) % 4294967296) ((bt a0 x4_1) % 4294967296)), (wrap64 (x4_1 - 1)), (by first | rfl | (simp; done) | (simp [*]; done)), (by first | rfl | (simp; done) | (simp [*]; done)), H', ⟨by have := HK1.out; omega⟩, by repeat (first | exact Drawn0.refl _ | apply Drawn0.step)⟩
          · rw [if_neg c4] at H
            exact absurd H (by simp)
        · rw [if_neg c3] at H
          exact absurd H (by simp)
      · rw [if_neg c2] at H
        have c2b0 : decide (0 ≤ x4_1) = false := decide_eq_false c2
        clear c2
        obtain rfl := Option.some.inj H
        go_wp2
        go_ret
        exact ⟨by first | rfl | (simp; done) | (simp [*]; done), by repeat (first | exact Drawn0.refl _ | apply Drawn0.step)⟩
theorem frame_next.get_f {k : Nat} (hk : 5 ≤ k) {s : ByteArray} (hs : 4 ≤ s.size) : frame_get.f k s = some (num4 (bytesOf s)) := by
  obtain ⟨k, rfl⟩ : ∃ m, k = m + 5 := ⟨k - 5, by omega⟩
  unfold frame_get.f
  simp only [frame_get.l0]
  have e1 : wrap64 (3 - 1) = 2 := by unfold wrap64; decide
  have e2 : wrap64 (2 - 1) = 1 := by unfold wrap64; decide
  have e3 : wrap64 (1 - 1) = 0 := by unfold wrap64; decide
  have e4 : wrap64 (0 - 1) = -1 := by unfold wrap64; decide
  simp only [e1, e2, e3, e4, bt_rd]
  have hB := Bs.bytesOf s
  have h0 := rd_Bs hB 0; have h1 := rd_Bs hB 1; have h2 := rd_Bs hB 2; have h3 := rd_Bs hB 3
  rw [or_u32 0 (rd (bytesOf s) 3) (by omega) (by omega) h3.1 h3.2, or_u32 _ (rd (bytesOf s) 2) (by omega) (by omega) h2.1 h2.2, or_u32 _ (rd (bytesOf s) 1) (by omega) (by omega) h1.1 h1.2, or_u32 _ (rd (bytesOf s) 0) (by omega) (by omega) h0.1 h0.2]
  rw [if_pos (by omega), if_pos (by omega), if_pos (by omega), if_pos (by omega), if_pos (by omega), if_pos (by omega), if_pos (by omega), if_pos (by omega), if_pos (by omega), if_pos (by omega), if_pos (by omega), if_pos (by omega), if_neg (by omega)]
  unfold num4
  congr 1; omega
theorem frame_next.get_same (s : ByteArray) (w : World) (n : Int) (hs : 4 ≤ s.size) (hn : num4 (bytesOf s) = n) : Calls Try.prog 68 #[.string s] w fun e w' => e = .returned (.int .u32 n) ∧ Below w.heap.size w w' := by
  refine (frame_get.calls 5 s _ w (frame_next.get_f (Nat.le_refl _) hs)).mono ?_
  rintro e w' ⟨rfl, nd, rfl⟩
  exact ⟨by rw [hn], pw_below_drewN (Below.refl _ _) _⟩
set_option maxHeartbeats 400000 in
set_option maxRecDepth 100000 in
theorem frame_next.w1 (s : ByteArray) (w : World) (h : s.size < 4) : Calls Try.prog 50 #[.string s] w fun e w' => e = .returned (.tuple #[.string ⟨#[]⟩, .string s, .bool false, .int .i64 0]) ∧ Below w.heap.size w w' := by
  have d1 : decide ((s.size : Int) < 4) = true := decide_eq_true (by omega)
  have d2 : decide (s.size < 4) = true := decide_eq_true h
  go_enter Try.func50, Try.ntmps50
  go_wp2
  refine bodyPost_ret (results_list (rs := [.tmp 2, .tmp 3, .tmp 4, .tmp 5]) rfl (by simp) (.tmp (.tmp (.tmp (.tmp .nil))))) rfl ?_
  exact ⟨rfl, Below.refl _ _⟩
set_option maxHeartbeats 400000 in
set_option maxRecDepth 100000 in
theorem frame_next.w2 (s : ByteArray) (w : World) (n : Nat) (h : 4 ≤ s.size) (hn : num4 (bytesOf s) = n) (h2 : 1048576 < n) : Calls Try.prog 50 #[.string s] w fun e w' => e = .returned (.tuple #[.string ⟨#[]⟩, .string s, .bool false, .int .i64 8]) ∧ Below w.heap.size w w' := by
  have d1 : decide ((s.size : Int) < 4) = false := decide_eq_false (by omega)
  have d2 : decide (s.size < 4) = false := decide_eq_false (by omega)
  have d3 : decide ((1048576 : Int) < (n : Int)) = true := decide_eq_true (by omega)
  have d4 : decide (1048576 < n) = true := decide_eq_true h2
  have HN := Aside0.mk hn; clear hn
  go_enter Try.func50, Try.ntmps50
  go_wp2_with fail
  refine (frame_next.get_same s w n h HN.out).mono ?_; rintro e w1 ⟨rfl, hb⟩
  go_wp2
  refine bodyPost_ret (results_list (rs := [.tmp 2, .tmp 3, .tmp 4, .tmp 5]) rfl (by simp) (.tmp (.tmp (.tmp (.tmp .nil))))) rfl ?_
  exact ⟨rfl, hb⟩
set_option maxHeartbeats 400000 in
set_option maxRecDepth 100000 in
theorem frame_next.w3 (s : ByteArray) (w : World) (n : Nat) (h : 4 ≤ s.size) (hn : num4 (bytesOf s) = n) (h2 : n ≤ 1048576) (h3 : s.size < 8 + n) : Calls Try.prog 50 #[.string s] w fun e w' => e = .returned (.tuple #[.string ⟨#[]⟩, .string s, .bool false, .int .i64 0]) ∧ Below w.heap.size w w' := by
  have d1 : decide ((s.size : Int) < 4) = false := decide_eq_false (by omega)
  have d2 : decide (s.size < 4) = false := decide_eq_false (by omega)
  have d3 : decide ((1048576 : Int) < (n : Int)) = false := decide_eq_false (by omega)
  have d4 : decide (1048576 < n) = false := decide_eq_false (by omega)
  have d5 : decide ((s.size : Int) < 8 + (n : Int)) = true := decide_eq_true (by omega)
  have d6 : decide (s.size < 8 + n) = true := decide_eq_true h3
  have e1 : wrap64 (n : Int) = (n : Int) := by unfold wrap64; omega
  have e2 : wrap64 (8 + (n : Int)) = 8 + (n : Int) := by unfold wrap64; omega
  have HN := Aside0.mk hn; clear hn
  go_enter Try.func50, Try.ntmps50
  go_wp2_with fail
  refine (frame_next.get_same s w n h HN.out).mono ?_; rintro e w1 ⟨rfl, hb⟩
  go_wp2
  refine bodyPost_ret (results_list (rs := [.tmp 2, .tmp 3, .tmp 4, .tmp 5]) rfl (by simp) (.tmp (.tmp (.tmp (.tmp .nil))))) rfl ?_
  exact ⟨rfl, hb⟩
set_option maxHeartbeats 1000000 in
set_option maxRecDepth 100000 in
theorem frame_next.w4 (s : ByteArray) (w : World) (n m : Nat) (hs : s.size ≤ 4611686018427387904) (h : 4 ≤ s.size) (hn : num4 (bytesOf s) = n) (h2 : n ≤ 1048576) (h3 : 8 + n ≤ s.size) (hm : m = 4 + n) (x : Int) (hx : num4 (bytesOf (s.extract m s.size)) = x) (y : Nat) (hy : crc (bytesOf (s.extract 4 m)) = y) (hxy : (x == (y : Int)) = false) :
    Calls Try.prog 50 #[.string s] w fun e w' => e = .returned (.tuple #[.string ⟨#[]⟩, .string s, .bool false, .int .i64 8]) ∧ Below w.heap.size w w' := by
  have d1 : decide ((s.size : Int) < 4) = false := decide_eq_false (by omega)
  have d2 : decide (s.size < 4) = false := decide_eq_false (by omega)
  have d3 : decide ((1048576 : Int) < (n : Int)) = false := decide_eq_false (by omega)
  have d4 : decide (1048576 < n) = false := decide_eq_false (by omega)
  have d5 : decide ((s.size : Int) < 8 + (n : Int)) = false := decide_eq_false (by omega)
  have d6 : decide (s.size < 8 + n) = false := decide_eq_false (by omega)
  have e1 : wrap64 (n : Int) = (n : Int) := by unfold wrap64; omega
  have e2 : wrap64 (8 + (n : Int)) = 8 + (n : Int) := by unfold wrap64; omega
  have e3 : ((4 : Int) + (n : Int)) % 4294967296 = (m : Int) := by omega
  have e3' : IntKind.u32.wrap ((4 : Int) + (n : Int)) = (m : Int) := by simp [IntKind.wrap, IntKind.bits, IntKind.signed]; omega
  have e4 : ((4 : Int) ≤ (m : Int)) = True := eq_true (by omega)
  have e5 : ((m : Int) ≤ (s.size : Int)) = True := eq_true (by omega)
  have e6 : (4 ≤ m) = True := eq_true (by omega)
  have e7 : (m ≤ s.size) = True := eq_true (by omega)
  have g1 : 4 ≤ (s.extract m s.size).size := by simp; omega
  have g2 : (s.extract 4 m).size ≤ 4611686018427387904 := by simp; omega
  have G1 := Aside0.mk g1; have G2 := Aside0.mk g2; clear g1 g2
  have HN := Aside0.mk hn; have HX := Aside0.mk hx; have HY := Aside0.mk hy; clear hn hx hy hm
  go_enter Try.func50, Try.ntmps50
  go_wp2_with fail
  refine (frame_next.get_same s w n h HN.out).mono ?_; rintro e w1 ⟨rfl, hb⟩
  go_wp2_with fail
  go_quiet (fail)
  go_wp2_with fail
  refine (frame_next.get_same (s.extract m s.size) _ x G1.out HX.out).mono ?_; rintro e w2 ⟨rfl, hb2⟩
  have hb2' := below_then (pw_below_drewN hb _) (pw_below_drewN hb _).size hb2
  go_wp2_with fail
  refine (Sum_calls (s.extract 4 m) _ G2.out).mono ?_; rintro e w3 ⟨rfl, hb3⟩
  have hb3' := below_then hb2' hb2'.size hb3
  rw [HY.out]
  go_wp2
  refine bodyPost_ret (results_list (rs := [.tmp 2, .tmp 3, .tmp 4, .tmp 5]) rfl (by simp) (.tmp (.tmp (.tmp (.tmp .nil))))) rfl ?_
  exact ⟨rfl, hb3'⟩
set_option maxHeartbeats 1000000 in
set_option maxRecDepth 100000 in
theorem frame_next.w5 (s : ByteArray) (w : World) (n m : Nat) (hs : s.size ≤ 4611686018427387904) (h : 4 ≤ s.size) (hn : num4 (bytesOf s) = n) (h2 : n ≤ 1048576) (h3 : 8 + n ≤ s.size) (hm : m = 4 + n) (y : Nat) (hx : num4 (bytesOf (s.extract m s.size)) = y) (hy : crc (bytesOf (s.extract 4 m)) = y) :
    Calls Try.prog 50 #[.string s] w fun e w' => e = .returned (.tuple #[.string (s.extract 4 m), .string ((s.extract m s.size).extract 4 (s.size - m)), .bool true, .int .i64 0]) ∧ Below w.heap.size w w' := by
  have d1 : decide ((s.size : Int) < 4) = false := decide_eq_false (by omega)
  have d2 : decide (s.size < 4) = false := decide_eq_false (by omega)
  have d3 : decide ((1048576 : Int) < (n : Int)) = false := decide_eq_false (by omega)
  have d4 : decide (1048576 < n) = false := decide_eq_false (by omega)
  have d5 : decide ((s.size : Int) < 8 + (n : Int)) = false := decide_eq_false (by omega)
  have d6 : decide (s.size < 8 + n) = false := decide_eq_false (by omega)
  have e1 : wrap64 (n : Int) = (n : Int) := by unfold wrap64; omega
  have e2 : wrap64 (8 + (n : Int)) = 8 + (n : Int) := by unfold wrap64; omega
  have e3 : ((4 : Int) + (n : Int)) % 4294967296 = (m : Int) := by omega
  have e3' : IntKind.u32.wrap ((4 : Int) + (n : Int)) = (m : Int) := by simp [IntKind.wrap, IntKind.bits, IntKind.signed]; omega
  have e4 : ((4 : Int) ≤ (m : Int)) = True := eq_true (by omega)
  have e5 : ((m : Int) ≤ (s.size : Int)) = True := eq_true (by omega)
  have e6 : (4 ≤ m) = True := eq_true (by omega)
  have e7 : (m ≤ s.size) = True := eq_true (by omega)
  have e8 : ((4 : Int) ≤ ((s.size - m : Nat) : Int)) = True := eq_true (by omega)
  have e9 : (4 ≤ s.size - m) = True := eq_true (by omega)
  have e10 : ((4 : Int) ≤ (((s.extract m s.size).size : Nat) : Int)) = True := eq_true (by simp; omega)
  have g1 : 4 ≤ (s.extract m s.size).size := by simp; omega
  have g2 : (s.extract 4 m).size ≤ 4611686018427387904 := by simp; omega
  have G1 := Aside0.mk g1; have G2 := Aside0.mk g2; clear g1 g2
  have HN := Aside0.mk hn; have HX := Aside0.mk hx; have HY := Aside0.mk hy; clear hn hx hy hm
  go_enter Try.func50, Try.ntmps50
  go_wp2_with fail
  refine (frame_next.get_same s w n h HN.out).mono ?_; rintro e w1 ⟨rfl, hb⟩
  go_wp2_with fail
  go_quiet (fail)
  go_wp2_with fail
  refine (frame_next.get_same (s.extract m s.size) _ y G1.out HX.out).mono ?_; rintro e w2 ⟨rfl, hb2⟩
  have hb2' := below_then (pw_below_drewN hb _) (pw_below_drewN hb _).size hb2
  go_wp2_with fail
  refine (Sum_calls (s.extract 4 m) _ G2.out).mono ?_; rintro e w3 ⟨rfl, hb3⟩
  have hb3' := below_then hb2' hb2'.size hb3
  rw [HY.out]
  go_wp2_with fail
  go_quiet (fail)
  go_wp2
  refine bodyPost_ret (results_list (rs := [.tmp 2, .tmp 3, .tmp 4, .tmp 5]) rfl (by simp) (.tmp (.tmp (.tmp (.tmp .nil))))) rfl ?_
  exact ⟨rfl, pw_below_drewN hb3' _⟩
def frame_next.f (a0 : ByteArray) : Option (ByteArray × ByteArray × Bool × Int) := if a0.size ≤ 4611686018427387904 then some (match frI (bytesOf a0) with | .part => (⟨#[]⟩, a0, false, 0) | .bad => (⟨#[]⟩, a0, false, 8) | .whole t r => (strOfNums t, strOfNums r, true, 0)) else none
theorem frame_next.calls (a0 : ByteArray) (r1 r2 : ByteArray) (r3 : Bool) (r4 : Int) (w : World) (h : frame_next.f a0 = some (r1, r2, r3, r4)) :
    Calls Try.prog 50 #[.string a0] w fun e w' => e = .returned (.tuple #[.string r1, .string r2, .bool r3, .int .i64 r4]) ∧ Below w.heap.size w w' := by
  unfold frame_next.f at h
  have hsz := bytesOf_size a0
  have hB := Bs.bytesOf a0
  have hb := num4_bd hB
  split at h
  · rename_i hs
    unfold frI at h
    split at h
    · rename_i heq
      split at heq
      · simp at h; obtain ⟨rfl, rfl, rfl, rfl⟩ := h; exact frame_next.w1 a0 w (by omega)
      · split at heq
        · cases heq
        · split at heq
          · simp at h; obtain ⟨rfl, rfl, rfl, rfl⟩ := h
            exact frame_next.w3 a0 w (num4 (bytesOf a0)).toNat (by omega) (by omega) (by omega) (by omega)
          · split at heq <;> cases heq
    · rename_i heq
      split at heq
      · cases heq
      · split at heq
        · simp at h; obtain ⟨rfl, rfl, rfl, rfl⟩ := h
          exact frame_next.w2 a0 w (num4 (bytesOf a0)).toNat (by omega) (by omega) (by omega)
        · split at heq
          · cases heq
          · split at heq
            · cases heq
            · rename_i hne
              simp at h; obtain ⟨rfl, rfl, rfl, rfl⟩ := h
              refine frame_next.w4 a0 w (num4 (bytesOf a0)).toNat _ hs (by omega) (by omega) (by omega) (by omega) rfl _ rfl _ rfl ?_
              rw [beq_eq_false_iff_ne, bytesOf_tail, bytesOf_extract, List.drop_take]
              have e : 4 + (num4 (bytesOf a0)).toNat - 4 = (num4 (bytesOf a0)).toNat := by omega
              rw [e]; exact hne
    · rename_i t r heq
      split at heq
      · cases heq
      · split at heq
        · cases heq
        · split at heq
          · cases heq
          · split at heq
            · rename_i heqs
              injection heq with h1 h2
              simp at h; obtain ⟨rfl, rfl, rfl, rfl⟩ := h
              have e : 4 + (num4 (bytesOf a0)).toNat - 4 = (num4 (bytesOf a0)).toNat := by omega
              have E1 : a0.extract 4 (4 + (num4 (bytesOf a0)).toNat) = strOfNums t := by
                apply bytesOf_inj
                rw [← h1, bytesOf_strOfNums ((hB.drop _).take _), bytesOf_extract, List.drop_take, e]
              have E2 : (a0.extract (4 + (num4 (bytesOf a0)).toNat) a0.size).extract 4 (a0.extract (4 + (num4 (bytesOf a0)).toNat) a0.size).size = strOfNums r := by
                apply bytesOf_inj
                rw [← h2, bytesOf_strOfNums (hB.drop _), bytesOf_tail, bytesOf_tail, List.drop_drop]
                congr 1; omega
              have hw := frame_next.w5 a0 w (num4 (bytesOf a0)).toNat (4 + (num4 (bytesOf a0)).toNat) hs (by omega) (by omega) (by omega) (by omega) rfl (crc (bytesOf (a0.extract 4 (4 + (num4 (bytesOf a0)).toNat)))) (by rw [bytesOf_tail, heqs, bytesOf_extract, List.drop_take, e]) rfl
              have E3 : a0.size - (4 + (num4 (bytesOf a0)).toNat) = (a0.extract (4 + (num4 (bytesOf a0)).toNat) a0.size).size := by simp
              rw [E3, E1, E2] at hw
              exact hw
            · cases heq
  · exact absurd h (by simp)
def frame_Scan.l0 : Nat → ByteArray → List ByteArray → ByteArray → Option (List ByteArray × Int × Int)
  | 0, _, _, _ => none
  | k + 1, x0, x5, x6 => (frame_next.f x6).bind fun bt396 => (if bt396.2.2.2 = 0 then (if bt396.2.2.1 = true then (if x5.length < 8796093022208 then (frame_Scan.l0 k x0 (x5 ++ [bt396.1]) bt396.2.1) else (none)) else (some (x5, wrap64 ((x0.size : Int) - (x6.size : Int)), 0))) else (some (([] : List ByteArray), 0, bt396.2.2.2)))
def frame_Scan.f (k : Nat) (a0 : ByteArray) : Option (List ByteArray × Int × Int) := frame_Scan.l0 k a0 ([] : List ByteArray) a0
theorem frame_Scan.mono_l : ∀ k, (∀ y0 y1 y2, LeO (frame_Scan.l0 k y0 y1 y2) (frame_Scan.l0 (k + 1) y0 y1 y2))
  | 0 => fun _ _ _ r h => by simp [frame_Scan.l0] at h
  | k + 1 => by
    have ih0 := frame_Scan.mono_l k
    · intro y0 y1 y2
      unfold frame_Scan.l0
      repeat' first
      | (with_reducible exact ih0 _ _ _)
      | (with_reducible exact LeO.refl _)
      | (with_reducible exact LeO.none _)
      | (with_reducible refine LeO.ite ?_ ?_)
      | (with_reducible refine LeO.bind ?_ (fun _ => ?_))
      | exact ih0 _ _ _
      | exact LeO.none _
      | refine LeO.ite ?_ ?_
      | refine LeO.bind ?_ (fun _ => ?_)
theorem frame_Scan.mono : ∀ a0 k, LeO (frame_Scan.f k a0) (frame_Scan.f (k + 1) a0) := by
  intro a0 k
  have ih0 := frame_Scan.mono_l k
  unfold frame_Scan.f
  repeat' first
      | (with_reducible exact ih0 _ _ _)
      | (with_reducible exact LeO.refl _)
      | (with_reducible exact LeO.none _)
      | (with_reducible refine LeO.ite ?_ ?_)
      | (with_reducible refine LeO.bind ?_ (fun _ => ?_))
      | exact ih0 _ _ _
      | exact LeO.none _
      | refine LeO.ite ?_ ?_
      | refine LeO.bind ?_ (fun _ => ?_)
set_option maxHeartbeats 8000000 in
set_option maxRecDepth 100000 in
theorem frame_Scan.calls (k : Nat) (a0 : ByteArray) (r1 : List ByteArray) (r2 : Int) (r3 : Int) (w : World) (h : frame_Scan.f k a0 = some (r1, r2, r3)) :
    Calls Try.prog 28 #[.string a0] w fun e w' => ∃ v0_ : Value, e = .returned (.tuple #[v0_, .int .i64 r2, .int .i64 r3]) ∧ Kd.R Kd.string 9 w' w.heap.size (fun _ => True) v0_ r1 ∧ Below w.heap.size w w' := by
  have HB := Aside0.mk (Below.refl w.heap.size w)
  have H : (frame_Scan.l0 k a0 ([] : List ByteArray) a0) = some (r1, r2, r3) := h
  clear h
  have H' := Aside0.mk H
  clear H
  go_enter Try.func28, Try.ntmps28
  go_wp2
  go_loopg [5, 6] k (fun kq v5 v6 w' => ∃ (x5_1 : List ByteArray) (x6_1 : ByteArray), v6 = .string x6_1 ∧ Aside0 (frame_Scan.l0 kq a0 x5_1 x6_1 = some (r1, r2, r3)) ∧ Aside0 (kq ≤ k) ∧ Aside0 (Kd.R Kd.string 9 w' w.heap.size (fun _ => True) v5 x5_1) ∧ Aside0 (Below w.heap.size w w'))
  case atStart => exact ⟨(([] : List ByteArray)), (a0), (by first | rfl | (simp; done) | (simp [*]; done)), H', ⟨Nat.le_refl _⟩, ⟨by first | exact Kd.R_nil _ _ _ _ _ | exact Kd.N_nil _ _ _ _ _ | exact Kd.V_nil _ _ _ _ _ | exact Kd.Q_nil _ _ _ _ _ | exact Kd.S_nil _ _ _ _ _⟩, ⟨by repeat (first | (with_reducible first | exact HB.out | apply below_alloc | apply pw_below_drewN | apply below_drew1) | exact HB.out)⟩⟩
  case round =>
    clear H'
    obtain ⟨x5_1, x6_1, rfl, HA, HK1, HO_5, HB⟩ := hrel
    cases gk with
    | zero => exact absurd HA.out (by simp [frame_Scan.l0])
    | succ k1 =>
      have H := HA.out
      clear HA
      simp only [frame_Scan.l0] at H
      replace H := Option.bind_eq_some_iff.mp H
      obtain ⟨⟨t396, t397, t398, t399⟩, A20, H⟩ := H
      replace H : (if t399 = 0 then (if t398 = true then (if x5_1.length < 8796093022208 then (frame_Scan.l0 k1 a0 (x5_1 ++ [t396]) t397) else (none)) else (some (x5_1, wrap64 ((a0.size : Int) - (x6_1.size : Int)), 0))) else (some (([] : List ByteArray), 0, t399))) = some (r1, r2, r3) := H
      have A2 := Aside0.mk A20
      clear A20
      by_cases c3 : t399 = 0
      · rw [if_pos c3] at H
        have c3b0 : (t399 == 0) = true := beq_iff_eq.mpr c3
        have c3b1 : (t399 != 0) = false := bne_eq_false_iff_eq.mpr c3
        clear c3
        by_cases c4 : t398 = true
        · subst c4
          have H1 : (if x5_1.length < 8796093022208 then (frame_Scan.l0 k1 a0 (x5_1 ++ [t396]) t397) else (none)) = some (r1, r2, r3) := by rw [if_pos rfl] at H; exact H
          clear H
          have H := H1
          clear H1
          by_cases c5 : x5_1.length < 8796093022208
          · rw [if_pos c5] at H
            have LMc5 := Aside0.mk c5
            clear c5
            obtain ⟨y400, hy400⟩ : ∃ y_ : List ByteArray, y_ = (x5_1 ++ [t396]) := ⟨_, rfl⟩
            replace H : (frame_Scan.l0 k1 a0 y400 t397) = some (r1, r2, r3) := by first | (rw [hy400]; with_reducible exact H) | (have H2_ := (Option.bind_some _ _).symm.trans H; rw [hy400]; with_reducible exact H2_) | (have H2_ := (Option.bind_some _ _).symm.trans H; with_reducible exact H2_) | with_reducible exact H | (rw [hy400]; exact H) | exact H
            have Ny400 := Aside0.mk hy400
            clear hy400
            have H' := Aside0.mk H
            clear H
            go_wp2_with (first | ((with_reducible refine gate_callee (f := 50) rfl ?_); refine goesL_ (some 14) rfl rfl Try.func50 (by kernel_rfl) rfl #[.string x6_1] rfl (by (try simp only [List.map_toArray, List.map_cons, List.map_nil]); first | done | rfl | (simp only [List.length_drop, List.length_take]; rfl) | (go_simp; simp [IntKind.wrap, IntKind.bits, IntKind.signed]; omega)) ?_; (with_reducible refine (frame_next.calls x6_1 t396 t397 true t399 _ A2.out).mono ?_); rintro e w6 ⟨rfl, hb⟩; refine ⟨_, rfl, ?_⟩; have n0_ := Aside0.mk (Kd.R_below (by (with_reducible repeat (first | apply Kd.R_alloc | apply Kd.R_drewN | apply Kd.R_drew)); exact HO_5.out) hb); have n1_ := Aside0.mk (below_step (by repeat (first | (with_reducible first | exact HB.out | apply below_alloc | apply pw_below_drewN | apply below_drew1) | exact HB.out)) hb); clear HO_5; clear HB; have HO_5 := n0_; have HB := n1_; clear n0_ n1_; (try clear hb); (try clear hb2); (try clear hk); (try clear hi)) | ((with_reducible refine gate_builtin (b := .append) (xs := #[.tmp 32, .tmp 34]) rfl ?_); at_builtin; refine Kd.R_append Kd.string (w0 := w) w.heap.size rfl (.tmp 32) (.tmp 34) 58 9 (.string ⟨#[]⟩) 16 rfl Try.underlying58 info9 rfl (by decide) (by omega) u5 x5_1 t396 [.string t396] (fun _ => True) (fun _ => False) rfl rfl ?aP (fun _ hk => hk.elim) ?aF ?aO ?aB ?aS ?aL ?_; (case aP => exact rfl); (case aB => exact (by repeat (first | (with_reducible first | exact HB.out | apply below_alloc | apply pw_below_drewN | apply below_drew1) | exact HB.out))); (case aF => exact (fun _ _ => trivial)); (case aO => exact (by (with_reducible repeat (first | apply Kd.R_alloc | apply Kd.R_drewN | apply Kd.R_drew)); exact HO_5.out)); (case aS => exact (below_size (by repeat (first | (with_reducible first | exact HB.out | apply below_alloc | apply pw_below_drewN | apply below_drew1) | exact HB.out)))); (case aL => have := LMc5.out; omega); intro v401 w7 ho hb hg hat; rw [← Ny400.out] at ho; have n0_ := Aside0.mk (hb); have n1_ := Aside0.mk (ho); clear HB; clear HO_5; have HB := n0_; have HO402 := n1_; clear n0_ n1_; clear ho hb hg hat))
            go_roundg k1
            case measure => have := HK1.out; omega
            case rel => exact ⟨(y400), (t397), (by first | rfl | (simp; done) | (simp [*]; done)), H', ⟨by have := HK1.out; omega⟩, ⟨by (with_reducible repeat (first | apply Kd.R_alloc | apply Kd.R_drewN | apply Kd.R_drew)); exact HO402.out⟩, ⟨by repeat (first | (with_reducible first | exact HB.out | apply below_alloc | apply pw_below_drewN | apply below_drew1) | exact HB.out)⟩⟩
          · rw [if_neg c5] at H
            exact absurd H (by simp)
        · replace c4 := Bool.eq_false_iff.mpr c4
          subst c4
          have H1 : (some (x5_1, wrap64 ((a0.size : Int) - (x6_1.size : Int)), 0)) = some (r1, r2, r3) := by rw [if_neg (show ¬ (false = true) by decide)] at H; exact H
          clear H
          have H := H1
          clear H1
          simp only [Option.some.injEq, Prod.mk.injEq] at H
          obtain ⟨rfl, rfl, rfl⟩ := H
          go_wp2_with (first | ((with_reducible refine gate_callee (f := 50) rfl ?_); refine goesL_ (some 14) rfl rfl Try.func50 (by kernel_rfl) rfl #[.string x6_1] rfl (by (try simp only [List.map_toArray, List.map_cons, List.map_nil]); first | done | rfl | (simp only [List.length_drop, List.length_take]; rfl) | (go_simp; simp [IntKind.wrap, IntKind.bits, IntKind.signed]; omega)) ?_; (with_reducible refine (frame_next.calls x6_1 t396 t397 false t399 _ A2.out).mono ?_); rintro e w8 ⟨rfl, hb⟩; refine ⟨_, rfl, ?_⟩; have n0_ := Aside0.mk (Kd.R_below (by (with_reducible repeat (first | apply Kd.R_alloc | apply Kd.R_drewN | apply Kd.R_drew)); exact HO_5.out) hb); have n1_ := Aside0.mk (below_step (by repeat (first | (with_reducible first | exact HB.out | apply below_alloc | apply pw_below_drewN | apply below_drew1) | exact HB.out)) hb); clear HO_5; clear HB; have HO_5 := n0_; have HB := n1_; clear n0_ n1_; (try clear hb); (try clear hb2); (try clear hk); (try clear hi)))
          go_ret3
          exact ⟨_, by first | rfl | (simp [errW_none, errW_some] <;> rfl) | (simp [*, errW_none, errW_some] <;> rfl), by (with_reducible repeat (first | apply Kd.R_alloc | apply Kd.R_drewN | apply Kd.R_drew)); exact HO_5.out, by repeat (first | (with_reducible first | exact HB.out | apply below_alloc | apply pw_below_drewN | apply below_drew1) | exact HB.out)⟩
      · rw [if_neg c3] at H
        have c3b0 : (t399 == 0) = false := beq_eq_false_iff_ne.mpr c3
        have c3b1 : (t399 != 0) = true := bne_iff_ne.mpr c3
        simp only [Option.some.injEq, Prod.mk.injEq] at H
        obtain ⟨rfl, rfl, rfl⟩ := H
        go_wp2_with (first | ((with_reducible refine gate_callee (f := 50) rfl ?_); refine goesL_ (some 14) rfl rfl Try.func50 (by kernel_rfl) rfl #[.string x6_1] rfl (by (try simp only [List.map_toArray, List.map_cons, List.map_nil]); first | done | rfl | (simp only [List.length_drop, List.length_take]; rfl) | (go_simp; simp [IntKind.wrap, IntKind.bits, IntKind.signed]; omega)) ?_; (with_reducible refine (frame_next.calls x6_1 t396 t397 t398 t399 _ A2.out).mono ?_); rintro e w9 ⟨rfl, hb⟩; refine ⟨_, rfl, ?_⟩; have n0_ := Aside0.mk (Kd.R_below (by (with_reducible repeat (first | apply Kd.R_alloc | apply Kd.R_drewN | apply Kd.R_drew)); exact HO_5.out) hb); have n1_ := Aside0.mk (below_step (by repeat (first | (with_reducible first | exact HB.out | apply below_alloc | apply pw_below_drewN | apply below_drew1) | exact HB.out)) hb); clear HO_5; clear HB; have HO_5 := n0_; have HB := n1_; clear n0_ n1_; (try clear hb); (try clear hb2); (try clear hk); (try clear hi)))
        go_ret3
        exact ⟨_, by first | rfl | (simp [errW_none, errW_some] <;> rfl) | (simp [*, errW_none, errW_some] <;> rfl), by first | exact Kd.R_nil _ _ _ _ _ | exact Kd.N_nil _ _ _ _ _ | exact Kd.V_nil _ _ _ _ _ | exact Kd.Q_nil _ _ _ _ _ | exact Kd.S_nil _ _ _ _ _, by repeat (first | (with_reducible first | exact HB.out | apply below_alloc | apply pw_below_drewN | apply below_drew1) | exact HB.out)⟩
def IsS88 (w0 W : World) (g : Nat) (f0 : ByteArray) (f1 : Int) : Prop := W.heap[g]? = some (.cells #[.string f0, .int .i64 f1] 88 (0, 0)) ∧ w0.heap.size ≤ g
theorem IsS88.grown {w0 W : World} {g : Nat} {f0 : ByteArray} {f1 : Int} {W1 : World} {row : Option Nat} (h : IsS88 w0 W g f0 f1) (hw : W.grownBy W1 row) (hne : some g ≠ row) : IsS88 w0 W1 g f0 f1 := by
  obtain ⟨hb, hg⟩ := h
  exact ⟨blk_grown hb hw hne, hg⟩
theorem IsS88.kept {w0 W : World} {g : Nat} {f0 : ByteArray} {f1 : Int} {W1 : World} {S : Nat → Prop} (h : IsS88 w0 W g f0 f1) (hk : Kept W W1 S) (hne : ¬ S g) : IsS88 w0 W1 g f0 f1 := by
  obtain ⟨hb, hg⟩ := h
  exact ⟨blk_kept hb hk hne, hg⟩
theorem IsS88.below {w0 W : World} {g : Nat} {f0 : ByteArray} {f1 : Int} {W1 : World} (h : IsS88 w0 W g f0 f1) (hw : Below W.heap.size W W1) : IsS88 w0 W1 g f0 f1 := h.grown (grown_of_below hw none) (by simp)
theorem IsS88.alloc {w0 W : World} {g : Nat} {f0 : ByteArray} {f1 : Int} (h : IsS88 w0 W g f0 f1) (o : Obj) : IsS88 w0 (W.alloc o) g f0 f1 := h.below (below_alloc (Below.refl _ _) o)
theorem IsS88.drewN {w0 W : World} {g : Nat} {f0 : ByteArray} {f1 : Int} (h : IsS88 w0 W g f0 f1) (m : Nat) : IsS88 w0 (W.drewN m) g f0 f1 := h
theorem IsS88.drew {w0 W : World} {g : Nat} {f0 : ByteArray} {f1 : Int} (h : IsS88 w0 W g f0 f1) : IsS88 w0 W.drew g f0 f1 := h
theorem IsS88.at_ {w0 W : World} {g : Nat} {f0 : ByteArray} {f1 : Int} {w' : World} {m : Nat} (hq : W.drewN m = w') (h : IsS88 w0 W g f0 f1) : IsS88 w0 w' g f0 f1 := by subst hq; exact IsS88.drewN h m
theorem IsS88.apart {w0 W : World} {g : Nat} {f0 : ByteArray} {f1 : Int} {α : Type} {d : Kd α} {e : Nat} {base : Nat} {ok : Nat → Prop} {v : Value} {xs : List α} (h : IsS88 w0 W g f0 f1) (ho : d.R e W base ok v xs) (ht : ∀ q, q ∈ e :: d.E → q ≠ 88) : d.R e W base (fun k => ok k ∧ k ≠ g) v xs := by
  obtain ⟨hb, hg⟩ := h
  exact Kd.R_types ho hb ht
theorem IsS88.own_ne {w0 W : World} {g : Nat} {f0 : ByteArray} {f1 : Int} {α : Type} {d : Kd α} {e : Nat} {base : Nat} {ok : Nat → Prop} {v : Value} {xs : List α} (h : IsS88 w0 W g f0 f1) (ho : d.R e W base ok v xs) (ht : e ≠ 88) : some g ≠ v.ownBlock := by
  obtain ⟨hb, hg⟩ := h
  exact Kd.R_ne ho hb ht
theorem IsS88.lt {w0 W : World} {g : Nat} {f0 : ByteArray} {f1 : Int} (h : IsS88 w0 W g f0 f1) : g < W.heap.size := by
  obtain ⟨hb, hg⟩ := h
  exact blk_lt hb
theorem IsS88.ne_blk {w0 W : World} {g : Nat} {f0 : ByteArray} {f1 : Int} {a : Nat} {cs : Array Value} {t : TypeId} {fr : Nat × Nat} (h : IsS88 w0 W g f0 f1) (hb2 : W.heap[a]? = some (.cells cs t fr)) (ht : t ≠ 88) : g ≠ a := by
  obtain ⟨hb, hg⟩ := h
  rintro rfl
  rw [hb] at hb2
  injection hb2 with hb2
  injection hb2 with _ ht2
  exact ht ht2.symm
def tally_From.f (a0 : ByteArray) : Option (ByteArray × Int) := some (a0, 0)
set_option maxHeartbeats 8000000 in
set_option maxRecDepth 100000 in
theorem tally_From.calls (a0 : ByteArray) (r1 : ByteArray) (r2 : Int) (w0 w : World) (hB : Below w0.heap.size w0 w) (h : tally_From.f a0 = some (r1, r2)) :
    Calls Try.prog 29 #[.string a0] w fun e w' => ∃ g_ : Nat, e = .returned (.pointer (some ⟨g_, 0, none⟩)) ∧ IsS88 w0 w' g_ r1 r2 ∧ Below w0.heap.size w0 w' ∧ Below w.heap.size w w' := by
  have hu88 := Try.underlying88
  have HBW := Aside0.mk (Below.refl w.heap.size w)
  have HW0 := Aside0.mk hB.size
  have HB := Aside0.mk hB
  clear hB
  have H : (some (a0, 0)) = some (r1, r2) := h
  clear h
  simp only [Option.some.injEq, Prod.mk.injEq] at H
  obtain ⟨rfl, rfl⟩ := H
  go_enter Try.func29, Try.ntmps29
  go_wp2_with (first | ((with_reducible refine gate_dst (N := 5) rfl ?_); refine box_event ?hg (N := 5) ?hd (cs := #[.string a0, .int .i64 0]) (t := 88) ?hr ?_; (case hd => rfl); (case hg => rfl); (case hr => first | (go_simp; done) | (go_simp; rfl)); intro gb403 hg w2 hbox hb; have n0_ := Aside0.mk (below_step HBW.out hb); have n1_ := Aside0.mk (below_step (by repeat (first | (with_reducible first | exact HB.out | apply below_alloc | apply pw_below_drewN | apply below_drew1) | exact HB.out)) hb); have n2_ := Aside0.mk (hbox); have n3_ := Aside0.mk ((by rw [hg]; exact (below_size (by repeat (first | (with_reducible first | exact HBW.out | apply below_alloc | apply pw_below_drewN | apply below_drew1) | exact HBW.out))) : w.heap.size ≤ gb403)); have n4_ := Aside0.mk ((Nat.le_trans HW0.out (by rw [hg]; exact (below_size (by repeat (first | (with_reducible first | exact HBW.out | apply below_alloc | apply pw_below_drewN | apply below_drew1) | exact HBW.out))) : w.heap.size ≤ gb403) : w0.heap.size ≤ gb403)); clear HBW; clear HB; have HBW := n0_; have HB := n1_; have BK403 := n2_; have GW403 := n3_; have GE403 := n4_; clear n0_ n1_ n2_ n3_ n4_; clear hb hbox hg))
  go_ret
  exact ⟨_, rfl, (show IsS88 w0 _ gb403 a0 0 from ⟨by (with_reducible repeat (first | refine blk_drewN ?_ _ | refine blk_drew ?_ | refine blk_alloc ?_ _)); exact BK403.out, GE403.out⟩), by repeat (first | (with_reducible first | exact HB.out | apply below_alloc | apply pw_below_drewN | apply below_drew1 | refine below_set ?_ GE403.out) | exact HB.out), by repeat (first | (with_reducible first | exact HBW.out | apply below_alloc | apply pw_below_drewN | apply below_drew1 | refine below_set ?_ GW403.out) | exact HBW.out)⟩
def tithebarnref08_number.f (a0 : ByteArray) : Option (Int) := if 0 < (a0.size : Int) then (if 1 < (a0.size : Int) then (if 2 < (a0.size : Int) then (if 3 < (a0.size : Int) then (some (((((bt a0 0) + (((bt a0 1) % 4294967296) * 256)) + (((bt a0 2) % 4294967296) * 65536)) + (((bt a0 3) % 4294967296) * 16777216)) % 4294967296)) else (none)) else (none)) else (none)) else (none)
set_option maxHeartbeats 8000000 in
set_option maxRecDepth 100000 in
theorem tithebarnref08_number.calls (a0 : ByteArray) (r : Int) (w : World) (h : tithebarnref08_number.f a0 = some r) :
    Calls Try.prog 55 #[.string a0] w fun e w' => e = .returned (.int .u32 r) ∧ Drawn0 w w' := by
  have H : (if 0 < (a0.size : Int) then (if 1 < (a0.size : Int) then (if 2 < (a0.size : Int) then (if 3 < (a0.size : Int) then (some (((((bt a0 0) + (((bt a0 1) % 4294967296) * 256)) + (((bt a0 2) % 4294967296) * 65536)) + (((bt a0 3) % 4294967296) * 16777216)) % 4294967296)) else (none)) else (none)) else (none)) else (none)) = some r := h
  clear h
  by_cases c2 : 0 < (a0.size : Int)
  · rw [if_pos c2] at H
    have c2b0 : decide (0 < (a0.size : Int)) = true := decide_eq_true c2
    have c2b1 : decide (0 < a0.size) = true := decide_eq_true (by omega)
    clear c2
    by_cases c4 : 1 < (a0.size : Int)
    · rw [if_pos c4] at H
      have c4b0 : decide (1 < (a0.size : Int)) = true := decide_eq_true c4
      have c4b1 : decide (1 < a0.size) = true := decide_eq_true (by omega)
      clear c4
      by_cases c6 : 2 < (a0.size : Int)
      · rw [if_pos c6] at H
        have c6b0 : decide (2 < (a0.size : Int)) = true := decide_eq_true c6
        have c6b1 : decide (2 < a0.size) = true := decide_eq_true (by omega)
        clear c6
        by_cases c8 : 3 < (a0.size : Int)
        · rw [if_pos c8] at H
          have c8b0 : decide (3 < (a0.size : Int)) = true := decide_eq_true c8
          have c8b1 : decide (3 < a0.size) = true := decide_eq_true (by omega)
          clear c8
          obtain rfl := Option.some.inj H
          have p3 : 0 ≤ (0 : Int) := (by omega)
          have q3 : 0 < a0.size := (by have : (0 : Int) < (a0.size : Int) := of_decide_eq_true (by first | (with_reducible assumption) | assumption); omega)
          have hx3 : ∀ h : 0 < a0.size, ((a0[0]'h).toNat : Int) = bt a0 0 := bt_at a0 0
          clear p3
          have qi3 : (0 < (a0.size : Int)) = True := eq_true (of_decide_eq_true (by first | (with_reducible assumption) | assumption))
          replace q3 := eq_true q3
          have p5 : 0 ≤ (1 : Int) := (by omega)
          have q5 : 1 < a0.size := (by have : (1 : Int) < (a0.size : Int) := of_decide_eq_true (by first | (with_reducible assumption) | assumption); omega)
          have hx5 : ∀ h : 1 < a0.size, ((a0[1]'h).toNat : Int) = bt a0 1 := bt_at a0 1
          clear p5
          have qi5 : (1 < (a0.size : Int)) = True := eq_true (of_decide_eq_true (by first | (with_reducible assumption) | assumption))
          replace q5 := eq_true q5
          have p7 : 0 ≤ (2 : Int) := (by omega)
          have q7 : 2 < a0.size := (by have : (2 : Int) < (a0.size : Int) := of_decide_eq_true (by first | (with_reducible assumption) | assumption); omega)
          have hx7 : ∀ h : 2 < a0.size, ((a0[2]'h).toNat : Int) = bt a0 2 := bt_at a0 2
          clear p7
          have qi7 : (2 < (a0.size : Int)) = True := eq_true (of_decide_eq_true (by first | (with_reducible assumption) | assumption))
          replace q7 := eq_true q7
          have p9 : 0 ≤ (3 : Int) := (by omega)
          have q9 : 3 < a0.size := (by have : (3 : Int) < (a0.size : Int) := of_decide_eq_true (by first | (with_reducible assumption) | assumption); omega)
          have hx9 : ∀ h : 3 < a0.size, ((a0[3]'h).toNat : Int) = bt a0 3 := bt_at a0 3
          clear p9
          have qi9 : (3 < (a0.size : Int)) = True := eq_true (of_decide_eq_true (by first | (with_reducible assumption) | assumption))
          replace q9 := eq_true q9
          go_enter Try.func55, Try.ntmps55
          go_wp2
          repeat (go_quiet (fail); try go_wp2)
          go_ret
          exact ⟨by first | rfl | (simp; done) | (simp [*]; done), by repeat (first | exact Drawn0.refl _ | apply Drawn0.step)⟩
        · rw [if_neg c8] at H
          exact absurd H (by simp)
      · rw [if_neg c6] at H
        exact absurd H (by simp)
    · rw [if_neg c4] at H
      exact absurd H (by simp)
  · rw [if_neg c2] at H
    exact absurd H (by simp)
def tithebarnref08_Scan.l0 : Nat → ByteArray → List ByteArray → Int → Option (List ByteArray × Int × Int)
  | 0, _, _, _ => none
  | k + 1, x0, x5, x6 => if (wrap64 ((x0.size : Int) - x6)) ≥ 4 then (if 0 ≤ x6 then (if x6 ≤ (wrap64 (x6 + 4)) then (if (wrap64 (x6 + 4)) ≤ (x0.size : Int) then ((tithebarnref08_number.f (x0.extract (x6 : Int).toNat ((wrap64 (x6 + 4)) : Int).toNat)).bind fun t415 => (if t415 > 1048576 then (some (([] : List ByteArray), 0, 8)) else (if (wrap64 ((x0.size : Int) - x6)) < (wrap64 ((wrap64 (t415)) + 8)) then (some (x5, x6, 0)) else (if 0 ≤ (wrap64 (x6 + 4)) then (if (wrap64 (x6 + 4)) ≤ (wrap64 ((wrap64 (x6 + 4)) + (wrap64 (t415)))) then (if (wrap64 ((wrap64 (x6 + 4)) + (wrap64 (t415)))) ≤ (x0.size : Int) then (if 0 ≤ (wrap64 ((wrap64 (x6 + 4)) + (wrap64 (t415)))) then (if (wrap64 ((wrap64 (x6 + 4)) + (wrap64 (t415)))) ≤ (wrap64 ((wrap64 (x6 + 8)) + (wrap64 (t415)))) then (if (wrap64 ((wrap64 (x6 + 8)) + (wrap64 (t415)))) ≤ (x0.size : Int) then ((tithebarnref08_number.f (x0.extract ((wrap64 ((wrap64 (x6 + 4)) + (wrap64 (t415)))) : Int).toNat ((wrap64 ((wrap64 (x6 + 8)) + (wrap64 (t415)))) : Int).toNat)).bind fun t416 => ((tithebarnref08_Sum.f (x0.extract ((wrap64 (x6 + 4)) : Int).toNat ((wrap64 ((wrap64 (x6 + 4)) + (wrap64 (t415)))) : Int).toNat)).bind fun t417 => (if t416 = t417 then (if x5.length < 8796093022208 then (tithebarnref08_Scan.l0 k x0 (x5 ++ [x0.extract ((wrap64 (x6 + 4)) : Int).toNat ((wrap64 ((wrap64 (x6 + 4)) + (wrap64 (t415)))) : Int).toNat]) (wrap64 (x6 + (wrap64 ((wrap64 (t415)) + 8))))) else (none)) else (some (([] : List ByteArray), 0, 8))))) else (none)) else (none)) else (none)) else (none)) else (none)) else (none))))) else (none)) else (none)) else (none)) else (some (x5, x6, 0))
def tithebarnref08_Scan.f (k : Nat) (a0 : ByteArray) : Option (List ByteArray × Int × Int) := tithebarnref08_Scan.l0 k a0 ([] : List ByteArray) 0
theorem tithebarnref08_Scan.mono_l : ∀ k, (∀ y0 y1 y2, LeO (tithebarnref08_Scan.l0 k y0 y1 y2) (tithebarnref08_Scan.l0 (k + 1) y0 y1 y2))
  | 0 => fun _ _ _ r h => by simp [tithebarnref08_Scan.l0] at h
  | k + 1 => by
    have ih0 := tithebarnref08_Scan.mono_l k
    · intro y0 y1 y2
      unfold tithebarnref08_Scan.l0
      repeat' first
      | (with_reducible exact ih0 _ _ _)
      | (with_reducible exact LeO.refl _)
      | (with_reducible exact LeO.none _)
      | (with_reducible refine LeO.ite ?_ ?_)
      | (with_reducible refine LeO.bind ?_ (fun _ => ?_))
      | exact ih0 _ _ _
      | exact LeO.none _
      | refine LeO.ite ?_ ?_
      | refine LeO.bind ?_ (fun _ => ?_)
theorem tithebarnref08_Scan.mono : ∀ a0 k, LeO (tithebarnref08_Scan.f k a0) (tithebarnref08_Scan.f (k + 1) a0) := by
  intro a0 k
  have ih0 := tithebarnref08_Scan.mono_l k
  unfold tithebarnref08_Scan.f
  repeat' first
      | (with_reducible exact ih0 _ _ _)
      | (with_reducible exact LeO.refl _)
      | (with_reducible exact LeO.none _)
      | (with_reducible refine LeO.ite ?_ ?_)
      | (with_reducible refine LeO.bind ?_ (fun _ => ?_))
      | exact ih0 _ _ _
      | exact LeO.none _
      | refine LeO.ite ?_ ?_
      | refine LeO.bind ?_ (fun _ => ?_)
set_option maxHeartbeats 8000000 in
set_option maxRecDepth 100000 in
theorem tithebarnref08_Scan.calls (k : Nat) (a0 : ByteArray) (r1 : List ByteArray) (r2 : Int) (r3 : Int) (w : World) (h : tithebarnref08_Scan.f k a0 = some (r1, r2, r3)) :
    Calls Try.prog 31 #[.string a0] w fun e w' => ∃ v0_ : Value, e = .returned (.tuple #[v0_, .int .i64 r2, .int .i64 r3]) ∧ Kd.R Kd.string 9 w' w.heap.size (fun _ => True) v0_ r1 ∧ Below w.heap.size w w' := by
  have HB := Aside0.mk (Below.refl w.heap.size w)
  have H : (tithebarnref08_Scan.l0 k a0 ([] : List ByteArray) 0) = some (r1, r2, r3) := h
  clear h
  have H' := Aside0.mk H
  clear H
  go_enter Try.func31, Try.ntmps31
  go_wp2
  go_loopg [5, 6] k (fun kq v5 v6 w' => ∃ (x5_1 : List ByteArray) (x6_1 : Int), v6 = .int .i64 x6_1 ∧ Aside0 (tithebarnref08_Scan.l0 kq a0 x5_1 x6_1 = some (r1, r2, r3)) ∧ Aside0 (kq ≤ k) ∧ Aside0 (Kd.R Kd.string 9 w' w.heap.size (fun _ => True) v5 x5_1) ∧ Aside0 (Below w.heap.size w w'))
  case atStart => exact ⟨(([] : List ByteArray)), (0), (by first | rfl | (simp; done) | (simp [*]; done)), H', ⟨Nat.le_refl _⟩, ⟨by first | exact Kd.R_nil _ _ _ _ _ | exact Kd.N_nil _ _ _ _ _ | exact Kd.V_nil _ _ _ _ _ | exact Kd.Q_nil _ _ _ _ _ | exact Kd.S_nil _ _ _ _ _⟩, ⟨by repeat (first | (with_reducible first | exact HB.out | apply below_alloc | apply pw_below_drewN | apply below_drew1) | exact HB.out)⟩⟩
  case round =>
    clear H'
    obtain ⟨x5_1, x6_1, rfl, HA, HK1, HO_5, HB⟩ := hrel
    cases gk with
    | zero => exact absurd HA.out (by simp [tithebarnref08_Scan.l0])
    | succ k1 =>
      have H := HA.out
      clear HA
      simp only [tithebarnref08_Scan.l0] at H
      by_cases c2 : (wrap64 ((a0.size : Int) - x6_1)) ≥ 4
      · rw [if_pos c2] at H
        have c2b0 : decide (4 ≤ (wrap64 ((a0.size : Int) - x6_1))) = true := decide_eq_true c2
        clear c2
        by_cases c3 : 0 ≤ x6_1
        · rw [if_pos c3] at H
          have c3b0 := eq_true c3
          have c3b1 : decide (0 ≤ x6_1) = true := decide_eq_true c3
          clear c3
          by_cases c4 : x6_1 ≤ (wrap64 (x6_1 + 4))
          · rw [if_pos c4] at H
            have c4b0 := eq_true c4
            have c4b1 : decide (x6_1 ≤ (wrap64 (x6_1 + 4))) = true := decide_eq_true c4
            by_cases c5 : (wrap64 (x6_1 + 4)) ≤ (a0.size : Int)
            · rw [if_pos c5] at H
              have c5b0 := eq_true c5
              have c5b1 : decide ((wrap64 (x6_1 + 4)) ≤ (a0.size : Int)) = true := decide_eq_true c5
              replace H := Option.bind_eq_some_iff.mp H
              obtain ⟨t415, A60, H⟩ := H
              replace H : (if t415 > 1048576 then (some (([] : List ByteArray), 0, 8)) else (if (wrap64 ((a0.size : Int) - x6_1)) < (wrap64 ((wrap64 (t415)) + 8)) then (some (x5_1, x6_1, 0)) else (if 0 ≤ (wrap64 (x6_1 + 4)) then (if (wrap64 (x6_1 + 4)) ≤ (wrap64 ((wrap64 (x6_1 + 4)) + (wrap64 (t415)))) then (if (wrap64 ((wrap64 (x6_1 + 4)) + (wrap64 (t415)))) ≤ (a0.size : Int) then (if 0 ≤ (wrap64 ((wrap64 (x6_1 + 4)) + (wrap64 (t415)))) then (if (wrap64 ((wrap64 (x6_1 + 4)) + (wrap64 (t415)))) ≤ (wrap64 ((wrap64 (x6_1 + 8)) + (wrap64 (t415)))) then (if (wrap64 ((wrap64 (x6_1 + 8)) + (wrap64 (t415)))) ≤ (a0.size : Int) then ((tithebarnref08_number.f (a0.extract ((wrap64 ((wrap64 (x6_1 + 4)) + (wrap64 (t415)))) : Int).toNat ((wrap64 ((wrap64 (x6_1 + 8)) + (wrap64 (t415)))) : Int).toNat)).bind fun t416 => ((tithebarnref08_Sum.f (a0.extract ((wrap64 (x6_1 + 4)) : Int).toNat ((wrap64 ((wrap64 (x6_1 + 4)) + (wrap64 (t415)))) : Int).toNat)).bind fun t417 => (if t416 = t417 then (if x5_1.length < 8796093022208 then (tithebarnref08_Scan.l0 k1 a0 (x5_1 ++ [a0.extract ((wrap64 (x6_1 + 4)) : Int).toNat ((wrap64 ((wrap64 (x6_1 + 4)) + (wrap64 (t415)))) : Int).toNat]) (wrap64 (x6_1 + (wrap64 ((wrap64 (t415)) + 8))))) else (none)) else (some (([] : List ByteArray), 0, 8))))) else (none)) else (none)) else (none)) else (none)) else (none)) else (none)))) = some (r1, r2, r3) := H
              have A6 := Aside0.mk A60
              clear A60
              by_cases c7 : t415 > 1048576
              · rw [if_pos c7] at H
                have c7b0 : decide (1048576 < t415) = true := decide_eq_true c7
                clear c7
                simp only [Option.some.injEq, Prod.mk.injEq] at H
                obtain ⟨rfl, rfl, rfl⟩ := H
                go_wp2_with (first | ((with_reducible refine gate_callee (f := 55) rfl ?_); refine goesL_ (some 19) rfl rfl Try.func55 (by kernel_rfl) rfl #[.string (a0.extract (x6_1 : Int).toNat ((wrap64 (x6_1 + 4)) : Int).toNat)] rfl (by (try simp only [List.map_toArray, List.map_cons, List.map_nil]); first | done | rfl | (simp only [List.length_drop, List.length_take]; rfl) | (go_simp; simp [IntKind.wrap, IntKind.bits, IntKind.signed]; omega)) ?_; (with_reducible refine (tithebarnref08_number.calls (a0.extract (x6_1 : Int).toNat ((wrap64 (x6_1 + 4)) : Int).toNat) t415 _ A6.out).mono ?_); rintro e w' ⟨rfl, ⟨nd, rfl⟩⟩; refine ⟨_, rfl, ?_⟩))
                go_ret3
                exact ⟨_, by first | rfl | (simp [errW_none, errW_some] <;> rfl) | (simp [*, errW_none, errW_some] <;> rfl), by first | exact Kd.R_nil _ _ _ _ _ | exact Kd.N_nil _ _ _ _ _ | exact Kd.V_nil _ _ _ _ _ | exact Kd.Q_nil _ _ _ _ _ | exact Kd.S_nil _ _ _ _ _, by repeat (first | (with_reducible first | exact HB.out | apply below_alloc | apply pw_below_drewN | apply below_drew1) | exact HB.out)⟩
              · rw [if_neg c7] at H
                have c7b0 : decide (1048576 < t415) = false := decide_eq_false c7
                clear c7
                by_cases c8 : (wrap64 ((a0.size : Int) - x6_1)) < (wrap64 ((wrap64 (t415)) + 8))
                · rw [if_pos c8] at H
                  have c8b0 : decide ((wrap64 ((a0.size : Int) - x6_1)) < (wrap64 ((wrap64 (t415)) + 8))) = true := decide_eq_true c8
                  clear c8
                  simp only [Option.some.injEq, Prod.mk.injEq] at H
                  obtain ⟨rfl, rfl, rfl⟩ := H
                  go_wp2_with (first | ((with_reducible refine gate_callee (f := 55) rfl ?_); refine goesL_ (some 19) rfl rfl Try.func55 (by kernel_rfl) rfl #[.string (a0.extract (x6_1 : Int).toNat ((wrap64 (x6_1 + 4)) : Int).toNat)] rfl (by (try simp only [List.map_toArray, List.map_cons, List.map_nil]); first | done | rfl | (simp only [List.length_drop, List.length_take]; rfl) | (go_simp; simp [IntKind.wrap, IntKind.bits, IntKind.signed]; omega)) ?_; (with_reducible refine (tithebarnref08_number.calls (a0.extract (x6_1 : Int).toNat ((wrap64 (x6_1 + 4)) : Int).toNat) t415 _ A6.out).mono ?_); rintro e w' ⟨rfl, ⟨nd, rfl⟩⟩; refine ⟨_, rfl, ?_⟩))
                  go_ret3
                  exact ⟨_, by first | rfl | (simp [errW_none, errW_some] <;> rfl) | (simp [*, errW_none, errW_some] <;> rfl), by (with_reducible repeat (first | apply Kd.R_alloc | apply Kd.R_drewN | apply Kd.R_drew)); exact HO_5.out, by repeat (first | (with_reducible first | exact HB.out | apply below_alloc | apply pw_below_drewN | apply below_drew1) | exact HB.out)⟩
                · rw [if_neg c8] at H
                  have c8b0 : decide ((wrap64 ((a0.size : Int) - x6_1)) < (wrap64 ((wrap64 (t415)) + 8))) = false := decide_eq_false c8
                  clear c8
                  obtain ⟨ji9, hji9⟩ : ∃ j_ : Int, (wrap64 (x6_1 + 4)) = j_ := ⟨_, rfl⟩
                  replace H : (if 0 ≤ (ji9) then (if (ji9) ≤ (wrap64 ((ji9) + (wrap64 (t415)))) then (if (wrap64 ((ji9) + (wrap64 (t415)))) ≤ (a0.size : Int) then (if 0 ≤ (wrap64 ((ji9) + (wrap64 (t415)))) then (if (wrap64 ((ji9) + (wrap64 (t415)))) ≤ (wrap64 ((wrap64 (x6_1 + 8)) + (wrap64 (t415)))) then (if (wrap64 ((wrap64 (x6_1 + 8)) + (wrap64 (t415)))) ≤ (a0.size : Int) then ((tithebarnref08_number.f (a0.extract ((wrap64 ((ji9) + (wrap64 (t415)))) : Int).toNat ((wrap64 ((wrap64 (x6_1 + 8)) + (wrap64 (t415)))) : Int).toNat)).bind fun t416 => ((tithebarnref08_Sum.f (a0.extract ((ji9) : Int).toNat ((wrap64 ((ji9) + (wrap64 (t415)))) : Int).toNat)).bind fun t417 => (if t416 = t417 then (if x5_1.length < 8796093022208 then (tithebarnref08_Scan.l0 k1 a0 (x5_1 ++ [a0.extract ((ji9) : Int).toNat ((wrap64 ((ji9) + (wrap64 (t415)))) : Int).toNat]) (wrap64 (x6_1 + (wrap64 ((wrap64 (t415)) + 8))))) else (none)) else (some (([] : List ByteArray), 0, 8))))) else (none)) else (none)) else (none)) else (none)) else (none)) else (none)) = some (r1, r2, r3) := by first | (rw [hji9] at H; exact H) | (simp only [hji9] at H ⊢; exact H)
                  (try rw [hji9] at c4b0)
                  (try rw [hji9] at c4b1)
                  (try rw [hji9] at c4)
                  (try rw [hji9] at c5b0)
                  (try rw [hji9] at c5b1)
                  (try rw [hji9] at c5)
                  (try rw [hji9] at A6)
                  have hji9w : (IntKind.i64.wrap (x6_1 + 4)) = ji9 := (i64_w _).trans hji9
                  by_cases c10 : 0 ≤ (ji9)
                  · rw [if_pos c10] at H
                    have c10b0 := eq_true c10
                    have c10b1 : decide (0 ≤ (ji9)) = true := decide_eq_true c10
                    clear c10
                    by_cases c11 : (ji9) ≤ (wrap64 ((ji9) + (wrap64 (t415))))
                    · rw [if_pos c11] at H
                      have c11b0 := eq_true c11
                      have c11b1 : decide ((ji9) ≤ (wrap64 ((ji9) + (wrap64 (t415))))) = true := decide_eq_true c11
                      by_cases c12 : (wrap64 ((ji9) + (wrap64 (t415)))) ≤ (a0.size : Int)
                      · rw [if_pos c12] at H
                        have c12b0 := eq_true c12
                        have c12b1 : decide ((wrap64 ((ji9) + (wrap64 (t415)))) ≤ (a0.size : Int)) = true := decide_eq_true c12
                        obtain ⟨ji13, hji13⟩ : ∃ j_ : Int, (wrap64 ((ji9) + (wrap64 (t415)))) = j_ := ⟨_, rfl⟩
                        replace H : (if 0 ≤ (ji13) then (if (ji13) ≤ (wrap64 ((wrap64 (x6_1 + 8)) + (wrap64 (t415)))) then (if (wrap64 ((wrap64 (x6_1 + 8)) + (wrap64 (t415)))) ≤ (a0.size : Int) then ((tithebarnref08_number.f (a0.extract ((ji13) : Int).toNat ((wrap64 ((wrap64 (x6_1 + 8)) + (wrap64 (t415)))) : Int).toNat)).bind fun t416 => ((tithebarnref08_Sum.f (a0.extract ((ji9) : Int).toNat ((ji13) : Int).toNat)).bind fun t417 => (if t416 = t417 then (if x5_1.length < 8796093022208 then (tithebarnref08_Scan.l0 k1 a0 (x5_1 ++ [a0.extract ((ji9) : Int).toNat ((ji13) : Int).toNat]) (wrap64 (x6_1 + (wrap64 ((wrap64 (t415)) + 8))))) else (none)) else (some (([] : List ByteArray), 0, 8))))) else (none)) else (none)) else (none)) = some (r1, r2, r3) := by first | (rw [hji13] at H; exact H) | (simp only [hji13] at H ⊢; exact H)
                        (try rw [hji13] at c11b0)
                        (try rw [hji13] at c11b1)
                        (try rw [hji13] at c11)
                        (try rw [hji13] at c12b0)
                        (try rw [hji13] at c12b1)
                        (try rw [hji13] at c12)
                        (try rw [hji13] at A6)
                        have hji13w : (IntKind.i64.wrap ((ji9) + (wrap64 (t415)))) = ji13 := (i64_w _).trans hji13
                        by_cases c14 : 0 ≤ (ji13)
                        · rw [if_pos c14] at H
                          have c14b0 := eq_true c14
                          have c14b1 : decide (0 ≤ (ji13)) = true := decide_eq_true c14
                          clear c14
                          by_cases c15 : (ji13) ≤ (wrap64 ((wrap64 (x6_1 + 8)) + (wrap64 (t415))))
                          · rw [if_pos c15] at H
                            have c15b0 := eq_true c15
                            have c15b1 : decide ((ji13) ≤ (wrap64 ((wrap64 (x6_1 + 8)) + (wrap64 (t415))))) = true := decide_eq_true c15
                            by_cases c16 : (wrap64 ((wrap64 (x6_1 + 8)) + (wrap64 (t415)))) ≤ (a0.size : Int)
                            · rw [if_pos c16] at H
                              have c16b0 := eq_true c16
                              have c16b1 : decide ((wrap64 ((wrap64 (x6_1 + 8)) + (wrap64 (t415)))) ≤ (a0.size : Int)) = true := decide_eq_true c16
                              replace H := Option.bind_eq_some_iff.mp H
                              obtain ⟨t416, A170, H⟩ := H
                              replace H : ((tithebarnref08_Sum.f (a0.extract ((ji9) : Int).toNat ((ji13) : Int).toNat)).bind fun t417 => (if t416 = t417 then (if x5_1.length < 8796093022208 then (tithebarnref08_Scan.l0 k1 a0 (x5_1 ++ [a0.extract ((ji9) : Int).toNat ((ji13) : Int).toNat]) (wrap64 (x6_1 + (wrap64 ((wrap64 (t415)) + 8))))) else (none)) else (some (([] : List ByteArray), 0, 8)))) = some (r1, r2, r3) := H
                              have A17 := Aside0.mk A170
                              clear A170
                              replace H := Option.bind_eq_some_iff.mp H
                              obtain ⟨t417, A180, H⟩ := H
                              replace H : (if t416 = t417 then (if x5_1.length < 8796093022208 then (tithebarnref08_Scan.l0 k1 a0 (x5_1 ++ [a0.extract ((ji9) : Int).toNat ((ji13) : Int).toNat]) (wrap64 (x6_1 + (wrap64 ((wrap64 (t415)) + 8))))) else (none)) else (some (([] : List ByteArray), 0, 8))) = some (r1, r2, r3) := H
                              have A18 := Aside0.mk A180
                              clear A180
                              by_cases c19 : t416 = t417
                              · rw [if_pos c19] at H
                                have c19b0 : (t416 == t417) = true := beq_iff_eq.mpr c19
                                have c19b1 : (t416 != t417) = false := bne_eq_false_iff_eq.mpr c19
                                clear c19
                                by_cases c20 : x5_1.length < 8796093022208
                                · rw [if_pos c20] at H
                                  have LMc20 := Aside0.mk c20
                                  clear c20
                                  obtain ⟨y418, hy418⟩ : ∃ y_ : List ByteArray, y_ = (x5_1 ++ [a0.extract ((ji9) : Int).toNat ((ji13) : Int).toNat]) := ⟨_, rfl⟩
                                  replace H : (tithebarnref08_Scan.l0 k1 a0 y418 (wrap64 (x6_1 + (wrap64 ((wrap64 (t415)) + 8))))) = some (r1, r2, r3) := by first | (rw [hy418]; with_reducible exact H) | (have H2_ := (Option.bind_some _ _).symm.trans H; rw [hy418]; with_reducible exact H2_) | (have H2_ := (Option.bind_some _ _).symm.trans H; with_reducible exact H2_) | with_reducible exact H | (rw [hy418]; exact H) | exact H
                                  have Ny418 := Aside0.mk hy418
                                  clear hy418
                                  have H' := Aside0.mk H
                                  clear H
                                  go_wp2_with (first | ((with_reducible refine gate_callee (f := 55) rfl ?_); refine goesL_ (some 19) rfl rfl Try.func55 (by kernel_rfl) rfl #[.string (a0.extract (x6_1 : Int).toNat ((ji9) : Int).toNat)] rfl (by (try simp only [List.map_toArray, List.map_cons, List.map_nil]); first | done | (simp only [hji9]; rfl) | rfl | (simp only [List.length_drop, List.length_take]; rfl) | (go_simp; simp [IntKind.wrap, IntKind.bits, IntKind.signed]; omega)) ?_; (with_reducible refine (tithebarnref08_number.calls (a0.extract (x6_1 : Int).toNat ((ji9) : Int).toNat) t415 _ A6.out).mono ?_); rintro e w' ⟨rfl, ⟨nd, rfl⟩⟩; refine ⟨_, rfl, ?_⟩) | ((with_reducible refine gate_callee (f := 55) rfl ?_); refine goesL_ (some 51) rfl rfl Try.func55 (by kernel_rfl) rfl #[.string (a0.extract ((ji13) : Int).toNat ((wrap64 ((wrap64 (x6_1 + 8)) + (wrap64 (t415)))) : Int).toNat)] rfl (by (try simp only [List.map_toArray, List.map_cons, List.map_nil]); first | done | (simp only [hji13]; rfl) | rfl | (simp only [List.length_drop, List.length_take]; rfl) | (go_simp; simp [IntKind.wrap, IntKind.bits, IntKind.signed]; omega)) ?_; (with_reducible refine (tithebarnref08_number.calls (a0.extract ((ji13) : Int).toNat ((wrap64 ((wrap64 (x6_1 + 8)) + (wrap64 (t415)))) : Int).toNat) t416 _ A17.out).mono ?_); rintro e w' ⟨rfl, ⟨nd, rfl⟩⟩; refine ⟨_, rfl, ?_⟩) | ((with_reducible refine gate_callee (f := 49) rfl ?_); refine goesL_ (some 53) rfl rfl Try.func49 (by kernel_rfl) rfl #[.string (a0.extract ((ji9) : Int).toNat ((ji13) : Int).toNat)] rfl (by (try simp only [List.map_toArray, List.map_cons, List.map_nil]); first | done | (simp only [hji13, hji9]; rfl) | rfl | (simp only [List.length_drop, List.length_take]; rfl) | (go_simp; simp [IntKind.wrap, IntKind.bits, IntKind.signed]; omega)) ?_; (with_reducible refine (tithebarnref08_Sum.calls (a0.extract ((ji9) : Int).toNat ((ji13) : Int).toNat) t417 _ A18.out).mono ?_); rintro e w' ⟨rfl, ⟨nd, rfl⟩⟩; refine ⟨_, rfl, ?_⟩) | ((with_reducible refine gate_builtin (b := .append) (xs := #[.tmp 55, .tmp 57]) rfl ?_); at_builtin; refine Kd.R_append Kd.string (w0 := w) w.heap.size rfl (.tmp 55) (.tmp 57) 58 9 (.string ⟨#[]⟩) 16 rfl Try.underlying58 info9 rfl (by decide) (by omega) u5 x5_1 (a0.extract ((ji9) : Int).toNat ((ji13) : Int).toNat) [.string (a0.extract ((ji9) : Int).toNat ((ji13) : Int).toNat)] (fun _ => True) (fun _ => False) rfl rfl ?aP (fun _ hk => hk.elim) ?aF ?aO ?aB ?aS ?aL ?_; (case aP => exact rfl); (case aB => exact (by repeat (first | (with_reducible first | exact HB.out | apply below_alloc | apply pw_below_drewN | apply below_drew1) | exact HB.out))); (case aF => exact (fun _ _ => trivial)); (case aO => exact (by (with_reducible repeat (first | apply Kd.R_alloc | apply Kd.R_drewN | apply Kd.R_drew)); exact HO_5.out)); (case aS => exact (below_size (by repeat (first | (with_reducible first | exact HB.out | apply below_alloc | apply pw_below_drewN | apply below_drew1) | exact HB.out)))); (case aL => have := LMc20.out; omega); intro v419 w21 ho hb hg hat; rw [← Ny418.out] at ho; have n0_ := Aside0.mk (hb); have n1_ := Aside0.mk (ho); clear HB; clear HO_5; have HB := n0_; have HO420 := n1_; clear n0_ n1_; clear ho hb hg hat))
                                  go_roundg k1
                                  case measure => have := HK1.out; omega
                                  case rel => exact ⟨(y418), (wrap64 (x6_1 + (wrap64 ((wrap64 (t415)) + 8)))), (by first | rfl | (simp; done) | (simp [*]; done)), H', ⟨by have := HK1.out; omega⟩, ⟨by (with_reducible repeat (first | apply Kd.R_alloc | apply Kd.R_drewN | apply Kd.R_drew)); exact HO420.out⟩, ⟨by repeat (first | (with_reducible first | exact HB.out | apply below_alloc | apply pw_below_drewN | apply below_drew1) | exact HB.out)⟩⟩
                                · rw [if_neg c20] at H
                                  exact absurd H (by simp)
                              · rw [if_neg c19] at H
                                have c19b0 : (t416 == t417) = false := beq_eq_false_iff_ne.mpr c19
                                have c19b1 : (t416 != t417) = true := bne_iff_ne.mpr c19
                                simp only [Option.some.injEq, Prod.mk.injEq] at H
                                obtain ⟨rfl, rfl, rfl⟩ := H
                                go_wp2_with (first | ((with_reducible refine gate_callee (f := 55) rfl ?_); refine goesL_ (some 19) rfl rfl Try.func55 (by kernel_rfl) rfl #[.string (a0.extract (x6_1 : Int).toNat ((ji9) : Int).toNat)] rfl (by (try simp only [List.map_toArray, List.map_cons, List.map_nil]); first | done | (simp only [hji9]; rfl) | rfl | (simp only [List.length_drop, List.length_take]; rfl) | (go_simp; simp [IntKind.wrap, IntKind.bits, IntKind.signed]; omega)) ?_; (with_reducible refine (tithebarnref08_number.calls (a0.extract (x6_1 : Int).toNat ((ji9) : Int).toNat) t415 _ A6.out).mono ?_); rintro e w' ⟨rfl, ⟨nd, rfl⟩⟩; refine ⟨_, rfl, ?_⟩) | ((with_reducible refine gate_callee (f := 55) rfl ?_); refine goesL_ (some 51) rfl rfl Try.func55 (by kernel_rfl) rfl #[.string (a0.extract ((ji13) : Int).toNat ((wrap64 ((wrap64 (x6_1 + 8)) + (wrap64 (t415)))) : Int).toNat)] rfl (by (try simp only [List.map_toArray, List.map_cons, List.map_nil]); first | done | (simp only [hji13]; rfl) | rfl | (simp only [List.length_drop, List.length_take]; rfl) | (go_simp; simp [IntKind.wrap, IntKind.bits, IntKind.signed]; omega)) ?_; (with_reducible refine (tithebarnref08_number.calls (a0.extract ((ji13) : Int).toNat ((wrap64 ((wrap64 (x6_1 + 8)) + (wrap64 (t415)))) : Int).toNat) t416 _ A17.out).mono ?_); rintro e w' ⟨rfl, ⟨nd, rfl⟩⟩; refine ⟨_, rfl, ?_⟩) | ((with_reducible refine gate_callee (f := 49) rfl ?_); refine goesL_ (some 53) rfl rfl Try.func49 (by kernel_rfl) rfl #[.string (a0.extract ((ji9) : Int).toNat ((ji13) : Int).toNat)] rfl (by (try simp only [List.map_toArray, List.map_cons, List.map_nil]); first | done | (simp only [hji13, hji9]; rfl) | rfl | (simp only [List.length_drop, List.length_take]; rfl) | (go_simp; simp [IntKind.wrap, IntKind.bits, IntKind.signed]; omega)) ?_; (with_reducible refine (tithebarnref08_Sum.calls (a0.extract ((ji9) : Int).toNat ((ji13) : Int).toNat) t417 _ A18.out).mono ?_); rintro e w' ⟨rfl, ⟨nd, rfl⟩⟩; refine ⟨_, rfl, ?_⟩))
                                go_ret3
                                exact ⟨_, by first | rfl | (simp [errW_none, errW_some] <;> rfl) | (simp only [← hji9, ← hji13]; first | rfl | (simp [errW_none, errW_some] <;> rfl)) | (simp [*, errW_none, errW_some] <;> rfl), by first | exact Kd.R_nil _ _ _ _ _ | exact Kd.N_nil _ _ _ _ _ | exact Kd.V_nil _ _ _ _ _ | exact Kd.Q_nil _ _ _ _ _ | exact Kd.S_nil _ _ _ _ _, by repeat (first | (with_reducible first | exact HB.out | apply below_alloc | apply pw_below_drewN | apply below_drew1) | exact HB.out)⟩
                            · rw [if_neg c16] at H
                              exact absurd H (by simp)
                          · rw [if_neg c15] at H
                            exact absurd H (by simp)
                        · rw [if_neg c14] at H
                          exact absurd H (by simp)
                      · rw [if_neg c12] at H
                        exact absurd H (by simp)
                    · rw [if_neg c11] at H
                      exact absurd H (by simp)
                  · rw [if_neg c10] at H
                    exact absurd H (by simp)
            · rw [if_neg c5] at H
              exact absurd H (by simp)
          · rw [if_neg c4] at H
            exact absurd H (by simp)
        · rw [if_neg c3] at H
          exact absurd H (by simp)
      · rw [if_neg c2] at H
        have c2b0 : decide (4 ≤ (wrap64 ((a0.size : Int) - x6_1))) = false := decide_eq_false c2
        clear c2
        simp only [Option.some.injEq, Prod.mk.injEq] at H
        obtain ⟨rfl, rfl, rfl⟩ := H
        go_wp2
        go_ret3
        exact ⟨_, by first | rfl | (simp [errW_none, errW_some] <;> rfl) | (simp [*, errW_none, errW_some] <;> rfl), by (with_reducible repeat (first | apply Kd.R_alloc | apply Kd.R_drewN | apply Kd.R_drew)); exact HO_5.out, by repeat (first | (with_reducible first | exact HB.out | apply below_alloc | apply pw_below_drewN | apply below_drew1) | exact HB.out)⟩
end Go.Proofs.Ytagokgijffpdnaa.G
