import Derived.Test.YtagokgijffpdnaaZG0
import Derived.Test.YtagokgijffpdnaaZG4
import Derived.Test.YtagokgijffpdnaaZG5
import Derived.Test.YtagokgijffpdnaaZG7
namespace Go.Proofs.Ytagokgijffpdnaa.G
open Go.RowKit Go.Proofs.YtagokgijffpdnaaQ Go.Proofs.YtagokgijffpdnaaW.PrintWords Go.Proofs.YtagokgijffpdnaaW.PrintLast Go.Proofs.YtagokgijffpdnaaW.PrintMore
attribute [local go_sem] max2_int min2_int max_two min_two max_three min_three max_four min_four   -- for this text's walks alone
set_option linter.unusedVariables false
set_option linter.unusedSimpArgs false
mutual
def tithebarnlaw16_ManifestSnapshot.l0 : Nat → List (S32) → Int → List (S36) → Int → Int → Option (Bool)
  | 0, _, _, _, _, _ => none
  | k + 1, x0, x4, x168000, x168001, x168002 => if x4 < (x0.length : Int) then (tithebarnlaw16_ManifestSnapshot.j1 k x0 x4 (decide (x4 < 50)) x168000 x168001 x168002) else (tithebarnlaw16_ManifestSnapshot.j1 k x0 x4 false x168000 x168001 x168002)
def tithebarnlaw16_ManifestSnapshot.j1 : Nat → List (S32) → Int → Bool → List (S36) → Int → Int → Option (Bool)
  | 0, _, _, _, _, _, _ => none
  | k + 1, x0, x4, x19, x168000, x168001, x168002 => if x19 = true then (if 0 ≤ x4 then (if x4 < (x0.length : Int) then ((manifest_Apply.f x168000 x168001 x168002 ((rd_T32 x0 x4).f0) ((rd_T32 x0 x4).f1) ((rd_T32 x0 x4).f2) ((rd_T32 x0 x4).f3)).bind fun bt169 => (if bt169.2.2.2 = 0 then (tithebarnlaw16_ManifestSnapshot.l0 k x0 (wrap64 (x4 + 1)) bt169.1 bt169.2.1 bt169.2.2.1) else (tithebarnlaw16_ManifestSnapshot.l0 k x0 (wrap64 (x4 + 1)) x168000 x168001 x168002))) else (none)) else (none)) else ((manifest_Snapshot.f x168000 x168001 x168002).bind fun bt176 => ((manifest_Apply.f ([] : List (S36)) 0 0 bt176.1 bt176.2.1 bt176.2.2.1 bt176.2.2.2).bind fun bt185 => (if (x168000.length : Int) > 1000 then (some (bt185.2.2.2 == 8)) else (if bt185.2.2.2 = 0 then ((tithebarnref16_Same.f k x168000 x168001 x168002 bt185.1 bt185.2.1 bt185.2.2.1).bind fun t192 => (some t192)) else (some false)))))
end
def tithebarnlaw16_ManifestSnapshot.f (k : Nat) (l0 : List (S32)) : Option (Bool) := (tithebarnlaw16_lives.f k).bind fun t166 => (if t166 = true then (tithebarnlaw16_ManifestSnapshot.l0 k l0 0 ([] : List (S36)) 0 0) else (some false))
theorem tithebarnlaw16_ManifestSnapshot.mono_l : ∀ k, (∀ y0 y1 y2 y3 y4, LeO (tithebarnlaw16_ManifestSnapshot.l0 k y0 y1 y2 y3 y4) (tithebarnlaw16_ManifestSnapshot.l0 (k + 1) y0 y1 y2 y3 y4)) ∧ (∀ y0 y1 y2 y3 y4 y5, LeO (tithebarnlaw16_ManifestSnapshot.j1 k y0 y1 y2 y3 y4 y5) (tithebarnlaw16_ManifestSnapshot.j1 (k + 1) y0 y1 y2 y3 y4 y5))
  | 0 => ⟨fun _ _ _ _ _ r h => by simp [tithebarnlaw16_ManifestSnapshot.l0] at h, fun _ _ _ _ _ _ r h => by simp [tithebarnlaw16_ManifestSnapshot.j1] at h⟩
  | k + 1 => by
    obtain ⟨ih0, ih1⟩ := tithebarnlaw16_ManifestSnapshot.mono_l k
    refine ⟨?_, ?_⟩
    · intro y0 y1 y2 y3 y4
      unfold tithebarnlaw16_ManifestSnapshot.l0
      repeat' first
      | (with_reducible exact ih0 _ _ _ _ _)
      | (with_reducible exact ih1 _ _ _ _ _ _)
      | (with_reducible exact tithebarnlaw16_lives.mono _)
      | (with_reducible exact tithebarnref16_Same.mono _ _ _ _ _ _ _)
      | (with_reducible exact LeO.refl _)
      | (with_reducible exact LeO.none _)
      | (with_reducible refine LeO.ite ?_ ?_)
      | (with_reducible refine LeO.bind ?_ (fun _ => ?_))
      | exact ih0 _ _ _ _ _
      | exact ih1 _ _ _ _ _ _
      | exact tithebarnlaw16_lives.mono _
      | exact tithebarnref16_Same.mono _ _ _ _ _ _ _
      | exact LeO.none _
      | refine LeO.ite ?_ ?_
      | refine LeO.bind ?_ (fun _ => ?_)
    · intro y0 y1 y2 y3 y4 y5
      unfold tithebarnlaw16_ManifestSnapshot.j1
      repeat' first
      | (with_reducible exact ih0 _ _ _ _ _)
      | (with_reducible exact ih1 _ _ _ _ _ _)
      | (with_reducible exact tithebarnlaw16_lives.mono _)
      | (with_reducible exact tithebarnref16_Same.mono _ _ _ _ _ _ _)
      | (with_reducible exact LeO.refl _)
      | (with_reducible exact LeO.none _)
      | (with_reducible refine LeO.ite ?_ ?_)
      | (with_reducible refine LeO.bind ?_ (fun _ => ?_))
      | exact ih0 _ _ _ _ _
      | exact ih1 _ _ _ _ _ _
      | exact tithebarnlaw16_lives.mono _
      | exact tithebarnref16_Same.mono _ _ _ _ _ _ _
      | exact LeO.none _
      | refine LeO.ite ?_ ?_
      | refine LeO.bind ?_ (fun _ => ?_)
theorem tithebarnlaw16_ManifestSnapshot.mono : ∀ a0 k, LeO (tithebarnlaw16_ManifestSnapshot.f k a0) (tithebarnlaw16_ManifestSnapshot.f (k + 1) a0) := by
  intro a0 k
  obtain ⟨ih0, ih1⟩ := tithebarnlaw16_ManifestSnapshot.mono_l k
  unfold tithebarnlaw16_ManifestSnapshot.f
  repeat' first
      | (with_reducible exact ih0 _ _ _ _ _)
      | (with_reducible exact ih1 _ _ _ _ _ _)
      | (with_reducible exact tithebarnlaw16_lives.mono _)
      | (with_reducible exact tithebarnref16_Same.mono _ _ _ _ _ _ _)
      | (with_reducible exact LeO.refl _)
      | (with_reducible exact LeO.none _)
      | (with_reducible refine LeO.ite ?_ ?_)
      | (with_reducible refine LeO.bind ?_ (fun _ => ?_))
      | exact ih0 _ _ _ _ _
      | exact ih1 _ _ _ _ _ _
      | exact tithebarnlaw16_lives.mono _
      | exact tithebarnref16_Same.mono _ _ _ _ _ _ _
      | exact LeO.none _
      | refine LeO.ite ?_ ?_
      | refine LeO.bind ?_ (fun _ => ?_)
def tithebarnlaw16_ManifestSnapshot.T7 : Bool × List (List Nat × List Nat) := (true, [([], []), ([], []), ([], []), ([1, 2], [1, 2]), ([3], [3]), ([0, 4], [0, 4]), ([5], [5]), ([6], [6]), ([6], [6]), ([], []), ([9, 7, 5, 0, 1, 2, 3, 4, 5, 6, 7, 9], [7, 9]), ([8, 10, 0, 1, 2, 3, 4, 5, 6, 7, 8, 9, 10], [8])])
def tithebarnlaw16_ManifestSnapshot.B7 : List Nat := [0, 0, 0, 6, 14, 31, 63, 127, 127, 0, 767, 2047]
theorem tithebarnlaw16_ManifestSnapshot.tab7 : rtab .any (opsOf Try.f4 7) = tithebarnlaw16_ManifestSnapshot.T7 := by kernel_rfl
theorem tithebarnlaw16_ManifestSnapshot.bits7 : waitsOk tithebarnlaw16_ManifestSnapshot.T7.2 tithebarnlaw16_ManifestSnapshot.B7 = true := by kernel_rfl
set_option maxHeartbeats 8000000 in
set_option maxRecDepth 100000 in
theorem tithebarnlaw16_ManifestSnapshot.calls (k : Nat) (A0 : Option Addr) (c0 : Nat) (l0 : List (S32)) (r : Bool) (w : World) (hr0 : Kd.C k32 w A0 l0.length l0) (hc0 : l0.length ≤ c0) (h : tithebarnlaw16_ManifestSnapshot.f k l0 = some r) :
    Calls Try.prog 4 #[.slice A0 l0.length c0] w fun e w' => e = .returned (.bool r) ∧ Below w.heap.size w w' := by
  have hu26 := Try.underlying26
  have hu32 := Try.underlying32
  have HR0 := Aside0.mk hr0
  have HC0 := Aside0.mk hc0
  clear hr0 hc0
  have HB := Aside0.mk (Below.refl w.heap.size w)
  have H : ((tithebarnlaw16_lives.f k).bind fun t166 => (if t166 = true then (tithebarnlaw16_ManifestSnapshot.l0 k l0 0 ([] : List (S36)) 0 0) else (some false))) = some r := h
  clear h
  replace H := Option.bind_eq_some_iff.mp H
  obtain ⟨t166, A20, H⟩ := H
  replace H : (if t166 = true then (tithebarnlaw16_ManifestSnapshot.l0 k l0 0 ([] : List (S36)) 0 0) else (some false)) = some r := H
  have A2 := Aside0.mk A20
  clear A20
  by_cases c3 : t166 = true
  · subst c3
    have H1 : (tithebarnlaw16_ManifestSnapshot.l0 k l0 0 ([] : List (S36)) 0 0) = some r := by rw [if_pos rfl] at H; exact H
    clear H
    have H := H1
    clear H1
    have H' := Aside0.mk H
    clear H
    go_enter Try.func4, Try.ntmps4
    go_wp2_with (first | ((with_reducible refine gate_callee (f := 8) rfl ?_); refine goesL_ (some 10) rfl rfl Try.func8 (by kernel_rfl) rfl #[] rfl (by (try simp only [List.map_toArray, List.map_cons, List.map_nil]); first | done | rfl | (simp only [List.length_drop, List.length_take]; rfl) | (go_simp; simp [IntKind.wrap, IntKind.bits, IntKind.signed]; omega)) ?_; (with_reducible refine (tithebarnlaw16_lives.calls k  true _ A2.out).mono ?_); rintro e w4 ⟨rfl, hb⟩; refine ⟨_, rfl, ?_⟩; have n0_ := Aside0.mk (below_step (by repeat (first | (with_reducible first | exact HB.out | apply below_alloc | apply pw_below_drewN | apply below_drew1) | exact HB.out)) hb); clear HB; have HB := n0_; clear n0_; (try clear hb); (try clear hb2); (try clear hk); (try clear hi)) | ((with_reducible refine gate_dst (N := 3) rfl ?_); refine box_event ?hg (N := 3) ?hd (cs := #[.slice none 0 0, .int .i64 0, .int .i64 0]) (t := 26) ?hr ?_; (case hd => rfl); (case hg => rfl); (case hr => first | (go_simp; done) | (go_simp; rfl)); intro gb167 hg w5 hbox hb; have n0_ := Aside0.mk (below_step (by repeat (first | (with_reducible first | exact HB.out | apply below_alloc | apply pw_below_drewN | apply below_drew1) | exact HB.out)) hb); have n1_ := Aside0.mk (hbox); have n2_ := Aside0.mk ((by rw [hg]; exact (below_size (by repeat (first | (with_reducible first | exact HB.out | apply below_alloc | apply pw_below_drewN | apply below_drew1) | exact HB.out))) : w.heap.size ≤ gb167)); have n3_ := Aside0.mk ((by rw [hg]; exact (below_size (by repeat (first | (with_reducible first | exact HB.out | apply below_alloc | apply pw_below_drewN | apply below_drew1) | exact HB.out))) : w.heap.size ≤ gb167)); clear HB; have HB := n0_; have BK167 := n1_; have GW167 := n2_; have GE167 := n3_; clear n0_ n1_ n2_ n3_; clear hb hbox hg))
    go_loopg [4] k (fun kq v4 w' => ∃ (x4_1 : Int) (x168000_1 : List (S36)) (x168001_1 : Int) (x168002_1 : Int) (u168000 : Value), v4 = .int .i64 x4_1 ∧ Aside0 (tithebarnlaw16_ManifestSnapshot.l0 kq l0 x4_1 x168000_1 x168001_1 x168002_1 = some r) ∧ Aside0 (kq ≤ k) ∧ Aside0 (Kd.R k36 36 w' w.heap.size (fun _ => True) u168000 x168000_1) ∧ Aside0 (w'.heap[gb167]? = some (.cells #[u168000, .int .i64 x168001_1, .int .i64 x168002_1] 26 (0, 0))) ∧ Aside0 (Below w.heap.size w w'))
    case atStart => exact ⟨(0), (([] : List (S36))), (0), (0), (.slice none 0 0), (by first | rfl | (simp; done) | (simp [*]; done)), H', ⟨Nat.le_refl _⟩, ⟨by first | exact Kd.R_nil _ _ _ _ _ | exact Kd.N_nil _ _ _ _ _ | exact Kd.V_nil _ _ _ _ _ | exact Kd.Q_nil _ _ _ _ _ | exact Kd.S_nil _ _ _ _ _⟩, ⟨by (with_reducible repeat (first | refine blk_drewN ?_ _ | refine blk_drew ?_ | refine blk_alloc ?_ _)); exact BK167.out⟩, ⟨by repeat (first | (with_reducible first | exact HB.out | apply below_alloc | apply pw_below_drewN | apply below_drew1 | refine below_set ?_ GE167.out) | exact HB.out)⟩⟩
    case round =>
      clear H'
      try clear p2
      try clear c3
      try clear c4
      obtain ⟨x4_1, x168000_1, x168001_1, x168002_1, u168000, rfl, HA, HK1, HO_168000, BK167, HB⟩ := hrel
      cases gk with
      | zero => exact absurd HA.out (by simp [tithebarnlaw16_ManifestSnapshot.l0])
      | succ k1 =>
        have H := HA.out
        clear HA
        simp only [tithebarnlaw16_ManifestSnapshot.l0] at H
        have HC6 := Aside0.mk H
        clear H
        go_upto_region 5 with (fail)
        go_cut [19] (fun v19 wc => ∃ (kq : Nat) (x19_5 : Bool), v19 = .bool x19_5 ∧ Aside0 (tithebarnlaw16_ManifestSnapshot.j1 kq l0 x4_1 x19_5 x168000_1 x168001_1 x168002_1 = some r) ∧ Aside0 (kq ≤ k1) ∧ Aside0 (Kd.R k36 36 wc w.heap.size (fun _ => True) u168000 x168000_1) ∧ Aside0 (wc.heap[gb167]? = some (.cells #[u168000, .int .i64 x168001_1, .int .i64 x168002_1] 26 (0, 0))) ∧ Aside0 (Below w.heap.size w wc))
        case first =>
          have H := HC6.out
          clear HC6
          by_cases c7 : x4_1 < (l0.length : Int)
          · rw [if_pos c7] at H
            have c7b0 : decide (x4_1 < (l0.length : Int)) = true := decide_eq_true c7
            clear c7
            (first | rw [c7b0] | (simp only [i64_w, i32_w]; rw [c7b0]) | skip)
            have H' := Aside0.mk H
            clear H
            go_wp2
            go_meet
            case rel => exact ⟨_, (decide (x4_1 < 50)), (by first | rfl | (simp; done) | (simp [*]; done)), H', ⟨by have := HK1.out; first | omega | exact Nat.le_refl _⟩, ⟨by (with_reducible repeat (first | apply Kd.R_alloc | apply Kd.R_drewN | apply Kd.R_drew)); exact HO_168000.out⟩, ⟨by (with_reducible repeat (first | refine blk_drewN ?_ _ | refine blk_drew ?_ | refine blk_alloc ?_ _)); exact BK167.out⟩, ⟨by repeat (first | (with_reducible first | exact HB.out | apply below_alloc | apply pw_below_drewN | apply below_drew1 | refine below_set ?_ GE167.out) | exact HB.out)⟩⟩
          · rw [if_neg c7] at H
            have c7b0 : decide (x4_1 < (l0.length : Int)) = false := decide_eq_false c7
            clear c7
            (first | rw [c7b0] | (simp only [i64_w, i32_w]; rw [c7b0]) | skip)
            have H' := Aside0.mk H
            clear H
            go_wp2
            go_meet
            case rel => exact ⟨_, (false), (by first | rfl | (simp; done) | (simp [*]; done)), H', ⟨by have := HK1.out; first | omega | exact Nat.le_refl _⟩, ⟨by (with_reducible repeat (first | apply Kd.R_alloc | apply Kd.R_drewN | apply Kd.R_drew)); exact HO_168000.out⟩, ⟨by (with_reducible repeat (first | refine blk_drewN ?_ _ | refine blk_drew ?_ | refine blk_alloc ?_ _)); exact BK167.out⟩, ⟨by repeat (first | (with_reducible first | exact HB.out | apply below_alloc | apply pw_below_drewN | apply below_drew1 | refine below_set ?_ GE167.out) | exact HB.out)⟩⟩
        case rest =>
          clear HC6
          try clear p2
          try clear c3
          try clear c4
          try clear c7
          try clear c7b0
          try clear p2
          obtain ⟨kq, x19_5, rfl, HA, HJ5, HO_168000, BK167, HB⟩ := hcut
          cases kq with
          | zero => exact absurd HA.out (by simp [tithebarnlaw16_ManifestSnapshot.j1])
          | succ kj5 =>
            have H := HA.out
            clear HA
            simp only [tithebarnlaw16_ManifestSnapshot.j1] at H
            by_cases c8 : x19_5 = true
            · subst c8
              have H1 : (if 0 ≤ x4_1 then (if x4_1 < (l0.length : Int) then ((manifest_Apply.f x168000_1 x168001_1 x168002_1 ((rd_T32 l0 x4_1).f0) ((rd_T32 l0 x4_1).f1) ((rd_T32 l0 x4_1).f2) ((rd_T32 l0 x4_1).f3)).bind fun bt169 => (if bt169.2.2.2 = 0 then (tithebarnlaw16_ManifestSnapshot.l0 kj5 l0 (wrap64 (x4_1 + 1)) bt169.1 bt169.2.1 bt169.2.2.1) else (tithebarnlaw16_ManifestSnapshot.l0 kj5 l0 (wrap64 (x4_1 + 1)) x168000_1 x168001_1 x168002_1))) else (none)) else (none)) = some r := by rw [if_pos rfl] at H; exact H
              clear H
              have H := H1
              clear H1
              by_cases c9 : 0 ≤ x4_1
              · rw [if_pos c9] at H
                have c9b0 : decide (0 ≤ x4_1) = true := decide_eq_true c9
                clear c9
                by_cases c10 : x4_1 < (l0.length : Int)
                · rw [if_pos c10] at H
                  have c10b0 : decide (x4_1 < (l0.length : Int)) = true := decide_eq_true c10
                  clear c10
                  replace H := Option.bind_eq_some_iff.mp H
                  obtain ⟨⟨t169, t172, t173, t174⟩, A110, H⟩ := H
                  replace H : (if t174 = 0 then (tithebarnlaw16_ManifestSnapshot.l0 kj5 l0 (wrap64 (x4_1 + 1)) t169 t172 t173) else (tithebarnlaw16_ManifestSnapshot.l0 kj5 l0 (wrap64 (x4_1 + 1)) x168000_1 x168001_1 x168002_1)) = some r := H
                  have A11 := Aside0.mk A110
                  clear A110
                  by_cases c12 : t174 = 0
                  · rw [if_pos c12] at H
                    have c12b0 : (t174 == 0) = true := beq_iff_eq.mpr c12
                    have c12b1 : (t174 != 0) = false := bne_eq_false_iff_eq.mpr c12
                    clear c12
                    have H' := Aside0.mk H
                    clear H
                    obtain ⟨Ao13, co13, eo13⟩ := Kd.R_slice HO_168000.out
                    subst eo13
                    try go_wp2
                    have n0_ := Aside0.mk (Kd.R_drew HO_168000.out)
                    have n1_ := Aside0.mk (blk_drew BK167.out)
                    have n2_ := Aside0.mk (below_drew1 HB.out)
                    clear HO_168000
                    clear BK167
                    clear HB
                    have HO_168000 := n0_
                    have BK167 := n1_
                    have HB := n2_
                    clear n0_ n1_ n2_
                    have p168 : 0 ≤ (x4_1 : Int) := of_decide_eq_true (by first | (with_reducible assumption) | assumption)
                    have q168 : x4_1 < (l0.length : Int) := of_decide_eq_true (by first | (with_reducible assumption) | assumption)
                    obtain ⟨ad168, A168_0, c168_0, A168_1, c168_1, e168, hx168_0, hx168_1, hx168_2, hx168_3, hl168_0, hi168_0, hl168_1, hi168_1⟩ := at_T32 HR0.out x4_1 p168 q168
                    have hw168_3 := hx168_3
                    have hw168_2 := hx168_2
                    have hw168_1 := hx168_1
                    have hw168_0 := hx168_0
                    cases e168
                    replace hx168_0 := (HB.out.cell (World.block_lt_of_cell? w _ hx168_0)).trans hx168_0
                    replace hx168_1 := (HB.out.cell (World.block_lt_of_cell? w _ hx168_1)).trans hx168_1
                    replace hx168_2 := (HB.out.cell (World.block_lt_of_cell? w _ hx168_2)).trans hx168_2
                    replace hx168_3 := (HB.out.cell (World.block_lt_of_cell? w _ hx168_3)).trans hx168_3
                    have HR168_0 := Aside0.mk hi168_0
                    have HC168_0 := Aside0.mk hl168_0
                    clear hi168_0 hl168_0
                    have HR168_1 := Aside0.mk hi168_1
                    have HC168_1 := Aside0.mk hl168_1
                    clear hi168_1 hl168_1
                    replace p168 := eq_true p168
                    replace q168 := eq_true q168
                    refine start_ (n := 12) (S := fun w' => w'.cell? ⟨gb167, 0, none⟩ = some (.slice Ao13 x168000_1.length co13) ∧ w'.cell? ⟨gb167, 1, none⟩ = some (.int .i64 x168001_1) ∧ w'.cell? ⟨gb167, 2, none⟩ = some (.int .i64 x168002_1) ∧ w'.cell? (ad168.add ((x4_1).toNat * 4)) = some (.slice A168_0 ((rd_T32 l0 x4_1).f0).length c168_0) ∧ w'.cell? ⟨(ad168.add ((x4_1).toNat * 4)).block, (ad168.add ((x4_1).toNat * 4)).off + 1, none⟩ = some (.slice A168_1 ((rd_T32 l0 x4_1).f1).length c168_1) ∧ w'.cell? ⟨(ad168.add ((x4_1).toNat * 4)).block, (ad168.add ((x4_1).toNat * 4)).off + 2, none⟩ = some (.int .i64 ((rd_T32 l0 x4_1).f2)) ∧ w'.cell? ⟨(ad168.add ((x4_1).toNat * 4)).block, (ad168.add ((x4_1).toNat * 4)).off + 3, none⟩ = some (.int .i64 ((rd_T32 l0 x4_1).f3))) (ds := []) #[false, false, false, false, false, false, false, false, false, false, false, false] (by kernel_rfl) rfl rfl ⟨(blk_cell BK167.out 0).trans rfl, (blk_cell BK167.out 1).trans rfl, (blk_cell BK167.out 2).trans rfl, ((HB.out.cell (World.block_lt_of_cell? w _ hw168_0)).trans hw168_0), ((HB.out.cell (World.block_lt_of_cell? w _ hw168_1)).trans hw168_1), ((HB.out.cell (World.block_lt_of_cell? w _ hw168_2)).trans hw168_2), ((HB.out.cell (World.block_lt_of_cell? w _ hw168_3)).trans hw168_3)⟩ (fun hHeld => ?_); refine with_tabW tithebarnlaw16_ManifestSnapshot.tab7 tithebarnlaw16_ManifestSnapshot.bits7 (fun HT_ HW_ => ?_)
                    generalize wc.drew = w14 at HO_168000 BK167 HB HR168_0 HR168_1 hx168_0 hx168_1 hx168_2 hx168_3 hHeld ⊢
                    refine pure_ (i := 1) (N := some 24) (v := ?_) (a' := ?_) #[false, true, false, false, false, false, false, false, false, false, false, false] rfl rfl (any_of HT_.out (by kernel_rfl)) (fun _ _ _ h => h) (Or.inl ⟨by rfl, ?_⟩) ?_ ?_
                    rotate_left
                    · intro w'
                      go_simp
                      with_reducible rfl
                    rotate_left
                    · simp only [Act.put, List.setIfInBounds_toArray, List.set_cons_zero, List.set_cons_succ, i64_w, i32_w]
                      rfl
                    refine pure_ (i := 2) (N := some 25) (v := ?_) (a' := ?_) #[false, true, true, false, false, false, false, false, false, false, false, false] rfl rfl (any_of HT_.out (by kernel_rfl)) (fun _ _ _ h => h) (Or.inl ⟨by rfl, ?_⟩) ?_ ?_
                    rotate_left
                    · intro w'
                      go_simp
                      with_reducible rfl
                    rotate_left
                    · simp only [Act.put, List.setIfInBounds_toArray, List.set_cons_zero, List.set_cons_succ, i64_w, i32_w]
                      rfl
                    refine pure_ (i := 3) (N := some 26) (v := ?_) (a' := ?_) #[false, true, true, true, false, false, false, false, false, false, false, false] rfl rfl (any_of HT_.out (by kernel_rfl)) (fun _ _ _ h => h) (Or.inl ⟨by rfl, ?_⟩) ?_ ?_
                    rotate_left
                    · intro w'
                      go_simp
                      with_reducible rfl
                    rotate_left
                    · simp only [Act.put, List.setIfInBounds_toArray, List.set_cons_zero, List.set_cons_succ, i64_w, i32_w]
                      rfl
                    refine take_ (i := 0) (N := some 23) (v := ?_) (a' := ?_) #[true, true, true, true, false, false, false, false, false, false, false, false] rfl rfl (take_ofW HT_.out HW_.out (by kernel_rfl)) (fun _ _ _ h => h) (Or.inl ⟨by rfl, ?_⟩) hHeld ?_ ?_
                    rotate_left
                    · rintro w' ⟨s0, s1, s2, s3, s4, s5, s6⟩
                      go_simp
                      with_reducible rfl
                    rotate_left
                    · simp only [Act.put, List.setIfInBounds_toArray, List.set_cons_zero, List.set_cons_succ, i64_w, i32_w]
                      rfl
                    refine take_ (i := 4) (N := some 27) (v := ?_) (a' := ?_) #[true, true, true, true, true, false, false, false, false, false, false, false] rfl rfl (take_ofW HT_.out HW_.out (by kernel_rfl)) (fun _ _ _ h => h) (Or.inl ⟨by rfl, ?_⟩) hHeld ?_ ?_
                    rotate_left
                    · rintro w' ⟨s0, s1, s2, s3, s4, s5, s6⟩
                      go_simp
                      with_reducible rfl
                    rotate_left
                    · simp only [Act.put, List.setIfInBounds_toArray, List.set_cons_zero, List.set_cons_succ, i64_w, i32_w]
                      rfl
                    refine join_ (σ := Value × Nat) 2 #[true, true, true, true, true, true, true, true, true, true, false, false] (fun s_ => [(28, .tuple #[.agg #[s_.1, .int .i64 t172, .int .i64 t173], .int .i64 t174]), (5, .pointer (some ⟨s_.2, 0, none⟩)), (22, .tuple #[.agg #[s_.1, .int .i64 t172, .int .i64 t173], .int .i64 t174]), (29, .agg #[s_.1, .int .i64 t172, .int .i64 t173]), (30, .int .i64 t174)]) (fun s_ w' => (w'.cell? ⟨gb167, 0, none⟩ = some (.slice Ao13 x168000_1.length co13) ∧ w'.cell? ⟨gb167, 1, none⟩ = some (.int .i64 x168001_1) ∧ w'.cell? ⟨gb167, 2, none⟩ = some (.int .i64 x168002_1) ∧ w'.cell? (ad168.add ((x4_1).toNat * 4)) = some (.slice A168_0 ((rd_T32 l0 x4_1).f0).length c168_0) ∧ w'.cell? ⟨(ad168.add ((x4_1).toNat * 4)).block, (ad168.add ((x4_1).toNat * 4)).off + 1, none⟩ = some (.slice A168_1 ((rd_T32 l0 x4_1).f1).length c168_1) ∧ w'.cell? ⟨(ad168.add ((x4_1).toNat * 4)).block, (ad168.add ((x4_1).toNat * 4)).off + 2, none⟩ = some (.int .i64 ((rd_T32 l0 x4_1).f2)) ∧ w'.cell? ⟨(ad168.add ((x4_1).toNat * 4)).block, (ad168.add ((x4_1).toNat * 4)).off + 3, none⟩ = some (.int .i64 ((rd_T32 l0 x4_1).f3))) ∧ (Kd.R k36 36 w' w.heap.size (fun k_ => some k_ ≠ (.slice Ao13 x168000_1.length co13 : Value).ownBlock) s_.1 t169) ∧ (Kd.R k36 36 w' w.heap.size (fun k_ => some k_ ≠ (s_.1 : Value).ownBlock) (.slice Ao13 x168000_1.length co13) x168000_1) ∧ (w'.heap[gb167]? = some (.cells #[.slice Ao13 x168000_1.length co13, .int .i64 x168001_1, .int .i64 x168002_1] 26 (0, 0))) ∧ (w'.heap[s_.2]? = some (.cells #[.slice none 0 0, .int .i64 0, .int .i64 0] 26 (0, 0))) ∧ (w.heap.size ≤ s_.2) ∧ (w.heap.size ≤ s_.2) ∧ (gb167 ≠ s_.2) ∧ (s_.2 ≠ gb167) ∧ (Below w.heap.size w w')) ?_ ?_
                    rotate_left
                    · intro hCont
                      refine two_ (i := 5) (j := 9) (Ni := some 28) (Nj := some 5) #[true, true, true, true, true, true, false, false, false, false, false, false] #[true, true, true, true, true, false, false, false, false, true, false, false] rfl rfl rfl rfl (two_of HT_.out (by kernel_rfl)) (by decide) (by decide) (fun K hK => ?_) (fun K hK => ?_)
                      · skip
                        refine goes_ Try.func9 (by kernel_rfl) rfl #[.agg #[.slice Ao13 x168000_1.length co13, .int .i64 x168001_1, .int .i64 x168002_1], .agg #[.slice A168_0 ((rd_T32 l0 x4_1).f0).length c168_0, .slice A168_1 ((rd_T32 l0 x4_1).f1).length c168_1, .int .i64 ((rd_T32 l0 x4_1).f2), .int .i64 ((rd_T32 l0 x4_1).f3)]] (by rfl) rfl rfl (by (try simp only [List.map_toArray, List.map_cons, List.map_nil]); first | done | rfl | (simp only [List.length_drop, List.length_take]; rfl)) ?_
                        with_reducible refine (manifest_Apply.calls _ _ x168000_1 x168001_1 x168002_1 _ _ ((rd_T32 l0 x4_1).f0) _ _ ((rd_T32 l0 x4_1).f1) ((rd_T32 l0 x4_1).f2) ((rd_T32 l0 x4_1).f3) t169 t172 t173 t174 _ ?side1 ?side2 ?side3 ?side4 ?side5 ?side6 A11.out).mono ?_
                        (case side1 => repeat (first | exact (Kd.R_reads' HO_168000.out).2.2 | (with_reducible refine Kd.C_alloc ?_ _) | (with_reducible refine Kd.C_drewN ?_ _) | (with_reducible refine Kd.C_drew ?_)))
                        (case side2 => exact (Kd.R_reads' HO_168000.out).2.1)
                        (case side3 => repeat (first | exact (Kd.C_below HR168_0.out HB.out) | (with_reducible refine Kd.C_alloc ?_ _) | (with_reducible refine Kd.C_drewN ?_ _) | (with_reducible refine Kd.C_drew ?_)))
                        (case side4 => exact HC168_0.out)
                        (case side5 => repeat (first | exact (Kd.C_below HR168_1.out HB.out) | (with_reducible refine Kd.C_alloc ?_ _) | (with_reducible refine Kd.C_drewN ?_ _) | (with_reducible refine Kd.C_drew ?_)))
                        (case side6 => exact HC168_1.out)
                        rintro e w15 ⟨v170, rfl, ho0, hb⟩
                        refine ⟨_, rfl, ?_⟩
                        have n0_ := Aside0.mk (Kd.R_elder' (by (with_reducible repeat (first | apply Kd.R_alloc | apply Kd.R_drewN | apply Kd.R_drew)); exact HO_168000.out) (Kd.R_base ho0) hb)
                        have n1_ := Aside0.mk (Kd.R_lower (Kd.R_new' ho0 (Kd.R_lt (by (with_reducible repeat (first | apply Kd.R_alloc | apply Kd.R_drewN | apply Kd.R_drew)); exact HO_168000.out))) (below_size (by repeat (first | (with_reducible first | exact HB.out | apply below_alloc | apply pw_below_drewN | apply below_drew1 | refine below_set ?_ GE167.out) | exact HB.out))))
                        have n2_ := Aside0.mk (blk_below (g := gb167) (o := .cells #[.slice Ao13 x168000_1.length co13, .int .i64 x168001_1, .int .i64 x168002_1] 26 (0, 0)) (by (with_reducible repeat (first | refine blk_drewN ?_ _ | refine blk_drew ?_ | refine blk_alloc ?_ _)); exact BK167.out) hb)
                        have n3_ := Aside0.mk (below_step (by repeat (first | (with_reducible first | exact HB.out | apply below_alloc | apply pw_below_drewN | apply below_drew1 | refine below_set ?_ GE167.out) | exact HB.out)) hb)
                        clear HO_168000
                        clear BK167
                        clear HB
                        have HO_168000 := n0_
                        have HO171 := n1_
                        have BK167 := n2_
                        have HB := n3_
                        clear n0_ n1_ n2_ n3_
                        (try clear hb)
                        (try clear hb2)
                        (try clear hk)
                        (try clear hi)
                        (try clear ho0)
                        refine hK.out _ _ ⟨(blk_cell BK167.out 0).trans rfl, (blk_cell BK167.out 1).trans rfl, (blk_cell BK167.out 2).trans rfl, ((HB.out.cell (World.block_lt_of_cell? w _ hw168_0)).trans hw168_0), ((HB.out.cell (World.block_lt_of_cell? w _ hw168_1)).trans hw168_1), ((HB.out.cell (World.block_lt_of_cell? w _ hw168_2)).trans hw168_2), ((HB.out.cell (World.block_lt_of_cell? w _ hw168_3)).trans hw168_3)⟩ (fun hHeld => ?_)
                        clear hK K
                        refine norm_ (a' := ?_) ?_ ?_
                        rotate_left
                        · show Act.put _ (some 28) _ = _
                          simp only [Act.put, List.setIfInBounds_toArray, List.set_cons_zero, List.set_cons_succ, i64_w, i32_w]
                          rfl
                        refine pure_ (i := 6) (N := some 22) (v := ?_) (a' := ?_) #[true, true, true, true, true, true, true, false, false, false, false, false] rfl rfl (any_of HT_.out (by kernel_rfl)) (fun _ _ _ h => h) (Or.inl ⟨by rfl, ?_⟩) ?_ ?_
                        rotate_left
                        · intro w'
                          go_simp
                          with_reducible rfl
                        rotate_left
                        · simp only [Act.put, List.setIfInBounds_toArray, List.set_cons_zero, List.set_cons_succ, i64_w, i32_w]
                          rfl
                        refine pure_ (i := 7) (N := some 29) (v := ?_) (a' := ?_) #[true, true, true, true, true, true, true, true, false, false, false, false] rfl rfl (any_of HT_.out (by kernel_rfl)) (fun _ _ _ h => h) (Or.inl ⟨by rfl, ?_⟩) ?_ ?_
                        rotate_left
                        · intro w'
                          go_simp
                          with_reducible rfl
                        rotate_left
                        · simp only [Act.put, List.setIfInBounds_toArray, List.set_cons_zero, List.set_cons_succ, i64_w, i32_w]
                          rfl
                        refine pure_ (i := 8) (N := some 30) (v := ?_) (a' := ?_) #[true, true, true, true, true, true, true, true, true, false, false, false] rfl rfl (any_of HT_.out (by kernel_rfl)) (fun _ _ _ h => h) (Or.inl ⟨by rfl, ?_⟩) ?_ ?_
                        rotate_left
                        · intro w'
                          go_simp
                          with_reducible rfl
                        rotate_left
                        · simp only [Act.put, List.setIfInBounds_toArray, List.set_cons_zero, List.set_cons_succ, i64_w, i32_w]
                          rfl
                        refine one_ (i := 9) (N := some 5) #[true, true, true, true, true, true, true, true, true, true, false, false] rfl rfl (one_of HT_.out (by kernel_rfl)) (by decide) (fun K hK => ?_)
                        refine box_step ?hg (N := 5) ?hd (cs := #[.slice none 0 0, .int .i64 0, .int .i64 0]) (t := 26) ?hr ?_; (case hd => rfl); (case hg => rfl); (case hr => first | (go_simp; done) | (go_simp; rfl))
                        intro gb175 hg w16 hbox hb
                        have n0_ := Aside0.mk (Kd.R_below (by (with_reducible repeat (first | apply Kd.R_alloc | apply Kd.R_drewN | apply Kd.R_drew)); exact HO_168000.out) hb)
                        have n1_ := Aside0.mk (Kd.R_below (by (with_reducible repeat (first | apply Kd.R_alloc | apply Kd.R_drewN | apply Kd.R_drew)); exact HO171.out) hb)
                        have n2_ := Aside0.mk (blk_below (g := gb167) (o := .cells #[.slice Ao13 x168000_1.length co13, .int .i64 x168001_1, .int .i64 x168002_1] 26 (0, 0)) (by (with_reducible repeat (first | refine blk_drewN ?_ _ | refine blk_drew ?_ | refine blk_alloc ?_ _)); exact BK167.out) hb)
                        have n3_ := Aside0.mk (below_step (by repeat (first | (with_reducible first | exact HB.out | apply below_alloc | apply pw_below_drewN | apply below_drew1 | refine below_set ?_ GE167.out) | exact HB.out)) hb)
                        have n4_ := Aside0.mk (hbox)
                        have n5_ := Aside0.mk ((by rw [hg]; exact (below_size (by repeat (first | (with_reducible first | exact HB.out | apply below_alloc | apply pw_below_drewN | apply below_drew1 | refine below_set ?_ GE167.out) | exact HB.out))) : w.heap.size ≤ gb175))
                        have n6_ := Aside0.mk ((by rw [hg]; exact (below_size (by repeat (first | (with_reducible first | exact HB.out | apply below_alloc | apply pw_below_drewN | apply below_drew1 | refine below_set ?_ GE167.out) | exact HB.out))) : w.heap.size ≤ gb175))
                        have n7_ := Aside0.mk ((by rw [hg]; exact Nat.ne_of_lt (blk_lt (g := gb167) (o := .cells #[.slice Ao13 x168000_1.length co13, .int .i64 x168001_1, .int .i64 x168002_1] 26 (0, 0)) (by (with_reducible repeat (first | refine blk_drewN ?_ _ | refine blk_drew ?_ | refine blk_alloc ?_ _)); exact BK167.out)) : gb167 ≠ gb175))
                        have n8_ := Aside0.mk ((by rw [hg]; exact Nat.ne_of_gt (blk_lt (g := gb167) (o := .cells #[.slice Ao13 x168000_1.length co13, .int .i64 x168001_1, .int .i64 x168002_1] 26 (0, 0)) (by (with_reducible repeat (first | refine blk_drewN ?_ _ | refine blk_drew ?_ | refine blk_alloc ?_ _)); exact BK167.out)) : gb175 ≠ gb167))
                        clear HO_168000
                        clear HO171
                        clear BK167
                        clear HB
                        have HO_168000 := n0_
                        have HO171 := n1_
                        have BK167 := n2_
                        have HB := n3_
                        have BK175 := n4_
                        have GW175 := n5_
                        have GE175 := n6_
                        have NB167_175 := n7_
                        have NB175_167 := n8_
                        clear n0_ n1_ n2_ n3_ n4_ n5_ n6_ n7_ n8_
                        clear hb hbox hg
                        refine hK.out _ _ ⟨(blk_cell BK167.out 0).trans rfl, (blk_cell BK167.out 1).trans rfl, (blk_cell BK167.out 2).trans rfl, ((HB.out.cell (World.block_lt_of_cell? w _ hw168_0)).trans hw168_0), ((HB.out.cell (World.block_lt_of_cell? w _ hw168_1)).trans hw168_1), ((HB.out.cell (World.block_lt_of_cell? w _ hw168_2)).trans hw168_2), ((HB.out.cell (World.block_lt_of_cell? w _ hw168_3)).trans hw168_3)⟩ (fun hHeld => ?_)
                        clear hK K
                        refine norm_ (a' := ?_) ?_ ?_
                        rotate_left
                        · show Act.put _ (some 5) _ = _
                          simp only [Act.put, List.setIfInBounds_toArray, List.set_cons_zero, List.set_cons_succ, i64_w, i32_w]
                          rfl
                        exact norm_ (by simp only [putAll, Act.put, List.setIfInBounds_toArray, List.set_cons_zero, List.set_cons_succ]) (hCont (v170, gb175) _ ⟨hHeld, (by (with_reducible repeat (first | apply Kd.R_alloc | apply Kd.R_drewN | apply Kd.R_drew)); exact Kd.R_mono HO171.out (fun _ hk => hk.2)), (by (with_reducible repeat (first | apply Kd.R_alloc | apply Kd.R_drewN | apply Kd.R_drew)); exact Kd.R_mono HO_168000.out (fun _ hk => hk.2)), (by (with_reducible repeat (first | refine blk_drewN ?_ _ | refine blk_drew ?_ | refine blk_alloc ?_ _)); exact BK167.out), (by (with_reducible repeat (first | refine blk_drewN ?_ _ | refine blk_drew ?_ | refine blk_alloc ?_ _)); exact BK175.out), GW175.out, GE175.out, NB167_175.out, NB175_167.out, (by repeat (first | (with_reducible first | exact HB.out | apply below_alloc | apply pw_below_drewN | apply below_drew1 | refine below_set ?_ GE167.out | refine below_set ?_ GE175.out) | exact HB.out))⟩)
                      · skip
                        refine box_step ?hg (N := 5) ?hd (cs := #[.slice none 0 0, .int .i64 0, .int .i64 0]) (t := 26) ?hr ?_; (case hd => rfl); (case hg => rfl); (case hr => first | (go_simp; done) | (go_simp; rfl))
                        intro gb175 hg w15 hbox hb
                        have n0_ := Aside0.mk (Kd.R_below (by (with_reducible repeat (first | apply Kd.R_alloc | apply Kd.R_drewN | apply Kd.R_drew)); exact HO_168000.out) hb)
                        have n1_ := Aside0.mk (blk_below (g := gb167) (o := .cells #[.slice Ao13 x168000_1.length co13, .int .i64 x168001_1, .int .i64 x168002_1] 26 (0, 0)) (by (with_reducible repeat (first | refine blk_drewN ?_ _ | refine blk_drew ?_ | refine blk_alloc ?_ _)); exact BK167.out) hb)
                        have n2_ := Aside0.mk (below_step (by repeat (first | (with_reducible first | exact HB.out | apply below_alloc | apply pw_below_drewN | apply below_drew1 | refine below_set ?_ GE167.out) | exact HB.out)) hb)
                        have n3_ := Aside0.mk (hbox)
                        have n4_ := Aside0.mk ((by rw [hg]; exact (below_size (by repeat (first | (with_reducible first | exact HB.out | apply below_alloc | apply pw_below_drewN | apply below_drew1 | refine below_set ?_ GE167.out) | exact HB.out))) : w.heap.size ≤ gb175))
                        have n5_ := Aside0.mk ((by rw [hg]; exact (below_size (by repeat (first | (with_reducible first | exact HB.out | apply below_alloc | apply pw_below_drewN | apply below_drew1 | refine below_set ?_ GE167.out) | exact HB.out))) : w.heap.size ≤ gb175))
                        have n6_ := Aside0.mk ((by rw [hg]; exact Nat.ne_of_lt (blk_lt (g := gb167) (o := .cells #[.slice Ao13 x168000_1.length co13, .int .i64 x168001_1, .int .i64 x168002_1] 26 (0, 0)) (by (with_reducible repeat (first | refine blk_drewN ?_ _ | refine blk_drew ?_ | refine blk_alloc ?_ _)); exact BK167.out)) : gb167 ≠ gb175))
                        have n7_ := Aside0.mk ((by rw [hg]; exact Nat.ne_of_gt (blk_lt (g := gb167) (o := .cells #[.slice Ao13 x168000_1.length co13, .int .i64 x168001_1, .int .i64 x168002_1] 26 (0, 0)) (by (with_reducible repeat (first | refine blk_drewN ?_ _ | refine blk_drew ?_ | refine blk_alloc ?_ _)); exact BK167.out)) : gb175 ≠ gb167))
                        clear HO_168000
                        clear BK167
                        clear HB
                        have HO_168000 := n0_
                        have BK167 := n1_
                        have HB := n2_
                        have BK175 := n3_
                        have GW175 := n4_
                        have GE175 := n5_
                        have NB167_175 := n6_
                        have NB175_167 := n7_
                        clear n0_ n1_ n2_ n3_ n4_ n5_ n6_ n7_
                        clear hb hbox hg
                        refine hK.out _ _ ⟨(blk_cell BK167.out 0).trans rfl, (blk_cell BK167.out 1).trans rfl, (blk_cell BK167.out 2).trans rfl, ((HB.out.cell (World.block_lt_of_cell? w _ hw168_0)).trans hw168_0), ((HB.out.cell (World.block_lt_of_cell? w _ hw168_1)).trans hw168_1), ((HB.out.cell (World.block_lt_of_cell? w _ hw168_2)).trans hw168_2), ((HB.out.cell (World.block_lt_of_cell? w _ hw168_3)).trans hw168_3)⟩ (fun hHeld => ?_)
                        clear hK K
                        refine norm_ (a' := ?_) ?_ ?_
                        rotate_left
                        · show Act.put _ (some 5) _ = _
                          simp only [Act.put, List.setIfInBounds_toArray, List.set_cons_zero, List.set_cons_succ, i64_w, i32_w]
                          rfl
                        refine one_ (i := 5) (N := some 28) #[true, true, true, true, true, true, false, false, false, true, false, false] rfl rfl (one_of HT_.out (by kernel_rfl)) (by decide) (fun K hK => ?_)
                        refine goes_ Try.func9 (by kernel_rfl) rfl #[.agg #[.slice Ao13 x168000_1.length co13, .int .i64 x168001_1, .int .i64 x168002_1], .agg #[.slice A168_0 ((rd_T32 l0 x4_1).f0).length c168_0, .slice A168_1 ((rd_T32 l0 x4_1).f1).length c168_1, .int .i64 ((rd_T32 l0 x4_1).f2), .int .i64 ((rd_T32 l0 x4_1).f3)]] (by rfl) rfl rfl (by (try simp only [List.map_toArray, List.map_cons, List.map_nil]); first | done | rfl | (simp only [List.length_drop, List.length_take]; rfl)) ?_
                        with_reducible refine (manifest_Apply.calls _ _ x168000_1 x168001_1 x168002_1 _ _ ((rd_T32 l0 x4_1).f0) _ _ ((rd_T32 l0 x4_1).f1) ((rd_T32 l0 x4_1).f2) ((rd_T32 l0 x4_1).f3) t169 t172 t173 t174 _ ?side1 ?side2 ?side3 ?side4 ?side5 ?side6 A11.out).mono ?_
                        (case side1 => repeat (first | exact (Kd.R_reads' HO_168000.out).2.2 | (with_reducible refine Kd.C_alloc ?_ _) | (with_reducible refine Kd.C_drewN ?_ _) | (with_reducible refine Kd.C_drew ?_)))
                        (case side2 => exact (Kd.R_reads' HO_168000.out).2.1)
                        (case side3 => repeat (first | exact (Kd.C_below HR168_0.out HB.out) | (with_reducible refine Kd.C_alloc ?_ _) | (with_reducible refine Kd.C_drewN ?_ _) | (with_reducible refine Kd.C_drew ?_)))
                        (case side4 => exact HC168_0.out)
                        (case side5 => repeat (first | exact (Kd.C_below HR168_1.out HB.out) | (with_reducible refine Kd.C_alloc ?_ _) | (with_reducible refine Kd.C_drewN ?_ _) | (with_reducible refine Kd.C_drew ?_)))
                        (case side6 => exact HC168_1.out)
                        rintro e w16 ⟨v170, rfl, ho0, hb⟩
                        refine ⟨_, rfl, ?_⟩
                        have n0_ := Aside0.mk (Kd.R_elder' (by (with_reducible repeat (first | apply Kd.R_alloc | apply Kd.R_drewN | apply Kd.R_drew)); exact HO_168000.out) (Kd.R_base ho0) hb)
                        have n1_ := Aside0.mk (Kd.R_lower (Kd.R_new' ho0 (Kd.R_lt (by (with_reducible repeat (first | apply Kd.R_alloc | apply Kd.R_drewN | apply Kd.R_drew)); exact HO_168000.out))) (below_size (by repeat (first | (with_reducible first | exact HB.out | apply below_alloc | apply pw_below_drewN | apply below_drew1 | refine below_set ?_ GE167.out | refine below_set ?_ GE175.out) | exact HB.out))))
                        have n2_ := Aside0.mk (blk_below (g := gb167) (o := .cells #[.slice Ao13 x168000_1.length co13, .int .i64 x168001_1, .int .i64 x168002_1] 26 (0, 0)) (by (with_reducible repeat (first | refine blk_drewN ?_ _ | refine blk_drew ?_ | refine blk_alloc ?_ _)); exact BK167.out) hb)
                        have n3_ := Aside0.mk (blk_below (g := gb175) (o := .cells #[.slice none 0 0, .int .i64 0, .int .i64 0] 26 (0, 0)) (by (with_reducible repeat (first | refine blk_drewN ?_ _ | refine blk_drew ?_ | refine blk_alloc ?_ _)); exact BK175.out) hb)
                        have n4_ := Aside0.mk (below_step (by repeat (first | (with_reducible first | exact HB.out | apply below_alloc | apply pw_below_drewN | apply below_drew1 | refine below_set ?_ GE167.out | refine below_set ?_ GE175.out) | exact HB.out)) hb)
                        clear HO_168000
                        clear BK167
                        clear BK175
                        clear HB
                        have HO_168000 := n0_
                        have HO171 := n1_
                        have BK167 := n2_
                        have BK175 := n3_
                        have HB := n4_
                        clear n0_ n1_ n2_ n3_ n4_
                        (try clear hb)
                        (try clear hb2)
                        (try clear hk)
                        (try clear hi)
                        (try clear ho0)
                        refine hK.out _ _ ⟨(blk_cell BK167.out 0).trans rfl, (blk_cell BK167.out 1).trans rfl, (blk_cell BK167.out 2).trans rfl, ((HB.out.cell (World.block_lt_of_cell? w _ hw168_0)).trans hw168_0), ((HB.out.cell (World.block_lt_of_cell? w _ hw168_1)).trans hw168_1), ((HB.out.cell (World.block_lt_of_cell? w _ hw168_2)).trans hw168_2), ((HB.out.cell (World.block_lt_of_cell? w _ hw168_3)).trans hw168_3)⟩ (fun hHeld => ?_)
                        clear hK K
                        refine norm_ (a' := ?_) ?_ ?_
                        rotate_left
                        · show Act.put _ (some 28) _ = _
                          simp only [Act.put, List.setIfInBounds_toArray, List.set_cons_zero, List.set_cons_succ, i64_w, i32_w]
                          rfl
                        refine pure_ (i := 6) (N := some 22) (v := ?_) (a' := ?_) #[true, true, true, true, true, true, true, false, false, true, false, false] rfl rfl (any_of HT_.out (by kernel_rfl)) (fun _ _ _ h => h) (Or.inl ⟨by rfl, ?_⟩) ?_ ?_
                        rotate_left
                        · intro w'
                          go_simp
                          with_reducible rfl
                        rotate_left
                        · simp only [Act.put, List.setIfInBounds_toArray, List.set_cons_zero, List.set_cons_succ, i64_w, i32_w]
                          rfl
                        refine pure_ (i := 7) (N := some 29) (v := ?_) (a' := ?_) #[true, true, true, true, true, true, true, true, false, true, false, false] rfl rfl (any_of HT_.out (by kernel_rfl)) (fun _ _ _ h => h) (Or.inl ⟨by rfl, ?_⟩) ?_ ?_
                        rotate_left
                        · intro w'
                          go_simp
                          with_reducible rfl
                        rotate_left
                        · simp only [Act.put, List.setIfInBounds_toArray, List.set_cons_zero, List.set_cons_succ, i64_w, i32_w]
                          rfl
                        refine pure_ (i := 8) (N := some 30) (v := ?_) (a' := ?_) #[true, true, true, true, true, true, true, true, true, true, false, false] rfl rfl (any_of HT_.out (by kernel_rfl)) (fun _ _ _ h => h) (Or.inl ⟨by rfl, ?_⟩) ?_ ?_
                        rotate_left
                        · intro w'
                          go_simp
                          with_reducible rfl
                        rotate_left
                        · simp only [Act.put, List.setIfInBounds_toArray, List.set_cons_zero, List.set_cons_succ, i64_w, i32_w]
                          rfl
                        exact norm_ (by simp only [putAll, Act.put, List.setIfInBounds_toArray, List.set_cons_zero, List.set_cons_succ]) (hCont (v170, gb175) _ ⟨hHeld, (by (with_reducible repeat (first | apply Kd.R_alloc | apply Kd.R_drewN | apply Kd.R_drew)); exact Kd.R_mono HO171.out (fun _ hk => hk.2)), (by (with_reducible repeat (first | apply Kd.R_alloc | apply Kd.R_drewN | apply Kd.R_drew)); exact Kd.R_mono HO_168000.out (fun _ hk => hk.2)), (by (with_reducible repeat (first | refine blk_drewN ?_ _ | refine blk_drew ?_ | refine blk_alloc ?_ _)); exact BK167.out), (by (with_reducible repeat (first | refine blk_drewN ?_ _ | refine blk_drew ?_ | refine blk_alloc ?_ _)); exact BK175.out), GW175.out, GE175.out, NB167_175.out, NB175_167.out, (by repeat (first | (with_reducible first | exact HB.out | apply below_alloc | apply pw_below_drewN | apply below_drew1 | refine below_set ?_ GE167.out | refine below_set ?_ GE175.out) | exact HB.out))⟩)
                    rintro ⟨v170, gb175⟩ w17 ⟨hS_, h0_, h1_, h2_, h3_, h4_, h5_, h6_, h7_, h8_⟩
                    have n0_ : Aside0 (Kd.R k36 36 w17 w.heap.size (fun k_ => some k_ ≠ (.slice Ao13 x168000_1.length co13 : Value).ownBlock) v170 t169) := ⟨h0_⟩
                    have n1_ : Aside0 (Kd.R k36 36 w17 w.heap.size (fun k_ => some k_ ≠ (v170 : Value).ownBlock) (.slice Ao13 x168000_1.length co13) x168000_1) := ⟨h1_⟩
                    have n2_ : Aside0 (w17.heap[gb167]? = some (.cells #[.slice Ao13 x168000_1.length co13, .int .i64 x168001_1, .int .i64 x168002_1] 26 (0, 0))) := ⟨h2_⟩
                    have n3_ : Aside0 (w17.heap[gb175]? = some (.cells #[.slice none 0 0, .int .i64 0, .int .i64 0] 26 (0, 0))) := ⟨h3_⟩
                    have n4_ : Aside0 (w.heap.size ≤ gb175) := ⟨h4_⟩
                    have n5_ : Aside0 (w.heap.size ≤ gb175) := ⟨h5_⟩
                    have n6_ : Aside0 (gb167 ≠ gb175) := ⟨h6_⟩
                    have n7_ : Aside0 (gb175 ≠ gb167) := ⟨h7_⟩
                    have n8_ : Aside0 (Below w.heap.size w w17) := ⟨h8_⟩
                    clear HO_168000
                    clear BK167
                    clear HB
                    clear h0_ h1_ h2_ h3_ h4_ h5_ h6_ h7_ h8_
                    have HO171 := n0_
                    have HO_168000 := n1_
                    have BK167 := n2_
                    have BK175 := n3_
                    have GW175 := n4_
                    have GE175 := n5_
                    have NB167_175 := n6_
                    have NB175_167 := n7_
                    have HB := n8_
                    clear n0_ n1_ n2_ n3_ n4_ n5_ n6_ n7_ n8_
                    have hHeld : w17.cell? ⟨gb167, 0, none⟩ = some (.slice Ao13 x168000_1.length co13) ∧ w17.cell? ⟨gb167, 1, none⟩ = some (.int .i64 x168001_1) ∧ w17.cell? ⟨gb167, 2, none⟩ = some (.int .i64 x168002_1) ∧ w17.cell? (ad168.add ((x4_1).toNat * 4)) = some (.slice A168_0 ((rd_T32 l0 x4_1).f0).length c168_0) ∧ w17.cell? ⟨(ad168.add ((x4_1).toNat * 4)).block, (ad168.add ((x4_1).toNat * 4)).off + 1, none⟩ = some (.slice A168_1 ((rd_T32 l0 x4_1).f1).length c168_1) ∧ w17.cell? ⟨(ad168.add ((x4_1).toNat * 4)).block, (ad168.add ((x4_1).toNat * 4)).off + 2, none⟩ = some (.int .i64 ((rd_T32 l0 x4_1).f2)) ∧ w17.cell? ⟨(ad168.add ((x4_1).toNat * 4)).block, (ad168.add ((x4_1).toNat * 4)).off + 3, none⟩ = some (.int .i64 ((rd_T32 l0 x4_1).f3)) := hS_
                    obtain ⟨Ao18, co18, eo18⟩ := Kd.R_slice HO171.out
                    (first | subst eo18 | (injection eo18 with f1_ f2_ f3_; have f4_ := f1_.symm; have f5_ := f3_.symm; clear f1_ f2_ f3_; subst f4_; subst f5_))
                    refine norm_ (a' := ?_) ?_ ?_
                    rotate_left
                    · simp only [putAll, Act.put, List.setIfInBounds_toArray, List.set_cons_zero, List.set_cons_succ]
                      rfl
                    refine one_ (i := 10) (N := none) #[true, true, true, true, true, true, true, true, true, true, true, false] rfl rfl (one_of HT_.out (by kernel_rfl)) (by decide) (fun K hK => ?_)
                    have hs19 : w17.cell? ⟨gb175, 0, none⟩ = some (.slice none 0 0) := (blk_cell BK175.out 0).trans rfl
                    have hfs19 := blk_frozen BK175.out 0
                    have hns19_0 := NB167_175.out
                    have hms19_0 := NB175_167.out
                    have hs20 : w17.cell? ⟨gb175, 1, none⟩ = some (.int .i64 0) := (blk_cell BK175.out 1).trans rfl
                    have hfs20 := blk_frozen BK175.out 1
                    have hns20_0 := NB167_175.out
                    have hms20_0 := NB175_167.out
                    have hs21 : w17.cell? ⟨gb175, 2, none⟩ = some (.int .i64 0) := (blk_cell BK175.out 2).trans rfl
                    have hfs21 := blk_frozen BK175.out 2
                    have hns21_0 := NB167_175.out
                    have hms21_0 := NB175_167.out
                    refine skip_ (w1 := ?_) (by rfl) rfl ?_ ?_
                    rotate_left
                    · go_simp
                      rfl
                    refine hK.out _ _ ⟨((cell_far (p := ⟨gb175, _, none⟩) NB167_175.out _).trans (((cell_far (p := ⟨gb175, _, none⟩) NB167_175.out _).trans (((cell_far (p := ⟨gb175, _, none⟩) NB167_175.out _).trans (hHeld.1)))))), ((cell_far (p := ⟨gb175, _, none⟩) NB167_175.out _).trans (((cell_far (p := ⟨gb175, _, none⟩) NB167_175.out _).trans (((cell_far (p := ⟨gb175, _, none⟩) NB167_175.out _).trans (hHeld.2.1)))))), ((cell_far (p := ⟨gb175, _, none⟩) NB167_175.out _).trans (((cell_far (p := ⟨gb175, _, none⟩) NB167_175.out _).trans (((cell_far (p := ⟨gb175, _, none⟩) NB167_175.out _).trans (hHeld.2.2.1)))))), ((cell_far (p := ⟨gb175, _, none⟩) (by first | exact Nat.ne_of_lt (Nat.lt_of_lt_of_le (by have := World.block_lt_of_cell? _ _ hw168_0; first | rwa [add_block] at this | exact this) GW175.out) | (rw [add_block]; exact Nat.ne_of_lt (Nat.lt_of_lt_of_le (by have := World.block_lt_of_cell? _ _ hw168_0; first | rwa [add_block] at this | exact this) GW175.out)) | (show (Addr.add _ _).block ≠ _; rw [add_block]; exact Nat.ne_of_lt (Nat.lt_of_lt_of_le (by have := World.block_lt_of_cell? _ _ hw168_0; first | rwa [add_block] at this | exact this) GW175.out)) | (dsimp only; exact Nat.ne_of_lt (Nat.lt_of_lt_of_le (by have := World.block_lt_of_cell? _ _ hw168_0; first | rwa [add_block] at this | exact this) GW175.out))) _).trans (((cell_far (p := ⟨gb175, _, none⟩) (by first | exact Nat.ne_of_lt (Nat.lt_of_lt_of_le (by have := World.block_lt_of_cell? _ _ hw168_0; first | rwa [add_block] at this | exact this) GW175.out) | (rw [add_block]; exact Nat.ne_of_lt (Nat.lt_of_lt_of_le (by have := World.block_lt_of_cell? _ _ hw168_0; first | rwa [add_block] at this | exact this) GW175.out)) | (show (Addr.add _ _).block ≠ _; rw [add_block]; exact Nat.ne_of_lt (Nat.lt_of_lt_of_le (by have := World.block_lt_of_cell? _ _ hw168_0; first | rwa [add_block] at this | exact this) GW175.out)) | (dsimp only; exact Nat.ne_of_lt (Nat.lt_of_lt_of_le (by have := World.block_lt_of_cell? _ _ hw168_0; first | rwa [add_block] at this | exact this) GW175.out))) _).trans (((cell_far (p := ⟨gb175, _, none⟩) (by first | exact Nat.ne_of_lt (Nat.lt_of_lt_of_le (by have := World.block_lt_of_cell? _ _ hw168_0; first | rwa [add_block] at this | exact this) GW175.out) | (rw [add_block]; exact Nat.ne_of_lt (Nat.lt_of_lt_of_le (by have := World.block_lt_of_cell? _ _ hw168_0; first | rwa [add_block] at this | exact this) GW175.out)) | (show (Addr.add _ _).block ≠ _; rw [add_block]; exact Nat.ne_of_lt (Nat.lt_of_lt_of_le (by have := World.block_lt_of_cell? _ _ hw168_0; first | rwa [add_block] at this | exact this) GW175.out)) | (dsimp only; exact Nat.ne_of_lt (Nat.lt_of_lt_of_le (by have := World.block_lt_of_cell? _ _ hw168_0; first | rwa [add_block] at this | exact this) GW175.out))) _).trans (hHeld.2.2.2.1)))))), ((cell_far (p := ⟨gb175, _, none⟩) (by first | exact Nat.ne_of_lt (Nat.lt_of_lt_of_le (by have := World.block_lt_of_cell? _ _ hw168_1; first | rwa [add_block] at this | exact this) GW175.out) | (rw [add_block]; exact Nat.ne_of_lt (Nat.lt_of_lt_of_le (by have := World.block_lt_of_cell? _ _ hw168_1; first | rwa [add_block] at this | exact this) GW175.out)) | (show (Addr.add _ _).block ≠ _; rw [add_block]; exact Nat.ne_of_lt (Nat.lt_of_lt_of_le (by have := World.block_lt_of_cell? _ _ hw168_1; first | rwa [add_block] at this | exact this) GW175.out)) | (dsimp only; exact Nat.ne_of_lt (Nat.lt_of_lt_of_le (by have := World.block_lt_of_cell? _ _ hw168_1; first | rwa [add_block] at this | exact this) GW175.out))) _).trans (((cell_far (p := ⟨gb175, _, none⟩) (by first | exact Nat.ne_of_lt (Nat.lt_of_lt_of_le (by have := World.block_lt_of_cell? _ _ hw168_1; first | rwa [add_block] at this | exact this) GW175.out) | (rw [add_block]; exact Nat.ne_of_lt (Nat.lt_of_lt_of_le (by have := World.block_lt_of_cell? _ _ hw168_1; first | rwa [add_block] at this | exact this) GW175.out)) | (show (Addr.add _ _).block ≠ _; rw [add_block]; exact Nat.ne_of_lt (Nat.lt_of_lt_of_le (by have := World.block_lt_of_cell? _ _ hw168_1; first | rwa [add_block] at this | exact this) GW175.out)) | (dsimp only; exact Nat.ne_of_lt (Nat.lt_of_lt_of_le (by have := World.block_lt_of_cell? _ _ hw168_1; first | rwa [add_block] at this | exact this) GW175.out))) _).trans (((cell_far (p := ⟨gb175, _, none⟩) (by first | exact Nat.ne_of_lt (Nat.lt_of_lt_of_le (by have := World.block_lt_of_cell? _ _ hw168_1; first | rwa [add_block] at this | exact this) GW175.out) | (rw [add_block]; exact Nat.ne_of_lt (Nat.lt_of_lt_of_le (by have := World.block_lt_of_cell? _ _ hw168_1; first | rwa [add_block] at this | exact this) GW175.out)) | (show (Addr.add _ _).block ≠ _; rw [add_block]; exact Nat.ne_of_lt (Nat.lt_of_lt_of_le (by have := World.block_lt_of_cell? _ _ hw168_1; first | rwa [add_block] at this | exact this) GW175.out)) | (dsimp only; exact Nat.ne_of_lt (Nat.lt_of_lt_of_le (by have := World.block_lt_of_cell? _ _ hw168_1; first | rwa [add_block] at this | exact this) GW175.out))) _).trans (hHeld.2.2.2.2.1)))))), ((cell_far (p := ⟨gb175, _, none⟩) (by first | exact Nat.ne_of_lt (Nat.lt_of_lt_of_le (by have := World.block_lt_of_cell? _ _ hw168_2; first | rwa [add_block] at this | exact this) GW175.out) | (rw [add_block]; exact Nat.ne_of_lt (Nat.lt_of_lt_of_le (by have := World.block_lt_of_cell? _ _ hw168_2; first | rwa [add_block] at this | exact this) GW175.out)) | (show (Addr.add _ _).block ≠ _; rw [add_block]; exact Nat.ne_of_lt (Nat.lt_of_lt_of_le (by have := World.block_lt_of_cell? _ _ hw168_2; first | rwa [add_block] at this | exact this) GW175.out)) | (dsimp only; exact Nat.ne_of_lt (Nat.lt_of_lt_of_le (by have := World.block_lt_of_cell? _ _ hw168_2; first | rwa [add_block] at this | exact this) GW175.out))) _).trans (((cell_far (p := ⟨gb175, _, none⟩) (by first | exact Nat.ne_of_lt (Nat.lt_of_lt_of_le (by have := World.block_lt_of_cell? _ _ hw168_2; first | rwa [add_block] at this | exact this) GW175.out) | (rw [add_block]; exact Nat.ne_of_lt (Nat.lt_of_lt_of_le (by have := World.block_lt_of_cell? _ _ hw168_2; first | rwa [add_block] at this | exact this) GW175.out)) | (show (Addr.add _ _).block ≠ _; rw [add_block]; exact Nat.ne_of_lt (Nat.lt_of_lt_of_le (by have := World.block_lt_of_cell? _ _ hw168_2; first | rwa [add_block] at this | exact this) GW175.out)) | (dsimp only; exact Nat.ne_of_lt (Nat.lt_of_lt_of_le (by have := World.block_lt_of_cell? _ _ hw168_2; first | rwa [add_block] at this | exact this) GW175.out))) _).trans (((cell_far (p := ⟨gb175, _, none⟩) (by first | exact Nat.ne_of_lt (Nat.lt_of_lt_of_le (by have := World.block_lt_of_cell? _ _ hw168_2; first | rwa [add_block] at this | exact this) GW175.out) | (rw [add_block]; exact Nat.ne_of_lt (Nat.lt_of_lt_of_le (by have := World.block_lt_of_cell? _ _ hw168_2; first | rwa [add_block] at this | exact this) GW175.out)) | (show (Addr.add _ _).block ≠ _; rw [add_block]; exact Nat.ne_of_lt (Nat.lt_of_lt_of_le (by have := World.block_lt_of_cell? _ _ hw168_2; first | rwa [add_block] at this | exact this) GW175.out)) | (dsimp only; exact Nat.ne_of_lt (Nat.lt_of_lt_of_le (by have := World.block_lt_of_cell? _ _ hw168_2; first | rwa [add_block] at this | exact this) GW175.out))) _).trans (hHeld.2.2.2.2.2.1)))))), ((cell_far (p := ⟨gb175, _, none⟩) (by first | exact Nat.ne_of_lt (Nat.lt_of_lt_of_le (by have := World.block_lt_of_cell? _ _ hw168_3; first | rwa [add_block] at this | exact this) GW175.out) | (rw [add_block]; exact Nat.ne_of_lt (Nat.lt_of_lt_of_le (by have := World.block_lt_of_cell? _ _ hw168_3; first | rwa [add_block] at this | exact this) GW175.out)) | (show (Addr.add _ _).block ≠ _; rw [add_block]; exact Nat.ne_of_lt (Nat.lt_of_lt_of_le (by have := World.block_lt_of_cell? _ _ hw168_3; first | rwa [add_block] at this | exact this) GW175.out)) | (dsimp only; exact Nat.ne_of_lt (Nat.lt_of_lt_of_le (by have := World.block_lt_of_cell? _ _ hw168_3; first | rwa [add_block] at this | exact this) GW175.out))) _).trans (((cell_far (p := ⟨gb175, _, none⟩) (by first | exact Nat.ne_of_lt (Nat.lt_of_lt_of_le (by have := World.block_lt_of_cell? _ _ hw168_3; first | rwa [add_block] at this | exact this) GW175.out) | (rw [add_block]; exact Nat.ne_of_lt (Nat.lt_of_lt_of_le (by have := World.block_lt_of_cell? _ _ hw168_3; first | rwa [add_block] at this | exact this) GW175.out)) | (show (Addr.add _ _).block ≠ _; rw [add_block]; exact Nat.ne_of_lt (Nat.lt_of_lt_of_le (by have := World.block_lt_of_cell? _ _ hw168_3; first | rwa [add_block] at this | exact this) GW175.out)) | (dsimp only; exact Nat.ne_of_lt (Nat.lt_of_lt_of_le (by have := World.block_lt_of_cell? _ _ hw168_3; first | rwa [add_block] at this | exact this) GW175.out))) _).trans (((cell_far (p := ⟨gb175, _, none⟩) (by first | exact Nat.ne_of_lt (Nat.lt_of_lt_of_le (by have := World.block_lt_of_cell? _ _ hw168_3; first | rwa [add_block] at this | exact this) GW175.out) | (rw [add_block]; exact Nat.ne_of_lt (Nat.lt_of_lt_of_le (by have := World.block_lt_of_cell? _ _ hw168_3; first | rwa [add_block] at this | exact this) GW175.out)) | (show (Addr.add _ _).block ≠ _; rw [add_block]; exact Nat.ne_of_lt (Nat.lt_of_lt_of_le (by have := World.block_lt_of_cell? _ _ hw168_3; first | rwa [add_block] at this | exact this) GW175.out)) | (dsimp only; exact Nat.ne_of_lt (Nat.lt_of_lt_of_le (by have := World.block_lt_of_cell? _ _ hw168_3; first | rwa [add_block] at this | exact this) GW175.out))) _).trans (hHeld.2.2.2.2.2.2))))))⟩ (fun hHeld => ?_)
                    clear hK K
                    refine pure_ (i := 11) (N := some 6) (v := ?_) (a' := ?_) #[true, true, true, true, true, true, true, true, true, true, true, true] rfl rfl (any_of HT_.out (by kernel_rfl)) (fun _ _ _ h => h) (Or.inl ⟨by rfl, ?_⟩) ?_ ?_
                    rotate_left
                    · intro w'
                      go_simp
                      with_reducible rfl
                    rotate_left
                    · simp only [Act.put, List.setIfInBounds_toArray, List.set_cons_zero, List.set_cons_succ, i64_w, i32_w]
                      rfl
                    refine done_ (done_of HT_.out (by kernel_rfl)) ?_
                    have hnb22 := NB175_167.out
                    have hnc22 := NB167_175.out
                    have hcz23_0 : w17.cell? ⟨gb175, 0, none⟩ = some (.slice none 0 0) := (blk_cell BK175.out 0).trans rfl
                    have hcz23_1 : w17.cell? ⟨gb175, 1, none⟩ = some (.int .i64 0) := (blk_cell BK175.out 1).trans rfl
                    have hcz23_2 : w17.cell? ⟨gb175, 2, none⟩ = some (.int .i64 0) := (blk_cell BK175.out 2).trans rfl
                    have hfz23_0 := blk_frozen BK175.out 0
                    have hfz23_1 := blk_frozen BK175.out 1
                    have hfz23_2 := blk_frozen BK175.out 2
                    have hcz24_0 : w17.cell? ⟨gb167, 0, none⟩ = some (.slice Ao13 x168000_1.length co13) := (blk_cell BK167.out 0).trans rfl
                    have hcz24_1 : w17.cell? ⟨gb167, 1, none⟩ = some (.int .i64 x168001_1) := (blk_cell BK167.out 1).trans rfl
                    have hcz24_2 : w17.cell? ⟨gb167, 2, none⟩ = some (.int .i64 x168002_1) := (blk_cell BK167.out 2).trans rfl
                    have hfz24_0 := blk_frozen BK167.out 0
                    have hfz24_1 := blk_frozen BK167.out 1
                    have hfz24_2 := blk_frozen BK167.out 2
                    try go_wp2
                    go_roundg kj5
                    case measure => have := HK1.out; have := HJ5.out; omega
                    case rel => exact ⟨(wrap64 (x4_1 + 1)), (t169), (t172), (t173), (.slice Ao18 t169.length co18), (by first | rfl | (simp; done) | (simp [*]; done)), H', ⟨by have := HK1.out; have := HJ5.out; omega⟩, ⟨by (with_reducible repeat (first | apply Kd.R_alloc | apply Kd.R_drewN | apply Kd.R_drew)); exact Kd.R_mono (Kd.R_far (p := ⟨gb167, 2, none⟩) (Kd.R_far (p := ⟨gb167, 1, none⟩) (Kd.R_far (p := ⟨gb167, 0, none⟩) (Kd.R_far (p := ⟨gb175, 2, none⟩) (Kd.R_far (p := ⟨gb175, 1, none⟩) (Kd.R_far (p := ⟨gb175, 0, none⟩) (Kd.R_types (Kd.R_types HO171.out BK175.out (by decide)) BK167.out (by decide)) (fun _ hk => hk.1.2) (.slice Ao18 t169.length co18)) (fun _ hk => hk.1.2) (.int .i64 t172)) (fun _ hk => hk.1.2) (.int .i64 t173)) (fun _ hk => hk.2) (.slice Ao18 t169.length co18)) (fun _ hk => hk.2) (.int .i64 t172)) (fun _ hk => hk.2) (.int .i64 t173)) (fun _ hk => trivial)⟩, ⟨by (with_reducible repeat (first | refine blk_drewN ?_ _ | refine blk_drew ?_ | refine blk_alloc ?_ _)); refine blk_put (cs := #[.slice Ao18 t169.length co18, .int .i64 t172, .int .i64 x168002_1]) ?_ 2 _ rfl; (with_reducible repeat (first | refine blk_drewN ?_ _ | refine blk_drew ?_ | refine blk_alloc ?_ _)); refine blk_put (cs := #[.slice Ao18 t169.length co18, .int .i64 x168001_1, .int .i64 x168002_1]) ?_ 1 _ rfl; (with_reducible repeat (first | refine blk_drewN ?_ _ | refine blk_drew ?_ | refine blk_alloc ?_ _)); refine blk_put (cs := #[.slice Ao13 x168000_1.length co13, .int .i64 x168001_1, .int .i64 x168002_1]) ?_ 0 _ rfl; (with_reducible repeat (first | refine blk_drewN ?_ _ | refine blk_drew ?_ | refine blk_alloc ?_ _)); refine blk_far ?_ NB167_175.out _; (with_reducible repeat (first | refine blk_drewN ?_ _ | refine blk_drew ?_ | refine blk_alloc ?_ _)); refine blk_far ?_ NB167_175.out _; (with_reducible repeat (first | refine blk_drewN ?_ _ | refine blk_drew ?_ | refine blk_alloc ?_ _)); refine blk_far ?_ NB167_175.out _; (with_reducible repeat (first | refine blk_drewN ?_ _ | refine blk_drew ?_ | refine blk_alloc ?_ _)); exact BK167.out⟩, ⟨by repeat (first | (with_reducible first | exact HB.out | apply below_alloc | apply pw_below_drewN | apply below_drew1 | refine below_set ?_ GE167.out | refine below_set ?_ GE175.out) | exact HB.out)⟩⟩
                  · rw [if_neg c12] at H
                    have c12b0 : (t174 == 0) = false := beq_eq_false_iff_ne.mpr c12
                    have c12b1 : (t174 != 0) = true := bne_iff_ne.mpr c12
                    have H' := Aside0.mk H
                    clear H
                    obtain ⟨Ao25, co25, eo25⟩ := Kd.R_slice HO_168000.out
                    subst eo25
                    try go_wp2
                    have n0_ := Aside0.mk (Kd.R_drew HO_168000.out)
                    have n1_ := Aside0.mk (blk_drew BK167.out)
                    have n2_ := Aside0.mk (below_drew1 HB.out)
                    clear HO_168000
                    clear BK167
                    clear HB
                    have HO_168000 := n0_
                    have BK167 := n1_
                    have HB := n2_
                    clear n0_ n1_ n2_
                    have p168 : 0 ≤ (x4_1 : Int) := of_decide_eq_true (by first | (with_reducible assumption) | assumption)
                    have q168 : x4_1 < (l0.length : Int) := of_decide_eq_true (by first | (with_reducible assumption) | assumption)
                    obtain ⟨ad168, A168_0, c168_0, A168_1, c168_1, e168, hx168_0, hx168_1, hx168_2, hx168_3, hl168_0, hi168_0, hl168_1, hi168_1⟩ := at_T32 HR0.out x4_1 p168 q168
                    have hw168_3 := hx168_3
                    have hw168_2 := hx168_2
                    have hw168_1 := hx168_1
                    have hw168_0 := hx168_0
                    cases e168
                    replace hx168_0 := (HB.out.cell (World.block_lt_of_cell? w _ hx168_0)).trans hx168_0
                    replace hx168_1 := (HB.out.cell (World.block_lt_of_cell? w _ hx168_1)).trans hx168_1
                    replace hx168_2 := (HB.out.cell (World.block_lt_of_cell? w _ hx168_2)).trans hx168_2
                    replace hx168_3 := (HB.out.cell (World.block_lt_of_cell? w _ hx168_3)).trans hx168_3
                    have HR168_0 := Aside0.mk hi168_0
                    have HC168_0 := Aside0.mk hl168_0
                    clear hi168_0 hl168_0
                    have HR168_1 := Aside0.mk hi168_1
                    have HC168_1 := Aside0.mk hl168_1
                    clear hi168_1 hl168_1
                    replace p168 := eq_true p168
                    replace q168 := eq_true q168
                    refine start_ (n := 12) (S := fun w' => w'.cell? ⟨gb167, 0, none⟩ = some (.slice Ao25 x168000_1.length co25) ∧ w'.cell? ⟨gb167, 1, none⟩ = some (.int .i64 x168001_1) ∧ w'.cell? ⟨gb167, 2, none⟩ = some (.int .i64 x168002_1) ∧ w'.cell? (ad168.add ((x4_1).toNat * 4)) = some (.slice A168_0 ((rd_T32 l0 x4_1).f0).length c168_0) ∧ w'.cell? ⟨(ad168.add ((x4_1).toNat * 4)).block, (ad168.add ((x4_1).toNat * 4)).off + 1, none⟩ = some (.slice A168_1 ((rd_T32 l0 x4_1).f1).length c168_1) ∧ w'.cell? ⟨(ad168.add ((x4_1).toNat * 4)).block, (ad168.add ((x4_1).toNat * 4)).off + 2, none⟩ = some (.int .i64 ((rd_T32 l0 x4_1).f2)) ∧ w'.cell? ⟨(ad168.add ((x4_1).toNat * 4)).block, (ad168.add ((x4_1).toNat * 4)).off + 3, none⟩ = some (.int .i64 ((rd_T32 l0 x4_1).f3))) (ds := []) #[false, false, false, false, false, false, false, false, false, false, false, false] (by kernel_rfl) rfl rfl ⟨(blk_cell BK167.out 0).trans rfl, (blk_cell BK167.out 1).trans rfl, (blk_cell BK167.out 2).trans rfl, ((HB.out.cell (World.block_lt_of_cell? w _ hw168_0)).trans hw168_0), ((HB.out.cell (World.block_lt_of_cell? w _ hw168_1)).trans hw168_1), ((HB.out.cell (World.block_lt_of_cell? w _ hw168_2)).trans hw168_2), ((HB.out.cell (World.block_lt_of_cell? w _ hw168_3)).trans hw168_3)⟩ (fun hHeld => ?_); refine with_tabW tithebarnlaw16_ManifestSnapshot.tab7 tithebarnlaw16_ManifestSnapshot.bits7 (fun HT_ HW_ => ?_)
                    generalize wc.drew = w26 at HO_168000 BK167 HB HR168_0 HR168_1 hx168_0 hx168_1 hx168_2 hx168_3 hHeld ⊢
                    refine pure_ (i := 1) (N := some 24) (v := ?_) (a' := ?_) #[false, true, false, false, false, false, false, false, false, false, false, false] rfl rfl (any_of HT_.out (by kernel_rfl)) (fun _ _ _ h => h) (Or.inl ⟨by rfl, ?_⟩) ?_ ?_
                    rotate_left
                    · intro w'
                      go_simp
                      with_reducible rfl
                    rotate_left
                    · simp only [Act.put, List.setIfInBounds_toArray, List.set_cons_zero, List.set_cons_succ, i64_w, i32_w]
                      rfl
                    refine pure_ (i := 2) (N := some 25) (v := ?_) (a' := ?_) #[false, true, true, false, false, false, false, false, false, false, false, false] rfl rfl (any_of HT_.out (by kernel_rfl)) (fun _ _ _ h => h) (Or.inl ⟨by rfl, ?_⟩) ?_ ?_
                    rotate_left
                    · intro w'
                      go_simp
                      with_reducible rfl
                    rotate_left
                    · simp only [Act.put, List.setIfInBounds_toArray, List.set_cons_zero, List.set_cons_succ, i64_w, i32_w]
                      rfl
                    refine pure_ (i := 3) (N := some 26) (v := ?_) (a' := ?_) #[false, true, true, true, false, false, false, false, false, false, false, false] rfl rfl (any_of HT_.out (by kernel_rfl)) (fun _ _ _ h => h) (Or.inl ⟨by rfl, ?_⟩) ?_ ?_
                    rotate_left
                    · intro w'
                      go_simp
                      with_reducible rfl
                    rotate_left
                    · simp only [Act.put, List.setIfInBounds_toArray, List.set_cons_zero, List.set_cons_succ, i64_w, i32_w]
                      rfl
                    refine take_ (i := 0) (N := some 23) (v := ?_) (a' := ?_) #[true, true, true, true, false, false, false, false, false, false, false, false] rfl rfl (take_ofW HT_.out HW_.out (by kernel_rfl)) (fun _ _ _ h => h) (Or.inl ⟨by rfl, ?_⟩) hHeld ?_ ?_
                    rotate_left
                    · rintro w' ⟨s0, s1, s2, s3, s4, s5, s6⟩
                      go_simp
                      with_reducible rfl
                    rotate_left
                    · simp only [Act.put, List.setIfInBounds_toArray, List.set_cons_zero, List.set_cons_succ, i64_w, i32_w]
                      rfl
                    refine take_ (i := 4) (N := some 27) (v := ?_) (a' := ?_) #[true, true, true, true, true, false, false, false, false, false, false, false] rfl rfl (take_ofW HT_.out HW_.out (by kernel_rfl)) (fun _ _ _ h => h) (Or.inl ⟨by rfl, ?_⟩) hHeld ?_ ?_
                    rotate_left
                    · rintro w' ⟨s0, s1, s2, s3, s4, s5, s6⟩
                      go_simp
                      with_reducible rfl
                    rotate_left
                    · simp only [Act.put, List.setIfInBounds_toArray, List.set_cons_zero, List.set_cons_succ, i64_w, i32_w]
                      rfl
                    refine join_ (σ := Value × Nat) 2 #[true, true, true, true, true, true, true, true, true, true, false, false] (fun s_ => [(28, .tuple #[.agg #[s_.1, .int .i64 t172, .int .i64 t173], .int .i64 t174]), (5, .pointer (some ⟨s_.2, 0, none⟩)), (22, .tuple #[.agg #[s_.1, .int .i64 t172, .int .i64 t173], .int .i64 t174]), (29, .agg #[s_.1, .int .i64 t172, .int .i64 t173]), (30, .int .i64 t174)]) (fun s_ w' => (w'.cell? ⟨gb167, 0, none⟩ = some (.slice Ao25 x168000_1.length co25) ∧ w'.cell? ⟨gb167, 1, none⟩ = some (.int .i64 x168001_1) ∧ w'.cell? ⟨gb167, 2, none⟩ = some (.int .i64 x168002_1) ∧ w'.cell? (ad168.add ((x4_1).toNat * 4)) = some (.slice A168_0 ((rd_T32 l0 x4_1).f0).length c168_0) ∧ w'.cell? ⟨(ad168.add ((x4_1).toNat * 4)).block, (ad168.add ((x4_1).toNat * 4)).off + 1, none⟩ = some (.slice A168_1 ((rd_T32 l0 x4_1).f1).length c168_1) ∧ w'.cell? ⟨(ad168.add ((x4_1).toNat * 4)).block, (ad168.add ((x4_1).toNat * 4)).off + 2, none⟩ = some (.int .i64 ((rd_T32 l0 x4_1).f2)) ∧ w'.cell? ⟨(ad168.add ((x4_1).toNat * 4)).block, (ad168.add ((x4_1).toNat * 4)).off + 3, none⟩ = some (.int .i64 ((rd_T32 l0 x4_1).f3))) ∧ (Kd.R k36 36 w' w.heap.size (fun k_ => some k_ ≠ (.slice Ao25 x168000_1.length co25 : Value).ownBlock) s_.1 t169) ∧ (Kd.R k36 36 w' w.heap.size (fun k_ => some k_ ≠ (s_.1 : Value).ownBlock) (.slice Ao25 x168000_1.length co25) x168000_1) ∧ (w'.heap[gb167]? = some (.cells #[.slice Ao25 x168000_1.length co25, .int .i64 x168001_1, .int .i64 x168002_1] 26 (0, 0))) ∧ (w'.heap[s_.2]? = some (.cells #[.slice none 0 0, .int .i64 0, .int .i64 0] 26 (0, 0))) ∧ (w.heap.size ≤ s_.2) ∧ (w.heap.size ≤ s_.2) ∧ (gb167 ≠ s_.2) ∧ (s_.2 ≠ gb167) ∧ (Below w.heap.size w w')) ?_ ?_
                    rotate_left
                    · intro hCont
                      refine two_ (i := 5) (j := 9) (Ni := some 28) (Nj := some 5) #[true, true, true, true, true, true, false, false, false, false, false, false] #[true, true, true, true, true, false, false, false, false, true, false, false] rfl rfl rfl rfl (two_of HT_.out (by kernel_rfl)) (by decide) (by decide) (fun K hK => ?_) (fun K hK => ?_)
                      · skip
                        refine goes_ Try.func9 (by kernel_rfl) rfl #[.agg #[.slice Ao25 x168000_1.length co25, .int .i64 x168001_1, .int .i64 x168002_1], .agg #[.slice A168_0 ((rd_T32 l0 x4_1).f0).length c168_0, .slice A168_1 ((rd_T32 l0 x4_1).f1).length c168_1, .int .i64 ((rd_T32 l0 x4_1).f2), .int .i64 ((rd_T32 l0 x4_1).f3)]] (by rfl) rfl rfl (by (try simp only [List.map_toArray, List.map_cons, List.map_nil]); first | done | rfl | (simp only [List.length_drop, List.length_take]; rfl)) ?_
                        with_reducible refine (manifest_Apply.calls _ _ x168000_1 x168001_1 x168002_1 _ _ ((rd_T32 l0 x4_1).f0) _ _ ((rd_T32 l0 x4_1).f1) ((rd_T32 l0 x4_1).f2) ((rd_T32 l0 x4_1).f3) t169 t172 t173 t174 _ ?side1 ?side2 ?side3 ?side4 ?side5 ?side6 A11.out).mono ?_
                        (case side1 => repeat (first | exact (Kd.R_reads' HO_168000.out).2.2 | (with_reducible refine Kd.C_alloc ?_ _) | (with_reducible refine Kd.C_drewN ?_ _) | (with_reducible refine Kd.C_drew ?_)))
                        (case side2 => exact (Kd.R_reads' HO_168000.out).2.1)
                        (case side3 => repeat (first | exact (Kd.C_below HR168_0.out HB.out) | (with_reducible refine Kd.C_alloc ?_ _) | (with_reducible refine Kd.C_drewN ?_ _) | (with_reducible refine Kd.C_drew ?_)))
                        (case side4 => exact HC168_0.out)
                        (case side5 => repeat (first | exact (Kd.C_below HR168_1.out HB.out) | (with_reducible refine Kd.C_alloc ?_ _) | (with_reducible refine Kd.C_drewN ?_ _) | (with_reducible refine Kd.C_drew ?_)))
                        (case side6 => exact HC168_1.out)
                        rintro e w27 ⟨v170, rfl, ho0, hb⟩
                        refine ⟨_, rfl, ?_⟩
                        have n0_ := Aside0.mk (Kd.R_elder' (by (with_reducible repeat (first | apply Kd.R_alloc | apply Kd.R_drewN | apply Kd.R_drew)); exact HO_168000.out) (Kd.R_base ho0) hb)
                        have n1_ := Aside0.mk (Kd.R_lower (Kd.R_new' ho0 (Kd.R_lt (by (with_reducible repeat (first | apply Kd.R_alloc | apply Kd.R_drewN | apply Kd.R_drew)); exact HO_168000.out))) (below_size (by repeat (first | (with_reducible first | exact HB.out | apply below_alloc | apply pw_below_drewN | apply below_drew1 | refine below_set ?_ GE167.out) | exact HB.out))))
                        have n2_ := Aside0.mk (blk_below (g := gb167) (o := .cells #[.slice Ao25 x168000_1.length co25, .int .i64 x168001_1, .int .i64 x168002_1] 26 (0, 0)) (by (with_reducible repeat (first | refine blk_drewN ?_ _ | refine blk_drew ?_ | refine blk_alloc ?_ _)); exact BK167.out) hb)
                        have n3_ := Aside0.mk (below_step (by repeat (first | (with_reducible first | exact HB.out | apply below_alloc | apply pw_below_drewN | apply below_drew1 | refine below_set ?_ GE167.out) | exact HB.out)) hb)
                        clear HO_168000
                        clear BK167
                        clear HB
                        have HO_168000 := n0_
                        have HO171 := n1_
                        have BK167 := n2_
                        have HB := n3_
                        clear n0_ n1_ n2_ n3_
                        (try clear hb)
                        (try clear hb2)
                        (try clear hk)
                        (try clear hi)
                        (try clear ho0)
                        refine hK.out _ _ ⟨(blk_cell BK167.out 0).trans rfl, (blk_cell BK167.out 1).trans rfl, (blk_cell BK167.out 2).trans rfl, ((HB.out.cell (World.block_lt_of_cell? w _ hw168_0)).trans hw168_0), ((HB.out.cell (World.block_lt_of_cell? w _ hw168_1)).trans hw168_1), ((HB.out.cell (World.block_lt_of_cell? w _ hw168_2)).trans hw168_2), ((HB.out.cell (World.block_lt_of_cell? w _ hw168_3)).trans hw168_3)⟩ (fun hHeld => ?_)
                        clear hK K
                        refine norm_ (a' := ?_) ?_ ?_
                        rotate_left
                        · show Act.put _ (some 28) _ = _
                          simp only [Act.put, List.setIfInBounds_toArray, List.set_cons_zero, List.set_cons_succ, i64_w, i32_w]
                          rfl
                        refine pure_ (i := 6) (N := some 22) (v := ?_) (a' := ?_) #[true, true, true, true, true, true, true, false, false, false, false, false] rfl rfl (any_of HT_.out (by kernel_rfl)) (fun _ _ _ h => h) (Or.inl ⟨by rfl, ?_⟩) ?_ ?_
                        rotate_left
                        · intro w'
                          go_simp
                          with_reducible rfl
                        rotate_left
                        · simp only [Act.put, List.setIfInBounds_toArray, List.set_cons_zero, List.set_cons_succ, i64_w, i32_w]
                          rfl
                        refine pure_ (i := 7) (N := some 29) (v := ?_) (a' := ?_) #[true, true, true, true, true, true, true, true, false, false, false, false] rfl rfl (any_of HT_.out (by kernel_rfl)) (fun _ _ _ h => h) (Or.inl ⟨by rfl, ?_⟩) ?_ ?_
                        rotate_left
                        · intro w'
                          go_simp
                          with_reducible rfl
                        rotate_left
                        · simp only [Act.put, List.setIfInBounds_toArray, List.set_cons_zero, List.set_cons_succ, i64_w, i32_w]
                          rfl
                        refine pure_ (i := 8) (N := some 30) (v := ?_) (a' := ?_) #[true, true, true, true, true, true, true, true, true, false, false, false] rfl rfl (any_of HT_.out (by kernel_rfl)) (fun _ _ _ h => h) (Or.inl ⟨by rfl, ?_⟩) ?_ ?_
                        rotate_left
                        · intro w'
                          go_simp
                          with_reducible rfl
                        rotate_left
                        · simp only [Act.put, List.setIfInBounds_toArray, List.set_cons_zero, List.set_cons_succ, i64_w, i32_w]
                          rfl
                        refine one_ (i := 9) (N := some 5) #[true, true, true, true, true, true, true, true, true, true, false, false] rfl rfl (one_of HT_.out (by kernel_rfl)) (by decide) (fun K hK => ?_)
                        refine box_step ?hg (N := 5) ?hd (cs := #[.slice none 0 0, .int .i64 0, .int .i64 0]) (t := 26) ?hr ?_; (case hd => rfl); (case hg => rfl); (case hr => first | (go_simp; done) | (go_simp; rfl))
                        intro gb175 hg w28 hbox hb
                        have n0_ := Aside0.mk (Kd.R_below (by (with_reducible repeat (first | apply Kd.R_alloc | apply Kd.R_drewN | apply Kd.R_drew)); exact HO_168000.out) hb)
                        have n1_ := Aside0.mk (Kd.R_below (by (with_reducible repeat (first | apply Kd.R_alloc | apply Kd.R_drewN | apply Kd.R_drew)); exact HO171.out) hb)
                        have n2_ := Aside0.mk (blk_below (g := gb167) (o := .cells #[.slice Ao25 x168000_1.length co25, .int .i64 x168001_1, .int .i64 x168002_1] 26 (0, 0)) (by (with_reducible repeat (first | refine blk_drewN ?_ _ | refine blk_drew ?_ | refine blk_alloc ?_ _)); exact BK167.out) hb)
                        have n3_ := Aside0.mk (below_step (by repeat (first | (with_reducible first | exact HB.out | apply below_alloc | apply pw_below_drewN | apply below_drew1 | refine below_set ?_ GE167.out) | exact HB.out)) hb)
                        have n4_ := Aside0.mk (hbox)
                        have n5_ := Aside0.mk ((by rw [hg]; exact (below_size (by repeat (first | (with_reducible first | exact HB.out | apply below_alloc | apply pw_below_drewN | apply below_drew1 | refine below_set ?_ GE167.out) | exact HB.out))) : w.heap.size ≤ gb175))
                        have n6_ := Aside0.mk ((by rw [hg]; exact (below_size (by repeat (first | (with_reducible first | exact HB.out | apply below_alloc | apply pw_below_drewN | apply below_drew1 | refine below_set ?_ GE167.out) | exact HB.out))) : w.heap.size ≤ gb175))
                        have n7_ := Aside0.mk ((by rw [hg]; exact Nat.ne_of_lt (blk_lt (g := gb167) (o := .cells #[.slice Ao25 x168000_1.length co25, .int .i64 x168001_1, .int .i64 x168002_1] 26 (0, 0)) (by (with_reducible repeat (first | refine blk_drewN ?_ _ | refine blk_drew ?_ | refine blk_alloc ?_ _)); exact BK167.out)) : gb167 ≠ gb175))
                        have n8_ := Aside0.mk ((by rw [hg]; exact Nat.ne_of_gt (blk_lt (g := gb167) (o := .cells #[.slice Ao25 x168000_1.length co25, .int .i64 x168001_1, .int .i64 x168002_1] 26 (0, 0)) (by (with_reducible repeat (first | refine blk_drewN ?_ _ | refine blk_drew ?_ | refine blk_alloc ?_ _)); exact BK167.out)) : gb175 ≠ gb167))
                        clear HO_168000
                        clear HO171
                        clear BK167
                        clear HB
                        have HO_168000 := n0_
                        have HO171 := n1_
                        have BK167 := n2_
                        have HB := n3_
                        have BK175 := n4_
                        have GW175 := n5_
                        have GE175 := n6_
                        have NB167_175 := n7_
                        have NB175_167 := n8_
                        clear n0_ n1_ n2_ n3_ n4_ n5_ n6_ n7_ n8_
                        clear hb hbox hg
                        refine hK.out _ _ ⟨(blk_cell BK167.out 0).trans rfl, (blk_cell BK167.out 1).trans rfl, (blk_cell BK167.out 2).trans rfl, ((HB.out.cell (World.block_lt_of_cell? w _ hw168_0)).trans hw168_0), ((HB.out.cell (World.block_lt_of_cell? w _ hw168_1)).trans hw168_1), ((HB.out.cell (World.block_lt_of_cell? w _ hw168_2)).trans hw168_2), ((HB.out.cell (World.block_lt_of_cell? w _ hw168_3)).trans hw168_3)⟩ (fun hHeld => ?_)
                        clear hK K
                        refine norm_ (a' := ?_) ?_ ?_
                        rotate_left
                        · show Act.put _ (some 5) _ = _
                          simp only [Act.put, List.setIfInBounds_toArray, List.set_cons_zero, List.set_cons_succ, i64_w, i32_w]
                          rfl
                        exact norm_ (by simp only [putAll, Act.put, List.setIfInBounds_toArray, List.set_cons_zero, List.set_cons_succ]) (hCont (v170, gb175) _ ⟨hHeld, (by (with_reducible repeat (first | apply Kd.R_alloc | apply Kd.R_drewN | apply Kd.R_drew)); exact Kd.R_mono HO171.out (fun _ hk => hk.2)), (by (with_reducible repeat (first | apply Kd.R_alloc | apply Kd.R_drewN | apply Kd.R_drew)); exact Kd.R_mono HO_168000.out (fun _ hk => hk.2)), (by (with_reducible repeat (first | refine blk_drewN ?_ _ | refine blk_drew ?_ | refine blk_alloc ?_ _)); exact BK167.out), (by (with_reducible repeat (first | refine blk_drewN ?_ _ | refine blk_drew ?_ | refine blk_alloc ?_ _)); exact BK175.out), GW175.out, GE175.out, NB167_175.out, NB175_167.out, (by repeat (first | (with_reducible first | exact HB.out | apply below_alloc | apply pw_below_drewN | apply below_drew1 | refine below_set ?_ GE167.out | refine below_set ?_ GE175.out) | exact HB.out))⟩)
                      · skip
                        refine box_step ?hg (N := 5) ?hd (cs := #[.slice none 0 0, .int .i64 0, .int .i64 0]) (t := 26) ?hr ?_; (case hd => rfl); (case hg => rfl); (case hr => first | (go_simp; done) | (go_simp; rfl))
                        intro gb175 hg w27 hbox hb
                        have n0_ := Aside0.mk (Kd.R_below (by (with_reducible repeat (first | apply Kd.R_alloc | apply Kd.R_drewN | apply Kd.R_drew)); exact HO_168000.out) hb)
                        have n1_ := Aside0.mk (blk_below (g := gb167) (o := .cells #[.slice Ao25 x168000_1.length co25, .int .i64 x168001_1, .int .i64 x168002_1] 26 (0, 0)) (by (with_reducible repeat (first | refine blk_drewN ?_ _ | refine blk_drew ?_ | refine blk_alloc ?_ _)); exact BK167.out) hb)
                        have n2_ := Aside0.mk (below_step (by repeat (first | (with_reducible first | exact HB.out | apply below_alloc | apply pw_below_drewN | apply below_drew1 | refine below_set ?_ GE167.out) | exact HB.out)) hb)
                        have n3_ := Aside0.mk (hbox)
                        have n4_ := Aside0.mk ((by rw [hg]; exact (below_size (by repeat (first | (with_reducible first | exact HB.out | apply below_alloc | apply pw_below_drewN | apply below_drew1 | refine below_set ?_ GE167.out) | exact HB.out))) : w.heap.size ≤ gb175))
                        have n5_ := Aside0.mk ((by rw [hg]; exact (below_size (by repeat (first | (with_reducible first | exact HB.out | apply below_alloc | apply pw_below_drewN | apply below_drew1 | refine below_set ?_ GE167.out) | exact HB.out))) : w.heap.size ≤ gb175))
                        have n6_ := Aside0.mk ((by rw [hg]; exact Nat.ne_of_lt (blk_lt (g := gb167) (o := .cells #[.slice Ao25 x168000_1.length co25, .int .i64 x168001_1, .int .i64 x168002_1] 26 (0, 0)) (by (with_reducible repeat (first | refine blk_drewN ?_ _ | refine blk_drew ?_ | refine blk_alloc ?_ _)); exact BK167.out)) : gb167 ≠ gb175))
                        have n7_ := Aside0.mk ((by rw [hg]; exact Nat.ne_of_gt (blk_lt (g := gb167) (o := .cells #[.slice Ao25 x168000_1.length co25, .int .i64 x168001_1, .int .i64 x168002_1] 26 (0, 0)) (by (with_reducible repeat (first | refine blk_drewN ?_ _ | refine blk_drew ?_ | refine blk_alloc ?_ _)); exact BK167.out)) : gb175 ≠ gb167))
                        clear HO_168000
                        clear BK167
                        clear HB
                        have HO_168000 := n0_
                        have BK167 := n1_
                        have HB := n2_
                        have BK175 := n3_
                        have GW175 := n4_
                        have GE175 := n5_
                        have NB167_175 := n6_
                        have NB175_167 := n7_
                        clear n0_ n1_ n2_ n3_ n4_ n5_ n6_ n7_
                        clear hb hbox hg
                        refine hK.out _ _ ⟨(blk_cell BK167.out 0).trans rfl, (blk_cell BK167.out 1).trans rfl, (blk_cell BK167.out 2).trans rfl, ((HB.out.cell (World.block_lt_of_cell? w _ hw168_0)).trans hw168_0), ((HB.out.cell (World.block_lt_of_cell? w _ hw168_1)).trans hw168_1), ((HB.out.cell (World.block_lt_of_cell? w _ hw168_2)).trans hw168_2), ((HB.out.cell (World.block_lt_of_cell? w _ hw168_3)).trans hw168_3)⟩ (fun hHeld => ?_)
                        clear hK K
                        refine norm_ (a' := ?_) ?_ ?_
                        rotate_left
                        · show Act.put _ (some 5) _ = _
                          simp only [Act.put, List.setIfInBounds_toArray, List.set_cons_zero, List.set_cons_succ, i64_w, i32_w]
                          rfl
                        refine one_ (i := 5) (N := some 28) #[true, true, true, true, true, true, false, false, false, true, false, false] rfl rfl (one_of HT_.out (by kernel_rfl)) (by decide) (fun K hK => ?_)
                        refine goes_ Try.func9 (by kernel_rfl) rfl #[.agg #[.slice Ao25 x168000_1.length co25, .int .i64 x168001_1, .int .i64 x168002_1], .agg #[.slice A168_0 ((rd_T32 l0 x4_1).f0).length c168_0, .slice A168_1 ((rd_T32 l0 x4_1).f1).length c168_1, .int .i64 ((rd_T32 l0 x4_1).f2), .int .i64 ((rd_T32 l0 x4_1).f3)]] (by rfl) rfl rfl (by (try simp only [List.map_toArray, List.map_cons, List.map_nil]); first | done | rfl | (simp only [List.length_drop, List.length_take]; rfl)) ?_
                        with_reducible refine (manifest_Apply.calls _ _ x168000_1 x168001_1 x168002_1 _ _ ((rd_T32 l0 x4_1).f0) _ _ ((rd_T32 l0 x4_1).f1) ((rd_T32 l0 x4_1).f2) ((rd_T32 l0 x4_1).f3) t169 t172 t173 t174 _ ?side1 ?side2 ?side3 ?side4 ?side5 ?side6 A11.out).mono ?_
                        (case side1 => repeat (first | exact (Kd.R_reads' HO_168000.out).2.2 | (with_reducible refine Kd.C_alloc ?_ _) | (with_reducible refine Kd.C_drewN ?_ _) | (with_reducible refine Kd.C_drew ?_)))
                        (case side2 => exact (Kd.R_reads' HO_168000.out).2.1)
                        (case side3 => repeat (first | exact (Kd.C_below HR168_0.out HB.out) | (with_reducible refine Kd.C_alloc ?_ _) | (with_reducible refine Kd.C_drewN ?_ _) | (with_reducible refine Kd.C_drew ?_)))
                        (case side4 => exact HC168_0.out)
                        (case side5 => repeat (first | exact (Kd.C_below HR168_1.out HB.out) | (with_reducible refine Kd.C_alloc ?_ _) | (with_reducible refine Kd.C_drewN ?_ _) | (with_reducible refine Kd.C_drew ?_)))
                        (case side6 => exact HC168_1.out)
                        rintro e w28 ⟨v170, rfl, ho0, hb⟩
                        refine ⟨_, rfl, ?_⟩
                        have n0_ := Aside0.mk (Kd.R_elder' (by (with_reducible repeat (first | apply Kd.R_alloc | apply Kd.R_drewN | apply Kd.R_drew)); exact HO_168000.out) (Kd.R_base ho0) hb)
                        have n1_ := Aside0.mk (Kd.R_lower (Kd.R_new' ho0 (Kd.R_lt (by (with_reducible repeat (first | apply Kd.R_alloc | apply Kd.R_drewN | apply Kd.R_drew)); exact HO_168000.out))) (below_size (by repeat (first | (with_reducible first | exact HB.out | apply below_alloc | apply pw_below_drewN | apply below_drew1 | refine below_set ?_ GE167.out | refine below_set ?_ GE175.out) | exact HB.out))))
                        have n2_ := Aside0.mk (blk_below (g := gb167) (o := .cells #[.slice Ao25 x168000_1.length co25, .int .i64 x168001_1, .int .i64 x168002_1] 26 (0, 0)) (by (with_reducible repeat (first | refine blk_drewN ?_ _ | refine blk_drew ?_ | refine blk_alloc ?_ _)); exact BK167.out) hb)
                        have n3_ := Aside0.mk (blk_below (g := gb175) (o := .cells #[.slice none 0 0, .int .i64 0, .int .i64 0] 26 (0, 0)) (by (with_reducible repeat (first | refine blk_drewN ?_ _ | refine blk_drew ?_ | refine blk_alloc ?_ _)); exact BK175.out) hb)
                        have n4_ := Aside0.mk (below_step (by repeat (first | (with_reducible first | exact HB.out | apply below_alloc | apply pw_below_drewN | apply below_drew1 | refine below_set ?_ GE167.out | refine below_set ?_ GE175.out) | exact HB.out)) hb)
                        clear HO_168000
                        clear BK167
                        clear BK175
                        clear HB
                        have HO_168000 := n0_
                        have HO171 := n1_
                        have BK167 := n2_
                        have BK175 := n3_
                        have HB := n4_
                        clear n0_ n1_ n2_ n3_ n4_
                        (try clear hb)
                        (try clear hb2)
                        (try clear hk)
                        (try clear hi)
                        (try clear ho0)
                        refine hK.out _ _ ⟨(blk_cell BK167.out 0).trans rfl, (blk_cell BK167.out 1).trans rfl, (blk_cell BK167.out 2).trans rfl, ((HB.out.cell (World.block_lt_of_cell? w _ hw168_0)).trans hw168_0), ((HB.out.cell (World.block_lt_of_cell? w _ hw168_1)).trans hw168_1), ((HB.out.cell (World.block_lt_of_cell? w _ hw168_2)).trans hw168_2), ((HB.out.cell (World.block_lt_of_cell? w _ hw168_3)).trans hw168_3)⟩ (fun hHeld => ?_)
                        clear hK K
                        refine norm_ (a' := ?_) ?_ ?_
                        rotate_left
                        · show Act.put _ (some 28) _ = _
                          simp only [Act.put, List.setIfInBounds_toArray, List.set_cons_zero, List.set_cons_succ, i64_w, i32_w]
                          rfl
                        refine pure_ (i := 6) (N := some 22) (v := ?_) (a' := ?_) #[true, true, true, true, true, true, true, false, false, true, false, false] rfl rfl (any_of HT_.out (by kernel_rfl)) (fun _ _ _ h => h) (Or.inl ⟨by rfl, ?_⟩) ?_ ?_
                        rotate_left
                        · intro w'
                          go_simp
                          with_reducible rfl
                        rotate_left
                        · simp only [Act.put, List.setIfInBounds_toArray, List.set_cons_zero, List.set_cons_succ, i64_w, i32_w]
                          rfl
                        refine pure_ (i := 7) (N := some 29) (v := ?_) (a' := ?_) #[true, true, true, true, true, true, true, true, false, true, false, false] rfl rfl (any_of HT_.out (by kernel_rfl)) (fun _ _ _ h => h) (Or.inl ⟨by rfl, ?_⟩) ?_ ?_
                        rotate_left
                        · intro w'
                          go_simp
                          with_reducible rfl
                        rotate_left
                        · simp only [Act.put, List.setIfInBounds_toArray, List.set_cons_zero, List.set_cons_succ, i64_w, i32_w]
                          rfl
                        refine pure_ (i := 8) (N := some 30) (v := ?_) (a' := ?_) #[true, true, true, true, true, true, true, true, true, true, false, false] rfl rfl (any_of HT_.out (by kernel_rfl)) (fun _ _ _ h => h) (Or.inl ⟨by rfl, ?_⟩) ?_ ?_
                        rotate_left
                        · intro w'
                          go_simp
                          with_reducible rfl
                        rotate_left
                        · simp only [Act.put, List.setIfInBounds_toArray, List.set_cons_zero, List.set_cons_succ, i64_w, i32_w]
                          rfl
                        exact norm_ (by simp only [putAll, Act.put, List.setIfInBounds_toArray, List.set_cons_zero, List.set_cons_succ]) (hCont (v170, gb175) _ ⟨hHeld, (by (with_reducible repeat (first | apply Kd.R_alloc | apply Kd.R_drewN | apply Kd.R_drew)); exact Kd.R_mono HO171.out (fun _ hk => hk.2)), (by (with_reducible repeat (first | apply Kd.R_alloc | apply Kd.R_drewN | apply Kd.R_drew)); exact Kd.R_mono HO_168000.out (fun _ hk => hk.2)), (by (with_reducible repeat (first | refine blk_drewN ?_ _ | refine blk_drew ?_ | refine blk_alloc ?_ _)); exact BK167.out), (by (with_reducible repeat (first | refine blk_drewN ?_ _ | refine blk_drew ?_ | refine blk_alloc ?_ _)); exact BK175.out), GW175.out, GE175.out, NB167_175.out, NB175_167.out, (by repeat (first | (with_reducible first | exact HB.out | apply below_alloc | apply pw_below_drewN | apply below_drew1 | refine below_set ?_ GE167.out | refine below_set ?_ GE175.out) | exact HB.out))⟩)
                    rintro ⟨v170, gb175⟩ w29 ⟨hS_, h0_, h1_, h2_, h3_, h4_, h5_, h6_, h7_, h8_⟩
                    have n0_ : Aside0 (Kd.R k36 36 w29 w.heap.size (fun k_ => some k_ ≠ (.slice Ao25 x168000_1.length co25 : Value).ownBlock) v170 t169) := ⟨h0_⟩
                    have n1_ : Aside0 (Kd.R k36 36 w29 w.heap.size (fun k_ => some k_ ≠ (v170 : Value).ownBlock) (.slice Ao25 x168000_1.length co25) x168000_1) := ⟨h1_⟩
                    have n2_ : Aside0 (w29.heap[gb167]? = some (.cells #[.slice Ao25 x168000_1.length co25, .int .i64 x168001_1, .int .i64 x168002_1] 26 (0, 0))) := ⟨h2_⟩
                    have n3_ : Aside0 (w29.heap[gb175]? = some (.cells #[.slice none 0 0, .int .i64 0, .int .i64 0] 26 (0, 0))) := ⟨h3_⟩
                    have n4_ : Aside0 (w.heap.size ≤ gb175) := ⟨h4_⟩
                    have n5_ : Aside0 (w.heap.size ≤ gb175) := ⟨h5_⟩
                    have n6_ : Aside0 (gb167 ≠ gb175) := ⟨h6_⟩
                    have n7_ : Aside0 (gb175 ≠ gb167) := ⟨h7_⟩
                    have n8_ : Aside0 (Below w.heap.size w w29) := ⟨h8_⟩
                    clear HO_168000
                    clear BK167
                    clear HB
                    clear h0_ h1_ h2_ h3_ h4_ h5_ h6_ h7_ h8_
                    have HO171 := n0_
                    have HO_168000 := n1_
                    have BK167 := n2_
                    have BK175 := n3_
                    have GW175 := n4_
                    have GE175 := n5_
                    have NB167_175 := n6_
                    have NB175_167 := n7_
                    have HB := n8_
                    clear n0_ n1_ n2_ n3_ n4_ n5_ n6_ n7_ n8_
                    have hHeld : w29.cell? ⟨gb167, 0, none⟩ = some (.slice Ao25 x168000_1.length co25) ∧ w29.cell? ⟨gb167, 1, none⟩ = some (.int .i64 x168001_1) ∧ w29.cell? ⟨gb167, 2, none⟩ = some (.int .i64 x168002_1) ∧ w29.cell? (ad168.add ((x4_1).toNat * 4)) = some (.slice A168_0 ((rd_T32 l0 x4_1).f0).length c168_0) ∧ w29.cell? ⟨(ad168.add ((x4_1).toNat * 4)).block, (ad168.add ((x4_1).toNat * 4)).off + 1, none⟩ = some (.slice A168_1 ((rd_T32 l0 x4_1).f1).length c168_1) ∧ w29.cell? ⟨(ad168.add ((x4_1).toNat * 4)).block, (ad168.add ((x4_1).toNat * 4)).off + 2, none⟩ = some (.int .i64 ((rd_T32 l0 x4_1).f2)) ∧ w29.cell? ⟨(ad168.add ((x4_1).toNat * 4)).block, (ad168.add ((x4_1).toNat * 4)).off + 3, none⟩ = some (.int .i64 ((rd_T32 l0 x4_1).f3)) := hS_
                    obtain ⟨Ao30, co30, eo30⟩ := Kd.R_slice HO171.out
                    (first | subst eo30 | (injection eo30 with f1_ f2_ f3_; have f4_ := f1_.symm; have f5_ := f3_.symm; clear f1_ f2_ f3_; subst f4_; subst f5_))
                    refine norm_ (a' := ?_) ?_ ?_
                    rotate_left
                    · simp only [putAll, Act.put, List.setIfInBounds_toArray, List.set_cons_zero, List.set_cons_succ]
                      rfl
                    refine one_ (i := 10) (N := none) #[true, true, true, true, true, true, true, true, true, true, true, false] rfl rfl (one_of HT_.out (by kernel_rfl)) (by decide) (fun K hK => ?_)
                    have hs31 : w29.cell? ⟨gb175, 0, none⟩ = some (.slice none 0 0) := (blk_cell BK175.out 0).trans rfl
                    have hfs31 := blk_frozen BK175.out 0
                    have hns31_0 := NB167_175.out
                    have hms31_0 := NB175_167.out
                    have hs32 : w29.cell? ⟨gb175, 1, none⟩ = some (.int .i64 0) := (blk_cell BK175.out 1).trans rfl
                    have hfs32 := blk_frozen BK175.out 1
                    have hns32_0 := NB167_175.out
                    have hms32_0 := NB175_167.out
                    have hs33 : w29.cell? ⟨gb175, 2, none⟩ = some (.int .i64 0) := (blk_cell BK175.out 2).trans rfl
                    have hfs33 := blk_frozen BK175.out 2
                    have hns33_0 := NB167_175.out
                    have hms33_0 := NB175_167.out
                    refine skip_ (w1 := ?_) (by rfl) rfl ?_ ?_
                    rotate_left
                    · go_simp
                      rfl
                    refine hK.out _ _ ⟨((cell_far (p := ⟨gb175, _, none⟩) NB167_175.out _).trans (((cell_far (p := ⟨gb175, _, none⟩) NB167_175.out _).trans (((cell_far (p := ⟨gb175, _, none⟩) NB167_175.out _).trans (hHeld.1)))))), ((cell_far (p := ⟨gb175, _, none⟩) NB167_175.out _).trans (((cell_far (p := ⟨gb175, _, none⟩) NB167_175.out _).trans (((cell_far (p := ⟨gb175, _, none⟩) NB167_175.out _).trans (hHeld.2.1)))))), ((cell_far (p := ⟨gb175, _, none⟩) NB167_175.out _).trans (((cell_far (p := ⟨gb175, _, none⟩) NB167_175.out _).trans (((cell_far (p := ⟨gb175, _, none⟩) NB167_175.out _).trans (hHeld.2.2.1)))))), ((cell_far (p := ⟨gb175, _, none⟩) (by first | exact Nat.ne_of_lt (Nat.lt_of_lt_of_le (by have := World.block_lt_of_cell? _ _ hw168_0; first | rwa [add_block] at this | exact this) GW175.out) | (rw [add_block]; exact Nat.ne_of_lt (Nat.lt_of_lt_of_le (by have := World.block_lt_of_cell? _ _ hw168_0; first | rwa [add_block] at this | exact this) GW175.out)) | (show (Addr.add _ _).block ≠ _; rw [add_block]; exact Nat.ne_of_lt (Nat.lt_of_lt_of_le (by have := World.block_lt_of_cell? _ _ hw168_0; first | rwa [add_block] at this | exact this) GW175.out)) | (dsimp only; exact Nat.ne_of_lt (Nat.lt_of_lt_of_le (by have := World.block_lt_of_cell? _ _ hw168_0; first | rwa [add_block] at this | exact this) GW175.out))) _).trans (((cell_far (p := ⟨gb175, _, none⟩) (by first | exact Nat.ne_of_lt (Nat.lt_of_lt_of_le (by have := World.block_lt_of_cell? _ _ hw168_0; first | rwa [add_block] at this | exact this) GW175.out) | (rw [add_block]; exact Nat.ne_of_lt (Nat.lt_of_lt_of_le (by have := World.block_lt_of_cell? _ _ hw168_0; first | rwa [add_block] at this | exact this) GW175.out)) | (show (Addr.add _ _).block ≠ _; rw [add_block]; exact Nat.ne_of_lt (Nat.lt_of_lt_of_le (by have := World.block_lt_of_cell? _ _ hw168_0; first | rwa [add_block] at this | exact this) GW175.out)) | (dsimp only; exact Nat.ne_of_lt (Nat.lt_of_lt_of_le (by have := World.block_lt_of_cell? _ _ hw168_0; first | rwa [add_block] at this | exact this) GW175.out))) _).trans (((cell_far (p := ⟨gb175, _, none⟩) (by first | exact Nat.ne_of_lt (Nat.lt_of_lt_of_le (by have := World.block_lt_of_cell? _ _ hw168_0; first | rwa [add_block] at this | exact this) GW175.out) | (rw [add_block]; exact Nat.ne_of_lt (Nat.lt_of_lt_of_le (by have := World.block_lt_of_cell? _ _ hw168_0; first | rwa [add_block] at this | exact this) GW175.out)) | (show (Addr.add _ _).block ≠ _; rw [add_block]; exact Nat.ne_of_lt (Nat.lt_of_lt_of_le (by have := World.block_lt_of_cell? _ _ hw168_0; first | rwa [add_block] at this | exact this) GW175.out)) | (dsimp only; exact Nat.ne_of_lt (Nat.lt_of_lt_of_le (by have := World.block_lt_of_cell? _ _ hw168_0; first | rwa [add_block] at this | exact this) GW175.out))) _).trans (hHeld.2.2.2.1)))))), ((cell_far (p := ⟨gb175, _, none⟩) (by first | exact Nat.ne_of_lt (Nat.lt_of_lt_of_le (by have := World.block_lt_of_cell? _ _ hw168_1; first | rwa [add_block] at this | exact this) GW175.out) | (rw [add_block]; exact Nat.ne_of_lt (Nat.lt_of_lt_of_le (by have := World.block_lt_of_cell? _ _ hw168_1; first | rwa [add_block] at this | exact this) GW175.out)) | (show (Addr.add _ _).block ≠ _; rw [add_block]; exact Nat.ne_of_lt (Nat.lt_of_lt_of_le (by have := World.block_lt_of_cell? _ _ hw168_1; first | rwa [add_block] at this | exact this) GW175.out)) | (dsimp only; exact Nat.ne_of_lt (Nat.lt_of_lt_of_le (by have := World.block_lt_of_cell? _ _ hw168_1; first | rwa [add_block] at this | exact this) GW175.out))) _).trans (((cell_far (p := ⟨gb175, _, none⟩) (by first | exact Nat.ne_of_lt (Nat.lt_of_lt_of_le (by have := World.block_lt_of_cell? _ _ hw168_1; first | rwa [add_block] at this | exact this) GW175.out) | (rw [add_block]; exact Nat.ne_of_lt (Nat.lt_of_lt_of_le (by have := World.block_lt_of_cell? _ _ hw168_1; first | rwa [add_block] at this | exact this) GW175.out)) | (show (Addr.add _ _).block ≠ _; rw [add_block]; exact Nat.ne_of_lt (Nat.lt_of_lt_of_le (by have := World.block_lt_of_cell? _ _ hw168_1; first | rwa [add_block] at this | exact this) GW175.out)) | (dsimp only; exact Nat.ne_of_lt (Nat.lt_of_lt_of_le (by have := World.block_lt_of_cell? _ _ hw168_1; first | rwa [add_block] at this | exact this) GW175.out))) _).trans (((cell_far (p := ⟨gb175, _, none⟩) (by first | exact Nat.ne_of_lt (Nat.lt_of_lt_of_le (by have := World.block_lt_of_cell? _ _ hw168_1; first | rwa [add_block] at this | exact this) GW175.out) | (rw [add_block]; exact Nat.ne_of_lt (Nat.lt_of_lt_of_le (by have := World.block_lt_of_cell? _ _ hw168_1; first | rwa [add_block] at this | exact this) GW175.out)) | (show (Addr.add _ _).block ≠ _; rw [add_block]; exact Nat.ne_of_lt (Nat.lt_of_lt_of_le (by have := World.block_lt_of_cell? _ _ hw168_1; first | rwa [add_block] at this | exact this) GW175.out)) | (dsimp only; exact Nat.ne_of_lt (Nat.lt_of_lt_of_le (by have := World.block_lt_of_cell? _ _ hw168_1; first | rwa [add_block] at this | exact this) GW175.out))) _).trans (hHeld.2.2.2.2.1)))))), ((cell_far (p := ⟨gb175, _, none⟩) (by first | exact Nat.ne_of_lt (Nat.lt_of_lt_of_le (by have := World.block_lt_of_cell? _ _ hw168_2; first | rwa [add_block] at this | exact this) GW175.out) | (rw [add_block]; exact Nat.ne_of_lt (Nat.lt_of_lt_of_le (by have := World.block_lt_of_cell? _ _ hw168_2; first | rwa [add_block] at this | exact this) GW175.out)) | (show (Addr.add _ _).block ≠ _; rw [add_block]; exact Nat.ne_of_lt (Nat.lt_of_lt_of_le (by have := World.block_lt_of_cell? _ _ hw168_2; first | rwa [add_block] at this | exact this) GW175.out)) | (dsimp only; exact Nat.ne_of_lt (Nat.lt_of_lt_of_le (by have := World.block_lt_of_cell? _ _ hw168_2; first | rwa [add_block] at this | exact this) GW175.out))) _).trans (((cell_far (p := ⟨gb175, _, none⟩) (by first | exact Nat.ne_of_lt (Nat.lt_of_lt_of_le (by have := World.block_lt_of_cell? _ _ hw168_2; first | rwa [add_block] at this | exact this) GW175.out) | (rw [add_block]; exact Nat.ne_of_lt (Nat.lt_of_lt_of_le (by have := World.block_lt_of_cell? _ _ hw168_2; first | rwa [add_block] at this | exact this) GW175.out)) | (show (Addr.add _ _).block ≠ _; rw [add_block]; exact Nat.ne_of_lt (Nat.lt_of_lt_of_le (by have := World.block_lt_of_cell? _ _ hw168_2; first | rwa [add_block] at this | exact this) GW175.out)) | (dsimp only; exact Nat.ne_of_lt (Nat.lt_of_lt_of_le (by have := World.block_lt_of_cell? _ _ hw168_2; first | rwa [add_block] at this | exact this) GW175.out))) _).trans (((cell_far (p := ⟨gb175, _, none⟩) (by first | exact Nat.ne_of_lt (Nat.lt_of_lt_of_le (by have := World.block_lt_of_cell? _ _ hw168_2; first | rwa [add_block] at this | exact this) GW175.out) | (rw [add_block]; exact Nat.ne_of_lt (Nat.lt_of_lt_of_le (by have := World.block_lt_of_cell? _ _ hw168_2; first | rwa [add_block] at this | exact this) GW175.out)) | (show (Addr.add _ _).block ≠ _; rw [add_block]; exact Nat.ne_of_lt (Nat.lt_of_lt_of_le (by have := World.block_lt_of_cell? _ _ hw168_2; first | rwa [add_block] at this | exact this) GW175.out)) | (dsimp only; exact Nat.ne_of_lt (Nat.lt_of_lt_of_le (by have := World.block_lt_of_cell? _ _ hw168_2; first | rwa [add_block] at this | exact this) GW175.out))) _).trans (hHeld.2.2.2.2.2.1)))))), ((cell_far (p := ⟨gb175, _, none⟩) (by first | exact Nat.ne_of_lt (Nat.lt_of_lt_of_le (by have := World.block_lt_of_cell? _ _ hw168_3; first | rwa [add_block] at this | exact this) GW175.out) | (rw [add_block]; exact Nat.ne_of_lt (Nat.lt_of_lt_of_le (by have := World.block_lt_of_cell? _ _ hw168_3; first | rwa [add_block] at this | exact this) GW175.out)) | (show (Addr.add _ _).block ≠ _; rw [add_block]; exact Nat.ne_of_lt (Nat.lt_of_lt_of_le (by have := World.block_lt_of_cell? _ _ hw168_3; first | rwa [add_block] at this | exact this) GW175.out)) | (dsimp only; exact Nat.ne_of_lt (Nat.lt_of_lt_of_le (by have := World.block_lt_of_cell? _ _ hw168_3; first | rwa [add_block] at this | exact this) GW175.out))) _).trans (((cell_far (p := ⟨gb175, _, none⟩) (by first | exact Nat.ne_of_lt (Nat.lt_of_lt_of_le (by have := World.block_lt_of_cell? _ _ hw168_3; first | rwa [add_block] at this | exact this) GW175.out) | (rw [add_block]; exact Nat.ne_of_lt (Nat.lt_of_lt_of_le (by have := World.block_lt_of_cell? _ _ hw168_3; first | rwa [add_block] at this | exact this) GW175.out)) | (show (Addr.add _ _).block ≠ _; rw [add_block]; exact Nat.ne_of_lt (Nat.lt_of_lt_of_le (by have := World.block_lt_of_cell? _ _ hw168_3; first | rwa [add_block] at this | exact this) GW175.out)) | (dsimp only; exact Nat.ne_of_lt (Nat.lt_of_lt_of_le (by have := World.block_lt_of_cell? _ _ hw168_3; first | rwa [add_block] at this | exact this) GW175.out))) _).trans (((cell_far (p := ⟨gb175, _, none⟩) (by first | exact Nat.ne_of_lt (Nat.lt_of_lt_of_le (by have := World.block_lt_of_cell? _ _ hw168_3; first | rwa [add_block] at this | exact this) GW175.out) | (rw [add_block]; exact Nat.ne_of_lt (Nat.lt_of_lt_of_le (by have := World.block_lt_of_cell? _ _ hw168_3; first | rwa [add_block] at this | exact this) GW175.out)) | (show (Addr.add _ _).block ≠ _; rw [add_block]; exact Nat.ne_of_lt (Nat.lt_of_lt_of_le (by have := World.block_lt_of_cell? _ _ hw168_3; first | rwa [add_block] at this | exact this) GW175.out)) | (dsimp only; exact Nat.ne_of_lt (Nat.lt_of_lt_of_le (by have := World.block_lt_of_cell? _ _ hw168_3; first | rwa [add_block] at this | exact this) GW175.out))) _).trans (hHeld.2.2.2.2.2.2))))))⟩ (fun hHeld => ?_)
                    clear hK K
                    refine pure_ (i := 11) (N := some 6) (v := ?_) (a' := ?_) #[true, true, true, true, true, true, true, true, true, true, true, true] rfl rfl (any_of HT_.out (by kernel_rfl)) (fun _ _ _ h => h) (Or.inl ⟨by rfl, ?_⟩) ?_ ?_
                    rotate_left
                    · intro w'
                      go_simp
                      with_reducible rfl
                    rotate_left
                    · simp only [Act.put, List.setIfInBounds_toArray, List.set_cons_zero, List.set_cons_succ, i64_w, i32_w]
                      rfl
                    refine done_ (done_of HT_.out (by kernel_rfl)) ?_
                    try go_wp2
                    go_roundg kj5
                    case measure => have := HK1.out; have := HJ5.out; omega
                    case rel => exact ⟨(wrap64 (x4_1 + 1)), (x168000_1), (x168001_1), (x168002_1), (.slice Ao25 x168000_1.length co25), (by first | rfl | (simp; done) | (simp [*]; done)), H', ⟨by have := HK1.out; have := HJ5.out; omega⟩, ⟨by (with_reducible repeat (first | apply Kd.R_alloc | apply Kd.R_drewN | apply Kd.R_drew)); exact Kd.R_mono (Kd.R_far (p := ⟨gb175, 2, none⟩) (Kd.R_far (p := ⟨gb175, 1, none⟩) (Kd.R_far (p := ⟨gb175, 0, none⟩) (Kd.R_types HO_168000.out BK175.out (by decide)) (fun _ hk => hk.2) (.slice Ao30 t169.length co30)) (fun _ hk => hk.2) (.int .i64 t172)) (fun _ hk => hk.2) (.int .i64 t173)) (fun _ hk => trivial)⟩, ⟨by (with_reducible repeat (first | refine blk_drewN ?_ _ | refine blk_drew ?_ | refine blk_alloc ?_ _)); refine blk_far ?_ NB167_175.out _; (with_reducible repeat (first | refine blk_drewN ?_ _ | refine blk_drew ?_ | refine blk_alloc ?_ _)); refine blk_far ?_ NB167_175.out _; (with_reducible repeat (first | refine blk_drewN ?_ _ | refine blk_drew ?_ | refine blk_alloc ?_ _)); refine blk_far ?_ NB167_175.out _; (with_reducible repeat (first | refine blk_drewN ?_ _ | refine blk_drew ?_ | refine blk_alloc ?_ _)); exact BK167.out⟩, ⟨by repeat (first | (with_reducible first | exact HB.out | apply below_alloc | apply pw_below_drewN | apply below_drew1 | refine below_set ?_ GE167.out | refine below_set ?_ GE175.out) | exact HB.out)⟩⟩
                · rw [if_neg c10] at H
                  exact absurd H (by simp)
              · rw [if_neg c9] at H
                exact absurd H (by simp)
            · replace c8 := Bool.eq_false_iff.mpr c8
              subst c8
              have H1 : ((manifest_Snapshot.f x168000_1 x168001_1 x168002_1).bind fun bt176 => ((manifest_Apply.f ([] : List (S36)) 0 0 bt176.1 bt176.2.1 bt176.2.2.1 bt176.2.2.2).bind fun bt185 => (if (x168000_1.length : Int) > 1000 then (some (bt185.2.2.2 == 8)) else (if bt185.2.2.2 = 0 then ((tithebarnref16_Same.f kj5 x168000_1 x168001_1 x168002_1 bt185.1 bt185.2.1 bt185.2.2.1).bind fun t192 => (some t192)) else (some false))))) = some r := by rw [if_neg (show ¬ (false = true) by decide)] at H; exact H
              clear H
              have H := H1
              clear H1
              replace H := Option.bind_eq_some_iff.mp H
              obtain ⟨⟨t176, t179, t182, t183⟩, A340, H⟩ := H
              replace H : ((manifest_Apply.f ([] : List (S36)) 0 0 t176 t179 t182 t183).bind fun bt185 => (if (x168000_1.length : Int) > 1000 then (some (bt185.2.2.2 == 8)) else (if bt185.2.2.2 = 0 then ((tithebarnref16_Same.f kj5 x168000_1 x168001_1 x168002_1 bt185.1 bt185.2.1 bt185.2.2.1).bind fun t192 => (some t192)) else (some false)))) = some r := H
              have A34 := Aside0.mk A340
              clear A340
              replace H := Option.bind_eq_some_iff.mp H
              obtain ⟨⟨t185, t188, t189, t190⟩, A350, H⟩ := H
              replace H : (if (x168000_1.length : Int) > 1000 then (some (t190 == 8)) else (if t190 = 0 then ((tithebarnref16_Same.f kj5 x168000_1 x168001_1 x168002_1 t185 t188 t189).bind fun t192 => (some t192)) else (some false))) = some r := H
              have A35 := Aside0.mk A350
              clear A350
              by_cases c36 : (x168000_1.length : Int) > 1000
              · rw [if_pos c36] at H
                have c36b0 : decide (1000 < (x168000_1.length : Int)) = true := decide_eq_true c36
                have c36b1 : decide (1000 < x168000_1.length) = true := decide_eq_true (by omega)
                clear c36
                obtain rfl := Option.some.inj H
                have hcz37_0 : wc.cell? ⟨gb167, 0, none⟩ = some (u168000) := (blk_cell BK167.out 0).trans rfl
                have hcz37_1 : wc.cell? ⟨gb167, 1, none⟩ = some (.int .i64 x168001_1) := (blk_cell BK167.out 1).trans rfl
                have hcz37_2 : wc.cell? ⟨gb167, 2, none⟩ = some (.int .i64 x168002_1) := (blk_cell BK167.out 2).trans rfl
                have hfz37_0 := blk_frozen BK167.out 0
                have hfz37_1 := blk_frozen BK167.out 1
                have hfz37_2 := blk_frozen BK167.out 2
                obtain ⟨Ao38, co38, eo38⟩ := Kd.R_slice HO_168000.out
                subst eo38
                go_wp2_with (first | ((with_reducible refine gate_callee (f := 10) rfl ?_); refine goesL_ (some 35) rfl rfl Try.func10 (by kernel_rfl) rfl #[.agg #[.slice Ao38 x168000_1.length co38, .int .i64 x168001_1, .int .i64 x168002_1]] rfl (by (try simp only [List.map_toArray, List.map_cons, List.map_nil]); first | done | rfl | (simp only [List.length_drop, List.length_take]; rfl) | (go_simp; simp [IntKind.wrap, IntKind.bits, IntKind.signed]; omega)) ?_; (with_reducible refine (manifest_Snapshot.calls _ _ x168000_1 x168001_1 x168002_1 t176 t179 t182 t183 _ ?side1 ?side2 A34.out).mono ?_); (case side1 => repeat (first | exact (Kd.R_reads' HO_168000.out).2.2 | (with_reducible refine Kd.C_alloc ?_ _) | (with_reducible refine Kd.C_drewN ?_ _) | (with_reducible refine Kd.C_drew ?_))); (case side2 => exact (Kd.R_reads' HO_168000.out).2.1); rintro e w39 ⟨v177, v180, rfl, ho0, ho1, hb⟩; refine ⟨_, rfl, ?_⟩; have n0_ := Aside0.mk (Kd.R_elder' (by (with_reducible repeat (first | apply Kd.R_alloc | apply Kd.R_drewN | apply Kd.R_drew)); exact HO_168000.out) (Kd.R_base ho1) hb); have n1_ := Aside0.mk (Kd.R_lower ho0 (below_size (by repeat (first | (with_reducible first | exact HB.out | apply below_alloc | apply pw_below_drewN | apply below_drew1 | refine below_set ?_ GE167.out) | exact HB.out)))); have n2_ := Aside0.mk (Kd.R_lower (Kd.R_new' ho1 (Kd.R_lt (by (with_reducible repeat (first | apply Kd.R_alloc | apply Kd.R_drewN | apply Kd.R_drew)); exact HO_168000.out))) (below_size (by repeat (first | (with_reducible first | exact HB.out | apply below_alloc | apply pw_below_drewN | apply below_drew1 | refine below_set ?_ GE167.out) | exact HB.out)))); have n3_ := Aside0.mk (blk_below (g := gb167) (o := .cells #[.slice Ao38 x168000_1.length co38, .int .i64 x168001_1, .int .i64 x168002_1] 26 (0, 0)) (by (with_reducible repeat (first | refine blk_drewN ?_ _ | refine blk_drew ?_ | refine blk_alloc ?_ _)); exact BK167.out) hb); have n4_ := Aside0.mk (below_step (by repeat (first | (with_reducible first | exact HB.out | apply below_alloc | apply pw_below_drewN | apply below_drew1 | refine below_set ?_ GE167.out) | exact HB.out)) hb); clear HO_168000; clear BK167; clear HB; have HO_168000 := n0_; have HO178 := n1_; have HO181 := n2_; have BK167 := n3_; have HB := n4_; clear n0_ n1_ n2_ n3_ n4_; (try clear hb); (try clear hb2); (try clear hk); (try clear hi); (try clear ho0); (try clear ho1)) | ((with_reducible refine gate_dst (N := 7) rfl ?_); refine box_event ?hg (N := 7) ?hd (cs := #[.slice none 0 0, .slice none 0 0, .int .i64 0, .int .i64 0]) (t := 32) ?hr ?_; (case hd => rfl); (case hg => rfl); (case hr => first | (go_simp; done) | (go_simp; rfl)); intro gb184 hg w40 hbox hb; have n0_ := Aside0.mk (Kd.R_below (by (with_reducible repeat (first | apply Kd.R_alloc | apply Kd.R_drewN | apply Kd.R_drew)); exact HO_168000.out) hb); have n1_ := Aside0.mk (Kd.R_below (by (with_reducible repeat (first | apply Kd.R_alloc | apply Kd.R_drewN | apply Kd.R_drew)); exact HO178.out) hb); have n2_ := Aside0.mk (Kd.R_below (by (with_reducible repeat (first | apply Kd.R_alloc | apply Kd.R_drewN | apply Kd.R_drew)); exact HO181.out) hb); have n3_ := Aside0.mk (blk_below (g := gb167) (o := .cells #[.slice Ao38 x168000_1.length co38, .int .i64 x168001_1, .int .i64 x168002_1] 26 (0, 0)) (by (with_reducible repeat (first | refine blk_drewN ?_ _ | refine blk_drew ?_ | refine blk_alloc ?_ _)); exact BK167.out) hb); have n4_ := Aside0.mk (below_step (by repeat (first | (with_reducible first | exact HB.out | apply below_alloc | apply pw_below_drewN | apply below_drew1 | refine below_set ?_ GE167.out) | exact HB.out)) hb); have n5_ := Aside0.mk (hbox); have n6_ := Aside0.mk ((by rw [hg]; exact (below_size (by repeat (first | (with_reducible first | exact HB.out | apply below_alloc | apply pw_below_drewN | apply below_drew1 | refine below_set ?_ GE167.out) | exact HB.out))) : w.heap.size ≤ gb184)); have n7_ := Aside0.mk ((by rw [hg]; exact (below_size (by repeat (first | (with_reducible first | exact HB.out | apply below_alloc | apply pw_below_drewN | apply below_drew1 | refine below_set ?_ GE167.out) | exact HB.out))) : w.heap.size ≤ gb184)); have n8_ := Aside0.mk ((by rw [hg]; exact Nat.ne_of_lt (blk_lt (g := gb167) (o := .cells #[.slice Ao38 x168000_1.length co38, .int .i64 x168001_1, .int .i64 x168002_1] 26 (0, 0)) (by (with_reducible repeat (first | refine blk_drewN ?_ _ | refine blk_drew ?_ | refine blk_alloc ?_ _)); exact BK167.out)) : gb167 ≠ gb184)); have n9_ := Aside0.mk ((by rw [hg]; exact Nat.ne_of_gt (blk_lt (g := gb167) (o := .cells #[.slice Ao38 x168000_1.length co38, .int .i64 x168001_1, .int .i64 x168002_1] 26 (0, 0)) (by (with_reducible repeat (first | refine blk_drewN ?_ _ | refine blk_drew ?_ | refine blk_alloc ?_ _)); exact BK167.out)) : gb184 ≠ gb167)); clear HO_168000; clear HO178; clear HO181; clear BK167; clear HB; have HO_168000 := n0_; have HO178 := n1_; have HO181 := n2_; have BK167 := n3_; have HB := n4_; have BK184 := n5_; have GW184 := n6_; have GE184 := n7_; have NB167_184 := n8_; have NB184_167 := n9_; clear n0_ n1_ n2_ n3_ n4_ n5_ n6_ n7_ n8_ n9_; clear hb hbox hg; obtain ⟨Ao41, co41, eo41⟩ := Kd.R_slice HO178.out; subst eo41; have hnb42 := NB184_167.out; have hnc42 := NB167_184.out; have hcz43_0 : w40.cell? ⟨gb184, 0, none⟩ = some (.slice none 0 0) := (blk_cell BK184.out 0).trans rfl; have hcz43_1 : w40.cell? ⟨gb184, 1, none⟩ = some (.slice none 0 0) := (blk_cell BK184.out 1).trans rfl; have hcz43_2 : w40.cell? ⟨gb184, 2, none⟩ = some (.int .i64 0) := (blk_cell BK184.out 2).trans rfl; have hcz43_3 : w40.cell? ⟨gb184, 3, none⟩ = some (.int .i64 0) := (blk_cell BK184.out 3).trans rfl; have hfz43_0 := blk_frozen BK184.out 0; have hfz43_1 := blk_frozen BK184.out 1; have hfz43_2 := blk_frozen BK184.out 2; have hfz43_3 := blk_frozen BK184.out 3; obtain ⟨Ao44, co44, eo44⟩ := Kd.R_slice HO181.out; subst eo44) | ((with_reducible refine gate_callee (f := 9) rfl ?_); refine goesL_ (some 39) rfl rfl Try.func9 (by kernel_rfl) rfl #[.agg #[.slice none 0 0, .int .i64 0, .int .i64 0], .agg #[.slice Ao41 t176.length co41, .slice Ao44 t179.length co44, .int .i64 t182, .int .i64 t183]] rfl (by (try simp only [List.map_toArray, List.map_cons, List.map_nil]); first | done | rfl | (simp only [List.length_drop, List.length_take]; rfl) | (go_simp; simp [IntKind.wrap, IntKind.bits, IntKind.signed]; omega)) ?_; (refine (manifest_Apply.calls _ _ ([] : List (S36)) 0 0 _ _ t176 _ _ t179 t182 t183 t185 t188 t189 t190 _ ?side1 ?side2 ?side3 ?side4 ?side5 ?side6 A35.out).mono ?_); (case side1 => exact Kd.C_nil _ _); (case side2 => exact Nat.le_refl _); (case side3 => refine (Kd.R_reads' (e := 3) (base := w.heap.size) (ok := fun k_ => True) (n := t176.length) (c := co41) ?_).2.2; exact (by (with_reducible repeat (first | apply Kd.R_alloc | apply Kd.R_drewN | apply Kd.R_drew)); exact (Kd.R_mono (Kd.R_far (p := ⟨gb184, 3, none⟩) (Kd.R_far (p := ⟨gb184, 2, none⟩) (Kd.R_far (p := ⟨gb184, 1, none⟩) (Kd.R_far (p := ⟨gb184, 0, none⟩) (Kd.R_types HO178.out BK184.out (by decide)) (fun _ hk => hk.2) (.slice Ao41 t176.length co41)) (fun _ hk => hk.2) (.slice Ao44 t179.length co44)) (fun _ hk => hk.2) (.int .i64 t182)) (fun _ hk => hk.2) (.int .i64 t183)) (fun _ h_ => h_.1)))); (case side4 => exact (Kd.R_reads' HO178.out).2.1); (case side5 => refine (Kd.R_reads' (e := 36) (base := w.heap.size) (ok := fun k_ => (True ∧ some k_ ≠ (.slice Ao38 x168000_1.length co38 : Value).ownBlock)) (n := t179.length) (c := co44) ?_).2.2; exact (by (with_reducible repeat (first | apply Kd.R_alloc | apply Kd.R_drewN | apply Kd.R_drew)); exact (Kd.R_mono (Kd.R_far (p := ⟨gb184, 3, none⟩) (Kd.R_far (p := ⟨gb184, 2, none⟩) (Kd.R_far (p := ⟨gb184, 1, none⟩) (Kd.R_far (p := ⟨gb184, 0, none⟩) (Kd.R_types HO181.out BK184.out (by decide)) (fun _ hk => hk.2) (.slice Ao41 t176.length co41)) (fun _ hk => hk.2) (.slice Ao44 t179.length co44)) (fun _ hk => hk.2) (.int .i64 t182)) (fun _ hk => hk.2) (.int .i64 t183)) (fun _ h_ => h_.1)))); (case side6 => exact (Kd.R_reads' HO181.out).2.1); rintro e w45 ⟨v186, rfl, ho0, hb⟩; refine ⟨_, rfl, ?_⟩; have n0_ := Aside0.mk (Kd.R_elder' (by (with_reducible repeat (first | apply Kd.R_alloc | apply Kd.R_drewN | apply Kd.R_drew)); exact (Kd.R_mono (Kd.R_far (p := ⟨gb184, 3, none⟩) (Kd.R_far (p := ⟨gb184, 2, none⟩) (Kd.R_far (p := ⟨gb184, 1, none⟩) (Kd.R_far (p := ⟨gb184, 0, none⟩) (Kd.R_types HO_168000.out BK184.out (by decide)) (fun _ hk => hk.2) (.slice Ao41 t176.length co41)) (fun _ hk => hk.2) (.slice Ao44 t179.length co44)) (fun _ hk => hk.2) (.int .i64 t182)) (fun _ hk => hk.2) (.int .i64 t183)) (fun _ h_ => h_.1))) (Kd.R_base ho0) hb); have n1_ := Aside0.mk (Kd.R_below (by (with_reducible repeat (first | apply Kd.R_alloc | apply Kd.R_drewN | apply Kd.R_drew)); exact (Kd.R_mono (Kd.R_far (p := ⟨gb184, 3, none⟩) (Kd.R_far (p := ⟨gb184, 2, none⟩) (Kd.R_far (p := ⟨gb184, 1, none⟩) (Kd.R_far (p := ⟨gb184, 0, none⟩) (Kd.R_types HO178.out BK184.out (by decide)) (fun _ hk => hk.2) (.slice Ao41 t176.length co41)) (fun _ hk => hk.2) (.slice Ao44 t179.length co44)) (fun _ hk => hk.2) (.int .i64 t182)) (fun _ hk => hk.2) (.int .i64 t183)) (fun _ h_ => h_.1))) hb); have n2_ := Aside0.mk (Kd.R_elder' (by (with_reducible repeat (first | apply Kd.R_alloc | apply Kd.R_drewN | apply Kd.R_drew)); exact (Kd.R_mono (Kd.R_far (p := ⟨gb184, 3, none⟩) (Kd.R_far (p := ⟨gb184, 2, none⟩) (Kd.R_far (p := ⟨gb184, 1, none⟩) (Kd.R_far (p := ⟨gb184, 0, none⟩) (Kd.R_types HO181.out BK184.out (by decide)) (fun _ hk => hk.2) (.slice Ao41 t176.length co41)) (fun _ hk => hk.2) (.slice Ao44 t179.length co44)) (fun _ hk => hk.2) (.int .i64 t182)) (fun _ hk => hk.2) (.int .i64 t183)) (fun _ h_ => h_.1))) (Kd.R_base ho0) hb); have n3_ := Aside0.mk (Kd.R_lower (Kd.R_new' (Kd.R_new' ho0 (Kd.R_lt (by (with_reducible repeat (first | apply Kd.R_alloc | apply Kd.R_drewN | apply Kd.R_drew)); exact (Kd.R_mono (Kd.R_far (p := ⟨gb184, 3, none⟩) (Kd.R_far (p := ⟨gb184, 2, none⟩) (Kd.R_far (p := ⟨gb184, 1, none⟩) (Kd.R_far (p := ⟨gb184, 0, none⟩) (Kd.R_types HO_168000.out BK184.out (by decide)) (fun _ hk => hk.2) (.slice Ao41 t176.length co41)) (fun _ hk => hk.2) (.slice Ao44 t179.length co44)) (fun _ hk => hk.2) (.int .i64 t182)) (fun _ hk => hk.2) (.int .i64 t183)) (fun _ h_ => h_.1))))) (Kd.R_lt (by (with_reducible repeat (first | apply Kd.R_alloc | apply Kd.R_drewN | apply Kd.R_drew)); exact (Kd.R_mono (Kd.R_far (p := ⟨gb184, 3, none⟩) (Kd.R_far (p := ⟨gb184, 2, none⟩) (Kd.R_far (p := ⟨gb184, 1, none⟩) (Kd.R_far (p := ⟨gb184, 0, none⟩) (Kd.R_types HO181.out BK184.out (by decide)) (fun _ hk => hk.2) (.slice Ao41 t176.length co41)) (fun _ hk => hk.2) (.slice Ao44 t179.length co44)) (fun _ hk => hk.2) (.int .i64 t182)) (fun _ hk => hk.2) (.int .i64 t183)) (fun _ h_ => h_.1))))) (below_size (by repeat (first | (with_reducible first | exact HB.out | apply below_alloc | apply pw_below_drewN | apply below_drew1 | refine below_set ?_ GE167.out | refine below_set ?_ GE184.out) | exact HB.out)))); have n4_ := Aside0.mk (blk_below (g := gb167) (o := .cells #[.slice Ao38 x168000_1.length co38, .int .i64 x168001_1, .int .i64 x168002_1] 26 (0, 0)) (by (with_reducible repeat (first | refine blk_drewN ?_ _ | refine blk_drew ?_ | refine blk_alloc ?_ _)); refine blk_far ?_ NB167_184.out _; (with_reducible repeat (first | refine blk_drewN ?_ _ | refine blk_drew ?_ | refine blk_alloc ?_ _)); refine blk_far ?_ NB167_184.out _; (with_reducible repeat (first | refine blk_drewN ?_ _ | refine blk_drew ?_ | refine blk_alloc ?_ _)); refine blk_far ?_ NB167_184.out _; (with_reducible repeat (first | refine blk_drewN ?_ _ | refine blk_drew ?_ | refine blk_alloc ?_ _)); refine blk_far ?_ NB167_184.out _; (with_reducible repeat (first | refine blk_drewN ?_ _ | refine blk_drew ?_ | refine blk_alloc ?_ _)); exact BK167.out) hb); have n5_ := Aside0.mk (blk_below (g := gb184) (o := .cells #[.slice Ao41 t176.length co41, .slice Ao44 t179.length co44, .int .i64 t182, .int .i64 t183] 32 (0, 0)) (by (with_reducible repeat (first | refine blk_drewN ?_ _ | refine blk_drew ?_ | refine blk_alloc ?_ _)); refine blk_put (cs := #[.slice Ao41 t176.length co41, .slice Ao44 t179.length co44, .int .i64 t182, .int .i64 0]) ?_ 3 _ rfl; (with_reducible repeat (first | refine blk_drewN ?_ _ | refine blk_drew ?_ | refine blk_alloc ?_ _)); refine blk_put (cs := #[.slice Ao41 t176.length co41, .slice Ao44 t179.length co44, .int .i64 0, .int .i64 0]) ?_ 2 _ rfl; (with_reducible repeat (first | refine blk_drewN ?_ _ | refine blk_drew ?_ | refine blk_alloc ?_ _)); refine blk_put (cs := #[.slice Ao41 t176.length co41, .slice none 0 0, .int .i64 0, .int .i64 0]) ?_ 1 _ rfl; (with_reducible repeat (first | refine blk_drewN ?_ _ | refine blk_drew ?_ | refine blk_alloc ?_ _)); refine blk_put (cs := #[.slice none 0 0, .slice none 0 0, .int .i64 0, .int .i64 0]) ?_ 0 _ rfl; (with_reducible repeat (first | refine blk_drewN ?_ _ | refine blk_drew ?_ | refine blk_alloc ?_ _)); exact BK184.out) hb); have n6_ := Aside0.mk (below_step (by repeat (first | (with_reducible first | exact HB.out | apply below_alloc | apply pw_below_drewN | apply below_drew1 | refine below_set ?_ GE167.out | refine below_set ?_ GE184.out) | exact HB.out)) hb); clear HO_168000; clear HO178; clear HO181; clear BK167; clear BK184; clear HB; have HO_168000 := n0_; have HO178 := n1_; have HO181 := n2_; have HO187 := n3_; have BK167 := n4_; have BK184 := n5_; have HB := n6_; clear n0_ n1_ n2_ n3_ n4_ n5_ n6_; (try clear hb); (try clear hb2); (try clear hk); (try clear hi); (try clear ho0)) | ((with_reducible refine gate_dst (N := 8) rfl ?_); refine box_event ?hg (N := 8) ?hd (cs := #[.slice none 0 0, .int .i64 0, .int .i64 0]) (t := 26) ?hr ?_; (case hd => rfl); (case hg => rfl); (case hr => first | (go_simp; done) | (go_simp; rfl)); intro gb191 hg w46 hbox hb; have n0_ := Aside0.mk (Kd.R_below (by (with_reducible repeat (first | apply Kd.R_alloc | apply Kd.R_drewN | apply Kd.R_drew)); exact HO_168000.out) hb); have n1_ := Aside0.mk (Kd.R_below (by (with_reducible repeat (first | apply Kd.R_alloc | apply Kd.R_drewN | apply Kd.R_drew)); exact HO178.out) hb); have n2_ := Aside0.mk (Kd.R_below (by (with_reducible repeat (first | apply Kd.R_alloc | apply Kd.R_drewN | apply Kd.R_drew)); exact HO181.out) hb); have n3_ := Aside0.mk (Kd.R_below (by (with_reducible repeat (first | apply Kd.R_alloc | apply Kd.R_drewN | apply Kd.R_drew)); exact HO187.out) hb); have n4_ := Aside0.mk (blk_below (g := gb167) (o := .cells #[.slice Ao38 x168000_1.length co38, .int .i64 x168001_1, .int .i64 x168002_1] 26 (0, 0)) (by (with_reducible repeat (first | refine blk_drewN ?_ _ | refine blk_drew ?_ | refine blk_alloc ?_ _)); exact BK167.out) hb); have n5_ := Aside0.mk (blk_below (g := gb184) (o := .cells #[.slice Ao41 t176.length co41, .slice Ao44 t179.length co44, .int .i64 t182, .int .i64 t183] 32 (0, 0)) (by (with_reducible repeat (first | refine blk_drewN ?_ _ | refine blk_drew ?_ | refine blk_alloc ?_ _)); exact BK184.out) hb); have n6_ := Aside0.mk (below_step (by repeat (first | (with_reducible first | exact HB.out | apply below_alloc | apply pw_below_drewN | apply below_drew1 | refine below_set ?_ GE167.out | refine below_set ?_ GE184.out) | exact HB.out)) hb); have n7_ := Aside0.mk (hbox); have n8_ := Aside0.mk ((by rw [hg]; exact (below_size (by repeat (first | (with_reducible first | exact HB.out | apply below_alloc | apply pw_below_drewN | apply below_drew1 | refine below_set ?_ GE167.out | refine below_set ?_ GE184.out) | exact HB.out))) : w.heap.size ≤ gb191)); have n9_ := Aside0.mk ((by rw [hg]; exact (below_size (by repeat (first | (with_reducible first | exact HB.out | apply below_alloc | apply pw_below_drewN | apply below_drew1 | refine below_set ?_ GE167.out | refine below_set ?_ GE184.out) | exact HB.out))) : w.heap.size ≤ gb191)); have n10_ := Aside0.mk ((by rw [hg]; exact Nat.ne_of_lt (blk_lt (g := gb167) (o := .cells #[.slice Ao38 x168000_1.length co38, .int .i64 x168001_1, .int .i64 x168002_1] 26 (0, 0)) (by (with_reducible repeat (first | refine blk_drewN ?_ _ | refine blk_drew ?_ | refine blk_alloc ?_ _)); exact BK167.out)) : gb167 ≠ gb191)); have n11_ := Aside0.mk ((by rw [hg]; exact Nat.ne_of_gt (blk_lt (g := gb167) (o := .cells #[.slice Ao38 x168000_1.length co38, .int .i64 x168001_1, .int .i64 x168002_1] 26 (0, 0)) (by (with_reducible repeat (first | refine blk_drewN ?_ _ | refine blk_drew ?_ | refine blk_alloc ?_ _)); exact BK167.out)) : gb191 ≠ gb167)); have n12_ := Aside0.mk ((by rw [hg]; exact Nat.ne_of_lt (blk_lt (g := gb184) (o := .cells #[.slice Ao41 t176.length co41, .slice Ao44 t179.length co44, .int .i64 t182, .int .i64 t183] 32 (0, 0)) (by (with_reducible repeat (first | refine blk_drewN ?_ _ | refine blk_drew ?_ | refine blk_alloc ?_ _)); exact BK184.out)) : gb184 ≠ gb191)); have n13_ := Aside0.mk ((by rw [hg]; exact Nat.ne_of_gt (blk_lt (g := gb184) (o := .cells #[.slice Ao41 t176.length co41, .slice Ao44 t179.length co44, .int .i64 t182, .int .i64 t183] 32 (0, 0)) (by (with_reducible repeat (first | refine blk_drewN ?_ _ | refine blk_drew ?_ | refine blk_alloc ?_ _)); exact BK184.out)) : gb191 ≠ gb184)); clear HO_168000; clear HO178; clear HO181; clear HO187; clear BK167; clear BK184; clear HB; have HO_168000 := n0_; have HO178 := n1_; have HO181 := n2_; have HO187 := n3_; have BK167 := n4_; have BK184 := n5_; have HB := n6_; have BK191 := n7_; have GW191 := n8_; have GE191 := n9_; have NB167_191 := n10_; have NB191_167 := n11_; have NB184_191 := n12_; have NB191_184 := n13_; clear n0_ n1_ n2_ n3_ n4_ n5_ n6_ n7_ n8_ n9_ n10_ n11_ n12_ n13_; clear hb hbox hg; obtain ⟨Ao47, co47, eo47⟩ := Kd.R_slice HO187.out; subst eo47; have hnb48 := NB191_167.out; have hnc48 := NB167_191.out; have hnb49 := NB191_184.out; have hnc49 := NB184_191.out; have hcz50_0 : w46.cell? ⟨gb191, 0, none⟩ = some (.slice none 0 0) := (blk_cell BK191.out 0).trans rfl; have hcz50_1 : w46.cell? ⟨gb191, 1, none⟩ = some (.int .i64 0) := (blk_cell BK191.out 1).trans rfl; have hcz50_2 : w46.cell? ⟨gb191, 2, none⟩ = some (.int .i64 0) := (blk_cell BK191.out 2).trans rfl; have hfz50_0 := blk_frozen BK191.out 0; have hfz50_1 := blk_frozen BK191.out 1; have hfz50_2 := blk_frozen BK191.out 2; have hcz51_0 : w46.cell? ⟨gb167, 0, none⟩ = some (.slice Ao38 x168000_1.length co38) := (blk_cell BK167.out 0).trans rfl; have hcz51_1 : w46.cell? ⟨gb167, 1, none⟩ = some (.int .i64 x168001_1) := (blk_cell BK167.out 1).trans rfl; have hcz51_2 : w46.cell? ⟨gb167, 2, none⟩ = some (.int .i64 x168002_1) := (blk_cell BK167.out 2).trans rfl; have hfz51_0 := blk_frozen BK167.out 0; have hfz51_1 := blk_frozen BK167.out 1; have hfz51_2 := blk_frozen BK167.out 2))
                go_ret
                exact ⟨by first | rfl | (simp [errW_none, errW_some] <;> rfl) | (simp [*, errW_none, errW_some] <;> rfl), by repeat (first | (with_reducible first | exact HB.out | apply below_alloc | apply pw_below_drewN | apply below_drew1 | refine below_set ?_ GE167.out | refine below_set ?_ GE184.out | refine below_set ?_ GE191.out) | exact HB.out)⟩
              · rw [if_neg c36] at H
                have c36b0 : decide (1000 < (x168000_1.length : Int)) = false := decide_eq_false c36
                have c36b1 : decide (1000 < x168000_1.length) = false := decide_eq_false (by omega)
                clear c36
                by_cases c52 : t190 = 0
                · rw [if_pos c52] at H
                  have c52b0 : (t190 == 0) = true := beq_iff_eq.mpr c52
                  have c52b1 : (t190 != 0) = false := bne_eq_false_iff_eq.mpr c52
                  clear c52
                  replace H := Option.bind_eq_some_iff.mp H
                  obtain ⟨t192, A530, H⟩ := H
                  replace H : (some t192) = some r := H
                  have A53 := Aside0.mk A530
                  clear A530
                  obtain rfl := Option.some.inj H
                  have hcz54_0 : wc.cell? ⟨gb167, 0, none⟩ = some (u168000) := (blk_cell BK167.out 0).trans rfl
                  have hcz54_1 : wc.cell? ⟨gb167, 1, none⟩ = some (.int .i64 x168001_1) := (blk_cell BK167.out 1).trans rfl
                  have hcz54_2 : wc.cell? ⟨gb167, 2, none⟩ = some (.int .i64 x168002_1) := (blk_cell BK167.out 2).trans rfl
                  have hfz54_0 := blk_frozen BK167.out 0
                  have hfz54_1 := blk_frozen BK167.out 1
                  have hfz54_2 := blk_frozen BK167.out 2
                  obtain ⟨Ao55, co55, eo55⟩ := Kd.R_slice HO_168000.out
                  subst eo55
                  go_wp2_with (first | ((with_reducible refine gate_callee (f := 10) rfl ?_); refine goesL_ (some 35) rfl rfl Try.func10 (by kernel_rfl) rfl #[.agg #[.slice Ao55 x168000_1.length co55, .int .i64 x168001_1, .int .i64 x168002_1]] rfl (by (try simp only [List.map_toArray, List.map_cons, List.map_nil]); first | done | rfl | (simp only [List.length_drop, List.length_take]; rfl) | (go_simp; simp [IntKind.wrap, IntKind.bits, IntKind.signed]; omega)) ?_; (with_reducible refine (manifest_Snapshot.calls _ _ x168000_1 x168001_1 x168002_1 t176 t179 t182 t183 _ ?side1 ?side2 A34.out).mono ?_); (case side1 => repeat (first | exact (Kd.R_reads' HO_168000.out).2.2 | (with_reducible refine Kd.C_alloc ?_ _) | (with_reducible refine Kd.C_drewN ?_ _) | (with_reducible refine Kd.C_drew ?_))); (case side2 => exact (Kd.R_reads' HO_168000.out).2.1); rintro e w56 ⟨v177, v180, rfl, ho0, ho1, hb⟩; refine ⟨_, rfl, ?_⟩; have n0_ := Aside0.mk (Kd.R_elder' (by (with_reducible repeat (first | apply Kd.R_alloc | apply Kd.R_drewN | apply Kd.R_drew)); exact HO_168000.out) (Kd.R_base ho1) hb); have n1_ := Aside0.mk (Kd.R_lower ho0 (below_size (by repeat (first | (with_reducible first | exact HB.out | apply below_alloc | apply pw_below_drewN | apply below_drew1 | refine below_set ?_ GE167.out) | exact HB.out)))); have n2_ := Aside0.mk (Kd.R_lower (Kd.R_new' ho1 (Kd.R_lt (by (with_reducible repeat (first | apply Kd.R_alloc | apply Kd.R_drewN | apply Kd.R_drew)); exact HO_168000.out))) (below_size (by repeat (first | (with_reducible first | exact HB.out | apply below_alloc | apply pw_below_drewN | apply below_drew1 | refine below_set ?_ GE167.out) | exact HB.out)))); have n3_ := Aside0.mk (blk_below (g := gb167) (o := .cells #[.slice Ao55 x168000_1.length co55, .int .i64 x168001_1, .int .i64 x168002_1] 26 (0, 0)) (by (with_reducible repeat (first | refine blk_drewN ?_ _ | refine blk_drew ?_ | refine blk_alloc ?_ _)); exact BK167.out) hb); have n4_ := Aside0.mk (below_step (by repeat (first | (with_reducible first | exact HB.out | apply below_alloc | apply pw_below_drewN | apply below_drew1 | refine below_set ?_ GE167.out) | exact HB.out)) hb); clear HO_168000; clear BK167; clear HB; have HO_168000 := n0_; have HO178 := n1_; have HO181 := n2_; have BK167 := n3_; have HB := n4_; clear n0_ n1_ n2_ n3_ n4_; (try clear hb); (try clear hb2); (try clear hk); (try clear hi); (try clear ho0); (try clear ho1)) | ((with_reducible refine gate_dst (N := 7) rfl ?_); refine box_event ?hg (N := 7) ?hd (cs := #[.slice none 0 0, .slice none 0 0, .int .i64 0, .int .i64 0]) (t := 32) ?hr ?_; (case hd => rfl); (case hg => rfl); (case hr => first | (go_simp; done) | (go_simp; rfl)); intro gb184 hg w57 hbox hb; have n0_ := Aside0.mk (Kd.R_below (by (with_reducible repeat (first | apply Kd.R_alloc | apply Kd.R_drewN | apply Kd.R_drew)); exact HO_168000.out) hb); have n1_ := Aside0.mk (Kd.R_below (by (with_reducible repeat (first | apply Kd.R_alloc | apply Kd.R_drewN | apply Kd.R_drew)); exact HO178.out) hb); have n2_ := Aside0.mk (Kd.R_below (by (with_reducible repeat (first | apply Kd.R_alloc | apply Kd.R_drewN | apply Kd.R_drew)); exact HO181.out) hb); have n3_ := Aside0.mk (blk_below (g := gb167) (o := .cells #[.slice Ao55 x168000_1.length co55, .int .i64 x168001_1, .int .i64 x168002_1] 26 (0, 0)) (by (with_reducible repeat (first | refine blk_drewN ?_ _ | refine blk_drew ?_ | refine blk_alloc ?_ _)); exact BK167.out) hb); have n4_ := Aside0.mk (below_step (by repeat (first | (with_reducible first | exact HB.out | apply below_alloc | apply pw_below_drewN | apply below_drew1 | refine below_set ?_ GE167.out) | exact HB.out)) hb); have n5_ := Aside0.mk (hbox); have n6_ := Aside0.mk ((by rw [hg]; exact (below_size (by repeat (first | (with_reducible first | exact HB.out | apply below_alloc | apply pw_below_drewN | apply below_drew1 | refine below_set ?_ GE167.out) | exact HB.out))) : w.heap.size ≤ gb184)); have n7_ := Aside0.mk ((by rw [hg]; exact (below_size (by repeat (first | (with_reducible first | exact HB.out | apply below_alloc | apply pw_below_drewN | apply below_drew1 | refine below_set ?_ GE167.out) | exact HB.out))) : w.heap.size ≤ gb184)); have n8_ := Aside0.mk ((by rw [hg]; exact Nat.ne_of_lt (blk_lt (g := gb167) (o := .cells #[.slice Ao55 x168000_1.length co55, .int .i64 x168001_1, .int .i64 x168002_1] 26 (0, 0)) (by (with_reducible repeat (first | refine blk_drewN ?_ _ | refine blk_drew ?_ | refine blk_alloc ?_ _)); exact BK167.out)) : gb167 ≠ gb184)); have n9_ := Aside0.mk ((by rw [hg]; exact Nat.ne_of_gt (blk_lt (g := gb167) (o := .cells #[.slice Ao55 x168000_1.length co55, .int .i64 x168001_1, .int .i64 x168002_1] 26 (0, 0)) (by (with_reducible repeat (first | refine blk_drewN ?_ _ | refine blk_drew ?_ | refine blk_alloc ?_ _)); exact BK167.out)) : gb184 ≠ gb167)); clear HO_168000; clear HO178; clear HO181; clear BK167; clear HB; have HO_168000 := n0_; have HO178 := n1_; have HO181 := n2_; have BK167 := n3_; have HB := n4_; have BK184 := n5_; have GW184 := n6_; have GE184 := n7_; have NB167_184 := n8_; have NB184_167 := n9_; clear n0_ n1_ n2_ n3_ n4_ n5_ n6_ n7_ n8_ n9_; clear hb hbox hg; obtain ⟨Ao58, co58, eo58⟩ := Kd.R_slice HO178.out; subst eo58; have hnb59 := NB184_167.out; have hnc59 := NB167_184.out; have hcz60_0 : w57.cell? ⟨gb184, 0, none⟩ = some (.slice none 0 0) := (blk_cell BK184.out 0).trans rfl; have hcz60_1 : w57.cell? ⟨gb184, 1, none⟩ = some (.slice none 0 0) := (blk_cell BK184.out 1).trans rfl; have hcz60_2 : w57.cell? ⟨gb184, 2, none⟩ = some (.int .i64 0) := (blk_cell BK184.out 2).trans rfl; have hcz60_3 : w57.cell? ⟨gb184, 3, none⟩ = some (.int .i64 0) := (blk_cell BK184.out 3).trans rfl; have hfz60_0 := blk_frozen BK184.out 0; have hfz60_1 := blk_frozen BK184.out 1; have hfz60_2 := blk_frozen BK184.out 2; have hfz60_3 := blk_frozen BK184.out 3; obtain ⟨Ao61, co61, eo61⟩ := Kd.R_slice HO181.out; subst eo61) | ((with_reducible refine gate_callee (f := 9) rfl ?_); refine goesL_ (some 39) rfl rfl Try.func9 (by kernel_rfl) rfl #[.agg #[.slice none 0 0, .int .i64 0, .int .i64 0], .agg #[.slice Ao58 t176.length co58, .slice Ao61 t179.length co61, .int .i64 t182, .int .i64 t183]] rfl (by (try simp only [List.map_toArray, List.map_cons, List.map_nil]); first | done | rfl | (simp only [List.length_drop, List.length_take]; rfl) | (go_simp; simp [IntKind.wrap, IntKind.bits, IntKind.signed]; omega)) ?_; (refine (manifest_Apply.calls _ _ ([] : List (S36)) 0 0 _ _ t176 _ _ t179 t182 t183 t185 t188 t189 t190 _ ?side1 ?side2 ?side3 ?side4 ?side5 ?side6 A35.out).mono ?_); (case side1 => exact Kd.C_nil _ _); (case side2 => exact Nat.le_refl _); (case side3 => refine (Kd.R_reads' (e := 3) (base := w.heap.size) (ok := fun k_ => True) (n := t176.length) (c := co58) ?_).2.2; exact (by (with_reducible repeat (first | apply Kd.R_alloc | apply Kd.R_drewN | apply Kd.R_drew)); exact (Kd.R_mono (Kd.R_far (p := ⟨gb184, 3, none⟩) (Kd.R_far (p := ⟨gb184, 2, none⟩) (Kd.R_far (p := ⟨gb184, 1, none⟩) (Kd.R_far (p := ⟨gb184, 0, none⟩) (Kd.R_types HO178.out BK184.out (by decide)) (fun _ hk => hk.2) (.slice Ao58 t176.length co58)) (fun _ hk => hk.2) (.slice Ao61 t179.length co61)) (fun _ hk => hk.2) (.int .i64 t182)) (fun _ hk => hk.2) (.int .i64 t183)) (fun _ h_ => h_.1)))); (case side4 => exact (Kd.R_reads' HO178.out).2.1); (case side5 => refine (Kd.R_reads' (e := 36) (base := w.heap.size) (ok := fun k_ => (True ∧ some k_ ≠ (.slice Ao55 x168000_1.length co55 : Value).ownBlock)) (n := t179.length) (c := co61) ?_).2.2; exact (by (with_reducible repeat (first | apply Kd.R_alloc | apply Kd.R_drewN | apply Kd.R_drew)); exact (Kd.R_mono (Kd.R_far (p := ⟨gb184, 3, none⟩) (Kd.R_far (p := ⟨gb184, 2, none⟩) (Kd.R_far (p := ⟨gb184, 1, none⟩) (Kd.R_far (p := ⟨gb184, 0, none⟩) (Kd.R_types HO181.out BK184.out (by decide)) (fun _ hk => hk.2) (.slice Ao58 t176.length co58)) (fun _ hk => hk.2) (.slice Ao61 t179.length co61)) (fun _ hk => hk.2) (.int .i64 t182)) (fun _ hk => hk.2) (.int .i64 t183)) (fun _ h_ => h_.1)))); (case side6 => exact (Kd.R_reads' HO181.out).2.1); rintro e w62 ⟨v186, rfl, ho0, hb⟩; refine ⟨_, rfl, ?_⟩; have n0_ := Aside0.mk (Kd.R_elder' (by (with_reducible repeat (first | apply Kd.R_alloc | apply Kd.R_drewN | apply Kd.R_drew)); exact (Kd.R_mono (Kd.R_far (p := ⟨gb184, 3, none⟩) (Kd.R_far (p := ⟨gb184, 2, none⟩) (Kd.R_far (p := ⟨gb184, 1, none⟩) (Kd.R_far (p := ⟨gb184, 0, none⟩) (Kd.R_types HO_168000.out BK184.out (by decide)) (fun _ hk => hk.2) (.slice Ao58 t176.length co58)) (fun _ hk => hk.2) (.slice Ao61 t179.length co61)) (fun _ hk => hk.2) (.int .i64 t182)) (fun _ hk => hk.2) (.int .i64 t183)) (fun _ h_ => h_.1))) (Kd.R_base ho0) hb); have n1_ := Aside0.mk (Kd.R_below (by (with_reducible repeat (first | apply Kd.R_alloc | apply Kd.R_drewN | apply Kd.R_drew)); exact (Kd.R_mono (Kd.R_far (p := ⟨gb184, 3, none⟩) (Kd.R_far (p := ⟨gb184, 2, none⟩) (Kd.R_far (p := ⟨gb184, 1, none⟩) (Kd.R_far (p := ⟨gb184, 0, none⟩) (Kd.R_types HO178.out BK184.out (by decide)) (fun _ hk => hk.2) (.slice Ao58 t176.length co58)) (fun _ hk => hk.2) (.slice Ao61 t179.length co61)) (fun _ hk => hk.2) (.int .i64 t182)) (fun _ hk => hk.2) (.int .i64 t183)) (fun _ h_ => h_.1))) hb); have n2_ := Aside0.mk (Kd.R_elder' (by (with_reducible repeat (first | apply Kd.R_alloc | apply Kd.R_drewN | apply Kd.R_drew)); exact (Kd.R_mono (Kd.R_far (p := ⟨gb184, 3, none⟩) (Kd.R_far (p := ⟨gb184, 2, none⟩) (Kd.R_far (p := ⟨gb184, 1, none⟩) (Kd.R_far (p := ⟨gb184, 0, none⟩) (Kd.R_types HO181.out BK184.out (by decide)) (fun _ hk => hk.2) (.slice Ao58 t176.length co58)) (fun _ hk => hk.2) (.slice Ao61 t179.length co61)) (fun _ hk => hk.2) (.int .i64 t182)) (fun _ hk => hk.2) (.int .i64 t183)) (fun _ h_ => h_.1))) (Kd.R_base ho0) hb); have n3_ := Aside0.mk (Kd.R_lower (Kd.R_new' (Kd.R_new' ho0 (Kd.R_lt (by (with_reducible repeat (first | apply Kd.R_alloc | apply Kd.R_drewN | apply Kd.R_drew)); exact (Kd.R_mono (Kd.R_far (p := ⟨gb184, 3, none⟩) (Kd.R_far (p := ⟨gb184, 2, none⟩) (Kd.R_far (p := ⟨gb184, 1, none⟩) (Kd.R_far (p := ⟨gb184, 0, none⟩) (Kd.R_types HO_168000.out BK184.out (by decide)) (fun _ hk => hk.2) (.slice Ao58 t176.length co58)) (fun _ hk => hk.2) (.slice Ao61 t179.length co61)) (fun _ hk => hk.2) (.int .i64 t182)) (fun _ hk => hk.2) (.int .i64 t183)) (fun _ h_ => h_.1))))) (Kd.R_lt (by (with_reducible repeat (first | apply Kd.R_alloc | apply Kd.R_drewN | apply Kd.R_drew)); exact (Kd.R_mono (Kd.R_far (p := ⟨gb184, 3, none⟩) (Kd.R_far (p := ⟨gb184, 2, none⟩) (Kd.R_far (p := ⟨gb184, 1, none⟩) (Kd.R_far (p := ⟨gb184, 0, none⟩) (Kd.R_types HO181.out BK184.out (by decide)) (fun _ hk => hk.2) (.slice Ao58 t176.length co58)) (fun _ hk => hk.2) (.slice Ao61 t179.length co61)) (fun _ hk => hk.2) (.int .i64 t182)) (fun _ hk => hk.2) (.int .i64 t183)) (fun _ h_ => h_.1))))) (below_size (by repeat (first | (with_reducible first | exact HB.out | apply below_alloc | apply pw_below_drewN | apply below_drew1 | refine below_set ?_ GE167.out | refine below_set ?_ GE184.out) | exact HB.out)))); have n4_ := Aside0.mk (blk_below (g := gb167) (o := .cells #[.slice Ao55 x168000_1.length co55, .int .i64 x168001_1, .int .i64 x168002_1] 26 (0, 0)) (by (with_reducible repeat (first | refine blk_drewN ?_ _ | refine blk_drew ?_ | refine blk_alloc ?_ _)); refine blk_far ?_ NB167_184.out _; (with_reducible repeat (first | refine blk_drewN ?_ _ | refine blk_drew ?_ | refine blk_alloc ?_ _)); refine blk_far ?_ NB167_184.out _; (with_reducible repeat (first | refine blk_drewN ?_ _ | refine blk_drew ?_ | refine blk_alloc ?_ _)); refine blk_far ?_ NB167_184.out _; (with_reducible repeat (first | refine blk_drewN ?_ _ | refine blk_drew ?_ | refine blk_alloc ?_ _)); refine blk_far ?_ NB167_184.out _; (with_reducible repeat (first | refine blk_drewN ?_ _ | refine blk_drew ?_ | refine blk_alloc ?_ _)); exact BK167.out) hb); have n5_ := Aside0.mk (blk_below (g := gb184) (o := .cells #[.slice Ao58 t176.length co58, .slice Ao61 t179.length co61, .int .i64 t182, .int .i64 t183] 32 (0, 0)) (by (with_reducible repeat (first | refine blk_drewN ?_ _ | refine blk_drew ?_ | refine blk_alloc ?_ _)); refine blk_put (cs := #[.slice Ao58 t176.length co58, .slice Ao61 t179.length co61, .int .i64 t182, .int .i64 0]) ?_ 3 _ rfl; (with_reducible repeat (first | refine blk_drewN ?_ _ | refine blk_drew ?_ | refine blk_alloc ?_ _)); refine blk_put (cs := #[.slice Ao58 t176.length co58, .slice Ao61 t179.length co61, .int .i64 0, .int .i64 0]) ?_ 2 _ rfl; (with_reducible repeat (first | refine blk_drewN ?_ _ | refine blk_drew ?_ | refine blk_alloc ?_ _)); refine blk_put (cs := #[.slice Ao58 t176.length co58, .slice none 0 0, .int .i64 0, .int .i64 0]) ?_ 1 _ rfl; (with_reducible repeat (first | refine blk_drewN ?_ _ | refine blk_drew ?_ | refine blk_alloc ?_ _)); refine blk_put (cs := #[.slice none 0 0, .slice none 0 0, .int .i64 0, .int .i64 0]) ?_ 0 _ rfl; (with_reducible repeat (first | refine blk_drewN ?_ _ | refine blk_drew ?_ | refine blk_alloc ?_ _)); exact BK184.out) hb); have n6_ := Aside0.mk (below_step (by repeat (first | (with_reducible first | exact HB.out | apply below_alloc | apply pw_below_drewN | apply below_drew1 | refine below_set ?_ GE167.out | refine below_set ?_ GE184.out) | exact HB.out)) hb); clear HO_168000; clear HO178; clear HO181; clear BK167; clear BK184; clear HB; have HO_168000 := n0_; have HO178 := n1_; have HO181 := n2_; have HO187 := n3_; have BK167 := n4_; have BK184 := n5_; have HB := n6_; clear n0_ n1_ n2_ n3_ n4_ n5_ n6_; (try clear hb); (try clear hb2); (try clear hk); (try clear hi); (try clear ho0)) | ((with_reducible refine gate_dst (N := 8) rfl ?_); refine box_event ?hg (N := 8) ?hd (cs := #[.slice none 0 0, .int .i64 0, .int .i64 0]) (t := 26) ?hr ?_; (case hd => rfl); (case hg => rfl); (case hr => first | (go_simp; done) | (go_simp; rfl)); intro gb191 hg w63 hbox hb; have n0_ := Aside0.mk (Kd.R_below (by (with_reducible repeat (first | apply Kd.R_alloc | apply Kd.R_drewN | apply Kd.R_drew)); exact HO_168000.out) hb); have n1_ := Aside0.mk (Kd.R_below (by (with_reducible repeat (first | apply Kd.R_alloc | apply Kd.R_drewN | apply Kd.R_drew)); exact HO178.out) hb); have n2_ := Aside0.mk (Kd.R_below (by (with_reducible repeat (first | apply Kd.R_alloc | apply Kd.R_drewN | apply Kd.R_drew)); exact HO181.out) hb); have n3_ := Aside0.mk (Kd.R_below (by (with_reducible repeat (first | apply Kd.R_alloc | apply Kd.R_drewN | apply Kd.R_drew)); exact HO187.out) hb); have n4_ := Aside0.mk (blk_below (g := gb167) (o := .cells #[.slice Ao55 x168000_1.length co55, .int .i64 x168001_1, .int .i64 x168002_1] 26 (0, 0)) (by (with_reducible repeat (first | refine blk_drewN ?_ _ | refine blk_drew ?_ | refine blk_alloc ?_ _)); exact BK167.out) hb); have n5_ := Aside0.mk (blk_below (g := gb184) (o := .cells #[.slice Ao58 t176.length co58, .slice Ao61 t179.length co61, .int .i64 t182, .int .i64 t183] 32 (0, 0)) (by (with_reducible repeat (first | refine blk_drewN ?_ _ | refine blk_drew ?_ | refine blk_alloc ?_ _)); exact BK184.out) hb); have n6_ := Aside0.mk (below_step (by repeat (first | (with_reducible first | exact HB.out | apply below_alloc | apply pw_below_drewN | apply below_drew1 | refine below_set ?_ GE167.out | refine below_set ?_ GE184.out) | exact HB.out)) hb); have n7_ := Aside0.mk (hbox); have n8_ := Aside0.mk ((by rw [hg]; exact (below_size (by repeat (first | (with_reducible first | exact HB.out | apply below_alloc | apply pw_below_drewN | apply below_drew1 | refine below_set ?_ GE167.out | refine below_set ?_ GE184.out) | exact HB.out))) : w.heap.size ≤ gb191)); have n9_ := Aside0.mk ((by rw [hg]; exact (below_size (by repeat (first | (with_reducible first | exact HB.out | apply below_alloc | apply pw_below_drewN | apply below_drew1 | refine below_set ?_ GE167.out | refine below_set ?_ GE184.out) | exact HB.out))) : w.heap.size ≤ gb191)); have n10_ := Aside0.mk ((by rw [hg]; exact Nat.ne_of_lt (blk_lt (g := gb167) (o := .cells #[.slice Ao55 x168000_1.length co55, .int .i64 x168001_1, .int .i64 x168002_1] 26 (0, 0)) (by (with_reducible repeat (first | refine blk_drewN ?_ _ | refine blk_drew ?_ | refine blk_alloc ?_ _)); exact BK167.out)) : gb167 ≠ gb191)); have n11_ := Aside0.mk ((by rw [hg]; exact Nat.ne_of_gt (blk_lt (g := gb167) (o := .cells #[.slice Ao55 x168000_1.length co55, .int .i64 x168001_1, .int .i64 x168002_1] 26 (0, 0)) (by (with_reducible repeat (first | refine blk_drewN ?_ _ | refine blk_drew ?_ | refine blk_alloc ?_ _)); exact BK167.out)) : gb191 ≠ gb167)); have n12_ := Aside0.mk ((by rw [hg]; exact Nat.ne_of_lt (blk_lt (g := gb184) (o := .cells #[.slice Ao58 t176.length co58, .slice Ao61 t179.length co61, .int .i64 t182, .int .i64 t183] 32 (0, 0)) (by (with_reducible repeat (first | refine blk_drewN ?_ _ | refine blk_drew ?_ | refine blk_alloc ?_ _)); exact BK184.out)) : gb184 ≠ gb191)); have n13_ := Aside0.mk ((by rw [hg]; exact Nat.ne_of_gt (blk_lt (g := gb184) (o := .cells #[.slice Ao58 t176.length co58, .slice Ao61 t179.length co61, .int .i64 t182, .int .i64 t183] 32 (0, 0)) (by (with_reducible repeat (first | refine blk_drewN ?_ _ | refine blk_drew ?_ | refine blk_alloc ?_ _)); exact BK184.out)) : gb191 ≠ gb184)); clear HO_168000; clear HO178; clear HO181; clear HO187; clear BK167; clear BK184; clear HB; have HO_168000 := n0_; have HO178 := n1_; have HO181 := n2_; have HO187 := n3_; have BK167 := n4_; have BK184 := n5_; have HB := n6_; have BK191 := n7_; have GW191 := n8_; have GE191 := n9_; have NB167_191 := n10_; have NB191_167 := n11_; have NB184_191 := n12_; have NB191_184 := n13_; clear n0_ n1_ n2_ n3_ n4_ n5_ n6_ n7_ n8_ n9_ n10_ n11_ n12_ n13_; clear hb hbox hg; obtain ⟨Ao64, co64, eo64⟩ := Kd.R_slice HO187.out; subst eo64; have hnb65 := NB191_167.out; have hnc65 := NB167_191.out; have hnb66 := NB191_184.out; have hnc66 := NB184_191.out; have hcz67_0 : w63.cell? ⟨gb191, 0, none⟩ = some (.slice none 0 0) := (blk_cell BK191.out 0).trans rfl; have hcz67_1 : w63.cell? ⟨gb191, 1, none⟩ = some (.int .i64 0) := (blk_cell BK191.out 1).trans rfl; have hcz67_2 : w63.cell? ⟨gb191, 2, none⟩ = some (.int .i64 0) := (blk_cell BK191.out 2).trans rfl; have hfz67_0 := blk_frozen BK191.out 0; have hfz67_1 := blk_frozen BK191.out 1; have hfz67_2 := blk_frozen BK191.out 2; have hcz68_0 : w63.cell? ⟨gb167, 0, none⟩ = some (.slice Ao55 x168000_1.length co55) := (blk_cell BK167.out 0).trans rfl; have hcz68_1 : w63.cell? ⟨gb167, 1, none⟩ = some (.int .i64 x168001_1) := (blk_cell BK167.out 1).trans rfl; have hcz68_2 : w63.cell? ⟨gb167, 2, none⟩ = some (.int .i64 x168002_1) := (blk_cell BK167.out 2).trans rfl; have hfz68_0 := blk_frozen BK167.out 0; have hfz68_1 := blk_frozen BK167.out 1; have hfz68_2 := blk_frozen BK167.out 2) | (go_at_call 11; (with_reducible refine (tithebarnref16_Same.calls kj5 _ _ x168000_1 x168001_1 x168002_1 _ _ t185 t188 t189 t192 _ ?side1 ?side2 ?side3 ?side4 A53.out).mono ?_); (case side1 => refine (Kd.R_reads' (e := 36) (base := w.heap.size) (ok := fun k_ => ((True ∧ some k_ ≠ (.slice Ao61 t179.length co61 : Value).ownBlock) ∧ some k_ ≠ (.slice Ao64 t185.length co64 : Value).ownBlock)) (n := x168000_1.length) (c := co55) ?_).2.2; exact (by (with_reducible repeat (first | apply Kd.R_alloc | apply Kd.R_drewN | apply Kd.R_drew)); exact (Kd.R_mono (Kd.R_far (p := ⟨gb191, 2, none⟩) (Kd.R_far (p := ⟨gb191, 1, none⟩) (Kd.R_far (p := ⟨gb191, 0, none⟩) (Kd.R_types HO_168000.out BK191.out (by decide)) (fun _ hk => hk.2) (.slice Ao64 t185.length co64)) (fun _ hk => hk.2) (.int .i64 t188)) (fun _ hk => hk.2) (.int .i64 t189)) (fun _ h_ => h_.1)))); (case side2 => exact (Kd.R_reads' HO_168000.out).2.1); (case side3 => refine (Kd.R_reads' (e := 36) (base := w.heap.size) (ok := fun k_ => ((True ∧ some k_ ≠ (.slice Ao55 x168000_1.length co55 : Value).ownBlock) ∧ some k_ ≠ (.slice Ao61 t179.length co61 : Value).ownBlock)) (n := t185.length) (c := co64) ?_).2.2; exact (by (with_reducible repeat (first | apply Kd.R_alloc | apply Kd.R_drewN | apply Kd.R_drew)); exact (Kd.R_mono (Kd.R_far (p := ⟨gb191, 2, none⟩) (Kd.R_far (p := ⟨gb191, 1, none⟩) (Kd.R_far (p := ⟨gb191, 0, none⟩) (Kd.R_types HO187.out BK191.out (by decide)) (fun _ hk => hk.2) (.slice Ao64 t185.length co64)) (fun _ hk => hk.2) (.int .i64 t188)) (fun _ hk => hk.2) (.int .i64 t189)) (fun _ h_ => h_.1)))); (case side4 => exact (Kd.R_reads' HO187.out).2.1); rintro e w69 ⟨rfl, hb⟩; have n0_ := Aside0.mk (Kd.R_below (by (with_reducible repeat (first | apply Kd.R_alloc | apply Kd.R_drewN | apply Kd.R_drew)); exact (Kd.R_mono (Kd.R_far (p := ⟨gb191, 2, none⟩) (Kd.R_far (p := ⟨gb191, 1, none⟩) (Kd.R_far (p := ⟨gb191, 0, none⟩) (Kd.R_types HO_168000.out BK191.out (by decide)) (fun _ hk => hk.2) (.slice Ao64 t185.length co64)) (fun _ hk => hk.2) (.int .i64 t188)) (fun _ hk => hk.2) (.int .i64 t189)) (fun _ h_ => h_.1))) hb); have n1_ := Aside0.mk (Kd.R_below (by (with_reducible repeat (first | apply Kd.R_alloc | apply Kd.R_drewN | apply Kd.R_drew)); exact (Kd.R_mono (Kd.R_far (p := ⟨gb191, 2, none⟩) (Kd.R_far (p := ⟨gb191, 1, none⟩) (Kd.R_far (p := ⟨gb191, 0, none⟩) (Kd.R_types HO178.out BK191.out (by decide)) (fun _ hk => hk.2) (.slice Ao64 t185.length co64)) (fun _ hk => hk.2) (.int .i64 t188)) (fun _ hk => hk.2) (.int .i64 t189)) (fun _ h_ => h_.1))) hb); have n2_ := Aside0.mk (Kd.R_below (by (with_reducible repeat (first | apply Kd.R_alloc | apply Kd.R_drewN | apply Kd.R_drew)); exact (Kd.R_mono (Kd.R_far (p := ⟨gb191, 2, none⟩) (Kd.R_far (p := ⟨gb191, 1, none⟩) (Kd.R_far (p := ⟨gb191, 0, none⟩) (Kd.R_types HO181.out BK191.out (by decide)) (fun _ hk => hk.2) (.slice Ao64 t185.length co64)) (fun _ hk => hk.2) (.int .i64 t188)) (fun _ hk => hk.2) (.int .i64 t189)) (fun _ h_ => h_.1))) hb); have n3_ := Aside0.mk (Kd.R_below (by (with_reducible repeat (first | apply Kd.R_alloc | apply Kd.R_drewN | apply Kd.R_drew)); exact (Kd.R_mono (Kd.R_far (p := ⟨gb191, 2, none⟩) (Kd.R_far (p := ⟨gb191, 1, none⟩) (Kd.R_far (p := ⟨gb191, 0, none⟩) (Kd.R_types HO187.out BK191.out (by decide)) (fun _ hk => hk.2) (.slice Ao64 t185.length co64)) (fun _ hk => hk.2) (.int .i64 t188)) (fun _ hk => hk.2) (.int .i64 t189)) (fun _ h_ => h_.1))) hb); have n4_ := Aside0.mk (blk_below (g := gb167) (o := .cells #[.slice Ao55 x168000_1.length co55, .int .i64 x168001_1, .int .i64 x168002_1] 26 (0, 0)) (by (with_reducible repeat (first | refine blk_drewN ?_ _ | refine blk_drew ?_ | refine blk_alloc ?_ _)); refine blk_far ?_ NB167_191.out _; (with_reducible repeat (first | refine blk_drewN ?_ _ | refine blk_drew ?_ | refine blk_alloc ?_ _)); refine blk_far ?_ NB167_191.out _; (with_reducible repeat (first | refine blk_drewN ?_ _ | refine blk_drew ?_ | refine blk_alloc ?_ _)); refine blk_far ?_ NB167_191.out _; (with_reducible repeat (first | refine blk_drewN ?_ _ | refine blk_drew ?_ | refine blk_alloc ?_ _)); exact BK167.out) hb); have n5_ := Aside0.mk (blk_below (g := gb184) (o := .cells #[.slice Ao58 t176.length co58, .slice Ao61 t179.length co61, .int .i64 t182, .int .i64 t183] 32 (0, 0)) (by (with_reducible repeat (first | refine blk_drewN ?_ _ | refine blk_drew ?_ | refine blk_alloc ?_ _)); refine blk_far ?_ NB184_191.out _; (with_reducible repeat (first | refine blk_drewN ?_ _ | refine blk_drew ?_ | refine blk_alloc ?_ _)); refine blk_far ?_ NB184_191.out _; (with_reducible repeat (first | refine blk_drewN ?_ _ | refine blk_drew ?_ | refine blk_alloc ?_ _)); refine blk_far ?_ NB184_191.out _; (with_reducible repeat (first | refine blk_drewN ?_ _ | refine blk_drew ?_ | refine blk_alloc ?_ _)); exact BK184.out) hb); have n6_ := Aside0.mk (blk_below (g := gb191) (o := .cells #[.slice Ao64 t185.length co64, .int .i64 t188, .int .i64 t189] 26 (0, 0)) (by (with_reducible repeat (first | refine blk_drewN ?_ _ | refine blk_drew ?_ | refine blk_alloc ?_ _)); refine blk_put (cs := #[.slice Ao64 t185.length co64, .int .i64 t188, .int .i64 0]) ?_ 2 _ rfl; (with_reducible repeat (first | refine blk_drewN ?_ _ | refine blk_drew ?_ | refine blk_alloc ?_ _)); refine blk_put (cs := #[.slice Ao64 t185.length co64, .int .i64 0, .int .i64 0]) ?_ 1 _ rfl; (with_reducible repeat (first | refine blk_drewN ?_ _ | refine blk_drew ?_ | refine blk_alloc ?_ _)); refine blk_put (cs := #[.slice none 0 0, .int .i64 0, .int .i64 0]) ?_ 0 _ rfl; (with_reducible repeat (first | refine blk_drewN ?_ _ | refine blk_drew ?_ | refine blk_alloc ?_ _)); exact BK191.out) hb); have n7_ := Aside0.mk (below_step (by repeat (first | (with_reducible first | exact HB.out | apply below_alloc | apply pw_below_drewN | apply below_drew1 | refine below_set ?_ GE167.out | refine below_set ?_ GE184.out | refine below_set ?_ GE191.out) | exact HB.out)) hb); clear HO_168000; clear HO178; clear HO181; clear HO187; clear BK167; clear BK184; clear BK191; clear HB; have HO_168000 := n0_; have HO178 := n1_; have HO181 := n2_; have HO187 := n3_; have BK167 := n4_; have BK184 := n5_; have BK191 := n6_; have HB := n7_; clear n0_ n1_ n2_ n3_ n4_ n5_ n6_ n7_; (try clear hb); (try clear hb2); (try clear hk); (try clear hi)))
                  go_ret
                  exact ⟨by first | rfl | (simp [errW_none, errW_some] <;> rfl) | (simp [*, errW_none, errW_some] <;> rfl), by repeat (first | (with_reducible first | exact HB.out | apply below_alloc | apply pw_below_drewN | apply below_drew1 | refine below_set ?_ GE167.out | refine below_set ?_ GE184.out | refine below_set ?_ GE191.out) | exact HB.out)⟩
                · rw [if_neg c52] at H
                  have c52b0 : (t190 == 0) = false := beq_eq_false_iff_ne.mpr c52
                  have c52b1 : (t190 != 0) = true := bne_iff_ne.mpr c52
                  obtain rfl := Option.some.inj H
                  have hcz70_0 : wc.cell? ⟨gb167, 0, none⟩ = some (u168000) := (blk_cell BK167.out 0).trans rfl
                  have hcz70_1 : wc.cell? ⟨gb167, 1, none⟩ = some (.int .i64 x168001_1) := (blk_cell BK167.out 1).trans rfl
                  have hcz70_2 : wc.cell? ⟨gb167, 2, none⟩ = some (.int .i64 x168002_1) := (blk_cell BK167.out 2).trans rfl
                  have hfz70_0 := blk_frozen BK167.out 0
                  have hfz70_1 := blk_frozen BK167.out 1
                  have hfz70_2 := blk_frozen BK167.out 2
                  obtain ⟨Ao71, co71, eo71⟩ := Kd.R_slice HO_168000.out
                  subst eo71
                  go_wp2_with (first | ((with_reducible refine gate_callee (f := 10) rfl ?_); refine goesL_ (some 35) rfl rfl Try.func10 (by kernel_rfl) rfl #[.agg #[.slice Ao71 x168000_1.length co71, .int .i64 x168001_1, .int .i64 x168002_1]] rfl (by (try simp only [List.map_toArray, List.map_cons, List.map_nil]); first | done | rfl | (simp only [List.length_drop, List.length_take]; rfl) | (go_simp; simp [IntKind.wrap, IntKind.bits, IntKind.signed]; omega)) ?_; (with_reducible refine (manifest_Snapshot.calls _ _ x168000_1 x168001_1 x168002_1 t176 t179 t182 t183 _ ?side1 ?side2 A34.out).mono ?_); (case side1 => repeat (first | exact (Kd.R_reads' HO_168000.out).2.2 | (with_reducible refine Kd.C_alloc ?_ _) | (with_reducible refine Kd.C_drewN ?_ _) | (with_reducible refine Kd.C_drew ?_))); (case side2 => exact (Kd.R_reads' HO_168000.out).2.1); rintro e w72 ⟨v177, v180, rfl, ho0, ho1, hb⟩; refine ⟨_, rfl, ?_⟩; have n0_ := Aside0.mk (Kd.R_elder' (by (with_reducible repeat (first | apply Kd.R_alloc | apply Kd.R_drewN | apply Kd.R_drew)); exact HO_168000.out) (Kd.R_base ho1) hb); have n1_ := Aside0.mk (Kd.R_lower ho0 (below_size (by repeat (first | (with_reducible first | exact HB.out | apply below_alloc | apply pw_below_drewN | apply below_drew1 | refine below_set ?_ GE167.out) | exact HB.out)))); have n2_ := Aside0.mk (Kd.R_lower (Kd.R_new' ho1 (Kd.R_lt (by (with_reducible repeat (first | apply Kd.R_alloc | apply Kd.R_drewN | apply Kd.R_drew)); exact HO_168000.out))) (below_size (by repeat (first | (with_reducible first | exact HB.out | apply below_alloc | apply pw_below_drewN | apply below_drew1 | refine below_set ?_ GE167.out) | exact HB.out)))); have n3_ := Aside0.mk (blk_below (g := gb167) (o := .cells #[.slice Ao71 x168000_1.length co71, .int .i64 x168001_1, .int .i64 x168002_1] 26 (0, 0)) (by (with_reducible repeat (first | refine blk_drewN ?_ _ | refine blk_drew ?_ | refine blk_alloc ?_ _)); exact BK167.out) hb); have n4_ := Aside0.mk (below_step (by repeat (first | (with_reducible first | exact HB.out | apply below_alloc | apply pw_below_drewN | apply below_drew1 | refine below_set ?_ GE167.out) | exact HB.out)) hb); clear HO_168000; clear BK167; clear HB; have HO_168000 := n0_; have HO178 := n1_; have HO181 := n2_; have BK167 := n3_; have HB := n4_; clear n0_ n1_ n2_ n3_ n4_; (try clear hb); (try clear hb2); (try clear hk); (try clear hi); (try clear ho0); (try clear ho1)) | ((with_reducible refine gate_dst (N := 7) rfl ?_); refine box_event ?hg (N := 7) ?hd (cs := #[.slice none 0 0, .slice none 0 0, .int .i64 0, .int .i64 0]) (t := 32) ?hr ?_; (case hd => rfl); (case hg => rfl); (case hr => first | (go_simp; done) | (go_simp; rfl)); intro gb184 hg w73 hbox hb; have n0_ := Aside0.mk (Kd.R_below (by (with_reducible repeat (first | apply Kd.R_alloc | apply Kd.R_drewN | apply Kd.R_drew)); exact HO_168000.out) hb); have n1_ := Aside0.mk (Kd.R_below (by (with_reducible repeat (first | apply Kd.R_alloc | apply Kd.R_drewN | apply Kd.R_drew)); exact HO178.out) hb); have n2_ := Aside0.mk (Kd.R_below (by (with_reducible repeat (first | apply Kd.R_alloc | apply Kd.R_drewN | apply Kd.R_drew)); exact HO181.out) hb); have n3_ := Aside0.mk (blk_below (g := gb167) (o := .cells #[.slice Ao71 x168000_1.length co71, .int .i64 x168001_1, .int .i64 x168002_1] 26 (0, 0)) (by (with_reducible repeat (first | refine blk_drewN ?_ _ | refine blk_drew ?_ | refine blk_alloc ?_ _)); exact BK167.out) hb); have n4_ := Aside0.mk (below_step (by repeat (first | (with_reducible first | exact HB.out | apply below_alloc | apply pw_below_drewN | apply below_drew1 | refine below_set ?_ GE167.out) | exact HB.out)) hb); have n5_ := Aside0.mk (hbox); have n6_ := Aside0.mk ((by rw [hg]; exact (below_size (by repeat (first | (with_reducible first | exact HB.out | apply below_alloc | apply pw_below_drewN | apply below_drew1 | refine below_set ?_ GE167.out) | exact HB.out))) : w.heap.size ≤ gb184)); have n7_ := Aside0.mk ((by rw [hg]; exact (below_size (by repeat (first | (with_reducible first | exact HB.out | apply below_alloc | apply pw_below_drewN | apply below_drew1 | refine below_set ?_ GE167.out) | exact HB.out))) : w.heap.size ≤ gb184)); have n8_ := Aside0.mk ((by rw [hg]; exact Nat.ne_of_lt (blk_lt (g := gb167) (o := .cells #[.slice Ao71 x168000_1.length co71, .int .i64 x168001_1, .int .i64 x168002_1] 26 (0, 0)) (by (with_reducible repeat (first | refine blk_drewN ?_ _ | refine blk_drew ?_ | refine blk_alloc ?_ _)); exact BK167.out)) : gb167 ≠ gb184)); have n9_ := Aside0.mk ((by rw [hg]; exact Nat.ne_of_gt (blk_lt (g := gb167) (o := .cells #[.slice Ao71 x168000_1.length co71, .int .i64 x168001_1, .int .i64 x168002_1] 26 (0, 0)) (by (with_reducible repeat (first | refine blk_drewN ?_ _ | refine blk_drew ?_ | refine blk_alloc ?_ _)); exact BK167.out)) : gb184 ≠ gb167)); clear HO_168000; clear HO178; clear HO181; clear BK167; clear HB; have HO_168000 := n0_; have HO178 := n1_; have HO181 := n2_; have BK167 := n3_; have HB := n4_; have BK184 := n5_; have GW184 := n6_; have GE184 := n7_; have NB167_184 := n8_; have NB184_167 := n9_; clear n0_ n1_ n2_ n3_ n4_ n5_ n6_ n7_ n8_ n9_; clear hb hbox hg; obtain ⟨Ao74, co74, eo74⟩ := Kd.R_slice HO178.out; subst eo74; have hnb75 := NB184_167.out; have hnc75 := NB167_184.out; have hcz76_0 : w73.cell? ⟨gb184, 0, none⟩ = some (.slice none 0 0) := (blk_cell BK184.out 0).trans rfl; have hcz76_1 : w73.cell? ⟨gb184, 1, none⟩ = some (.slice none 0 0) := (blk_cell BK184.out 1).trans rfl; have hcz76_2 : w73.cell? ⟨gb184, 2, none⟩ = some (.int .i64 0) := (blk_cell BK184.out 2).trans rfl; have hcz76_3 : w73.cell? ⟨gb184, 3, none⟩ = some (.int .i64 0) := (blk_cell BK184.out 3).trans rfl; have hfz76_0 := blk_frozen BK184.out 0; have hfz76_1 := blk_frozen BK184.out 1; have hfz76_2 := blk_frozen BK184.out 2; have hfz76_3 := blk_frozen BK184.out 3; obtain ⟨Ao77, co77, eo77⟩ := Kd.R_slice HO181.out; subst eo77) | ((with_reducible refine gate_callee (f := 9) rfl ?_); refine goesL_ (some 39) rfl rfl Try.func9 (by kernel_rfl) rfl #[.agg #[.slice none 0 0, .int .i64 0, .int .i64 0], .agg #[.slice Ao74 t176.length co74, .slice Ao77 t179.length co77, .int .i64 t182, .int .i64 t183]] rfl (by (try simp only [List.map_toArray, List.map_cons, List.map_nil]); first | done | rfl | (simp only [List.length_drop, List.length_take]; rfl) | (go_simp; simp [IntKind.wrap, IntKind.bits, IntKind.signed]; omega)) ?_; (refine (manifest_Apply.calls _ _ ([] : List (S36)) 0 0 _ _ t176 _ _ t179 t182 t183 t185 t188 t189 t190 _ ?side1 ?side2 ?side3 ?side4 ?side5 ?side6 A35.out).mono ?_); (case side1 => exact Kd.C_nil _ _); (case side2 => exact Nat.le_refl _); (case side3 => refine (Kd.R_reads' (e := 3) (base := w.heap.size) (ok := fun k_ => True) (n := t176.length) (c := co74) ?_).2.2; exact (by (with_reducible repeat (first | apply Kd.R_alloc | apply Kd.R_drewN | apply Kd.R_drew)); exact (Kd.R_mono (Kd.R_far (p := ⟨gb184, 3, none⟩) (Kd.R_far (p := ⟨gb184, 2, none⟩) (Kd.R_far (p := ⟨gb184, 1, none⟩) (Kd.R_far (p := ⟨gb184, 0, none⟩) (Kd.R_types HO178.out BK184.out (by decide)) (fun _ hk => hk.2) (.slice Ao74 t176.length co74)) (fun _ hk => hk.2) (.slice Ao77 t179.length co77)) (fun _ hk => hk.2) (.int .i64 t182)) (fun _ hk => hk.2) (.int .i64 t183)) (fun _ h_ => h_.1)))); (case side4 => exact (Kd.R_reads' HO178.out).2.1); (case side5 => refine (Kd.R_reads' (e := 36) (base := w.heap.size) (ok := fun k_ => (True ∧ some k_ ≠ (.slice Ao71 x168000_1.length co71 : Value).ownBlock)) (n := t179.length) (c := co77) ?_).2.2; exact (by (with_reducible repeat (first | apply Kd.R_alloc | apply Kd.R_drewN | apply Kd.R_drew)); exact (Kd.R_mono (Kd.R_far (p := ⟨gb184, 3, none⟩) (Kd.R_far (p := ⟨gb184, 2, none⟩) (Kd.R_far (p := ⟨gb184, 1, none⟩) (Kd.R_far (p := ⟨gb184, 0, none⟩) (Kd.R_types HO181.out BK184.out (by decide)) (fun _ hk => hk.2) (.slice Ao74 t176.length co74)) (fun _ hk => hk.2) (.slice Ao77 t179.length co77)) (fun _ hk => hk.2) (.int .i64 t182)) (fun _ hk => hk.2) (.int .i64 t183)) (fun _ h_ => h_.1)))); (case side6 => exact (Kd.R_reads' HO181.out).2.1); rintro e w78 ⟨v186, rfl, ho0, hb⟩; refine ⟨_, rfl, ?_⟩; have n0_ := Aside0.mk (Kd.R_elder' (by (with_reducible repeat (first | apply Kd.R_alloc | apply Kd.R_drewN | apply Kd.R_drew)); exact (Kd.R_mono (Kd.R_far (p := ⟨gb184, 3, none⟩) (Kd.R_far (p := ⟨gb184, 2, none⟩) (Kd.R_far (p := ⟨gb184, 1, none⟩) (Kd.R_far (p := ⟨gb184, 0, none⟩) (Kd.R_types HO_168000.out BK184.out (by decide)) (fun _ hk => hk.2) (.slice Ao74 t176.length co74)) (fun _ hk => hk.2) (.slice Ao77 t179.length co77)) (fun _ hk => hk.2) (.int .i64 t182)) (fun _ hk => hk.2) (.int .i64 t183)) (fun _ h_ => h_.1))) (Kd.R_base ho0) hb); have n1_ := Aside0.mk (Kd.R_below (by (with_reducible repeat (first | apply Kd.R_alloc | apply Kd.R_drewN | apply Kd.R_drew)); exact (Kd.R_mono (Kd.R_far (p := ⟨gb184, 3, none⟩) (Kd.R_far (p := ⟨gb184, 2, none⟩) (Kd.R_far (p := ⟨gb184, 1, none⟩) (Kd.R_far (p := ⟨gb184, 0, none⟩) (Kd.R_types HO178.out BK184.out (by decide)) (fun _ hk => hk.2) (.slice Ao74 t176.length co74)) (fun _ hk => hk.2) (.slice Ao77 t179.length co77)) (fun _ hk => hk.2) (.int .i64 t182)) (fun _ hk => hk.2) (.int .i64 t183)) (fun _ h_ => h_.1))) hb); have n2_ := Aside0.mk (Kd.R_elder' (by (with_reducible repeat (first | apply Kd.R_alloc | apply Kd.R_drewN | apply Kd.R_drew)); exact (Kd.R_mono (Kd.R_far (p := ⟨gb184, 3, none⟩) (Kd.R_far (p := ⟨gb184, 2, none⟩) (Kd.R_far (p := ⟨gb184, 1, none⟩) (Kd.R_far (p := ⟨gb184, 0, none⟩) (Kd.R_types HO181.out BK184.out (by decide)) (fun _ hk => hk.2) (.slice Ao74 t176.length co74)) (fun _ hk => hk.2) (.slice Ao77 t179.length co77)) (fun _ hk => hk.2) (.int .i64 t182)) (fun _ hk => hk.2) (.int .i64 t183)) (fun _ h_ => h_.1))) (Kd.R_base ho0) hb); have n3_ := Aside0.mk (Kd.R_lower (Kd.R_new' (Kd.R_new' ho0 (Kd.R_lt (by (with_reducible repeat (first | apply Kd.R_alloc | apply Kd.R_drewN | apply Kd.R_drew)); exact (Kd.R_mono (Kd.R_far (p := ⟨gb184, 3, none⟩) (Kd.R_far (p := ⟨gb184, 2, none⟩) (Kd.R_far (p := ⟨gb184, 1, none⟩) (Kd.R_far (p := ⟨gb184, 0, none⟩) (Kd.R_types HO_168000.out BK184.out (by decide)) (fun _ hk => hk.2) (.slice Ao74 t176.length co74)) (fun _ hk => hk.2) (.slice Ao77 t179.length co77)) (fun _ hk => hk.2) (.int .i64 t182)) (fun _ hk => hk.2) (.int .i64 t183)) (fun _ h_ => h_.1))))) (Kd.R_lt (by (with_reducible repeat (first | apply Kd.R_alloc | apply Kd.R_drewN | apply Kd.R_drew)); exact (Kd.R_mono (Kd.R_far (p := ⟨gb184, 3, none⟩) (Kd.R_far (p := ⟨gb184, 2, none⟩) (Kd.R_far (p := ⟨gb184, 1, none⟩) (Kd.R_far (p := ⟨gb184, 0, none⟩) (Kd.R_types HO181.out BK184.out (by decide)) (fun _ hk => hk.2) (.slice Ao74 t176.length co74)) (fun _ hk => hk.2) (.slice Ao77 t179.length co77)) (fun _ hk => hk.2) (.int .i64 t182)) (fun _ hk => hk.2) (.int .i64 t183)) (fun _ h_ => h_.1))))) (below_size (by repeat (first | (with_reducible first | exact HB.out | apply below_alloc | apply pw_below_drewN | apply below_drew1 | refine below_set ?_ GE167.out | refine below_set ?_ GE184.out) | exact HB.out)))); have n4_ := Aside0.mk (blk_below (g := gb167) (o := .cells #[.slice Ao71 x168000_1.length co71, .int .i64 x168001_1, .int .i64 x168002_1] 26 (0, 0)) (by (with_reducible repeat (first | refine blk_drewN ?_ _ | refine blk_drew ?_ | refine blk_alloc ?_ _)); refine blk_far ?_ NB167_184.out _; (with_reducible repeat (first | refine blk_drewN ?_ _ | refine blk_drew ?_ | refine blk_alloc ?_ _)); refine blk_far ?_ NB167_184.out _; (with_reducible repeat (first | refine blk_drewN ?_ _ | refine blk_drew ?_ | refine blk_alloc ?_ _)); refine blk_far ?_ NB167_184.out _; (with_reducible repeat (first | refine blk_drewN ?_ _ | refine blk_drew ?_ | refine blk_alloc ?_ _)); refine blk_far ?_ NB167_184.out _; (with_reducible repeat (first | refine blk_drewN ?_ _ | refine blk_drew ?_ | refine blk_alloc ?_ _)); exact BK167.out) hb); have n5_ := Aside0.mk (blk_below (g := gb184) (o := .cells #[.slice Ao74 t176.length co74, .slice Ao77 t179.length co77, .int .i64 t182, .int .i64 t183] 32 (0, 0)) (by (with_reducible repeat (first | refine blk_drewN ?_ _ | refine blk_drew ?_ | refine blk_alloc ?_ _)); refine blk_put (cs := #[.slice Ao74 t176.length co74, .slice Ao77 t179.length co77, .int .i64 t182, .int .i64 0]) ?_ 3 _ rfl; (with_reducible repeat (first | refine blk_drewN ?_ _ | refine blk_drew ?_ | refine blk_alloc ?_ _)); refine blk_put (cs := #[.slice Ao74 t176.length co74, .slice Ao77 t179.length co77, .int .i64 0, .int .i64 0]) ?_ 2 _ rfl; (with_reducible repeat (first | refine blk_drewN ?_ _ | refine blk_drew ?_ | refine blk_alloc ?_ _)); refine blk_put (cs := #[.slice Ao74 t176.length co74, .slice none 0 0, .int .i64 0, .int .i64 0]) ?_ 1 _ rfl; (with_reducible repeat (first | refine blk_drewN ?_ _ | refine blk_drew ?_ | refine blk_alloc ?_ _)); refine blk_put (cs := #[.slice none 0 0, .slice none 0 0, .int .i64 0, .int .i64 0]) ?_ 0 _ rfl; (with_reducible repeat (first | refine blk_drewN ?_ _ | refine blk_drew ?_ | refine blk_alloc ?_ _)); exact BK184.out) hb); have n6_ := Aside0.mk (below_step (by repeat (first | (with_reducible first | exact HB.out | apply below_alloc | apply pw_below_drewN | apply below_drew1 | refine below_set ?_ GE167.out | refine below_set ?_ GE184.out) | exact HB.out)) hb); clear HO_168000; clear HO178; clear HO181; clear BK167; clear BK184; clear HB; have HO_168000 := n0_; have HO178 := n1_; have HO181 := n2_; have HO187 := n3_; have BK167 := n4_; have BK184 := n5_; have HB := n6_; clear n0_ n1_ n2_ n3_ n4_ n5_ n6_; (try clear hb); (try clear hb2); (try clear hk); (try clear hi); (try clear ho0)) | ((with_reducible refine gate_dst (N := 8) rfl ?_); refine box_event ?hg (N := 8) ?hd (cs := #[.slice none 0 0, .int .i64 0, .int .i64 0]) (t := 26) ?hr ?_; (case hd => rfl); (case hg => rfl); (case hr => first | (go_simp; done) | (go_simp; rfl)); intro gb191 hg w79 hbox hb; have n0_ := Aside0.mk (Kd.R_below (by (with_reducible repeat (first | apply Kd.R_alloc | apply Kd.R_drewN | apply Kd.R_drew)); exact HO_168000.out) hb); have n1_ := Aside0.mk (Kd.R_below (by (with_reducible repeat (first | apply Kd.R_alloc | apply Kd.R_drewN | apply Kd.R_drew)); exact HO178.out) hb); have n2_ := Aside0.mk (Kd.R_below (by (with_reducible repeat (first | apply Kd.R_alloc | apply Kd.R_drewN | apply Kd.R_drew)); exact HO181.out) hb); have n3_ := Aside0.mk (Kd.R_below (by (with_reducible repeat (first | apply Kd.R_alloc | apply Kd.R_drewN | apply Kd.R_drew)); exact HO187.out) hb); have n4_ := Aside0.mk (blk_below (g := gb167) (o := .cells #[.slice Ao71 x168000_1.length co71, .int .i64 x168001_1, .int .i64 x168002_1] 26 (0, 0)) (by (with_reducible repeat (first | refine blk_drewN ?_ _ | refine blk_drew ?_ | refine blk_alloc ?_ _)); exact BK167.out) hb); have n5_ := Aside0.mk (blk_below (g := gb184) (o := .cells #[.slice Ao74 t176.length co74, .slice Ao77 t179.length co77, .int .i64 t182, .int .i64 t183] 32 (0, 0)) (by (with_reducible repeat (first | refine blk_drewN ?_ _ | refine blk_drew ?_ | refine blk_alloc ?_ _)); exact BK184.out) hb); have n6_ := Aside0.mk (below_step (by repeat (first | (with_reducible first | exact HB.out | apply below_alloc | apply pw_below_drewN | apply below_drew1 | refine below_set ?_ GE167.out | refine below_set ?_ GE184.out) | exact HB.out)) hb); have n7_ := Aside0.mk (hbox); have n8_ := Aside0.mk ((by rw [hg]; exact (below_size (by repeat (first | (with_reducible first | exact HB.out | apply below_alloc | apply pw_below_drewN | apply below_drew1 | refine below_set ?_ GE167.out | refine below_set ?_ GE184.out) | exact HB.out))) : w.heap.size ≤ gb191)); have n9_ := Aside0.mk ((by rw [hg]; exact (below_size (by repeat (first | (with_reducible first | exact HB.out | apply below_alloc | apply pw_below_drewN | apply below_drew1 | refine below_set ?_ GE167.out | refine below_set ?_ GE184.out) | exact HB.out))) : w.heap.size ≤ gb191)); have n10_ := Aside0.mk ((by rw [hg]; exact Nat.ne_of_lt (blk_lt (g := gb167) (o := .cells #[.slice Ao71 x168000_1.length co71, .int .i64 x168001_1, .int .i64 x168002_1] 26 (0, 0)) (by (with_reducible repeat (first | refine blk_drewN ?_ _ | refine blk_drew ?_ | refine blk_alloc ?_ _)); exact BK167.out)) : gb167 ≠ gb191)); have n11_ := Aside0.mk ((by rw [hg]; exact Nat.ne_of_gt (blk_lt (g := gb167) (o := .cells #[.slice Ao71 x168000_1.length co71, .int .i64 x168001_1, .int .i64 x168002_1] 26 (0, 0)) (by (with_reducible repeat (first | refine blk_drewN ?_ _ | refine blk_drew ?_ | refine blk_alloc ?_ _)); exact BK167.out)) : gb191 ≠ gb167)); have n12_ := Aside0.mk ((by rw [hg]; exact Nat.ne_of_lt (blk_lt (g := gb184) (o := .cells #[.slice Ao74 t176.length co74, .slice Ao77 t179.length co77, .int .i64 t182, .int .i64 t183] 32 (0, 0)) (by (with_reducible repeat (first | refine blk_drewN ?_ _ | refine blk_drew ?_ | refine blk_alloc ?_ _)); exact BK184.out)) : gb184 ≠ gb191)); have n13_ := Aside0.mk ((by rw [hg]; exact Nat.ne_of_gt (blk_lt (g := gb184) (o := .cells #[.slice Ao74 t176.length co74, .slice Ao77 t179.length co77, .int .i64 t182, .int .i64 t183] 32 (0, 0)) (by (with_reducible repeat (first | refine blk_drewN ?_ _ | refine blk_drew ?_ | refine blk_alloc ?_ _)); exact BK184.out)) : gb191 ≠ gb184)); clear HO_168000; clear HO178; clear HO181; clear HO187; clear BK167; clear BK184; clear HB; have HO_168000 := n0_; have HO178 := n1_; have HO181 := n2_; have HO187 := n3_; have BK167 := n4_; have BK184 := n5_; have HB := n6_; have BK191 := n7_; have GW191 := n8_; have GE191 := n9_; have NB167_191 := n10_; have NB191_167 := n11_; have NB184_191 := n12_; have NB191_184 := n13_; clear n0_ n1_ n2_ n3_ n4_ n5_ n6_ n7_ n8_ n9_ n10_ n11_ n12_ n13_; clear hb hbox hg; obtain ⟨Ao80, co80, eo80⟩ := Kd.R_slice HO187.out; subst eo80; have hnb81 := NB191_167.out; have hnc81 := NB167_191.out; have hnb82 := NB191_184.out; have hnc82 := NB184_191.out; have hcz83_0 : w79.cell? ⟨gb191, 0, none⟩ = some (.slice none 0 0) := (blk_cell BK191.out 0).trans rfl; have hcz83_1 : w79.cell? ⟨gb191, 1, none⟩ = some (.int .i64 0) := (blk_cell BK191.out 1).trans rfl; have hcz83_2 : w79.cell? ⟨gb191, 2, none⟩ = some (.int .i64 0) := (blk_cell BK191.out 2).trans rfl; have hfz83_0 := blk_frozen BK191.out 0; have hfz83_1 := blk_frozen BK191.out 1; have hfz83_2 := blk_frozen BK191.out 2; have hcz84_0 : w79.cell? ⟨gb167, 0, none⟩ = some (.slice Ao71 x168000_1.length co71) := (blk_cell BK167.out 0).trans rfl; have hcz84_1 : w79.cell? ⟨gb167, 1, none⟩ = some (.int .i64 x168001_1) := (blk_cell BK167.out 1).trans rfl; have hcz84_2 : w79.cell? ⟨gb167, 2, none⟩ = some (.int .i64 x168002_1) := (blk_cell BK167.out 2).trans rfl; have hfz84_0 := blk_frozen BK167.out 0; have hfz84_1 := blk_frozen BK167.out 1; have hfz84_2 := blk_frozen BK167.out 2))
                  go_ret
                  exact ⟨by first | rfl | (simp [errW_none, errW_some] <;> rfl) | (simp [*, errW_none, errW_some] <;> rfl), by repeat (first | (with_reducible first | exact HB.out | apply below_alloc | apply pw_below_drewN | apply below_drew1 | refine below_set ?_ GE167.out | refine below_set ?_ GE184.out | refine below_set ?_ GE191.out) | exact HB.out)⟩
  · replace c3 := Bool.eq_false_iff.mpr c3
    subst c3
    have H1 : (some false) = some r := by rw [if_neg (show ¬ (false = true) by decide)] at H; exact H
    clear H
    have H := H1
    clear H1
    obtain rfl := Option.some.inj H
    go_enter Try.func4, Try.ntmps4
    go_wp2_with (first | ((with_reducible refine gate_callee (f := 8) rfl ?_); refine goesL_ (some 10) rfl rfl Try.func8 (by kernel_rfl) rfl #[] rfl (by (try simp only [List.map_toArray, List.map_cons, List.map_nil]); first | done | rfl | (simp only [List.length_drop, List.length_take]; rfl) | (go_simp; simp [IntKind.wrap, IntKind.bits, IntKind.signed]; omega)) ?_; (with_reducible refine (tithebarnlaw16_lives.calls k  false _ A2.out).mono ?_); rintro e w85 ⟨rfl, hb⟩; refine ⟨_, rfl, ?_⟩; have n0_ := Aside0.mk (below_step (by repeat (first | (with_reducible first | exact HB.out | apply below_alloc | apply pw_below_drewN | apply below_drew1) | exact HB.out)) hb); clear HB; have HB := n0_; clear n0_; (try clear hb); (try clear hb2); (try clear hk); (try clear hi)))
    go_ret
    exact ⟨by first | rfl | (simp [errW_none, errW_some] <;> rfl) | (simp [*, errW_none, errW_some] <;> rfl), by repeat (first | (with_reducible first | exact HB.out | apply below_alloc | apply pw_below_drewN | apply below_drew1) | exact HB.out)⟩
end Go.Proofs.Ytagokgijffpdnaa.G
