import Derived.Test.YtagokgijffpdnaaZG19
namespace Go.Proofs.Ytagokgijffpdnaa.G
open Go.RowKit Go.Proofs.YtagokgijffpdnaaQ Go.Proofs.YtagokgijffpdnaaW.PrintWords Go.Proofs.YtagokgijffpdnaaW.PrintLast Go.Proofs.YtagokgijffpdnaaW.PrintMore
attribute [local go_sem] max2_int min2_int max_two min_two max_three min_three max_four min_four   -- for this text's walks alone
set_option linter.unusedVariables false
set_option linter.unusedSimpArgs false
set_option maxHeartbeats 8000000 in
set_option maxRecDepth 100000 in
theorem mbk.calls (k : Nat) (A0 : Option Addr) (c0 : Nat) (l0 : List (S32)) (a1 : Int) (r : Bool) (w : World) (hr0 : Kd.C k32 w A0 l0.length l0) (hc0 : l0.length ≤ c0) (h : mbk.f k l0 a1 = some r) :
  Calls Try.prog 7 #[.slice A0 l0.length c0, .int .i64 a1] w fun e w' => e = .returned (.bool r) ∧ Below w.heap.size w w' := by
 have hu26 := Try.underlying26
 have hu32 := Try.underlying32
 have HR0 := Aside0.mk hr0
 have HC0 := Aside0.mk hc0
 clear hr0 hc0
 have HB := Aside0.mk (Below.refl w.heap.size w)
 have H : ((tithebarnlaw16_lives.f k).bind fun t535 => (if t535 = true then (mbk.l0 k l0 a1 (⟨#[]⟩ : ByteArray) ([] : List Int) ([] : List (S26)) 0 ([] : List (S36)) 0 0) else (some false))) = some r := h
 clear h
 replace H := Option.bind_eq_some_iff.mp H
 obtain ⟨t535, A30, H⟩ := H
 replace H : (if t535 = true then (mbk.l0 k l0 a1 (⟨#[]⟩ : ByteArray) ([] : List Int) ([] : List (S26)) 0 ([] : List (S36)) 0 0) else (some false)) = some r := H
 have A3 := Aside0.mk A30
 clear A30
 by_cases c4 : t535 = true
 ·subst c4
  have H1 : (mbk.l0 k l0 a1 (⟨#[]⟩ : ByteArray) ([] : List Int) ([] : List (S26)) 0 ([] : List (S36)) 0 0) = some r := by rw [if_pos rfl] at H; exact H
  clear H
  have H := H1
  clear H1
  have HC5 := Aside0.mk H
  clear H
  go_enter Try.func7, Try.ntmps7
  go_upto_block 0 with (first | ((with_reducible refine gate_callee (f := 8) rfl ?_); refine goesL_ (some 21) rfl rfl Try.func8 (by kernel_rfl) rfl #[] rfl (by (try simp only [List.map_toArray, List.map_cons, List.map_nil]); first | done | rfl | (simp only [List.length_drop, List.length_take]; rfl) | (go_simp; simp [IntKind.wrap, IntKind.bits, IntKind.signed]; omega)) ?_; (with_reducible refine (tithebarnlaw16_lives.calls k  true _ A3.out).mono ?_); rintro e w6 ⟨rfl, hb⟩; refine ⟨_, rfl, ?_⟩; have n0_ := Aside0.mk (below_step (by repeat (first | (with_reducible first | exact HB.out | apply below_alloc | apply pw_below_drewN | apply below_drew1) | exact HB.out)) hb); clear HB; have HB := n0_; clear n0_; (try clear hb); (try clear hb2); (try clear hk); (try clear hi)) | ((with_reducible refine gate_dst (N := 8) rfl ?_); refine box_event ?hg (N := 8) ?hd (cs := #[.slice none 0 0, .int .i64 0, .int .i64 0]) (t := 26) ?hr ?_; (case hd => rfl); (case hg => rfl); (case hr => first | (go_simp; done) | (go_simp; rfl)); intro gA hg w7 hbox hb; have n0_ := Aside0.mk (below_step (by repeat (first | (with_reducible first | exact HB.out | apply below_alloc | apply pw_below_drewN | apply below_drew1) | exact HB.out)) hb); have n1_ := Aside0.mk (hbox); have n2_ := Aside0.mk ((by rw [hg]; exact (below_size (by repeat (first | (with_reducible first | exact HB.out | apply below_alloc | apply pw_below_drewN | apply below_drew1) | exact HB.out))) : w.heap.size ≤ gA)); have n3_ := Aside0.mk ((by rw [hg]; exact (below_size (by repeat (first | (with_reducible first | exact HB.out | apply below_alloc | apply pw_below_drewN | apply below_drew1) | exact HB.out))) : w.heap.size ≤ gA)); clear HB; have HB := n0_; have BK536 := n1_; have GW536 := n2_; have GE536 := n3_; clear n0_ n1_ n2_ n3_; clear hb hbox hg))
  (try simp only [Act.put, List.setIfInBounds_toArray, List.set_cons_zero, List.set_cons_succ])
  go_cut [5, 6, 7] (fun v5 v6 v7 wc => ∃ (kq : Nat) (x5_4 : ByteArray) (x6_4 : List Int) (x7_4 : List (S26)) (x537000_4 : List (S36)) (x537001_4 : Int) (x537002_4 : Int) (u537000 : Value), v5 = .string x5_4 ∧ Aside0 (mbk.j2 kq a1 x5_4 x6_4 x7_4 x537000_4 x537001_4 x537002_4 = some r) ∧ Aside0 (kq ≤ k) ∧ Aside0 (Kd.R (Kd.int .i64) 3 wc w.heap.size (fun _ => True) v6 x6_4) ∧ Aside0 (Kd.S k26 26 wc w.heap.size (fun k_ => True ∧ k_ ≠ gA) v7 x7_4) ∧ Aside0 (Kd.R k36 36 wc w.heap.size (fun _ => True) u537000 x537000_4) ∧ Aside0 (wc.heap[gA]? = some (.cells #[u537000, .int .i64 x537001_4, .int .i64 x537002_4] 26 (0, 0))) ∧ Aside0 (Below w.heap.size w wc))
  case first =>
   have H := HC5.out
   clear HC5
   have H' := Aside0.mk H
   clear H
   go_wp2
   go_loopg [5, 6, 7, 9] k (fun kq v5 v6 v7 v9 w' => ∃ (x5_1 : ByteArray) (x6_1 : List Int) (x7_1 : List (S26)) (x9_1 : Int) (x537000_1 : List (S36)) (x537001_1 : Int) (x537002_1 : Int) (u537000 : Value), v5 = .string x5_1 ∧ v9 = .int .i64 x9_1 ∧ Aside0 (mbk.l0 kq l0 a1 x5_1 x6_1 x7_1 x9_1 x537000_1 x537001_1 x537002_1 = some r) ∧ Aside0 (kq ≤ k) ∧ Aside0 (Kd.R (Kd.int .i64) 3 w' w.heap.size (fun _ => True) v6 x6_1) ∧ Aside0 (Kd.S k26 26 w' w.heap.size (fun k_ => True ∧ k_ ≠ gA) v7 x7_1) ∧ Aside0 (Kd.R k36 36 w' w.heap.size (fun _ => True) u537000 x537000_1) ∧ Aside0 (w'.heap[gA]? = some (.cells #[u537000, .int .i64 x537001_1, .int .i64 x537002_1] 26 (0, 0))) ∧ Aside0 (Below w.heap.size w w'))
   case atStart => exact ⟨((⟨#[]⟩ : ByteArray)), (([] : List Int)), (([] : List (S26))), (0), (([] : List (S36))), (0), (0), (.slice none 0 0), (by first | rfl | (simp; done) | (simp [*]; done)), (by first | rfl | (simp; done) | (simp [*]; done)), H', ⟨Nat.le_refl _⟩, ⟨by first | exact Kd.R_nil _ _ _ _ _ | exact Kd.N_nil _ _ _ _ _ | exact Kd.V_nil _ _ _ _ _ | exact Kd.Q_nil _ _ _ _ _ | exact Kd.S_nil _ _ _ _ _⟩, ⟨by first | exact Kd.S_nil _ _ _ _ _ | exact Kd.N_nil _ _ _ _ _ | exact Kd.V_nil _ _ _ _ _ | exact Kd.Q_nil _ _ _ _ _ | exact Kd.R_nil _ _ _ _ _⟩, ⟨by first | exact Kd.R_nil _ _ _ _ _ | exact Kd.N_nil _ _ _ _ _ | exact Kd.V_nil _ _ _ _ _ | exact Kd.Q_nil _ _ _ _ _ | exact Kd.S_nil _ _ _ _ _⟩, ⟨by (with_reducible repeat (first | refine blk_drewN ?_ _ | refine blk_drew ?_ | refine blk_alloc ?_ _)); exact BK536.out⟩, ⟨by repeat (first | (with_reducible first | exact HB.out | apply below_alloc | apply pw_below_drewN | apply below_drew1 | refine below_set ?_ GE536.out) | exact HB.out)⟩⟩
   case round =>
    clear H'
    try clear p2
    try clear c4
    try clear c7
    obtain ⟨x5_1, x6_1, x7_1, x9_1, x537000_1, x537001_1, x537002_1, u537000, rfl, rfl, HA, HK1, HO_6, HO_7, HO_537000, BK536, HB⟩ := hrel
    cases gk with
    | zero => exact absurd HA.out (by simp [mbk.l0])
    | succ k1 =>
     have H := HA.out
     clear HA
     simp only [mbk.l0] at H
     have HC8 := Aside0.mk H
     clear H
     go_upto_region 8 with (fail)
     go_cut [30] (fun v30 wc => ∃ (kq : Nat) (x30_7 : Bool), v30 = .bool x30_7 ∧ Aside0 (mbk.j1 kq l0 a1 x5_1 x6_1 x7_1 x9_1 x30_7 x537000_1 x537001_1 x537002_1 = some r) ∧ Aside0 (kq ≤ k1) ∧ Aside0 (Kd.R (Kd.int .i64) 3 wc w.heap.size (fun _ => True) u6 x6_1) ∧ Aside0 (Kd.S k26 26 wc w.heap.size (fun k_ => True ∧ k_ ≠ gA) u7 x7_1) ∧ Aside0 (Kd.R k36 36 wc w.heap.size (fun _ => True) u537000 x537000_1) ∧ Aside0 (wc.heap[gA]? = some (.cells #[u537000, .int .i64 x537001_1, .int .i64 x537002_1] 26 (0, 0))) ∧ Aside0 (Below w.heap.size w wc))
     case first =>
      have H := HC8.out
      clear HC8
      by_cases c9 : x9_1 < (l0.length : Int)
      ·rw [if_pos c9] at H
       have c9b0 : decide (x9_1 < (l0.length : Int)) = true := decide_eq_true c9
       clear c9
       (first | rw [c9b0] | (simp only [i64_w, i32_w]; rw [c9b0]) | skip)
       have H' := Aside0.mk H
       clear H
       go_wp2
       go_meet
       case rel => exact ⟨_, (decide (x9_1 < 50)), (by first | rfl | (simp; done) | (simp [*]; done)), H', ⟨by have := HK1.out; first | omega | exact Nat.le_refl _⟩, ⟨by (with_reducible repeat (first | apply Kd.R_alloc | apply Kd.R_drewN | apply Kd.R_drew)); exact HO_6.out⟩, ⟨by (with_reducible repeat (first | apply Kd.S_alloc | apply Kd.S_drewN | apply Kd.S_drew)); exact HO_7.out⟩, ⟨by (with_reducible repeat (first | apply Kd.R_alloc | apply Kd.R_drewN | apply Kd.R_drew)); exact HO_537000.out⟩, ⟨by (with_reducible repeat (first | refine blk_drewN ?_ _ | refine blk_drew ?_ | refine blk_alloc ?_ _)); exact BK536.out⟩, ⟨by repeat (first | (with_reducible first | exact HB.out | apply below_alloc | apply pw_below_drewN | apply below_drew1 | refine below_set ?_ GE536.out) | exact HB.out)⟩⟩
      ·rw [if_neg c9] at H
       have c9b0 : decide (x9_1 < (l0.length : Int)) = false := decide_eq_false c9
       clear c9
       (first | rw [c9b0] | (simp only [i64_w, i32_w]; rw [c9b0]) | skip)
       have H' := Aside0.mk H
       clear H
       go_wp2
       go_meet
       case rel => exact ⟨_, (false), (by first | rfl | (simp; done) | (simp [*]; done)), H', ⟨by have := HK1.out; first | omega | exact Nat.le_refl _⟩, ⟨by (with_reducible repeat (first | apply Kd.R_alloc | apply Kd.R_drewN | apply Kd.R_drew)); exact HO_6.out⟩, ⟨by (with_reducible repeat (first | apply Kd.S_alloc | apply Kd.S_drewN | apply Kd.S_drew)); exact HO_7.out⟩, ⟨by (with_reducible repeat (first | apply Kd.R_alloc | apply Kd.R_drewN | apply Kd.R_drew)); exact HO_537000.out⟩, ⟨by (with_reducible repeat (first | refine blk_drewN ?_ _ | refine blk_drew ?_ | refine blk_alloc ?_ _)); exact BK536.out⟩, ⟨by repeat (first | (with_reducible first | exact HB.out | apply below_alloc | apply pw_below_drewN | apply below_drew1 | refine below_set ?_ GE536.out) | exact HB.out)⟩⟩
     case rest =>
      clear HC8
      try clear p2
      try clear c4
      try clear c7
      try clear c8
      try clear c9
      try clear c9b0
      try clear p2
      obtain ⟨kq, x30_7, rfl, HA, HJ7, HO_6, HO_7, HO_537000, BK536, HB⟩ := hcut
      cases kq with
      | zero => exact absurd HA.out (by simp [mbk.j1])
      | succ kj7 =>
       have H := HA.out
       clear HA
       simp only [mbk.j1] at H
       by_cases c10 : x30_7 = true
       ·subst c10
        have H1 : (if 0 ≤ x9_1 then (if x9_1 < (l0.length : Int) then ((manifest_Write.f kj7 ((rd_T32 l0 x9_1).f0) ((rd_T32 l0 x9_1).f1) ((rd_T32 l0 x9_1).f2) ((rd_T32 l0 x9_1).f3)).bind fun bt538 => ((manifest_Apply.f x537000_1 x537001_1 x537002_1 ((rd_T32 l0 x9_1).f0) ((rd_T32 l0 x9_1).f1) ((rd_T32 l0 x9_1).f2) ((rd_T32 l0 x9_1).f3)).bind fun bt541 => (if bt538.2 = 0 then (if bt541.2.2.2 = 0 then (if x5_1.size + bt538.1.size ≤ 9223372036854775807 then (if x6_1.length < 17592186044416 then (if x7_1.length < 3518437208883 then (mbk.l0 kj7 l0 a1 (x5_1 ++ bt538.1) (x6_1 ++ [((x5_1.size : Int) + (bt538.1.size : Int))]) (x7_1 ++ [(⟨bt541.1, bt541.2.1, bt541.2.2.1⟩ : S26)]) (wrap64 (x9_1 + 1)) bt541.1 bt541.2.1 bt541.2.2.1) else (none)) else (none)) else (none)) else (mbk.j2 kj7 a1 x5_1 x6_1 x7_1 x537000_1 x537001_1 x537002_1)) else (mbk.j2 kj7 a1 x5_1 x6_1 x7_1 x537000_1 x537001_1 x537002_1)))) else (none)) else (none)) = some r := by rw [if_pos rfl] at H; exact H
        clear H
        have H := H1
        clear H1
        by_cases c11 : 0 ≤ x9_1
        ·rw [if_pos c11] at H
         have c11b0 : decide (0 ≤ x9_1) = true := decide_eq_true c11
         clear c11
         by_cases c12 : x9_1 < (l0.length : Int)
         ·rw [if_pos c12] at H
          have c12b0 : decide (x9_1 < (l0.length : Int)) = true := decide_eq_true c12
          clear c12
          replace H := Option.bind_eq_some_iff.mp H
          obtain ⟨⟨t538, t539⟩, A130, H⟩ := H
          replace H : ((manifest_Apply.f x537000_1 x537001_1 x537002_1 ((rd_T32 l0 x9_1).f0) ((rd_T32 l0 x9_1).f1) ((rd_T32 l0 x9_1).f2) ((rd_T32 l0 x9_1).f3)).bind fun bt541 => (if t539 = 0 then (if bt541.2.2.2 = 0 then (if x5_1.size + t538.size ≤ 9223372036854775807 then (if x6_1.length < 17592186044416 then (if x7_1.length < 3518437208883 then (mbk.l0 kj7 l0 a1 (x5_1 ++ t538) (x6_1 ++ [((x5_1.size : Int) + (t538.size : Int))]) (x7_1 ++ [(⟨bt541.1, bt541.2.1, bt541.2.2.1⟩ : S26)]) (wrap64 (x9_1 + 1)) bt541.1 bt541.2.1 bt541.2.2.1) else (none)) else (none)) else (none)) else (mbk.j2 kj7 a1 x5_1 x6_1 x7_1 x537000_1 x537001_1 x537002_1)) else (mbk.j2 kj7 a1 x5_1 x6_1 x7_1 x537000_1 x537001_1 x537002_1))) = some r := H
          have A13 := Aside0.mk A130
          clear A130
          replace H := Option.bind_eq_some_iff.mp H
          obtain ⟨⟨t541, t544, t545, t546⟩, A140, H⟩ := H
          replace H : (if t539 = 0 then (if t546 = 0 then (if x5_1.size + t538.size ≤ 9223372036854775807 then (if x6_1.length < 17592186044416 then (if x7_1.length < 3518437208883 then (mbk.l0 kj7 l0 a1 (x5_1 ++ t538) (x6_1 ++ [((x5_1.size : Int) + (t538.size : Int))]) (x7_1 ++ [(⟨t541, t544, t545⟩ : S26)]) (wrap64 (x9_1 + 1)) t541 t544 t545) else (none)) else (none)) else (none)) else (mbk.j2 kj7 a1 x5_1 x6_1 x7_1 x537000_1 x537001_1 x537002_1)) else (mbk.j2 kj7 a1 x5_1 x6_1 x7_1 x537000_1 x537001_1 x537002_1)) = some r := H
          have A14 := Aside0.mk A140
          clear A140
          by_cases c15 : t539 = 0
          ·rw [if_pos c15] at H
           have c15b0 : (t539 == 0) = true := beq_iff_eq.mpr c15
           have c15b1 : (t539 != 0) = false := bne_eq_false_iff_eq.mpr c15
           clear c15
           by_cases c16 : t546 = 0
           ·rw [if_pos c16] at H
            have c16b0 : (t546 == 0) = true := beq_iff_eq.mpr c16
            have c16b1 : (t546 != 0) = false := bne_eq_false_iff_eq.mpr c16
            clear c16
            by_cases c17 : x5_1.size + t538.size ≤ 9223372036854775807
            ·rw [if_pos c17] at H
             have c17b0 := eq_true c17
             have c17b1 : decide (x5_1.size + t538.size ≤ 9223372036854775807) = true := decide_eq_true c17
             try have c17b2 : (9223372036854775807 < x5_1.size + t538.size) = False := eq_false (Nat.not_lt.2 c17)
             try (have c17b3 := c17b2; simp only [ByteArray.size_append] at c17b3)
             try (have c17b4 := c17b0; simp only [ByteArray.size_append] at c17b4)
             try (have c17b5 := c17b1; simp only [ByteArray.size_append] at c17b5)
             by_cases c18 : x6_1.length < 17592186044416
             ·rw [if_pos c18] at H
              have LMc18 := Aside0.mk c18
              clear c18
              obtain ⟨y548, hy548⟩ : ∃ y_ : List Int, y_ = (x6_1 ++ [((x5_1.size : Int) + (t538.size : Int))]) := ⟨_, rfl⟩
              replace H : (if x7_1.length < 3518437208883 then (mbk.l0 kj7 l0 a1 (x5_1 ++ t538) y548 (x7_1 ++ [(⟨t541, t544, t545⟩ : S26)]) (wrap64 (x9_1 + 1)) t541 t544 t545) else (none)) = some r := by first | (rw [hy548]; with_reducible exact H) | (have H2_ := (Option.bind_some _ _).symm.trans H; rw [hy548]; with_reducible exact H2_) | (have H2_ := (Option.bind_some _ _).symm.trans H; with_reducible exact H2_) | with_reducible exact H | (rw [hy548]; exact H) | exact H
              have Ny548 := Aside0.mk hy548
              clear hy548
              by_cases c19 : x7_1.length < 3518437208883
              ·rw [if_pos c19] at H
               have LMc19 := Aside0.mk c19
               clear c19
               obtain ⟨y551, hy551⟩ : ∃ y_ : List (S26), y_ = (x7_1 ++ [(⟨t541, t544, t545⟩ : S26)]) := ⟨_, rfl⟩
               replace H : (mbk.l0 kj7 l0 a1 (x5_1 ++ t538) y548 y551 (wrap64 (x9_1 + 1)) t541 t544 t545) = some r := by first | (rw [hy551]; with_reducible exact H) | (have H2_ := (Option.bind_some _ _).symm.trans H; rw [hy551]; with_reducible exact H2_) | (have H2_ := (Option.bind_some _ _).symm.trans H; with_reducible exact H2_) | with_reducible exact H | (rw [hy551]; exact H) | exact H
               have Ny551 := Aside0.mk hy551
               clear hy551
               have H' := Aside0.mk H
               clear H
               have p537 : 0 ≤ (x9_1 : Int) := of_decide_eq_true (by first | (with_reducible assumption) | assumption)
               have q537 : x9_1 < (l0.length : Int) := of_decide_eq_true (by first | (with_reducible assumption) | assumption)
               obtain ⟨ad537, A537_0, c537_0, A537_1, c537_1, e537, hx537_0, hx537_1, hx537_2, hx537_3, hl537_0, hi537_0, hl537_1, hi537_1⟩ := at_T32 HR0.out x9_1 p537 q537
               cases e537
               replace hx537_0 := (HB.out.cell (World.block_lt_of_cell? w _ hx537_0)).trans hx537_0
               replace hx537_1 := (HB.out.cell (World.block_lt_of_cell? w _ hx537_1)).trans hx537_1
               replace hx537_2 := (HB.out.cell (World.block_lt_of_cell? w _ hx537_2)).trans hx537_2
               replace hx537_3 := (HB.out.cell (World.block_lt_of_cell? w _ hx537_3)).trans hx537_3
               have HR537_0 := Aside0.mk hi537_0
               have HC537_0 := Aside0.mk hl537_0
               clear hi537_0 hl537_0
               have HR537_1 := Aside0.mk hi537_1
               have HC537_1 := Aside0.mk hl537_1
               clear hi537_1 hl537_1
               replace p537 := eq_true p537
               replace q537 := eq_true q537
               try go_wp2_with (first | ((with_reducible refine gate_callee (f := 12) rfl ?_); refine goesL_ (some 38) rfl rfl Try.func12 (by kernel_rfl) rfl #[.agg #[.slice A537_0 ((rd_T32 l0 x9_1).f0).length c537_0, .slice A537_1 ((rd_T32 l0 x9_1).f1).length c537_1, .int .i64 ((rd_T32 l0 x9_1).f2), .int .i64 ((rd_T32 l0 x9_1).f3)]] rfl (by (try simp only [List.map_toArray, List.map_cons, List.map_nil]); first | done | rfl | (simp only [List.length_drop, List.length_take]; rfl) | (go_simp; simp [IntKind.wrap, IntKind.bits, IntKind.signed]; omega)) ?_; (with_reducible refine (manifest_Write.calls kj7 _ _ ((rd_T32 l0 x9_1).f0) _ _ ((rd_T32 l0 x9_1).f1) ((rd_T32 l0 x9_1).f2) ((rd_T32 l0 x9_1).f3) t538 t539 _ ?side1 ?side2 ?side3 ?side4 A13.out).mono ?_); (case side1 => repeat (first | exact (Kd.C_below HR537_0.out HB.out) | (with_reducible refine Kd.C_alloc ?_ _) | (with_reducible refine Kd.C_drewN ?_ _) | (with_reducible refine Kd.C_drew ?_))); (case side2 => exact HC537_0.out); (case side3 => repeat (first | exact (Kd.C_below HR537_1.out HB.out) | (with_reducible refine Kd.C_alloc ?_ _) | (with_reducible refine Kd.C_drewN ?_ _) | (with_reducible refine Kd.C_drew ?_))); (case side4 => exact HC537_1.out); rintro e w20 ⟨rfl, hb⟩; refine ⟨_, rfl, ?_⟩; have n0_ := Aside0.mk (Kd.R_below (by (with_reducible repeat (first | apply Kd.R_alloc | apply Kd.R_drewN | apply Kd.R_drew)); exact HO_6.out) hb); have n1_ := Aside0.mk (Kd.S_below (by (with_reducible repeat (first | apply Kd.S_alloc | apply Kd.S_drewN | apply Kd.S_drew)); exact HO_7.out) hb); have n2_ := Aside0.mk (Kd.R_below (by (with_reducible repeat (first | apply Kd.R_alloc | apply Kd.R_drewN | apply Kd.R_drew)); exact HO_537000.out) hb); have n3_ := Aside0.mk (blk_below (g := gA) (o := .cells #[u537000, .int .i64 x537001_1, .int .i64 x537002_1] 26 (0, 0)) (by (with_reducible repeat (first | refine blk_drewN ?_ _ | refine blk_drew ?_ | refine blk_alloc ?_ _)); exact BK536.out) hb); have n4_ := Aside0.mk (below_step (by repeat (first | (with_reducible first | exact HB.out | apply below_alloc | apply pw_below_drewN | apply below_drew1 | refine below_set ?_ GE536.out) | exact HB.out)) hb); clear HO_6; clear HO_7; clear HO_537000; clear BK536; clear HB; have HO_6 := n0_; have HO_7 := n1_; have HO_537000 := n2_; have BK536 := n3_; have HB := n4_; clear n0_ n1_ n2_ n3_ n4_; (try clear hb); (try clear hb2); (try clear hk); (try clear hi); obtain ⟨Ao21, co21, eo21⟩ := Kd.R_slice HO_537000.out; subst eo21))
               have n0_ := Aside0.mk (Kd.R_drew HO_6.out)
               have n1_ := Aside0.mk (Kd.S_drew HO_7.out)
               have n2_ := Aside0.mk (Kd.R_drew HO_537000.out)
               have n3_ := Aside0.mk (blk_drew BK536.out)
               have n4_ := Aside0.mk (below_drew1 HB.out)
               clear HO_6
               clear HO_7
               clear HO_537000
               clear BK536
               clear HB
               have HO_6 := n0_
               have HO_7 := n1_
               have HO_537000 := n2_
               have BK536 := n3_
               have HB := n4_
               clear n0_ n1_ n2_ n3_ n4_
               have p540 : 0 ≤ (x9_1 : Int) := of_decide_eq_true (by first | (with_reducible assumption) | assumption)
               have q540 : x9_1 < (l0.length : Int) := of_decide_eq_true (by first | (with_reducible assumption) | assumption)
               obtain ⟨ad540, A540_0, c540_0, A540_1, c540_1, e540, hx540_0, hx540_1, hx540_2, hx540_3, hl540_0, hi540_0, hl540_1, hi540_1⟩ := at_T32 HR0.out x9_1 p540 q540
               have hw540_3 := hx540_3
               have hw540_2 := hx540_2
               have hw540_1 := hx540_1
               have hw540_0 := hx540_0
               obtain rfl : ad537 = ad540 := (by injection e540)
               replace hx540_0 := (HB.out.cell (World.block_lt_of_cell? w _ hx540_0)).trans hx540_0
               replace hx540_1 := (HB.out.cell (World.block_lt_of_cell? w _ hx540_1)).trans hx540_1
               replace hx540_2 := (HB.out.cell (World.block_lt_of_cell? w _ hx540_2)).trans hx540_2
               replace hx540_3 := (HB.out.cell (World.block_lt_of_cell? w _ hx540_3)).trans hx540_3
               have HR540_0 := Aside0.mk hi540_0
               have HC540_0 := Aside0.mk hl540_0
               clear hi540_0 hl540_0
               have HR540_1 := Aside0.mk hi540_1
               have HC540_1 := Aside0.mk hl540_1
               clear hi540_1 hl540_1
               replace p540 := eq_true p540
               replace q540 := eq_true q540
               refine start_ (n := 12) (S := fun w' => w'.cell? ⟨gA, 0, none⟩ = some (.slice Ao21 x537000_1.length co21) ∧ w'.cell? ⟨gA, 1, none⟩ = some (.int .i64 x537001_1) ∧ w'.cell? ⟨gA, 2, none⟩ = some (.int .i64 x537002_1) ∧ w'.cell? (ad537.add ((x9_1).toNat * 4)) = some (.slice A540_0 ((rd_T32 l0 x9_1).f0).length c540_0) ∧ w'.cell? ⟨(ad537.add ((x9_1).toNat * 4)).block, (ad537.add ((x9_1).toNat * 4)).off + 1, none⟩ = some (.slice A540_1 ((rd_T32 l0 x9_1).f1).length c540_1) ∧ w'.cell? ⟨(ad537.add ((x9_1).toNat * 4)).block, (ad537.add ((x9_1).toNat * 4)).off + 2, none⟩ = some (.int .i64 ((rd_T32 l0 x9_1).f2)) ∧ w'.cell? ⟨(ad537.add ((x9_1).toNat * 4)).block, (ad537.add ((x9_1).toNat * 4)).off + 3, none⟩ = some (.int .i64 ((rd_T32 l0 x9_1).f3))) (ds := []) #[false, false, false, false, false, false, false, false, false, false, false, false] (by kernel_rfl) rfl rfl ⟨(blk_cell BK536.out 0).trans rfl, (blk_cell BK536.out 1).trans rfl, (blk_cell BK536.out 2).trans rfl, ((HB.out.cell (World.block_lt_of_cell? w _ hw540_0)).trans hw540_0), ((HB.out.cell (World.block_lt_of_cell? w _ hw540_1)).trans hw540_1), ((HB.out.cell (World.block_lt_of_cell? w _ hw540_2)).trans hw540_2), ((HB.out.cell (World.block_lt_of_cell? w _ hw540_3)).trans hw540_3)⟩ (fun hHeld => ?_); refine with_tabW mbk.tab11 mbk.bits11 (fun HT_ HW_ => ?_)
               generalize w20.drew = w22 at HO_6 HO_7 HO_537000 BK536 HB HR540_0 HR540_1 hx540_0 hx540_1 hx540_2 hx540_3 hHeld ⊢
               refine pure_ (i := 1) (N := some 43) (v := ?_) (a' := ?_) #[false, true, false, false, false, false, false, false, false, false, false, false] rfl rfl (any_of HT_.out (by kernel_rfl)) (fun _ _ _ h => h) (Or.inl ⟨by rfl, ?_⟩) ?_ ?_
               rotate_left
               ·intro w'
                go_simp
                with_reducible rfl
               rotate_left
               ·simp only [Act.put, List.setIfInBounds_toArray, List.set_cons_zero, List.set_cons_succ, i64_w, i32_w]
                rfl
               refine pure_ (i := 2) (N := some 44) (v := ?_) (a' := ?_) #[false, true, true, false, false, false, false, false, false, false, false, false] rfl rfl (any_of HT_.out (by kernel_rfl)) (fun _ _ _ h => h) (Or.inl ⟨by rfl, ?_⟩) ?_ ?_
               rotate_left
               ·intro w'
                go_simp
                with_reducible rfl
               rotate_left
               ·simp only [Act.put, List.setIfInBounds_toArray, List.set_cons_zero, List.set_cons_succ, i64_w, i32_w]
                rfl
               refine pure_ (i := 3) (N := some 45) (v := ?_) (a' := ?_) #[false, true, true, true, false, false, false, false, false, false, false, false] rfl rfl (any_of HT_.out (by kernel_rfl)) (fun _ _ _ h => h) (Or.inl ⟨by rfl, ?_⟩) ?_ ?_
               rotate_left
               ·intro w'
                go_simp
                with_reducible rfl
               rotate_left
               ·simp only [Act.put, List.setIfInBounds_toArray, List.set_cons_zero, List.set_cons_succ, i64_w, i32_w]
                rfl
               refine take_ (i := 0) (N := some 42) (v := ?_) (a' := ?_) #[true, true, true, true, false, false, false, false, false, false, false, false] rfl rfl (take_ofW HT_.out HW_.out (by kernel_rfl)) (fun _ _ _ h => h) (Or.inl ⟨by rfl, ?_⟩) hHeld ?_ ?_
               rotate_left
               ·rintro w' ⟨s0, s1, s2, s3, s4, s5, s6⟩
                go_simp
                with_reducible rfl
               rotate_left
               ·simp only [Act.put, List.setIfInBounds_toArray, List.set_cons_zero, List.set_cons_succ, i64_w, i32_w]
                rfl
               refine take_ (i := 4) (N := some 46) (v := ?_) (a' := ?_) #[true, true, true, true, true, false, false, false, false, false, false, false] rfl rfl (take_ofW HT_.out HW_.out (by kernel_rfl)) (fun _ _ _ h => h) (Or.inl ⟨by rfl, ?_⟩) hHeld ?_ ?_
               rotate_left
               ·rintro w' ⟨s0, s1, s2, s3, s4, s5, s6⟩
                go_simp
                with_reducible rfl
               rotate_left
               ·simp only [Act.put, List.setIfInBounds_toArray, List.set_cons_zero, List.set_cons_succ, i64_w, i32_w]
                rfl
               refine join_ (σ := Value × Nat) 2 #[true, true, true, true, true, true, true, true, true, true, false, false] (fun s_ => [(47, .tuple #[.agg #[s_.1, .int .i64 t544, .int .i64 t545], .int .i64 t546]), (12, .pointer (some ⟨s_.2, 0, none⟩)), (41, .tuple #[.agg #[s_.1, .int .i64 t544, .int .i64 t545], .int .i64 t546]), (48, .agg #[s_.1, .int .i64 t544, .int .i64 t545]), (49, .int .i64 t546)]) (fun s_ w' => (w'.cell? ⟨gA, 0, none⟩ = some (.slice Ao21 x537000_1.length co21) ∧ w'.cell? ⟨gA, 1, none⟩ = some (.int .i64 x537001_1) ∧ w'.cell? ⟨gA, 2, none⟩ = some (.int .i64 x537002_1) ∧ w'.cell? (ad537.add ((x9_1).toNat * 4)) = some (.slice A540_0 ((rd_T32 l0 x9_1).f0).length c540_0) ∧ w'.cell? ⟨(ad537.add ((x9_1).toNat * 4)).block, (ad537.add ((x9_1).toNat * 4)).off + 1, none⟩ = some (.slice A540_1 ((rd_T32 l0 x9_1).f1).length c540_1) ∧ w'.cell? ⟨(ad537.add ((x9_1).toNat * 4)).block, (ad537.add ((x9_1).toNat * 4)).off + 2, none⟩ = some (.int .i64 ((rd_T32 l0 x9_1).f2)) ∧ w'.cell? ⟨(ad537.add ((x9_1).toNat * 4)).block, (ad537.add ((x9_1).toNat * 4)).off + 3, none⟩ = some (.int .i64 ((rd_T32 l0 x9_1).f3))) ∧ (Kd.R k36 36 w' w.heap.size (fun k_ => some k_ ≠ (.slice Ao21 x537000_1.length co21 : Value).ownBlock) s_.1 t541) ∧ (Kd.R k36 36 w' w.heap.size (fun k_ => some k_ ≠ (s_.1 : Value).ownBlock) (.slice Ao21 x537000_1.length co21) x537000_1) ∧ (Kd.R (Kd.int .i64) 3 w' w.heap.size (fun _ => True) u6 x6_1) ∧ (Kd.S k26 26 w' w.heap.size (fun k_ => some k_ ≠ (s_.1 : Value).ownBlock ∧ True ∧ k_ ≠ gA ∧ k_ ≠ s_.2) u7 x7_1) ∧ (w'.heap[gA]? = some (.cells #[.slice Ao21 x537000_1.length co21, .int .i64 x537001_1, .int .i64 x537002_1] 26 (0, 0))) ∧ (w'.heap[s_.2]? = some (.cells #[.slice none 0 0, .int .i64 0, .int .i64 0] 26 (0, 0))) ∧ (w.heap.size ≤ s_.2) ∧ (w.heap.size ≤ s_.2) ∧ (gA ≠ s_.2) ∧ (s_.2 ≠ gA) ∧ (Below w.heap.size w w')) ?_ ?_
               rotate_left
               ·intro hCont
                refine two_ (i := 5) (j := 9) (Ni := some 47) (Nj := some 12) #[true, true, true, true, true, true, false, false, false, false, false, false] #[true, true, true, true, true, false, false, false, false, true, false, false] rfl rfl rfl rfl (two_of HT_.out (by kernel_rfl)) (by decide) (by decide) (fun K hK => ?_) (fun K hK => ?_)
                ·skip
                 refine goes_ Try.func9 (by kernel_rfl) rfl #[.agg #[.slice Ao21 x537000_1.length co21, .int .i64 x537001_1, .int .i64 x537002_1], .agg #[.slice A540_0 ((rd_T32 l0 x9_1).f0).length c540_0, .slice A540_1 ((rd_T32 l0 x9_1).f1).length c540_1, .int .i64 ((rd_T32 l0 x9_1).f2), .int .i64 ((rd_T32 l0 x9_1).f3)]] (by rfl) rfl rfl (by (try simp only [List.map_toArray, List.map_cons, List.map_nil]); first | done | rfl | (simp only [List.length_drop, List.length_take]; rfl)) ?_
                 with_reducible refine (manifest_Apply.calls _ _ x537000_1 x537001_1 x537002_1 _ _ ((rd_T32 l0 x9_1).f0) _ _ ((rd_T32 l0 x9_1).f1) ((rd_T32 l0 x9_1).f2) ((rd_T32 l0 x9_1).f3) t541 t544 t545 t546 _ ?side1 ?side2 ?side3 ?side4 ?side5 ?side6 A14.out).mono ?_
                 (case side1 => repeat (first | exact (Kd.R_reads' HO_537000.out).2.2 | (with_reducible refine Kd.C_alloc ?_ _) | (with_reducible refine Kd.C_drewN ?_ _) | (with_reducible refine Kd.C_drew ?_)))
                 (case side2 => exact (Kd.R_reads' HO_537000.out).2.1)
                 (case side3 => repeat (first | exact (Kd.C_below HR540_0.out HB.out) | (with_reducible refine Kd.C_alloc ?_ _) | (with_reducible refine Kd.C_drewN ?_ _) | (with_reducible refine Kd.C_drew ?_)))
                 (case side4 => exact HC540_0.out)
                 (case side5 => repeat (first | exact (Kd.C_below HR540_1.out HB.out) | (with_reducible refine Kd.C_alloc ?_ _) | (with_reducible refine Kd.C_drewN ?_ _) | (with_reducible refine Kd.C_drew ?_)))
                 (case side6 => exact HC540_1.out)
                 rintro e w23 ⟨v542, rfl, ho0, hb⟩
                 refine ⟨_, rfl, ?_⟩
                 have n0_ := Aside0.mk (Kd.R_below (by (with_reducible repeat (first | apply Kd.R_alloc | apply Kd.R_drewN | apply Kd.R_drew)); exact HO_6.out) hb)
                 have n1_ := Aside0.mk (Kd.S_elder' (by (with_reducible repeat (first | apply Kd.S_alloc | apply Kd.S_drewN | apply Kd.S_drew)); exact HO_7.out) (Kd.R_base ho0) hb)
                 have n2_ := Aside0.mk (Kd.R_elder' (by (with_reducible repeat (first | apply Kd.R_alloc | apply Kd.R_drewN | apply Kd.R_drew)); exact HO_537000.out) (Kd.R_base ho0) hb)
                 have n3_ := Aside0.mk (Kd.R_lower (Kd.R_new' ho0 (Kd.R_lt (by (with_reducible repeat (first | apply Kd.R_alloc | apply Kd.R_drewN | apply Kd.R_drew)); exact HO_537000.out))) (below_size (by repeat (first | (with_reducible first | exact HB.out | apply below_alloc | apply pw_below_drewN | apply below_drew1 | refine below_set ?_ GE536.out) | exact HB.out))))
                 have n4_ := Aside0.mk (blk_below (g := gA) (o := .cells #[.slice Ao21 x537000_1.length co21, .int .i64 x537001_1, .int .i64 x537002_1] 26 (0, 0)) (by (with_reducible repeat (first | refine blk_drewN ?_ _ | refine blk_drew ?_ | refine blk_alloc ?_ _)); exact BK536.out) hb)
                 have n5_ := Aside0.mk (below_step (by repeat (first | (with_reducible first | exact HB.out | apply below_alloc | apply pw_below_drewN | apply below_drew1 | refine below_set ?_ GE536.out) | exact HB.out)) hb)
                 clear HO_6
                 clear HO_7
                 clear HO_537000
                 clear BK536
                 clear HB
                 have HO_6 := n0_
                 have HO_7 := n1_
                 have HO_537000 := n2_
                 have HO543 := n3_
                 have BK536 := n4_
                 have HB := n5_
                 clear n0_ n1_ n2_ n3_ n4_ n5_
                 (try clear hb)
                 (try clear hb2)
                 (try clear hk)
                 (try clear hi)
                 (try clear ho0)
                 refine hK.out _ _ ⟨(blk_cell BK536.out 0).trans rfl, (blk_cell BK536.out 1).trans rfl, (blk_cell BK536.out 2).trans rfl, ((HB.out.cell (World.block_lt_of_cell? w _ hw540_0)).trans hw540_0), ((HB.out.cell (World.block_lt_of_cell? w _ hw540_1)).trans hw540_1), ((HB.out.cell (World.block_lt_of_cell? w _ hw540_2)).trans hw540_2), ((HB.out.cell (World.block_lt_of_cell? w _ hw540_3)).trans hw540_3)⟩ (fun hHeld => ?_)
                 clear hK K
                 refine norm_ (a' := ?_) ?_ ?_
                 rotate_left
                 ·show Act.put _ (some 47) _ = _
                  simp only [Act.put, List.setIfInBounds_toArray, List.set_cons_zero, List.set_cons_succ, i64_w, i32_w]
                  rfl
                 refine pure_ (i := 6) (N := some 41) (v := ?_) (a' := ?_) #[true, true, true, true, true, true, true, false, false, false, false, false] rfl rfl (any_of HT_.out (by kernel_rfl)) (fun _ _ _ h => h) (Or.inl ⟨by rfl, ?_⟩) ?_ ?_
                 rotate_left
                 ·intro w'
                  go_simp
                  with_reducible rfl
                 rotate_left
                 ·simp only [Act.put, List.setIfInBounds_toArray, List.set_cons_zero, List.set_cons_succ, i64_w, i32_w]
                  rfl
                 refine pure_ (i := 7) (N := some 48) (v := ?_) (a' := ?_) #[true, true, true, true, true, true, true, true, false, false, false, false] rfl rfl (any_of HT_.out (by kernel_rfl)) (fun _ _ _ h => h) (Or.inl ⟨by rfl, ?_⟩) ?_ ?_
                 rotate_left
                 ·intro w'
                  go_simp
                  with_reducible rfl
                 rotate_left
                 ·simp only [Act.put, List.setIfInBounds_toArray, List.set_cons_zero, List.set_cons_succ, i64_w, i32_w]
                  rfl
                 refine pure_ (i := 8) (N := some 49) (v := ?_) (a' := ?_) #[true, true, true, true, true, true, true, true, true, false, false, false] rfl rfl (any_of HT_.out (by kernel_rfl)) (fun _ _ _ h => h) (Or.inl ⟨by rfl, ?_⟩) ?_ ?_
                 rotate_left
                 ·intro w'
                  go_simp
                  with_reducible rfl
                 rotate_left
                 ·simp only [Act.put, List.setIfInBounds_toArray, List.set_cons_zero, List.set_cons_succ, i64_w, i32_w]
                  rfl
                 refine one_ (i := 9) (N := some 12) #[true, true, true, true, true, true, true, true, true, true, false, false] rfl rfl (one_of HT_.out (by kernel_rfl)) (by decide) (fun K hK => ?_)
                 refine box_step ?hg (N := 12) ?hd (cs := #[.slice none 0 0, .int .i64 0, .int .i64 0]) (t := 26) ?hr ?_; (case hd => rfl); (case hg => rfl); (case hr => first | (go_simp; done) | (go_simp; rfl))
                 intro gB hg w24 hbox hb
                 have n0_ := Aside0.mk (Kd.R_below (by (with_reducible repeat (first | apply Kd.R_alloc | apply Kd.R_drewN | apply Kd.R_drew)); exact HO_6.out) hb)
                 have n1_ := Aside0.mk (Kd.S_below (Kd.S_elderB (by (with_reducible repeat (first | apply Kd.S_alloc | apply Kd.S_drewN | apply Kd.S_drew)); exact HO_7.out) gB (Nat.le_of_eq hg.symm)) hb)
                 have n2_ := Aside0.mk (Kd.R_below (by (with_reducible repeat (first | apply Kd.R_alloc | apply Kd.R_drewN | apply Kd.R_drew)); exact HO_537000.out) hb)
                 have n3_ := Aside0.mk (Kd.R_below (by (with_reducible repeat (first | apply Kd.R_alloc | apply Kd.R_drewN | apply Kd.R_drew)); exact HO543.out) hb)
                 have n4_ := Aside0.mk (blk_below (g := gA) (o := .cells #[.slice Ao21 x537000_1.length co21, .int .i64 x537001_1, .int .i64 x537002_1] 26 (0, 0)) (by (with_reducible repeat (first | refine blk_drewN ?_ _ | refine blk_drew ?_ | refine blk_alloc ?_ _)); exact BK536.out) hb)
                 have n5_ := Aside0.mk (below_step (by repeat (first | (with_reducible first | exact HB.out | apply below_alloc | apply pw_below_drewN | apply below_drew1 | refine below_set ?_ GE536.out) | exact HB.out)) hb)
                 have n6_ := Aside0.mk (hbox)
                 have n7_ := Aside0.mk ((by rw [hg]; exact (below_size (by repeat (first | (with_reducible first | exact HB.out | apply below_alloc | apply pw_below_drewN | apply below_drew1 | refine below_set ?_ GE536.out) | exact HB.out))) : w.heap.size ≤ gB))
                 have n8_ := Aside0.mk ((by rw [hg]; exact (below_size (by repeat (first | (with_reducible first | exact HB.out | apply below_alloc | apply pw_below_drewN | apply below_drew1 | refine below_set ?_ GE536.out) | exact HB.out))) : w.heap.size ≤ gB))
                 have n9_ := Aside0.mk ((by rw [hg]; exact Nat.ne_of_lt (blk_lt (g := gA) (o := .cells #[.slice Ao21 x537000_1.length co21, .int .i64 x537001_1, .int .i64 x537002_1] 26 (0, 0)) (by (with_reducible repeat (first | refine blk_drewN ?_ _ | refine blk_drew ?_ | refine blk_alloc ?_ _)); exact BK536.out)) : gA ≠ gB))
                 have n10_ := Aside0.mk ((by rw [hg]; exact Nat.ne_of_gt (blk_lt (g := gA) (o := .cells #[.slice Ao21 x537000_1.length co21, .int .i64 x537001_1, .int .i64 x537002_1] 26 (0, 0)) (by (with_reducible repeat (first | refine blk_drewN ?_ _ | refine blk_drew ?_ | refine blk_alloc ?_ _)); exact BK536.out)) : gB ≠ gA))
                 clear HO_6
                 clear HO_7
                 clear HO_537000
                 clear HO543
                 clear BK536
                 clear HB
                 have HO_6 := n0_
                 have HO_7 := n1_
                 have HO_537000 := n2_
                 have HO543 := n3_
                 have BK536 := n4_
                 have HB := n5_
                 have BK547 := n6_
                 have GW547 := n7_
                 have GE547 := n8_
                 have NB536_547 := n9_
                 have NB547_536 := n10_
                 clear n0_ n1_ n2_ n3_ n4_ n5_ n6_ n7_ n8_ n9_ n10_
                 clear hb hbox hg
                 refine hK.out _ _ ⟨(blk_cell BK536.out 0).trans rfl, (blk_cell BK536.out 1).trans rfl, (blk_cell BK536.out 2).trans rfl, ((HB.out.cell (World.block_lt_of_cell? w _ hw540_0)).trans hw540_0), ((HB.out.cell (World.block_lt_of_cell? w _ hw540_1)).trans hw540_1), ((HB.out.cell (World.block_lt_of_cell? w _ hw540_2)).trans hw540_2), ((HB.out.cell (World.block_lt_of_cell? w _ hw540_3)).trans hw540_3)⟩ (fun hHeld => ?_)
                 clear hK K
                 refine norm_ (a' := ?_) ?_ ?_
                 rotate_left
                 ·show Act.put _ (some 12) _ = _
                  simp only [Act.put, List.setIfInBounds_toArray, List.set_cons_zero, List.set_cons_succ, i64_w, i32_w]
                  rfl
                 exact norm_ (by simp only [putAll, Act.put, List.setIfInBounds_toArray, List.set_cons_zero, List.set_cons_succ]) (hCont (v542, gB) _ ⟨hHeld, (by (with_reducible repeat (first | apply Kd.R_alloc | apply Kd.R_drewN | apply Kd.R_drew)); exact Kd.R_mono HO543.out (fun _ hk => hk.2)), (by (with_reducible repeat (first | apply Kd.R_alloc | apply Kd.R_drewN | apply Kd.R_drew)); exact Kd.R_mono HO_537000.out (fun _ hk => hk.2)), (by (with_reducible repeat (first | apply Kd.R_alloc | apply Kd.R_drewN | apply Kd.R_drew)); exact HO_6.out), (by (with_reducible repeat (first | apply Kd.S_alloc | apply Kd.S_drewN | apply Kd.S_drew)); exact Kd.S_mono HO_7.out (fun _ hk => ⟨hk.1.2, ⟨hk.1.1.1, ⟨hk.1.1.2, hk.2⟩⟩⟩)), (by (with_reducible repeat (first | refine blk_drewN ?_ _ | refine blk_drew ?_ | refine blk_alloc ?_ _)); exact BK536.out), (by (with_reducible repeat (first | refine blk_drewN ?_ _ | refine blk_drew ?_ | refine blk_alloc ?_ _)); exact BK547.out), GW547.out, GE547.out, NB536_547.out, NB547_536.out, (by repeat (first | (with_reducible first | exact HB.out | apply below_alloc | apply pw_below_drewN | apply below_drew1 | refine below_set ?_ GE536.out | refine below_set ?_ GE547.out) | exact HB.out))⟩)
                ·skip
                 refine box_step ?hg (N := 12) ?hd (cs := #[.slice none 0 0, .int .i64 0, .int .i64 0]) (t := 26) ?hr ?_; (case hd => rfl); (case hg => rfl); (case hr => first | (go_simp; done) | (go_simp; rfl))
                 intro gB hg w23 hbox hb
                 have n0_ := Aside0.mk (Kd.R_below (by (with_reducible repeat (first | apply Kd.R_alloc | apply Kd.R_drewN | apply Kd.R_drew)); exact HO_6.out) hb)
                 have n1_ := Aside0.mk (Kd.S_below (Kd.S_elderB (by (with_reducible repeat (first | apply Kd.S_alloc | apply Kd.S_drewN | apply Kd.S_drew)); exact HO_7.out) gB (Nat.le_of_eq hg.symm)) hb)
                 have n2_ := Aside0.mk (Kd.R_below (by (with_reducible repeat (first | apply Kd.R_alloc | apply Kd.R_drewN | apply Kd.R_drew)); exact HO_537000.out) hb)
                 have n3_ := Aside0.mk (blk_below (g := gA) (o := .cells #[.slice Ao21 x537000_1.length co21, .int .i64 x537001_1, .int .i64 x537002_1] 26 (0, 0)) (by (with_reducible repeat (first | refine blk_drewN ?_ _ | refine blk_drew ?_ | refine blk_alloc ?_ _)); exact BK536.out) hb)
                 have n4_ := Aside0.mk (below_step (by repeat (first | (with_reducible first | exact HB.out | apply below_alloc | apply pw_below_drewN | apply below_drew1 | refine below_set ?_ GE536.out) | exact HB.out)) hb)
                 have n5_ := Aside0.mk (hbox)
                 have n6_ := Aside0.mk ((by rw [hg]; exact (below_size (by repeat (first | (with_reducible first | exact HB.out | apply below_alloc | apply pw_below_drewN | apply below_drew1 | refine below_set ?_ GE536.out) | exact HB.out))) : w.heap.size ≤ gB))
                 have n7_ := Aside0.mk ((by rw [hg]; exact (below_size (by repeat (first | (with_reducible first | exact HB.out | apply below_alloc | apply pw_below_drewN | apply below_drew1 | refine below_set ?_ GE536.out) | exact HB.out))) : w.heap.size ≤ gB))
                 have n8_ := Aside0.mk ((by rw [hg]; exact Nat.ne_of_lt (blk_lt (g := gA) (o := .cells #[.slice Ao21 x537000_1.length co21, .int .i64 x537001_1, .int .i64 x537002_1] 26 (0, 0)) (by (with_reducible repeat (first | refine blk_drewN ?_ _ | refine blk_drew ?_ | refine blk_alloc ?_ _)); exact BK536.out)) : gA ≠ gB))
                 have n9_ := Aside0.mk ((by rw [hg]; exact Nat.ne_of_gt (blk_lt (g := gA) (o := .cells #[.slice Ao21 x537000_1.length co21, .int .i64 x537001_1, .int .i64 x537002_1] 26 (0, 0)) (by (with_reducible repeat (first | refine blk_drewN ?_ _ | refine blk_drew ?_ | refine blk_alloc ?_ _)); exact BK536.out)) : gB ≠ gA))
                 clear HO_6
                 clear HO_7
                 clear HO_537000
                 clear BK536
                 clear HB
                 have HO_6 := n0_
                 have HO_7 := n1_
                 have HO_537000 := n2_
                 have BK536 := n3_
                 have HB := n4_
                 have BK547 := n5_
                 have GW547 := n6_
                 have GE547 := n7_
                 have NB536_547 := n8_
                 have NB547_536 := n9_
                 clear n0_ n1_ n2_ n3_ n4_ n5_ n6_ n7_ n8_ n9_
                 clear hb hbox hg
                 refine hK.out _ _ ⟨(blk_cell BK536.out 0).trans rfl, (blk_cell BK536.out 1).trans rfl, (blk_cell BK536.out 2).trans rfl, ((HB.out.cell (World.block_lt_of_cell? w _ hw540_0)).trans hw540_0), ((HB.out.cell (World.block_lt_of_cell? w _ hw540_1)).trans hw540_1), ((HB.out.cell (World.block_lt_of_cell? w _ hw540_2)).trans hw540_2), ((HB.out.cell (World.block_lt_of_cell? w _ hw540_3)).trans hw540_3)⟩ (fun hHeld => ?_)
                 clear hK K
                 refine norm_ (a' := ?_) ?_ ?_
                 rotate_left
                 ·show Act.put _ (some 12) _ = _
                  simp only [Act.put, List.setIfInBounds_toArray, List.set_cons_zero, List.set_cons_succ, i64_w, i32_w]
                  rfl
                 refine one_ (i := 5) (N := some 47) #[true, true, true, true, true, true, false, false, false, true, false, false] rfl rfl (one_of HT_.out (by kernel_rfl)) (by decide) (fun K hK => ?_)
                 refine goes_ Try.func9 (by kernel_rfl) rfl #[.agg #[.slice Ao21 x537000_1.length co21, .int .i64 x537001_1, .int .i64 x537002_1], .agg #[.slice A540_0 ((rd_T32 l0 x9_1).f0).length c540_0, .slice A540_1 ((rd_T32 l0 x9_1).f1).length c540_1, .int .i64 ((rd_T32 l0 x9_1).f2), .int .i64 ((rd_T32 l0 x9_1).f3)]] (by rfl) rfl rfl (by (try simp only [List.map_toArray, List.map_cons, List.map_nil]); first | done | rfl | (simp only [List.length_drop, List.length_take]; rfl)) ?_
                 with_reducible refine (manifest_Apply.calls _ _ x537000_1 x537001_1 x537002_1 _ _ ((rd_T32 l0 x9_1).f0) _ _ ((rd_T32 l0 x9_1).f1) ((rd_T32 l0 x9_1).f2) ((rd_T32 l0 x9_1).f3) t541 t544 t545 t546 _ ?side1 ?side2 ?side3 ?side4 ?side5 ?side6 A14.out).mono ?_
                 (case side1 => repeat (first | exact (Kd.R_reads' HO_537000.out).2.2 | (with_reducible refine Kd.C_alloc ?_ _) | (with_reducible refine Kd.C_drewN ?_ _) | (with_reducible refine Kd.C_drew ?_)))
                 (case side2 => exact (Kd.R_reads' HO_537000.out).2.1)
                 (case side3 => repeat (first | exact (Kd.C_below HR540_0.out HB.out) | (with_reducible refine Kd.C_alloc ?_ _) | (with_reducible refine Kd.C_drewN ?_ _) | (with_reducible refine Kd.C_drew ?_)))
                 (case side4 => exact HC540_0.out)
                 (case side5 => repeat (first | exact (Kd.C_below HR540_1.out HB.out) | (with_reducible refine Kd.C_alloc ?_ _) | (with_reducible refine Kd.C_drewN ?_ _) | (with_reducible refine Kd.C_drew ?_)))
                 (case side6 => exact HC540_1.out)
                 rintro e w24 ⟨v542, rfl, ho0, hb⟩
                 refine ⟨_, rfl, ?_⟩
                 have n0_ := Aside0.mk (Kd.R_below (by (with_reducible repeat (first | apply Kd.R_alloc | apply Kd.R_drewN | apply Kd.R_drew)); exact HO_6.out) hb)
                 have n1_ := Aside0.mk (Kd.S_elder' (by (with_reducible repeat (first | apply Kd.S_alloc | apply Kd.S_drewN | apply Kd.S_drew)); exact HO_7.out) (Kd.R_base ho0) hb)
                 have n2_ := Aside0.mk (Kd.R_elder' (by (with_reducible repeat (first | apply Kd.R_alloc | apply Kd.R_drewN | apply Kd.R_drew)); exact HO_537000.out) (Kd.R_base ho0) hb)
                 have n3_ := Aside0.mk (Kd.R_lower (Kd.R_new' ho0 (Kd.R_lt (by (with_reducible repeat (first | apply Kd.R_alloc | apply Kd.R_drewN | apply Kd.R_drew)); exact HO_537000.out))) (below_size (by repeat (first | (with_reducible first | exact HB.out | apply below_alloc | apply pw_below_drewN | apply below_drew1 | refine below_set ?_ GE536.out | refine below_set ?_ GE547.out) | exact HB.out))))
                 have n4_ := Aside0.mk (blk_below (g := gA) (o := .cells #[.slice Ao21 x537000_1.length co21, .int .i64 x537001_1, .int .i64 x537002_1] 26 (0, 0)) (by (with_reducible repeat (first | refine blk_drewN ?_ _ | refine blk_drew ?_ | refine blk_alloc ?_ _)); exact BK536.out) hb)
                 have n5_ := Aside0.mk (blk_below (g := gB) (o := .cells #[.slice none 0 0, .int .i64 0, .int .i64 0] 26 (0, 0)) (by (with_reducible repeat (first | refine blk_drewN ?_ _ | refine blk_drew ?_ | refine blk_alloc ?_ _)); exact BK547.out) hb)
                 have n6_ := Aside0.mk (below_step (by repeat (first | (with_reducible first | exact HB.out | apply below_alloc | apply pw_below_drewN | apply below_drew1 | refine below_set ?_ GE536.out | refine below_set ?_ GE547.out) | exact HB.out)) hb)
                 clear HO_6
                 clear HO_7
                 clear HO_537000
                 clear BK536
                 clear BK547
                 clear HB
                 have HO_6 := n0_
                 have HO_7 := n1_
                 have HO_537000 := n2_
                 have HO543 := n3_
                 have BK536 := n4_
                 have BK547 := n5_
                 have HB := n6_
                 clear n0_ n1_ n2_ n3_ n4_ n5_ n6_
                 (try clear hb)
                 (try clear hb2)
                 (try clear hk)
                 (try clear hi)
                 (try clear ho0)
                 refine hK.out _ _ ⟨(blk_cell BK536.out 0).trans rfl, (blk_cell BK536.out 1).trans rfl, (blk_cell BK536.out 2).trans rfl, ((HB.out.cell (World.block_lt_of_cell? w _ hw540_0)).trans hw540_0), ((HB.out.cell (World.block_lt_of_cell? w _ hw540_1)).trans hw540_1), ((HB.out.cell (World.block_lt_of_cell? w _ hw540_2)).trans hw540_2), ((HB.out.cell (World.block_lt_of_cell? w _ hw540_3)).trans hw540_3)⟩ (fun hHeld => ?_)
                 clear hK K
                 refine norm_ (a' := ?_) ?_ ?_
                 rotate_left
                 ·show Act.put _ (some 47) _ = _
                  simp only [Act.put, List.setIfInBounds_toArray, List.set_cons_zero, List.set_cons_succ, i64_w, i32_w]
                  rfl
                 refine pure_ (i := 6) (N := some 41) (v := ?_) (a' := ?_) #[true, true, true, true, true, true, true, false, false, true, false, false] rfl rfl (any_of HT_.out (by kernel_rfl)) (fun _ _ _ h => h) (Or.inl ⟨by rfl, ?_⟩) ?_ ?_
                 rotate_left
                 ·intro w'
                  go_simp
                  with_reducible rfl
                 rotate_left
                 ·simp only [Act.put, List.setIfInBounds_toArray, List.set_cons_zero, List.set_cons_succ, i64_w, i32_w]
                  rfl
                 refine pure_ (i := 7) (N := some 48) (v := ?_) (a' := ?_) #[true, true, true, true, true, true, true, true, false, true, false, false] rfl rfl (any_of HT_.out (by kernel_rfl)) (fun _ _ _ h => h) (Or.inl ⟨by rfl, ?_⟩) ?_ ?_
                 rotate_left
                 ·intro w'
                  go_simp
                  with_reducible rfl
                 rotate_left
                 ·simp only [Act.put, List.setIfInBounds_toArray, List.set_cons_zero, List.set_cons_succ, i64_w, i32_w]
                  rfl
                 refine pure_ (i := 8) (N := some 49) (v := ?_) (a' := ?_) #[true, true, true, true, true, true, true, true, true, true, false, false] rfl rfl (any_of HT_.out (by kernel_rfl)) (fun _ _ _ h => h) (Or.inl ⟨by rfl, ?_⟩) ?_ ?_
                 rotate_left
                 ·intro w'
                  go_simp
                  with_reducible rfl
                 rotate_left
                 ·simp only [Act.put, List.setIfInBounds_toArray, List.set_cons_zero, List.set_cons_succ, i64_w, i32_w]
                  rfl
                 exact norm_ (by simp only [putAll, Act.put, List.setIfInBounds_toArray, List.set_cons_zero, List.set_cons_succ]) (hCont (v542, gB) _ ⟨hHeld, (by (with_reducible repeat (first | apply Kd.R_alloc | apply Kd.R_drewN | apply Kd.R_drew)); exact Kd.R_mono HO543.out (fun _ hk => hk.2)), (by (with_reducible repeat (first | apply Kd.R_alloc | apply Kd.R_drewN | apply Kd.R_drew)); exact Kd.R_mono HO_537000.out (fun _ hk => hk.2)), (by (with_reducible repeat (first | apply Kd.R_alloc | apply Kd.R_drewN | apply Kd.R_drew)); exact HO_6.out), (by (with_reducible repeat (first | apply Kd.S_alloc | apply Kd.S_drewN | apply Kd.S_drew)); exact Kd.S_mono HO_7.out (fun _ hk => ⟨hk.2, ⟨hk.1.1.1, ⟨hk.1.1.2, hk.1.2⟩⟩⟩)), (by (with_reducible repeat (first | refine blk_drewN ?_ _ | refine blk_drew ?_ | refine blk_alloc ?_ _)); exact BK536.out), (by (with_reducible repeat (first | refine blk_drewN ?_ _ | refine blk_drew ?_ | refine blk_alloc ?_ _)); exact BK547.out), GW547.out, GE547.out, NB536_547.out, NB547_536.out, (by repeat (first | (with_reducible first | exact HB.out | apply below_alloc | apply pw_below_drewN | apply below_drew1 | refine below_set ?_ GE536.out | refine below_set ?_ GE547.out) | exact HB.out))⟩)
               rintro ⟨v542, gB⟩ w25 ⟨hS_, h0_, h1_, h2_, h3_, h4_, h5_, h6_, h7_, h8_, h9_, h10_⟩
               have n0_ : Aside0 (Kd.R k36 36 w25 w.heap.size (fun k_ => some k_ ≠ (.slice Ao21 x537000_1.length co21 : Value).ownBlock) v542 t541) := ⟨h0_⟩
               have n1_ : Aside0 (Kd.R k36 36 w25 w.heap.size (fun k_ => some k_ ≠ (v542 : Value).ownBlock) (.slice Ao21 x537000_1.length co21) x537000_1) := ⟨h1_⟩
               have n2_ : Aside0 (Kd.R (Kd.int .i64) 3 w25 w.heap.size (fun _ => True) u6 x6_1) := ⟨h2_⟩
               have n3_ : Aside0 (Kd.S k26 26 w25 w.heap.size (fun k_ => some k_ ≠ (v542 : Value).ownBlock ∧ True ∧ k_ ≠ gA ∧ k_ ≠ gB) u7 x7_1) := ⟨h3_⟩
               have n4_ : Aside0 (w25.heap[gA]? = some (.cells #[.slice Ao21 x537000_1.length co21, .int .i64 x537001_1, .int .i64 x537002_1] 26 (0, 0))) := ⟨h4_⟩
               have n5_ : Aside0 (w25.heap[gB]? = some (.cells #[.slice none 0 0, .int .i64 0, .int .i64 0] 26 (0, 0))) := ⟨h5_⟩
               have n6_ : Aside0 (w.heap.size ≤ gB) := ⟨h6_⟩
               have n7_ : Aside0 (w.heap.size ≤ gB) := ⟨h7_⟩
               have n8_ : Aside0 (gA ≠ gB) := ⟨h8_⟩
               have n9_ : Aside0 (gB ≠ gA) := ⟨h9_⟩
               have n10_ : Aside0 (Below w.heap.size w w25) := ⟨h10_⟩
               clear HO_6
               clear HO_7
               clear HO_537000
               clear BK536
               clear HB
               clear h0_ h1_ h2_ h3_ h4_ h5_ h6_ h7_ h8_ h9_ h10_
               have HO543 := n0_
               have HO_537000 := n1_
               have HO_6 := n2_
               have HO_7 := n3_
               have BK536 := n4_
               have BK547 := n5_
               have GW547 := n6_
               have GE547 := n7_
               have NB536_547 := n8_
               have NB547_536 := n9_
               have HB := n10_
               clear n0_ n1_ n2_ n3_ n4_ n5_ n6_ n7_ n8_ n9_ n10_
               have hHeld : w25.cell? ⟨gA, 0, none⟩ = some (.slice Ao21 x537000_1.length co21) ∧ w25.cell? ⟨gA, 1, none⟩ = some (.int .i64 x537001_1) ∧ w25.cell? ⟨gA, 2, none⟩ = some (.int .i64 x537002_1) ∧ w25.cell? (ad537.add ((x9_1).toNat * 4)) = some (.slice A540_0 ((rd_T32 l0 x9_1).f0).length c540_0) ∧ w25.cell? ⟨(ad537.add ((x9_1).toNat * 4)).block, (ad537.add ((x9_1).toNat * 4)).off + 1, none⟩ = some (.slice A540_1 ((rd_T32 l0 x9_1).f1).length c540_1) ∧ w25.cell? ⟨(ad537.add ((x9_1).toNat * 4)).block, (ad537.add ((x9_1).toNat * 4)).off + 2, none⟩ = some (.int .i64 ((rd_T32 l0 x9_1).f2)) ∧ w25.cell? ⟨(ad537.add ((x9_1).toNat * 4)).block, (ad537.add ((x9_1).toNat * 4)).off + 3, none⟩ = some (.int .i64 ((rd_T32 l0 x9_1).f3)) := hS_
               obtain ⟨Ao26, co26, eo26⟩ := Kd.R_slice HO543.out
               (first | subst eo26 | (injection eo26 with f1_ f2_ f3_; have f4_ := f1_.symm; have f5_ := f3_.symm; clear f1_ f2_ f3_; subst f4_; subst f5_))
               refine norm_ (a' := ?_) ?_ ?_
               rotate_left
               ·simp only [putAll, Act.put, List.setIfInBounds_toArray, List.set_cons_zero, List.set_cons_succ]
                rfl
               refine one_ (i := 10) (N := none) #[true, true, true, true, true, true, true, true, true, true, true, false] rfl rfl (one_of HT_.out (by kernel_rfl)) (by decide) (fun K hK => ?_)
               have hs27 : w25.cell? ⟨gB, 0, none⟩ = some (.slice none 0 0) := (blk_cell BK547.out 0).trans rfl
               have hfs27 := blk_frozen BK547.out 0
               have hns27_0 := NB536_547.out
               have hms27_0 := NB547_536.out
               have hs28 : w25.cell? ⟨gB, 1, none⟩ = some (.int .i64 0) := (blk_cell BK547.out 1).trans rfl
               have hfs28 := blk_frozen BK547.out 1
               have hns28_0 := NB536_547.out
               have hms28_0 := NB547_536.out
               have hs29 : w25.cell? ⟨gB, 2, none⟩ = some (.int .i64 0) := (blk_cell BK547.out 2).trans rfl
               have hfs29 := blk_frozen BK547.out 2
               have hns29_0 := NB536_547.out
               have hms29_0 := NB547_536.out
               refine skip_ (w1 := ?_) (by rfl) rfl ?_ ?_
               rotate_left
               ·go_simp
                rfl
               refine hK.out _ _ ⟨((cell_far (p := ⟨gB, _, none⟩) NB536_547.out _).trans (((cell_far (p := ⟨gB, _, none⟩) NB536_547.out _).trans (((cell_far (p := ⟨gB, _, none⟩) NB536_547.out _).trans (hHeld.1)))))), ((cell_far (p := ⟨gB, _, none⟩) NB536_547.out _).trans (((cell_far (p := ⟨gB, _, none⟩) NB536_547.out _).trans (((cell_far (p := ⟨gB, _, none⟩) NB536_547.out _).trans (hHeld.2.1)))))), ((cell_far (p := ⟨gB, _, none⟩) NB536_547.out _).trans (((cell_far (p := ⟨gB, _, none⟩) NB536_547.out _).trans (((cell_far (p := ⟨gB, _, none⟩) NB536_547.out _).trans (hHeld.2.2.1)))))), ((cell_far (p := ⟨gB, _, none⟩) (by first | exact Nat.ne_of_lt (Nat.lt_of_lt_of_le (by have := World.block_lt_of_cell? _ _ hw540_0; first | rwa [add_block] at this | exact this) GW547.out) | (rw [add_block]; exact Nat.ne_of_lt (Nat.lt_of_lt_of_le (by have := World.block_lt_of_cell? _ _ hw540_0; first | rwa [add_block] at this | exact this) GW547.out)) | (show (Addr.add _ _).block ≠ _; rw [add_block]; exact Nat.ne_of_lt (Nat.lt_of_lt_of_le (by have := World.block_lt_of_cell? _ _ hw540_0; first | rwa [add_block] at this | exact this) GW547.out)) | (dsimp only; exact Nat.ne_of_lt (Nat.lt_of_lt_of_le (by have := World.block_lt_of_cell? _ _ hw540_0; first | rwa [add_block] at this | exact this) GW547.out))) _).trans (((cell_far (p := ⟨gB, _, none⟩) (by first | exact Nat.ne_of_lt (Nat.lt_of_lt_of_le (by have := World.block_lt_of_cell? _ _ hw540_0; first | rwa [add_block] at this | exact this) GW547.out) | (rw [add_block]; exact Nat.ne_of_lt (Nat.lt_of_lt_of_le (by have := World.block_lt_of_cell? _ _ hw540_0; first | rwa [add_block] at this | exact this) GW547.out)) | (show (Addr.add _ _).block ≠ _; rw [add_block]; exact Nat.ne_of_lt (Nat.lt_of_lt_of_le (by have := World.block_lt_of_cell? _ _ hw540_0; first | rwa [add_block] at this | exact this) GW547.out)) | (dsimp only; exact Nat.ne_of_lt (Nat.lt_of_lt_of_le (by have := World.block_lt_of_cell? _ _ hw540_0; first | rwa [add_block] at this | exact this) GW547.out))) _).trans (((cell_far (p := ⟨gB, _, none⟩) (by first | exact Nat.ne_of_lt (Nat.lt_of_lt_of_le (by have := World.block_lt_of_cell? _ _ hw540_0; first | rwa [add_block] at this | exact this) GW547.out) | (rw [add_block]; exact Nat.ne_of_lt (Nat.lt_of_lt_of_le (by have := World.block_lt_of_cell? _ _ hw540_0; first | rwa [add_block] at this | exact this) GW547.out)) | (show (Addr.add _ _).block ≠ _; rw [add_block]; exact Nat.ne_of_lt (Nat.lt_of_lt_of_le (by have := World.block_lt_of_cell? _ _ hw540_0; first | rwa [add_block] at this | exact this) GW547.out)) | (dsimp only; exact Nat.ne_of_lt (Nat.lt_of_lt_of_le (by have := World.block_lt_of_cell? _ _ hw540_0; first | rwa [add_block] at this | exact this) GW547.out))) _).trans (hHeld.2.2.2.1)))))), ((cell_far (p := ⟨gB, _, none⟩) (by first | exact Nat.ne_of_lt (Nat.lt_of_lt_of_le (by have := World.block_lt_of_cell? _ _ hw540_1; first | rwa [add_block] at this | exact this) GW547.out) | (rw [add_block]; exact Nat.ne_of_lt (Nat.lt_of_lt_of_le (by have := World.block_lt_of_cell? _ _ hw540_1; first | rwa [add_block] at this | exact this) GW547.out)) | (show (Addr.add _ _).block ≠ _; rw [add_block]; exact Nat.ne_of_lt (Nat.lt_of_lt_of_le (by have := World.block_lt_of_cell? _ _ hw540_1; first | rwa [add_block] at this | exact this) GW547.out)) | (dsimp only; exact Nat.ne_of_lt (Nat.lt_of_lt_of_le (by have := World.block_lt_of_cell? _ _ hw540_1; first | rwa [add_block] at this | exact this) GW547.out))) _).trans (((cell_far (p := ⟨gB, _, none⟩) (by first | exact Nat.ne_of_lt (Nat.lt_of_lt_of_le (by have := World.block_lt_of_cell? _ _ hw540_1; first | rwa [add_block] at this | exact this) GW547.out) | (rw [add_block]; exact Nat.ne_of_lt (Nat.lt_of_lt_of_le (by have := World.block_lt_of_cell? _ _ hw540_1; first | rwa [add_block] at this | exact this) GW547.out)) | (show (Addr.add _ _).block ≠ _; rw [add_block]; exact Nat.ne_of_lt (Nat.lt_of_lt_of_le (by have := World.block_lt_of_cell? _ _ hw540_1; first | rwa [add_block] at this | exact this) GW547.out)) | (dsimp only; exact Nat.ne_of_lt (Nat.lt_of_lt_of_le (by have := World.block_lt_of_cell? _ _ hw540_1; first | rwa [add_block] at this | exact this) GW547.out))) _).trans (((cell_far (p := ⟨gB, _, none⟩) (by first | exact Nat.ne_of_lt (Nat.lt_of_lt_of_le (by have := World.block_lt_of_cell? _ _ hw540_1; first | rwa [add_block] at this | exact this) GW547.out) | (rw [add_block]; exact Nat.ne_of_lt (Nat.lt_of_lt_of_le (by have := World.block_lt_of_cell? _ _ hw540_1; first | rwa [add_block] at this | exact this) GW547.out)) | (show (Addr.add _ _).block ≠ _; rw [add_block]; exact Nat.ne_of_lt (Nat.lt_of_lt_of_le (by have := World.block_lt_of_cell? _ _ hw540_1; first | rwa [add_block] at this | exact this) GW547.out)) | (dsimp only; exact Nat.ne_of_lt (Nat.lt_of_lt_of_le (by have := World.block_lt_of_cell? _ _ hw540_1; first | rwa [add_block] at this | exact this) GW547.out))) _).trans (hHeld.2.2.2.2.1)))))), ((cell_far (p := ⟨gB, _, none⟩) (by first | exact Nat.ne_of_lt (Nat.lt_of_lt_of_le (by have := World.block_lt_of_cell? _ _ hw540_2; first | rwa [add_block] at this | exact this) GW547.out) | (rw [add_block]; exact Nat.ne_of_lt (Nat.lt_of_lt_of_le (by have := World.block_lt_of_cell? _ _ hw540_2; first | rwa [add_block] at this | exact this) GW547.out)) | (show (Addr.add _ _).block ≠ _; rw [add_block]; exact Nat.ne_of_lt (Nat.lt_of_lt_of_le (by have := World.block_lt_of_cell? _ _ hw540_2; first | rwa [add_block] at this | exact this) GW547.out)) | (dsimp only; exact Nat.ne_of_lt (Nat.lt_of_lt_of_le (by have := World.block_lt_of_cell? _ _ hw540_2; first | rwa [add_block] at this | exact this) GW547.out))) _).trans (((cell_far (p := ⟨gB, _, none⟩) (by first | exact Nat.ne_of_lt (Nat.lt_of_lt_of_le (by have := World.block_lt_of_cell? _ _ hw540_2; first | rwa [add_block] at this | exact this) GW547.out) | (rw [add_block]; exact Nat.ne_of_lt (Nat.lt_of_lt_of_le (by have := World.block_lt_of_cell? _ _ hw540_2; first | rwa [add_block] at this | exact this) GW547.out)) | (show (Addr.add _ _).block ≠ _; rw [add_block]; exact Nat.ne_of_lt (Nat.lt_of_lt_of_le (by have := World.block_lt_of_cell? _ _ hw540_2; first | rwa [add_block] at this | exact this) GW547.out)) | (dsimp only; exact Nat.ne_of_lt (Nat.lt_of_lt_of_le (by have := World.block_lt_of_cell? _ _ hw540_2; first | rwa [add_block] at this | exact this) GW547.out))) _).trans (((cell_far (p := ⟨gB, _, none⟩) (by first | exact Nat.ne_of_lt (Nat.lt_of_lt_of_le (by have := World.block_lt_of_cell? _ _ hw540_2; first | rwa [add_block] at this | exact this) GW547.out) | (rw [add_block]; exact Nat.ne_of_lt (Nat.lt_of_lt_of_le (by have := World.block_lt_of_cell? _ _ hw540_2; first | rwa [add_block] at this | exact this) GW547.out)) | (show (Addr.add _ _).block ≠ _; rw [add_block]; exact Nat.ne_of_lt (Nat.lt_of_lt_of_le (by have := World.block_lt_of_cell? _ _ hw540_2; first | rwa [add_block] at this | exact this) GW547.out)) | (dsimp only; exact Nat.ne_of_lt (Nat.lt_of_lt_of_le (by have := World.block_lt_of_cell? _ _ hw540_2; first | rwa [add_block] at this | exact this) GW547.out))) _).trans (hHeld.2.2.2.2.2.1)))))), ((cell_far (p := ⟨gB, _, none⟩) (by first | exact Nat.ne_of_lt (Nat.lt_of_lt_of_le (by have := World.block_lt_of_cell? _ _ hw540_3; first | rwa [add_block] at this | exact this) GW547.out) | (rw [add_block]; exact Nat.ne_of_lt (Nat.lt_of_lt_of_le (by have := World.block_lt_of_cell? _ _ hw540_3; first | rwa [add_block] at this | exact this) GW547.out)) | (show (Addr.add _ _).block ≠ _; rw [add_block]; exact Nat.ne_of_lt (Nat.lt_of_lt_of_le (by have := World.block_lt_of_cell? _ _ hw540_3; first | rwa [add_block] at this | exact this) GW547.out)) | (dsimp only; exact Nat.ne_of_lt (Nat.lt_of_lt_of_le (by have := World.block_lt_of_cell? _ _ hw540_3; first | rwa [add_block] at this | exact this) GW547.out))) _).trans (((cell_far (p := ⟨gB, _, none⟩) (by first | exact Nat.ne_of_lt (Nat.lt_of_lt_of_le (by have := World.block_lt_of_cell? _ _ hw540_3; first | rwa [add_block] at this | exact this) GW547.out) | (rw [add_block]; exact Nat.ne_of_lt (Nat.lt_of_lt_of_le (by have := World.block_lt_of_cell? _ _ hw540_3; first | rwa [add_block] at this | exact this) GW547.out)) | (show (Addr.add _ _).block ≠ _; rw [add_block]; exact Nat.ne_of_lt (Nat.lt_of_lt_of_le (by have := World.block_lt_of_cell? _ _ hw540_3; first | rwa [add_block] at this | exact this) GW547.out)) | (dsimp only; exact Nat.ne_of_lt (Nat.lt_of_lt_of_le (by have := World.block_lt_of_cell? _ _ hw540_3; first | rwa [add_block] at this | exact this) GW547.out))) _).trans (((cell_far (p := ⟨gB, _, none⟩) (by first | exact Nat.ne_of_lt (Nat.lt_of_lt_of_le (by have := World.block_lt_of_cell? _ _ hw540_3; first | rwa [add_block] at this | exact this) GW547.out) | (rw [add_block]; exact Nat.ne_of_lt (Nat.lt_of_lt_of_le (by have := World.block_lt_of_cell? _ _ hw540_3; first | rwa [add_block] at this | exact this) GW547.out)) | (show (Addr.add _ _).block ≠ _; rw [add_block]; exact Nat.ne_of_lt (Nat.lt_of_lt_of_le (by have := World.block_lt_of_cell? _ _ hw540_3; first | rwa [add_block] at this | exact this) GW547.out)) | (dsimp only; exact Nat.ne_of_lt (Nat.lt_of_lt_of_le (by have := World.block_lt_of_cell? _ _ hw540_3; first | rwa [add_block] at this | exact this) GW547.out))) _).trans (hHeld.2.2.2.2.2.2))))))⟩ (fun hHeld => ?_)
               clear hK K
               refine pure_ (i := 11) (N := some 13) (v := ?_) (a' := ?_) #[true, true, true, true, true, true, true, true, true, true, true, true] rfl rfl (any_of HT_.out (by kernel_rfl)) (fun _ _ _ h => h) (Or.inl ⟨by rfl, ?_⟩) ?_ ?_
               rotate_left
               ·intro w'
                go_simp
                with_reducible rfl
               rotate_left
               ·simp only [Act.put, List.setIfInBounds_toArray, List.set_cons_zero, List.set_cons_succ, i64_w, i32_w]
                rfl
               refine done_ (done_of HT_.out (by kernel_rfl)) ?_
               have hnb30 := NB547_536.out
               have hnc30 := NB536_547.out
               have hcz31_0 : w25.cell? ⟨gB, 0, none⟩ = some (.slice none 0 0) := (blk_cell BK547.out 0).trans rfl
               have hcz31_1 : w25.cell? ⟨gB, 1, none⟩ = some (.int .i64 0) := (blk_cell BK547.out 1).trans rfl
               have hcz31_2 : w25.cell? ⟨gB, 2, none⟩ = some (.int .i64 0) := (blk_cell BK547.out 2).trans rfl
               have hfz31_0 := blk_frozen BK547.out 0
               have hfz31_1 := blk_frozen BK547.out 1
               have hfz31_2 := blk_frozen BK547.out 2
               have hcz32_0 : w25.cell? ⟨gA, 0, none⟩ = some (.slice Ao21 x537000_1.length co21) := (blk_cell BK536.out 0).trans rfl
               have hcz32_1 : w25.cell? ⟨gA, 1, none⟩ = some (.int .i64 x537001_1) := (blk_cell BK536.out 1).trans rfl
               have hcz32_2 : w25.cell? ⟨gA, 2, none⟩ = some (.int .i64 x537002_1) := (blk_cell BK536.out 2).trans rfl
               have hfz32_0 := blk_frozen BK536.out 0
               have hfz32_1 := blk_frozen BK536.out 1
               have hfz32_2 := blk_frozen BK536.out 2
               try go_wp2_with (first | ((with_reducible refine gate_builtin (b := .append) (xs := #[.tmp 60, .tmp 63]) rfl ?_); at_builtin; refine Kd.R_append (Kd.int .i64) (w0 := w) w.heap.size rfl (.tmp 60) (.tmp 63) 30 3 (.int .i64 0) 8 rfl Try.underlying30 info3 rfl (by decide) (by omega) u6 x6_1 ((x5_1.size : Int) + (t538.size : Int)) [.int .i64 ((x5_1.size : Int) + (t538.size : Int))] (fun _ => True) (fun _ => False) rfl (by first | (go_simp; done) | (go_simp; rfl)) ?aP (fun _ hk => hk.elim) ?aF ?aO ?aB ?aS ?aL ?_; (case aP => exact rfl); (case aB => exact (by repeat (first | (with_reducible first | exact HB.out | apply below_alloc | apply pw_below_drewN | apply below_drew1 | refine below_set ?_ GE536.out | refine below_set ?_ GE547.out) | exact HB.out))); (case aF => exact (fun _ _ => trivial)); (case aO => exact (by (with_reducible repeat (first | apply Kd.R_alloc | apply Kd.R_drewN | apply Kd.R_drew)); exact Kd.R_mono (Kd.R_far (p := ⟨gA, 2, none⟩) (Kd.R_far (p := ⟨gA, 1, none⟩) (Kd.R_far (p := ⟨gA, 0, none⟩) (Kd.R_far (p := ⟨gB, 2, none⟩) (Kd.R_far (p := ⟨gB, 1, none⟩) (Kd.R_far (p := ⟨gB, 0, none⟩) (Kd.R_types (Kd.R_types HO_6.out BK547.out (by decide)) BK536.out (by decide)) (fun _ hk => hk.1.2) (.slice Ao26 t541.length co26)) (fun _ hk => hk.1.2) (.int .i64 t544)) (fun _ hk => hk.1.2) (.int .i64 t545)) (fun _ hk => hk.2) (.slice Ao26 t541.length co26)) (fun _ hk => hk.2) (.int .i64 t544)) (fun _ hk => hk.2) (.int .i64 t545)) (fun _ hk => trivial))); (case aS => exact (below_size (by repeat (first | (with_reducible first | exact HB.out | apply below_alloc | apply pw_below_drewN | apply below_drew1 | refine below_set ?_ GE536.out | refine below_set ?_ GE547.out) | exact HB.out)))); (case aL => have := LMc18.out; omega); intro v549 w33 ho hb hg hat; rw [← Ny548.out] at ho; have n0_ := Aside0.mk (Kd.S_over' (by (with_reducible repeat (first | apply Kd.S_alloc | apply Kd.S_drewN | apply Kd.S_drew)); exact (Kd.S_mono (Kd.S_mono (Kd.S_far (p := ⟨gA, 2, none⟩) (Kd.S_far (p := ⟨gA, 1, none⟩) (Kd.S_far (p := ⟨gA, 0, none⟩) (Kd.S_far (p := ⟨gB, 2, none⟩) (Kd.S_far (p := ⟨gB, 1, none⟩) (Kd.S_far (p := ⟨gB, 0, none⟩) (Kd.S_mono (Kd.S_mono HO_7.out (fun k_ hk => (⟨hk, hk.2.2.2⟩ : _ ∧ k_ ≠ gB))) (fun k_ hk => (⟨hk, hk.1.2.2.1⟩ : _ ∧ k_ ≠ gA))) (fun _ hk => hk.1.2) (.slice Ao26 t541.length co26)) (fun _ hk => hk.1.2) (.int .i64 t544)) (fun _ hk => hk.1.2) (.int .i64 t545)) (fun _ hk => hk.2) (.slice Ao26 t541.length co26)) (fun _ hk => hk.2) (.int .i64 t544)) (fun _ hk => hk.2) (.int .i64 t545)) (fun _ h_ => h_.1)) (fun _ h_ => h_.1))) (Kd.R_typed (by (with_reducible repeat (first | apply Kd.R_alloc | apply Kd.R_drewN | apply Kd.R_drew)); exact (Kd.R_mono (Kd.R_mono (Kd.R_far (p := ⟨gA, 2, none⟩) (Kd.R_far (p := ⟨gA, 1, none⟩) (Kd.R_far (p := ⟨gA, 0, none⟩) (Kd.R_far (p := ⟨gB, 2, none⟩) (Kd.R_far (p := ⟨gB, 1, none⟩) (Kd.R_far (p := ⟨gB, 0, none⟩) (Kd.R_types (Kd.R_types HO_6.out BK547.out (by decide)) BK536.out (by decide)) (fun _ hk => hk.1.2) (.slice Ao26 t541.length co26)) (fun _ hk => hk.1.2) (.int .i64 t544)) (fun _ hk => hk.1.2) (.int .i64 t545)) (fun _ hk => hk.2) (.slice Ao26 t541.length co26)) (fun _ hk => hk.2) (.int .i64 t544)) (fun _ hk => hk.2) (.int .i64 t545)) (fun _ h_ => h_.1)) (fun _ h_ => h_.1)))) (by decide) hg); have n1_ := Aside0.mk (Kd.R_over' (by (with_reducible repeat (first | apply Kd.R_alloc | apply Kd.R_drewN | apply Kd.R_drew)); exact (Kd.R_mono (Kd.R_mono (Kd.R_far (p := ⟨gA, 2, none⟩) (Kd.R_far (p := ⟨gA, 1, none⟩) (Kd.R_far (p := ⟨gA, 0, none⟩) (Kd.R_far (p := ⟨gB, 2, none⟩) (Kd.R_far (p := ⟨gB, 1, none⟩) (Kd.R_far (p := ⟨gB, 0, none⟩) (Kd.R_types (Kd.R_types HO_537000.out BK547.out (by decide)) BK536.out (by decide)) (fun _ hk => hk.1.2) (.slice Ao26 t541.length co26)) (fun _ hk => hk.1.2) (.int .i64 t544)) (fun _ hk => hk.1.2) (.int .i64 t545)) (fun _ hk => hk.2) (.slice Ao26 t541.length co26)) (fun _ hk => hk.2) (.int .i64 t544)) (fun _ hk => hk.2) (.int .i64 t545)) (fun _ h_ => h_.1)) (fun _ h_ => h_.1))) (Kd.R_typed (by (with_reducible repeat (first | apply Kd.R_alloc | apply Kd.R_drewN | apply Kd.R_drew)); exact (Kd.R_mono (Kd.R_mono (Kd.R_far (p := ⟨gA, 2, none⟩) (Kd.R_far (p := ⟨gA, 1, none⟩) (Kd.R_far (p := ⟨gA, 0, none⟩) (Kd.R_far (p := ⟨gB, 2, none⟩) (Kd.R_far (p := ⟨gB, 1, none⟩) (Kd.R_far (p := ⟨gB, 0, none⟩) (Kd.R_types (Kd.R_types HO_6.out BK547.out (by decide)) BK536.out (by decide)) (fun _ hk => hk.1.2) (.slice Ao26 t541.length co26)) (fun _ hk => hk.1.2) (.int .i64 t544)) (fun _ hk => hk.1.2) (.int .i64 t545)) (fun _ hk => hk.2) (.slice Ao26 t541.length co26)) (fun _ hk => hk.2) (.int .i64 t544)) (fun _ hk => hk.2) (.int .i64 t545)) (fun _ h_ => h_.1)) (fun _ h_ => h_.1)))) (by decide) hg); have n2_ := Aside0.mk (blk_grown (g := gA) (o := .cells #[.slice Ao26 t541.length co26, .int .i64 t544, .int .i64 t545] 26 (0, 0)) (by (with_reducible repeat (first | refine blk_drewN ?_ _ | refine blk_drew ?_ | refine blk_alloc ?_ _)); refine blk_put (cs := #[.slice Ao26 t541.length co26, .int .i64 t544, .int .i64 x537002_1]) ?_ 2 _ rfl; (with_reducible repeat (first | refine blk_drewN ?_ _ | refine blk_drew ?_ | refine blk_alloc ?_ _)); refine blk_put (cs := #[.slice Ao26 t541.length co26, .int .i64 x537001_1, .int .i64 x537002_1]) ?_ 1 _ rfl; (with_reducible repeat (first | refine blk_drewN ?_ _ | refine blk_drew ?_ | refine blk_alloc ?_ _)); refine blk_put (cs := #[.slice Ao21 x537000_1.length co21, .int .i64 x537001_1, .int .i64 x537002_1]) ?_ 0 _ rfl; (with_reducible repeat (first | refine blk_drewN ?_ _ | refine blk_drew ?_ | refine blk_alloc ?_ _)); refine blk_far ?_ NB536_547.out _; (with_reducible repeat (first | refine blk_drewN ?_ _ | refine blk_drew ?_ | refine blk_alloc ?_ _)); refine blk_far ?_ NB536_547.out _; (with_reducible repeat (first | refine blk_drewN ?_ _ | refine blk_drew ?_ | refine blk_alloc ?_ _)); refine blk_far ?_ NB536_547.out _; (with_reducible repeat (first | refine blk_drewN ?_ _ | refine blk_drew ?_ | refine blk_alloc ?_ _)); exact BK536.out) hg (Kd.R_ne HO_6.out BK536.out (by decide))); have n3_ := Aside0.mk (Kd.R_over' (by (with_reducible repeat (first | apply Kd.R_alloc | apply Kd.R_drewN | apply Kd.R_drew)); exact (Kd.R_mono (Kd.R_mono (Kd.R_far (p := ⟨gA, 2, none⟩) (Kd.R_far (p := ⟨gA, 1, none⟩) (Kd.R_far (p := ⟨gA, 0, none⟩) (Kd.R_far (p := ⟨gB, 2, none⟩) (Kd.R_far (p := ⟨gB, 1, none⟩) (Kd.R_far (p := ⟨gB, 0, none⟩) (Kd.R_types (Kd.R_types HO543.out BK547.out (by decide)) BK536.out (by decide)) (fun _ hk => hk.1.2) (.slice Ao26 t541.length co26)) (fun _ hk => hk.1.2) (.int .i64 t544)) (fun _ hk => hk.1.2) (.int .i64 t545)) (fun _ hk => hk.2) (.slice Ao26 t541.length co26)) (fun _ hk => hk.2) (.int .i64 t544)) (fun _ hk => hk.2) (.int .i64 t545)) (fun _ h_ => h_.1)) (fun _ h_ => h_.1))) (Kd.R_typed (by (with_reducible repeat (first | apply Kd.R_alloc | apply Kd.R_drewN | apply Kd.R_drew)); exact (Kd.R_mono (Kd.R_mono (Kd.R_far (p := ⟨gA, 2, none⟩) (Kd.R_far (p := ⟨gA, 1, none⟩) (Kd.R_far (p := ⟨gA, 0, none⟩) (Kd.R_far (p := ⟨gB, 2, none⟩) (Kd.R_far (p := ⟨gB, 1, none⟩) (Kd.R_far (p := ⟨gB, 0, none⟩) (Kd.R_types (Kd.R_types HO_6.out BK547.out (by decide)) BK536.out (by decide)) (fun _ hk => hk.1.2) (.slice Ao26 t541.length co26)) (fun _ hk => hk.1.2) (.int .i64 t544)) (fun _ hk => hk.1.2) (.int .i64 t545)) (fun _ hk => hk.2) (.slice Ao26 t541.length co26)) (fun _ hk => hk.2) (.int .i64 t544)) (fun _ hk => hk.2) (.int .i64 t545)) (fun _ h_ => h_.1)) (fun _ h_ => h_.1)))) (by decide) hg); have n4_ := Aside0.mk (blk_grown (g := gB) (o := .cells #[.slice Ao26 t541.length co26, .int .i64 t544, .int .i64 t545] 26 (0, 0)) (by (with_reducible repeat (first | refine blk_drewN ?_ _ | refine blk_drew ?_ | refine blk_alloc ?_ _)); refine blk_far ?_ NB547_536.out _; (with_reducible repeat (first | refine blk_drewN ?_ _ | refine blk_drew ?_ | refine blk_alloc ?_ _)); refine blk_far ?_ NB547_536.out _; (with_reducible repeat (first | refine blk_drewN ?_ _ | refine blk_drew ?_ | refine blk_alloc ?_ _)); refine blk_far ?_ NB547_536.out _; (with_reducible repeat (first | refine blk_drewN ?_ _ | refine blk_drew ?_ | refine blk_alloc ?_ _)); refine blk_put (cs := #[.slice Ao26 t541.length co26, .int .i64 t544, .int .i64 0]) ?_ 2 _ rfl; (with_reducible repeat (first | refine blk_drewN ?_ _ | refine blk_drew ?_ | refine blk_alloc ?_ _)); refine blk_put (cs := #[.slice Ao26 t541.length co26, .int .i64 0, .int .i64 0]) ?_ 1 _ rfl; (with_reducible repeat (first | refine blk_drewN ?_ _ | refine blk_drew ?_ | refine blk_alloc ?_ _)); refine blk_put (cs := #[.slice none 0 0, .int .i64 0, .int .i64 0]) ?_ 0 _ rfl; (with_reducible repeat (first | refine blk_drewN ?_ _ | refine blk_drew ?_ | refine blk_alloc ?_ _)); exact BK547.out) hg (Kd.R_ne HO_6.out BK547.out (by decide))); have n5_ := Aside0.mk (hb); have n6_ := Aside0.mk (ho); clear HO_7; clear HO_537000; clear BK536; clear HO543; clear BK547; clear HB; clear HO_6; have HO_7 := n0_; have HO_537000 := n1_; have BK536 := n2_; have HO543 := n3_; have BK547 := n4_; have HB := n5_; have HO550 := n6_; clear n0_ n1_ n2_ n3_ n4_ n5_ n6_; clear ho hb hg hat; have hcz34_0 : w33.cell? ⟨gA, 0, none⟩ = some (.slice Ao26 t541.length co26) := (blk_cell BK536.out 0).trans rfl; have hcz34_1 : w33.cell? ⟨gA, 1, none⟩ = some (.int .i64 t544) := (blk_cell BK536.out 1).trans rfl; have hcz34_2 : w33.cell? ⟨gA, 2, none⟩ = some (.int .i64 t545) := (blk_cell BK536.out 2).trans rfl; have hfz34_0 := blk_frozen BK536.out 0; have hfz34_1 := blk_frozen BK536.out 1; have hfz34_2 := blk_frozen BK536.out 2) | ((with_reducible refine gate_builtin (b := .append) (xs := #[.tmp 65, .tmp 67]) rfl ?_); at_builtin; refine Kd.S_append k26 (w0 := w) w.heap.size rfl (.tmp 65) (.tmp 67) 45 26 (.agg #[(.slice none 0 0), (.int .i64 0), (.int .i64 0)]) 40 rfl Try.underlying45 info26 rfl (by decide) (by omega) u7 x7_1 (⟨t541, t544, t545⟩ : S26) [.slice Ao26 t541.length co26, .int .i64 t544, .int .i64 t545] (fun k_ => True ∧ k_ ≠ gA ∧ k_ ≠ gB) (fun k_ => some k_ = (.slice Ao26 t541.length co26 : Value).ownBlock) rfl rfl ?aP (fun k_ hk_ => ((Kd.R_mono (ok' := fun k_ => ((fun k_ => True ∧ k_ ≠ gA ∧ k_ ≠ gB)) k_ ∧ some k_ ≠ (u7 : Value).ownBlock) (Kd.R_types (Kd.R_types (Kd.R_apart' (HO543.out) (Kd.S_typed HO_7.out) (by decide)) BK536.out (by decide)) BK547.out (by decide)) (fun k_ hk => ⟨⟨trivial, ⟨hk.1.2, hk.2⟩⟩, hk.1.1.2⟩))).1 k_ hk_.symm) ?aF ?aO ?aB ?aS ?aL ?_; (case aP => exact k26_mkM _ _ _ (⟨t541, t544, t545⟩ : S26) (Kd.R_mono (Kd.R_tight rfl (Kd.R_mono (ok' := fun k_ => ((fun k_ => True ∧ k_ ≠ gA ∧ k_ ≠ gB)) k_ ∧ some k_ ≠ (u7 : Value).ownBlock) (Kd.R_types (Kd.R_types (Kd.R_apart' (HO543.out) (Kd.S_typed HO_7.out) (by decide)) BK536.out (by decide)) BK547.out (by decide)) (fun k_ hk => ⟨⟨trivial, ⟨hk.1.2, hk.2⟩⟩, hk.1.1.2⟩))) (fun _ h_ => h_))); (case aB => exact (by repeat (first | (with_reducible first | exact HB.out | apply below_alloc | apply pw_below_drewN | apply below_drew1 | refine below_set ?_ GE536.out | refine below_set ?_ GE547.out) | exact HB.out))); (case aF => exact (fun k_ hk => ⟨trivial, Kd.freshB (g := gA) (o := .cells #[.slice Ao26 t541.length co26, .int .i64 t544, .int .i64 t545] 26 (0, 0)) (by (with_reducible repeat (first | refine blk_drewN ?_ _ | refine blk_drew ?_ | refine blk_alloc ?_ _)); exact BK536.out) k_ hk, Kd.freshB (g := gB) (o := .cells #[.slice Ao26 t541.length co26, .int .i64 t544, .int .i64 t545] 26 (0, 0)) (by (with_reducible repeat (first | refine blk_drewN ?_ _ | refine blk_drew ?_ | refine blk_alloc ?_ _)); exact BK547.out) k_ hk⟩)); (case aO => exact (by (with_reducible repeat (first | apply Kd.S_alloc | apply Kd.S_drewN | apply Kd.S_drew)); exact Kd.S_mono HO_7.out (fun k_ hk => ⟨⟨hk.2.1, ⟨hk.2.2.1, hk.2.2.2⟩⟩, fun e_ => hk.1 e_⟩))); (case aS => exact (below_size (by repeat (first | (with_reducible first | exact HB.out | apply below_alloc | apply pw_below_drewN | apply below_drew1 | refine below_set ?_ GE536.out | refine below_set ?_ GE547.out) | exact HB.out)))); (case aL => have := LMc19.out; omega); intro v552 w35 ho hb hg hat; rw [← Ny551.out] at ho; have n0_ := Aside0.mk (Kd.R_over' (by (with_reducible repeat (first | apply Kd.R_alloc | apply Kd.R_drewN | apply Kd.R_drew)); exact HO_537000.out) (Kd.S_typed (by (with_reducible repeat (first | apply Kd.S_alloc | apply Kd.S_drewN | apply Kd.S_drew)); exact HO_7.out)) (by decide) hg); have n1_ := Aside0.mk (blk_grown (g := gA) (o := .cells #[.slice Ao26 t541.length co26, .int .i64 t544, .int .i64 t545] 26 (0, 0)) (by (with_reducible repeat (first | refine blk_drewN ?_ _ | refine blk_drew ?_ | refine blk_alloc ?_ _)); exact BK536.out) hg (Kd.S_away HO_7.out (fun _ hk => hk.2.2.1))); have n2_ := Aside0.mk (blk_grown (g := gB) (o := .cells #[.slice Ao26 t541.length co26, .int .i64 t544, .int .i64 t545] 26 (0, 0)) (by (with_reducible repeat (first | refine blk_drewN ?_ _ | refine blk_drew ?_ | refine blk_alloc ?_ _)); exact BK547.out) hg (Kd.S_away HO_7.out (fun _ hk => hk.2.2.2))); have n3_ := Aside0.mk (Kd.R_over' (by (with_reducible repeat (first | apply Kd.R_alloc | apply Kd.R_drewN | apply Kd.R_drew)); exact HO550.out) (Kd.S_typed (by (with_reducible repeat (first | apply Kd.S_alloc | apply Kd.S_drewN | apply Kd.S_drew)); exact HO_7.out)) (by decide) hg); have n4_ := Aside0.mk (hb); have n5_ := Aside0.mk (ho); have n6_ := Aside0.mk (Kd.R_over' (by (with_reducible repeat (first | apply Kd.R_alloc | apply Kd.R_drewN | apply Kd.R_drew)); exact HO543.out) (Kd.S_typed (by (with_reducible repeat (first | apply Kd.S_alloc | apply Kd.S_drewN | apply Kd.S_drew)); exact HO_7.out)) (by decide) hg); clear HO_537000; clear BK536; clear BK547; clear HO550; clear HB; clear HO_7; clear HO543; have HO_537000 := n0_; have BK536 := n1_; have BK547 := n2_; have HO550 := n3_; have HB := n4_; have HO553 := n5_; have HO543 := n6_; clear n0_ n1_ n2_ n3_ n4_ n5_ n6_; clear ho hb hg hat))
               go_roundg kj7
               case measure => have := HK1.out; have := HJ7.out; omega
               case rel => exact ⟨(x5_1 ++ t538), (y548), (y551), (wrap64 (x9_1 + 1)), (t541), (t544), (t545), (.slice Ao26 t541.length co26), (by first | rfl | (simp; done) | (simp [*]; done)), (by first | rfl | (simp; done) | (simp [*]; done)), H', ⟨by have := HK1.out; have := HJ7.out; omega⟩, ⟨by (with_reducible repeat (first | apply Kd.R_alloc | apply Kd.R_drewN | apply Kd.R_drew)); exact HO550.out⟩, ⟨by (with_reducible repeat (first | apply Kd.S_alloc | apply Kd.S_drewN | apply Kd.S_drew)); exact Kd.S_mono HO553.out (fun _ hk => ⟨trivial, hk.2.1⟩)⟩, ⟨by (with_reducible repeat (first | apply Kd.R_alloc | apply Kd.R_drewN | apply Kd.R_drew)); exact Kd.R_mono HO543.out (fun _ _ => trivial)⟩, ⟨by (with_reducible repeat (first | refine blk_drewN ?_ _ | refine blk_drew ?_ | refine blk_alloc ?_ _)); exact BK536.out⟩, ⟨by repeat (first | (with_reducible first | exact HB.out | apply below_alloc | apply pw_below_drewN | apply below_drew1 | refine below_set ?_ GE536.out | refine below_set ?_ GE547.out) | exact HB.out)⟩⟩
              ·rw [if_neg c19] at H
               exact absurd H (by simp)
             ·rw [if_neg c18] at H
              exact absurd H (by simp)
            ·rw [if_neg c17] at H
             exact absurd H (by simp)
           ·rw [if_neg c16] at H
            have c16b0 : (t546 == 0) = false := beq_eq_false_iff_ne.mpr c16
            have c16b1 : (t546 != 0) = true := bne_iff_ne.mpr c16
            have H' := Aside0.mk H
            clear H
            have p537 : 0 ≤ (x9_1 : Int) := of_decide_eq_true (by first | (with_reducible assumption) | assumption)
            have q537 : x9_1 < (l0.length : Int) := of_decide_eq_true (by first | (with_reducible assumption) | assumption)
            obtain ⟨ad537, A537_0, c537_0, A537_1, c537_1, e537, hx537_0, hx537_1, hx537_2, hx537_3, hl537_0, hi537_0, hl537_1, hi537_1⟩ := at_T32 HR0.out x9_1 p537 q537
            cases e537
            replace hx537_0 := (HB.out.cell (World.block_lt_of_cell? w _ hx537_0)).trans hx537_0
            replace hx537_1 := (HB.out.cell (World.block_lt_of_cell? w _ hx537_1)).trans hx537_1
            replace hx537_2 := (HB.out.cell (World.block_lt_of_cell? w _ hx537_2)).trans hx537_2
            replace hx537_3 := (HB.out.cell (World.block_lt_of_cell? w _ hx537_3)).trans hx537_3
            have HR537_0 := Aside0.mk hi537_0
            have HC537_0 := Aside0.mk hl537_0
            clear hi537_0 hl537_0
            have HR537_1 := Aside0.mk hi537_1
            have HC537_1 := Aside0.mk hl537_1
            clear hi537_1 hl537_1
            replace p537 := eq_true p537
            replace q537 := eq_true q537
            try go_wp2_with (first | ((with_reducible refine gate_callee (f := 12) rfl ?_); refine goesL_ (some 38) rfl rfl Try.func12 (by kernel_rfl) rfl #[.agg #[.slice A537_0 ((rd_T32 l0 x9_1).f0).length c537_0, .slice A537_1 ((rd_T32 l0 x9_1).f1).length c537_1, .int .i64 ((rd_T32 l0 x9_1).f2), .int .i64 ((rd_T32 l0 x9_1).f3)]] rfl (by (try simp only [List.map_toArray, List.map_cons, List.map_nil]); first | done | rfl | (simp only [List.length_drop, List.length_take]; rfl) | (go_simp; simp [IntKind.wrap, IntKind.bits, IntKind.signed]; omega)) ?_; (with_reducible refine (manifest_Write.calls kj7 _ _ ((rd_T32 l0 x9_1).f0) _ _ ((rd_T32 l0 x9_1).f1) ((rd_T32 l0 x9_1).f2) ((rd_T32 l0 x9_1).f3) t538 t539 _ ?side1 ?side2 ?side3 ?side4 A13.out).mono ?_); (case side1 => repeat (first | exact (Kd.C_below HR537_0.out HB.out) | (with_reducible refine Kd.C_alloc ?_ _) | (with_reducible refine Kd.C_drewN ?_ _) | (with_reducible refine Kd.C_drew ?_))); (case side2 => exact HC537_0.out); (case side3 => repeat (first | exact (Kd.C_below HR537_1.out HB.out) | (with_reducible refine Kd.C_alloc ?_ _) | (with_reducible refine Kd.C_drewN ?_ _) | (with_reducible refine Kd.C_drew ?_))); (case side4 => exact HC537_1.out); rintro e w36 ⟨rfl, hb⟩; refine ⟨_, rfl, ?_⟩; have n0_ := Aside0.mk (Kd.R_below (by (with_reducible repeat (first | apply Kd.R_alloc | apply Kd.R_drewN | apply Kd.R_drew)); exact HO_6.out) hb); have n1_ := Aside0.mk (Kd.S_below (by (with_reducible repeat (first | apply Kd.S_alloc | apply Kd.S_drewN | apply Kd.S_drew)); exact HO_7.out) hb); have n2_ := Aside0.mk (Kd.R_below (by (with_reducible repeat (first | apply Kd.R_alloc | apply Kd.R_drewN | apply Kd.R_drew)); exact HO_537000.out) hb); have n3_ := Aside0.mk (blk_below (g := gA) (o := .cells #[u537000, .int .i64 x537001_1, .int .i64 x537002_1] 26 (0, 0)) (by (with_reducible repeat (first | refine blk_drewN ?_ _ | refine blk_drew ?_ | refine blk_alloc ?_ _)); exact BK536.out) hb); have n4_ := Aside0.mk (below_step (by repeat (first | (with_reducible first | exact HB.out | apply below_alloc | apply pw_below_drewN | apply below_drew1 | refine below_set ?_ GE536.out) | exact HB.out)) hb); clear HO_6; clear HO_7; clear HO_537000; clear BK536; clear HB; have HO_6 := n0_; have HO_7 := n1_; have HO_537000 := n2_; have BK536 := n3_; have HB := n4_; clear n0_ n1_ n2_ n3_ n4_; (try clear hb); (try clear hb2); (try clear hk); (try clear hi); obtain ⟨Ao37, co37, eo37⟩ := Kd.R_slice HO_537000.out; subst eo37))
            have n0_ := Aside0.mk (Kd.R_drew HO_6.out)
            have n1_ := Aside0.mk (Kd.S_drew HO_7.out)
            have n2_ := Aside0.mk (Kd.R_drew HO_537000.out)
            have n3_ := Aside0.mk (blk_drew BK536.out)
            have n4_ := Aside0.mk (below_drew1 HB.out)
            clear HO_6
            clear HO_7
            clear HO_537000
            clear BK536
            clear HB
            have HO_6 := n0_
            have HO_7 := n1_
            have HO_537000 := n2_
            have BK536 := n3_
            have HB := n4_
            clear n0_ n1_ n2_ n3_ n4_
            have p540 : 0 ≤ (x9_1 : Int) := of_decide_eq_true (by first | (with_reducible assumption) | assumption)
            have q540 : x9_1 < (l0.length : Int) := of_decide_eq_true (by first | (with_reducible assumption) | assumption)
            obtain ⟨ad540, A540_0, c540_0, A540_1, c540_1, e540, hx540_0, hx540_1, hx540_2, hx540_3, hl540_0, hi540_0, hl540_1, hi540_1⟩ := at_T32 HR0.out x9_1 p540 q540
            have hw540_3 := hx540_3
            have hw540_2 := hx540_2
            have hw540_1 := hx540_1
            have hw540_0 := hx540_0
            obtain rfl : ad537 = ad540 := (by injection e540)
            replace hx540_0 := (HB.out.cell (World.block_lt_of_cell? w _ hx540_0)).trans hx540_0
            replace hx540_1 := (HB.out.cell (World.block_lt_of_cell? w _ hx540_1)).trans hx540_1
            replace hx540_2 := (HB.out.cell (World.block_lt_of_cell? w _ hx540_2)).trans hx540_2
            replace hx540_3 := (HB.out.cell (World.block_lt_of_cell? w _ hx540_3)).trans hx540_3
            have HR540_0 := Aside0.mk hi540_0
            have HC540_0 := Aside0.mk hl540_0
            clear hi540_0 hl540_0
            have HR540_1 := Aside0.mk hi540_1
            have HC540_1 := Aside0.mk hl540_1
            clear hi540_1 hl540_1
            replace p540 := eq_true p540
            replace q540 := eq_true q540
            refine start_ (n := 12) (S := fun w' => w'.cell? ⟨gA, 0, none⟩ = some (.slice Ao37 x537000_1.length co37) ∧ w'.cell? ⟨gA, 1, none⟩ = some (.int .i64 x537001_1) ∧ w'.cell? ⟨gA, 2, none⟩ = some (.int .i64 x537002_1) ∧ w'.cell? (ad537.add ((x9_1).toNat * 4)) = some (.slice A540_0 ((rd_T32 l0 x9_1).f0).length c540_0) ∧ w'.cell? ⟨(ad537.add ((x9_1).toNat * 4)).block, (ad537.add ((x9_1).toNat * 4)).off + 1, none⟩ = some (.slice A540_1 ((rd_T32 l0 x9_1).f1).length c540_1) ∧ w'.cell? ⟨(ad537.add ((x9_1).toNat * 4)).block, (ad537.add ((x9_1).toNat * 4)).off + 2, none⟩ = some (.int .i64 ((rd_T32 l0 x9_1).f2)) ∧ w'.cell? ⟨(ad537.add ((x9_1).toNat * 4)).block, (ad537.add ((x9_1).toNat * 4)).off + 3, none⟩ = some (.int .i64 ((rd_T32 l0 x9_1).f3))) (ds := []) #[false, false, false, false, false, false, false, false, false, false, false, false] (by kernel_rfl) rfl rfl ⟨(blk_cell BK536.out 0).trans rfl, (blk_cell BK536.out 1).trans rfl, (blk_cell BK536.out 2).trans rfl, ((HB.out.cell (World.block_lt_of_cell? w _ hw540_0)).trans hw540_0), ((HB.out.cell (World.block_lt_of_cell? w _ hw540_1)).trans hw540_1), ((HB.out.cell (World.block_lt_of_cell? w _ hw540_2)).trans hw540_2), ((HB.out.cell (World.block_lt_of_cell? w _ hw540_3)).trans hw540_3)⟩ (fun hHeld => ?_); refine with_tabW mbk.tab11 mbk.bits11 (fun HT_ HW_ => ?_)
            generalize w36.drew = w38 at HO_6 HO_7 HO_537000 BK536 HB HR540_0 HR540_1 hx540_0 hx540_1 hx540_2 hx540_3 hHeld ⊢
            refine pure_ (i := 1) (N := some 43) (v := ?_) (a' := ?_) #[false, true, false, false, false, false, false, false, false, false, false, false] rfl rfl (any_of HT_.out (by kernel_rfl)) (fun _ _ _ h => h) (Or.inl ⟨by rfl, ?_⟩) ?_ ?_
            rotate_left
            ·intro w'
             go_simp
             with_reducible rfl
            rotate_left
            ·simp only [Act.put, List.setIfInBounds_toArray, List.set_cons_zero, List.set_cons_succ, i64_w, i32_w]
             rfl
            refine pure_ (i := 2) (N := some 44) (v := ?_) (a' := ?_) #[false, true, true, false, false, false, false, false, false, false, false, false] rfl rfl (any_of HT_.out (by kernel_rfl)) (fun _ _ _ h => h) (Or.inl ⟨by rfl, ?_⟩) ?_ ?_
            rotate_left
            ·intro w'
             go_simp
             with_reducible rfl
            rotate_left
            ·simp only [Act.put, List.setIfInBounds_toArray, List.set_cons_zero, List.set_cons_succ, i64_w, i32_w]
             rfl
            refine pure_ (i := 3) (N := some 45) (v := ?_) (a' := ?_) #[false, true, true, true, false, false, false, false, false, false, false, false] rfl rfl (any_of HT_.out (by kernel_rfl)) (fun _ _ _ h => h) (Or.inl ⟨by rfl, ?_⟩) ?_ ?_
            rotate_left
            ·intro w'
             go_simp
             with_reducible rfl
            rotate_left
            ·simp only [Act.put, List.setIfInBounds_toArray, List.set_cons_zero, List.set_cons_succ, i64_w, i32_w]
             rfl
            refine take_ (i := 0) (N := some 42) (v := ?_) (a' := ?_) #[true, true, true, true, false, false, false, false, false, false, false, false] rfl rfl (take_ofW HT_.out HW_.out (by kernel_rfl)) (fun _ _ _ h => h) (Or.inl ⟨by rfl, ?_⟩) hHeld ?_ ?_
            rotate_left
            ·rintro w' ⟨s0, s1, s2, s3, s4, s5, s6⟩
             go_simp
             with_reducible rfl
            rotate_left
            ·simp only [Act.put, List.setIfInBounds_toArray, List.set_cons_zero, List.set_cons_succ, i64_w, i32_w]
             rfl
            refine take_ (i := 4) (N := some 46) (v := ?_) (a' := ?_) #[true, true, true, true, true, false, false, false, false, false, false, false] rfl rfl (take_ofW HT_.out HW_.out (by kernel_rfl)) (fun _ _ _ h => h) (Or.inl ⟨by rfl, ?_⟩) hHeld ?_ ?_
            rotate_left
            ·rintro w' ⟨s0, s1, s2, s3, s4, s5, s6⟩
             go_simp
             with_reducible rfl
            rotate_left
            ·simp only [Act.put, List.setIfInBounds_toArray, List.set_cons_zero, List.set_cons_succ, i64_w, i32_w]
             rfl
            refine join_ (σ := Value × Nat) 2 #[true, true, true, true, true, true, true, true, true, true, false, false] (fun s_ => [(47, .tuple #[.agg #[s_.1, .int .i64 t544, .int .i64 t545], .int .i64 t546]), (12, .pointer (some ⟨s_.2, 0, none⟩)), (41, .tuple #[.agg #[s_.1, .int .i64 t544, .int .i64 t545], .int .i64 t546]), (48, .agg #[s_.1, .int .i64 t544, .int .i64 t545]), (49, .int .i64 t546)]) (fun s_ w' => (w'.cell? ⟨gA, 0, none⟩ = some (.slice Ao37 x537000_1.length co37) ∧ w'.cell? ⟨gA, 1, none⟩ = some (.int .i64 x537001_1) ∧ w'.cell? ⟨gA, 2, none⟩ = some (.int .i64 x537002_1) ∧ w'.cell? (ad537.add ((x9_1).toNat * 4)) = some (.slice A540_0 ((rd_T32 l0 x9_1).f0).length c540_0) ∧ w'.cell? ⟨(ad537.add ((x9_1).toNat * 4)).block, (ad537.add ((x9_1).toNat * 4)).off + 1, none⟩ = some (.slice A540_1 ((rd_T32 l0 x9_1).f1).length c540_1) ∧ w'.cell? ⟨(ad537.add ((x9_1).toNat * 4)).block, (ad537.add ((x9_1).toNat * 4)).off + 2, none⟩ = some (.int .i64 ((rd_T32 l0 x9_1).f2)) ∧ w'.cell? ⟨(ad537.add ((x9_1).toNat * 4)).block, (ad537.add ((x9_1).toNat * 4)).off + 3, none⟩ = some (.int .i64 ((rd_T32 l0 x9_1).f3))) ∧ (Kd.R k36 36 w' w.heap.size (fun k_ => some k_ ≠ (.slice Ao37 x537000_1.length co37 : Value).ownBlock) s_.1 t541) ∧ (Kd.R k36 36 w' w.heap.size (fun k_ => some k_ ≠ (s_.1 : Value).ownBlock) (.slice Ao37 x537000_1.length co37) x537000_1) ∧ (Kd.R (Kd.int .i64) 3 w' w.heap.size (fun _ => True) u6 x6_1) ∧ (Kd.S k26 26 w' w.heap.size (fun k_ => some k_ ≠ (s_.1 : Value).ownBlock ∧ True ∧ k_ ≠ gA ∧ k_ ≠ s_.2) u7 x7_1) ∧ (w'.heap[gA]? = some (.cells #[.slice Ao37 x537000_1.length co37, .int .i64 x537001_1, .int .i64 x537002_1] 26 (0, 0))) ∧ (w'.heap[s_.2]? = some (.cells #[.slice none 0 0, .int .i64 0, .int .i64 0] 26 (0, 0))) ∧ (w.heap.size ≤ s_.2) ∧ (w.heap.size ≤ s_.2) ∧ (gA ≠ s_.2) ∧ (s_.2 ≠ gA) ∧ (Below w.heap.size w w')) ?_ ?_
            rotate_left
            ·intro hCont
             refine two_ (i := 5) (j := 9) (Ni := some 47) (Nj := some 12) #[true, true, true, true, true, true, false, false, false, false, false, false] #[true, true, true, true, true, false, false, false, false, true, false, false] rfl rfl rfl rfl (two_of HT_.out (by kernel_rfl)) (by decide) (by decide) (fun K hK => ?_) (fun K hK => ?_)
             ·skip
              refine goes_ Try.func9 (by kernel_rfl) rfl #[.agg #[.slice Ao37 x537000_1.length co37, .int .i64 x537001_1, .int .i64 x537002_1], .agg #[.slice A540_0 ((rd_T32 l0 x9_1).f0).length c540_0, .slice A540_1 ((rd_T32 l0 x9_1).f1).length c540_1, .int .i64 ((rd_T32 l0 x9_1).f2), .int .i64 ((rd_T32 l0 x9_1).f3)]] (by rfl) rfl rfl (by (try simp only [List.map_toArray, List.map_cons, List.map_nil]); first | done | rfl | (simp only [List.length_drop, List.length_take]; rfl)) ?_
              with_reducible refine (manifest_Apply.calls _ _ x537000_1 x537001_1 x537002_1 _ _ ((rd_T32 l0 x9_1).f0) _ _ ((rd_T32 l0 x9_1).f1) ((rd_T32 l0 x9_1).f2) ((rd_T32 l0 x9_1).f3) t541 t544 t545 t546 _ ?side1 ?side2 ?side3 ?side4 ?side5 ?side6 A14.out).mono ?_
              (case side1 => repeat (first | exact (Kd.R_reads' HO_537000.out).2.2 | (with_reducible refine Kd.C_alloc ?_ _) | (with_reducible refine Kd.C_drewN ?_ _) | (with_reducible refine Kd.C_drew ?_)))
              (case side2 => exact (Kd.R_reads' HO_537000.out).2.1)
              (case side3 => repeat (first | exact (Kd.C_below HR540_0.out HB.out) | (with_reducible refine Kd.C_alloc ?_ _) | (with_reducible refine Kd.C_drewN ?_ _) | (with_reducible refine Kd.C_drew ?_)))
              (case side4 => exact HC540_0.out)
              (case side5 => repeat (first | exact (Kd.C_below HR540_1.out HB.out) | (with_reducible refine Kd.C_alloc ?_ _) | (with_reducible refine Kd.C_drewN ?_ _) | (with_reducible refine Kd.C_drew ?_)))
              (case side6 => exact HC540_1.out)
              rintro e w39 ⟨v542, rfl, ho0, hb⟩
              refine ⟨_, rfl, ?_⟩
              have n0_ := Aside0.mk (Kd.R_below (by (with_reducible repeat (first | apply Kd.R_alloc | apply Kd.R_drewN | apply Kd.R_drew)); exact HO_6.out) hb)
              have n1_ := Aside0.mk (Kd.S_elder' (by (with_reducible repeat (first | apply Kd.S_alloc | apply Kd.S_drewN | apply Kd.S_drew)); exact HO_7.out) (Kd.R_base ho0) hb)
              have n2_ := Aside0.mk (Kd.R_elder' (by (with_reducible repeat (first | apply Kd.R_alloc | apply Kd.R_drewN | apply Kd.R_drew)); exact HO_537000.out) (Kd.R_base ho0) hb)
              have n3_ := Aside0.mk (Kd.R_lower (Kd.R_new' ho0 (Kd.R_lt (by (with_reducible repeat (first | apply Kd.R_alloc | apply Kd.R_drewN | apply Kd.R_drew)); exact HO_537000.out))) (below_size (by repeat (first | (with_reducible first | exact HB.out | apply below_alloc | apply pw_below_drewN | apply below_drew1 | refine below_set ?_ GE536.out) | exact HB.out))))
              have n4_ := Aside0.mk (blk_below (g := gA) (o := .cells #[.slice Ao37 x537000_1.length co37, .int .i64 x537001_1, .int .i64 x537002_1] 26 (0, 0)) (by (with_reducible repeat (first | refine blk_drewN ?_ _ | refine blk_drew ?_ | refine blk_alloc ?_ _)); exact BK536.out) hb)
              have n5_ := Aside0.mk (below_step (by repeat (first | (with_reducible first | exact HB.out | apply below_alloc | apply pw_below_drewN | apply below_drew1 | refine below_set ?_ GE536.out) | exact HB.out)) hb)
              clear HO_6
              clear HO_7
              clear HO_537000
              clear BK536
              clear HB
              have HO_6 := n0_
              have HO_7 := n1_
              have HO_537000 := n2_
              have HO543 := n3_
              have BK536 := n4_
              have HB := n5_
              clear n0_ n1_ n2_ n3_ n4_ n5_
              (try clear hb)
              (try clear hb2)
              (try clear hk)
              (try clear hi)
              (try clear ho0)
              refine hK.out _ _ ⟨(blk_cell BK536.out 0).trans rfl, (blk_cell BK536.out 1).trans rfl, (blk_cell BK536.out 2).trans rfl, ((HB.out.cell (World.block_lt_of_cell? w _ hw540_0)).trans hw540_0), ((HB.out.cell (World.block_lt_of_cell? w _ hw540_1)).trans hw540_1), ((HB.out.cell (World.block_lt_of_cell? w _ hw540_2)).trans hw540_2), ((HB.out.cell (World.block_lt_of_cell? w _ hw540_3)).trans hw540_3)⟩ (fun hHeld => ?_)
              clear hK K
              refine norm_ (a' := ?_) ?_ ?_
              rotate_left
              ·show Act.put _ (some 47) _ = _
               simp only [Act.put, List.setIfInBounds_toArray, List.set_cons_zero, List.set_cons_succ, i64_w, i32_w]
               rfl
              refine pure_ (i := 6) (N := some 41) (v := ?_) (a' := ?_) #[true, true, true, true, true, true, true, false, false, false, false, false] rfl rfl (any_of HT_.out (by kernel_rfl)) (fun _ _ _ h => h) (Or.inl ⟨by rfl, ?_⟩) ?_ ?_
              rotate_left
              ·intro w'
               go_simp
               with_reducible rfl
              rotate_left
              ·simp only [Act.put, List.setIfInBounds_toArray, List.set_cons_zero, List.set_cons_succ, i64_w, i32_w]
               rfl
              refine pure_ (i := 7) (N := some 48) (v := ?_) (a' := ?_) #[true, true, true, true, true, true, true, true, false, false, false, false] rfl rfl (any_of HT_.out (by kernel_rfl)) (fun _ _ _ h => h) (Or.inl ⟨by rfl, ?_⟩) ?_ ?_
              rotate_left
              ·intro w'
               go_simp
               with_reducible rfl
              rotate_left
              ·simp only [Act.put, List.setIfInBounds_toArray, List.set_cons_zero, List.set_cons_succ, i64_w, i32_w]
               rfl
              refine pure_ (i := 8) (N := some 49) (v := ?_) (a' := ?_) #[true, true, true, true, true, true, true, true, true, false, false, false] rfl rfl (any_of HT_.out (by kernel_rfl)) (fun _ _ _ h => h) (Or.inl ⟨by rfl, ?_⟩) ?_ ?_
              rotate_left
              ·intro w'
               go_simp
               with_reducible rfl
              rotate_left
              ·simp only [Act.put, List.setIfInBounds_toArray, List.set_cons_zero, List.set_cons_succ, i64_w, i32_w]
               rfl
              refine one_ (i := 9) (N := some 12) #[true, true, true, true, true, true, true, true, true, true, false, false] rfl rfl (one_of HT_.out (by kernel_rfl)) (by decide) (fun K hK => ?_)
              refine box_step ?hg (N := 12) ?hd (cs := #[.slice none 0 0, .int .i64 0, .int .i64 0]) (t := 26) ?hr ?_; (case hd => rfl); (case hg => rfl); (case hr => first | (go_simp; done) | (go_simp; rfl))
              intro gB hg w40 hbox hb
              have n0_ := Aside0.mk (Kd.R_below (by (with_reducible repeat (first | apply Kd.R_alloc | apply Kd.R_drewN | apply Kd.R_drew)); exact HO_6.out) hb)
              have n1_ := Aside0.mk (Kd.S_below (Kd.S_elderB (by (with_reducible repeat (first | apply Kd.S_alloc | apply Kd.S_drewN | apply Kd.S_drew)); exact HO_7.out) gB (Nat.le_of_eq hg.symm)) hb)
              have n2_ := Aside0.mk (Kd.R_below (by (with_reducible repeat (first | apply Kd.R_alloc | apply Kd.R_drewN | apply Kd.R_drew)); exact HO_537000.out) hb)
              have n3_ := Aside0.mk (Kd.R_below (by (with_reducible repeat (first | apply Kd.R_alloc | apply Kd.R_drewN | apply Kd.R_drew)); exact HO543.out) hb)
              have n4_ := Aside0.mk (blk_below (g := gA) (o := .cells #[.slice Ao37 x537000_1.length co37, .int .i64 x537001_1, .int .i64 x537002_1] 26 (0, 0)) (by (with_reducible repeat (first | refine blk_drewN ?_ _ | refine blk_drew ?_ | refine blk_alloc ?_ _)); exact BK536.out) hb)
              have n5_ := Aside0.mk (below_step (by repeat (first | (with_reducible first | exact HB.out | apply below_alloc | apply pw_below_drewN | apply below_drew1 | refine below_set ?_ GE536.out) | exact HB.out)) hb)
              have n6_ := Aside0.mk (hbox)
              have n7_ := Aside0.mk ((by rw [hg]; exact (below_size (by repeat (first | (with_reducible first | exact HB.out | apply below_alloc | apply pw_below_drewN | apply below_drew1 | refine below_set ?_ GE536.out) | exact HB.out))) : w.heap.size ≤ gB))
              have n8_ := Aside0.mk ((by rw [hg]; exact (below_size (by repeat (first | (with_reducible first | exact HB.out | apply below_alloc | apply pw_below_drewN | apply below_drew1 | refine below_set ?_ GE536.out) | exact HB.out))) : w.heap.size ≤ gB))
              have n9_ := Aside0.mk ((by rw [hg]; exact Nat.ne_of_lt (blk_lt (g := gA) (o := .cells #[.slice Ao37 x537000_1.length co37, .int .i64 x537001_1, .int .i64 x537002_1] 26 (0, 0)) (by (with_reducible repeat (first | refine blk_drewN ?_ _ | refine blk_drew ?_ | refine blk_alloc ?_ _)); exact BK536.out)) : gA ≠ gB))
              have n10_ := Aside0.mk ((by rw [hg]; exact Nat.ne_of_gt (blk_lt (g := gA) (o := .cells #[.slice Ao37 x537000_1.length co37, .int .i64 x537001_1, .int .i64 x537002_1] 26 (0, 0)) (by (with_reducible repeat (first | refine blk_drewN ?_ _ | refine blk_drew ?_ | refine blk_alloc ?_ _)); exact BK536.out)) : gB ≠ gA))
              clear HO_6
              clear HO_7
              clear HO_537000
              clear HO543
              clear BK536
              clear HB
              have HO_6 := n0_
              have HO_7 := n1_
              have HO_537000 := n2_
              have HO543 := n3_
              have BK536 := n4_
              have HB := n5_
              have BK547 := n6_
              have GW547 := n7_
              have GE547 := n8_
              have NB536_547 := n9_
              have NB547_536 := n10_
              clear n0_ n1_ n2_ n3_ n4_ n5_ n6_ n7_ n8_ n9_ n10_
              clear hb hbox hg
              refine hK.out _ _ ⟨(blk_cell BK536.out 0).trans rfl, (blk_cell BK536.out 1).trans rfl, (blk_cell BK536.out 2).trans rfl, ((HB.out.cell (World.block_lt_of_cell? w _ hw540_0)).trans hw540_0), ((HB.out.cell (World.block_lt_of_cell? w _ hw540_1)).trans hw540_1), ((HB.out.cell (World.block_lt_of_cell? w _ hw540_2)).trans hw540_2), ((HB.out.cell (World.block_lt_of_cell? w _ hw540_3)).trans hw540_3)⟩ (fun hHeld => ?_)
              clear hK K
              refine norm_ (a' := ?_) ?_ ?_
              rotate_left
              ·show Act.put _ (some 12) _ = _
               simp only [Act.put, List.setIfInBounds_toArray, List.set_cons_zero, List.set_cons_succ, i64_w, i32_w]
               rfl
              exact norm_ (by simp only [putAll, Act.put, List.setIfInBounds_toArray, List.set_cons_zero, List.set_cons_succ]) (hCont (v542, gB) _ ⟨hHeld, (by (with_reducible repeat (first | apply Kd.R_alloc | apply Kd.R_drewN | apply Kd.R_drew)); exact Kd.R_mono HO543.out (fun _ hk => hk.2)), (by (with_reducible repeat (first | apply Kd.R_alloc | apply Kd.R_drewN | apply Kd.R_drew)); exact Kd.R_mono HO_537000.out (fun _ hk => hk.2)), (by (with_reducible repeat (first | apply Kd.R_alloc | apply Kd.R_drewN | apply Kd.R_drew)); exact HO_6.out), (by (with_reducible repeat (first | apply Kd.S_alloc | apply Kd.S_drewN | apply Kd.S_drew)); exact Kd.S_mono HO_7.out (fun _ hk => ⟨hk.1.2, ⟨hk.1.1.1, ⟨hk.1.1.2, hk.2⟩⟩⟩)), (by (with_reducible repeat (first | refine blk_drewN ?_ _ | refine blk_drew ?_ | refine blk_alloc ?_ _)); exact BK536.out), (by (with_reducible repeat (first | refine blk_drewN ?_ _ | refine blk_drew ?_ | refine blk_alloc ?_ _)); exact BK547.out), GW547.out, GE547.out, NB536_547.out, NB547_536.out, (by repeat (first | (with_reducible first | exact HB.out | apply below_alloc | apply pw_below_drewN | apply below_drew1 | refine below_set ?_ GE536.out | refine below_set ?_ GE547.out) | exact HB.out))⟩)
             ·skip
              refine box_step ?hg (N := 12) ?hd (cs := #[.slice none 0 0, .int .i64 0, .int .i64 0]) (t := 26) ?hr ?_; (case hd => rfl); (case hg => rfl); (case hr => first | (go_simp; done) | (go_simp; rfl))
              intro gB hg w39 hbox hb
              have n0_ := Aside0.mk (Kd.R_below (by (with_reducible repeat (first | apply Kd.R_alloc | apply Kd.R_drewN | apply Kd.R_drew)); exact HO_6.out) hb)
              have n1_ := Aside0.mk (Kd.S_below (Kd.S_elderB (by (with_reducible repeat (first | apply Kd.S_alloc | apply Kd.S_drewN | apply Kd.S_drew)); exact HO_7.out) gB (Nat.le_of_eq hg.symm)) hb)
              have n2_ := Aside0.mk (Kd.R_below (by (with_reducible repeat (first | apply Kd.R_alloc | apply Kd.R_drewN | apply Kd.R_drew)); exact HO_537000.out) hb)
              have n3_ := Aside0.mk (blk_below (g := gA) (o := .cells #[.slice Ao37 x537000_1.length co37, .int .i64 x537001_1, .int .i64 x537002_1] 26 (0, 0)) (by (with_reducible repeat (first | refine blk_drewN ?_ _ | refine blk_drew ?_ | refine blk_alloc ?_ _)); exact BK536.out) hb)
              have n4_ := Aside0.mk (below_step (by repeat (first | (with_reducible first | exact HB.out | apply below_alloc | apply pw_below_drewN | apply below_drew1 | refine below_set ?_ GE536.out) | exact HB.out)) hb)
              have n5_ := Aside0.mk (hbox)
              have n6_ := Aside0.mk ((by rw [hg]; exact (below_size (by repeat (first | (with_reducible first | exact HB.out | apply below_alloc | apply pw_below_drewN | apply below_drew1 | refine below_set ?_ GE536.out) | exact HB.out))) : w.heap.size ≤ gB))
              have n7_ := Aside0.mk ((by rw [hg]; exact (below_size (by repeat (first | (with_reducible first | exact HB.out | apply below_alloc | apply pw_below_drewN | apply below_drew1 | refine below_set ?_ GE536.out) | exact HB.out))) : w.heap.size ≤ gB))
              have n8_ := Aside0.mk ((by rw [hg]; exact Nat.ne_of_lt (blk_lt (g := gA) (o := .cells #[.slice Ao37 x537000_1.length co37, .int .i64 x537001_1, .int .i64 x537002_1] 26 (0, 0)) (by (with_reducible repeat (first | refine blk_drewN ?_ _ | refine blk_drew ?_ | refine blk_alloc ?_ _)); exact BK536.out)) : gA ≠ gB))
              have n9_ := Aside0.mk ((by rw [hg]; exact Nat.ne_of_gt (blk_lt (g := gA) (o := .cells #[.slice Ao37 x537000_1.length co37, .int .i64 x537001_1, .int .i64 x537002_1] 26 (0, 0)) (by (with_reducible repeat (first | refine blk_drewN ?_ _ | refine blk_drew ?_ | refine blk_alloc ?_ _)); exact BK536.out)) : gB ≠ gA))
              clear HO_6
              clear HO_7
              clear HO_537000
              clear BK536
              clear HB
              have HO_6 := n0_
              have HO_7 := n1_
              have HO_537000 := n2_
              have BK536 := n3_
              have HB := n4_
              have BK547 := n5_
              have GW547 := n6_
              have GE547 := n7_
              have NB536_547 := n8_
              have NB547_536 := n9_
              clear n0_ n1_ n2_ n3_ n4_ n5_ n6_ n7_ n8_ n9_
              clear hb hbox hg
              refine hK.out _ _ ⟨(blk_cell BK536.out 0).trans rfl, (blk_cell BK536.out 1).trans rfl, (blk_cell BK536.out 2).trans rfl, ((HB.out.cell (World.block_lt_of_cell? w _ hw540_0)).trans hw540_0), ((HB.out.cell (World.block_lt_of_cell? w _ hw540_1)).trans hw540_1), ((HB.out.cell (World.block_lt_of_cell? w _ hw540_2)).trans hw540_2), ((HB.out.cell (World.block_lt_of_cell? w _ hw540_3)).trans hw540_3)⟩ (fun hHeld => ?_)
              clear hK K
              refine norm_ (a' := ?_) ?_ ?_
              rotate_left
              ·show Act.put _ (some 12) _ = _
               simp only [Act.put, List.setIfInBounds_toArray, List.set_cons_zero, List.set_cons_succ, i64_w, i32_w]
               rfl
              refine one_ (i := 5) (N := some 47) #[true, true, true, true, true, true, false, false, false, true, false, false] rfl rfl (one_of HT_.out (by kernel_rfl)) (by decide) (fun K hK => ?_)
              refine goes_ Try.func9 (by kernel_rfl) rfl #[.agg #[.slice Ao37 x537000_1.length co37, .int .i64 x537001_1, .int .i64 x537002_1], .agg #[.slice A540_0 ((rd_T32 l0 x9_1).f0).length c540_0, .slice A540_1 ((rd_T32 l0 x9_1).f1).length c540_1, .int .i64 ((rd_T32 l0 x9_1).f2), .int .i64 ((rd_T32 l0 x9_1).f3)]] (by rfl) rfl rfl (by (try simp only [List.map_toArray, List.map_cons, List.map_nil]); first | done | rfl | (simp only [List.length_drop, List.length_take]; rfl)) ?_
              with_reducible refine (manifest_Apply.calls _ _ x537000_1 x537001_1 x537002_1 _ _ ((rd_T32 l0 x9_1).f0) _ _ ((rd_T32 l0 x9_1).f1) ((rd_T32 l0 x9_1).f2) ((rd_T32 l0 x9_1).f3) t541 t544 t545 t546 _ ?side1 ?side2 ?side3 ?side4 ?side5 ?side6 A14.out).mono ?_
              (case side1 => repeat (first | exact (Kd.R_reads' HO_537000.out).2.2 | (with_reducible refine Kd.C_alloc ?_ _) | (with_reducible refine Kd.C_drewN ?_ _) | (with_reducible refine Kd.C_drew ?_)))
              (case side2 => exact (Kd.R_reads' HO_537000.out).2.1)
              (case side3 => repeat (first | exact (Kd.C_below HR540_0.out HB.out) | (with_reducible refine Kd.C_alloc ?_ _) | (with_reducible refine Kd.C_drewN ?_ _) | (with_reducible refine Kd.C_drew ?_)))
              (case side4 => exact HC540_0.out)
              (case side5 => repeat (first | exact (Kd.C_below HR540_1.out HB.out) | (with_reducible refine Kd.C_alloc ?_ _) | (with_reducible refine Kd.C_drewN ?_ _) | (with_reducible refine Kd.C_drew ?_)))
              (case side6 => exact HC540_1.out)
              rintro e w40 ⟨v542, rfl, ho0, hb⟩
              refine ⟨_, rfl, ?_⟩
              have n0_ := Aside0.mk (Kd.R_below (by (with_reducible repeat (first | apply Kd.R_alloc | apply Kd.R_drewN | apply Kd.R_drew)); exact HO_6.out) hb)
              have n1_ := Aside0.mk (Kd.S_elder' (by (with_reducible repeat (first | apply Kd.S_alloc | apply Kd.S_drewN | apply Kd.S_drew)); exact HO_7.out) (Kd.R_base ho0) hb)
              have n2_ := Aside0.mk (Kd.R_elder' (by (with_reducible repeat (first | apply Kd.R_alloc | apply Kd.R_drewN | apply Kd.R_drew)); exact HO_537000.out) (Kd.R_base ho0) hb)
              have n3_ := Aside0.mk (Kd.R_lower (Kd.R_new' ho0 (Kd.R_lt (by (with_reducible repeat (first | apply Kd.R_alloc | apply Kd.R_drewN | apply Kd.R_drew)); exact HO_537000.out))) (below_size (by repeat (first | (with_reducible first | exact HB.out | apply below_alloc | apply pw_below_drewN | apply below_drew1 | refine below_set ?_ GE536.out | refine below_set ?_ GE547.out) | exact HB.out))))
              have n4_ := Aside0.mk (blk_below (g := gA) (o := .cells #[.slice Ao37 x537000_1.length co37, .int .i64 x537001_1, .int .i64 x537002_1] 26 (0, 0)) (by (with_reducible repeat (first | refine blk_drewN ?_ _ | refine blk_drew ?_ | refine blk_alloc ?_ _)); exact BK536.out) hb)
              have n5_ := Aside0.mk (blk_below (g := gB) (o := .cells #[.slice none 0 0, .int .i64 0, .int .i64 0] 26 (0, 0)) (by (with_reducible repeat (first | refine blk_drewN ?_ _ | refine blk_drew ?_ | refine blk_alloc ?_ _)); exact BK547.out) hb)
              have n6_ := Aside0.mk (below_step (by repeat (first | (with_reducible first | exact HB.out | apply below_alloc | apply pw_below_drewN | apply below_drew1 | refine below_set ?_ GE536.out | refine below_set ?_ GE547.out) | exact HB.out)) hb)
              clear HO_6
              clear HO_7
              clear HO_537000
              clear BK536
              clear BK547
              clear HB
              have HO_6 := n0_
              have HO_7 := n1_
              have HO_537000 := n2_
              have HO543 := n3_
              have BK536 := n4_
              have BK547 := n5_
              have HB := n6_
              clear n0_ n1_ n2_ n3_ n4_ n5_ n6_
              (try clear hb)
              (try clear hb2)
              (try clear hk)
              (try clear hi)
              (try clear ho0)
              refine hK.out _ _ ⟨(blk_cell BK536.out 0).trans rfl, (blk_cell BK536.out 1).trans rfl, (blk_cell BK536.out 2).trans rfl, ((HB.out.cell (World.block_lt_of_cell? w _ hw540_0)).trans hw540_0), ((HB.out.cell (World.block_lt_of_cell? w _ hw540_1)).trans hw540_1), ((HB.out.cell (World.block_lt_of_cell? w _ hw540_2)).trans hw540_2), ((HB.out.cell (World.block_lt_of_cell? w _ hw540_3)).trans hw540_3)⟩ (fun hHeld => ?_)
              clear hK K
              refine norm_ (a' := ?_) ?_ ?_
              rotate_left
              ·show Act.put _ (some 47) _ = _
               simp only [Act.put, List.setIfInBounds_toArray, List.set_cons_zero, List.set_cons_succ, i64_w, i32_w]
               rfl
              refine pure_ (i := 6) (N := some 41) (v := ?_) (a' := ?_) #[true, true, true, true, true, true, true, false, false, true, false, false] rfl rfl (any_of HT_.out (by kernel_rfl)) (fun _ _ _ h => h) (Or.inl ⟨by rfl, ?_⟩) ?_ ?_
              rotate_left
              ·intro w'
               go_simp
               with_reducible rfl
              rotate_left
              ·simp only [Act.put, List.setIfInBounds_toArray, List.set_cons_zero, List.set_cons_succ, i64_w, i32_w]
               rfl
              refine pure_ (i := 7) (N := some 48) (v := ?_) (a' := ?_) #[true, true, true, true, true, true, true, true, false, true, false, false] rfl rfl (any_of HT_.out (by kernel_rfl)) (fun _ _ _ h => h) (Or.inl ⟨by rfl, ?_⟩) ?_ ?_
              rotate_left
              ·intro w'
               go_simp
               with_reducible rfl
              rotate_left
              ·simp only [Act.put, List.setIfInBounds_toArray, List.set_cons_zero, List.set_cons_succ, i64_w, i32_w]
               rfl
              refine pure_ (i := 8) (N := some 49) (v := ?_) (a' := ?_) #[true, true, true, true, true, true, true, true, true, true, false, false] rfl rfl (any_of HT_.out (by kernel_rfl)) (fun _ _ _ h => h) (Or.inl ⟨by rfl, ?_⟩) ?_ ?_
              rotate_left
              ·intro w'
               go_simp
               with_reducible rfl
              rotate_left
              ·simp only [Act.put, List.setIfInBounds_toArray, List.set_cons_zero, List.set_cons_succ, i64_w, i32_w]
               rfl
              exact norm_ (by simp only [putAll, Act.put, List.setIfInBounds_toArray, List.set_cons_zero, List.set_cons_succ]) (hCont (v542, gB) _ ⟨hHeld, (by (with_reducible repeat (first | apply Kd.R_alloc | apply Kd.R_drewN | apply Kd.R_drew)); exact Kd.R_mono HO543.out (fun _ hk => hk.2)), (by (with_reducible repeat (first | apply Kd.R_alloc | apply Kd.R_drewN | apply Kd.R_drew)); exact Kd.R_mono HO_537000.out (fun _ hk => hk.2)), (by (with_reducible repeat (first | apply Kd.R_alloc | apply Kd.R_drewN | apply Kd.R_drew)); exact HO_6.out), (by (with_reducible repeat (first | apply Kd.S_alloc | apply Kd.S_drewN | apply Kd.S_drew)); exact Kd.S_mono HO_7.out (fun _ hk => ⟨hk.2, ⟨hk.1.1.1, ⟨hk.1.1.2, hk.1.2⟩⟩⟩)), (by (with_reducible repeat (first | refine blk_drewN ?_ _ | refine blk_drew ?_ | refine blk_alloc ?_ _)); exact BK536.out), (by (with_reducible repeat (first | refine blk_drewN ?_ _ | refine blk_drew ?_ | refine blk_alloc ?_ _)); exact BK547.out), GW547.out, GE547.out, NB536_547.out, NB547_536.out, (by repeat (first | (with_reducible first | exact HB.out | apply below_alloc | apply pw_below_drewN | apply below_drew1 | refine below_set ?_ GE536.out | refine below_set ?_ GE547.out) | exact HB.out))⟩)
            rintro ⟨v542, gB⟩ w41 ⟨hS_, h0_, h1_, h2_, h3_, h4_, h5_, h6_, h7_, h8_, h9_, h10_⟩
            have n0_ : Aside0 (Kd.R k36 36 w41 w.heap.size (fun k_ => some k_ ≠ (.slice Ao37 x537000_1.length co37 : Value).ownBlock) v542 t541) := ⟨h0_⟩
            have n1_ : Aside0 (Kd.R k36 36 w41 w.heap.size (fun k_ => some k_ ≠ (v542 : Value).ownBlock) (.slice Ao37 x537000_1.length co37) x537000_1) := ⟨h1_⟩
            have n2_ : Aside0 (Kd.R (Kd.int .i64) 3 w41 w.heap.size (fun _ => True) u6 x6_1) := ⟨h2_⟩
            have n3_ : Aside0 (Kd.S k26 26 w41 w.heap.size (fun k_ => some k_ ≠ (v542 : Value).ownBlock ∧ True ∧ k_ ≠ gA ∧ k_ ≠ gB) u7 x7_1) := ⟨h3_⟩
            have n4_ : Aside0 (w41.heap[gA]? = some (.cells #[.slice Ao37 x537000_1.length co37, .int .i64 x537001_1, .int .i64 x537002_1] 26 (0, 0))) := ⟨h4_⟩
            have n5_ : Aside0 (w41.heap[gB]? = some (.cells #[.slice none 0 0, .int .i64 0, .int .i64 0] 26 (0, 0))) := ⟨h5_⟩
            have n6_ : Aside0 (w.heap.size ≤ gB) := ⟨h6_⟩
            have n7_ : Aside0 (w.heap.size ≤ gB) := ⟨h7_⟩
            have n8_ : Aside0 (gA ≠ gB) := ⟨h8_⟩
            have n9_ : Aside0 (gB ≠ gA) := ⟨h9_⟩
            have n10_ : Aside0 (Below w.heap.size w w41) := ⟨h10_⟩
            clear HO_6
            clear HO_7
            clear HO_537000
            clear BK536
            clear HB
            clear h0_ h1_ h2_ h3_ h4_ h5_ h6_ h7_ h8_ h9_ h10_
            have HO543 := n0_
            have HO_537000 := n1_
            have HO_6 := n2_
            have HO_7 := n3_
            have BK536 := n4_
            have BK547 := n5_
            have GW547 := n6_
            have GE547 := n7_
            have NB536_547 := n8_
            have NB547_536 := n9_
            have HB := n10_
            clear n0_ n1_ n2_ n3_ n4_ n5_ n6_ n7_ n8_ n9_ n10_
            have hHeld : w41.cell? ⟨gA, 0, none⟩ = some (.slice Ao37 x537000_1.length co37) ∧ w41.cell? ⟨gA, 1, none⟩ = some (.int .i64 x537001_1) ∧ w41.cell? ⟨gA, 2, none⟩ = some (.int .i64 x537002_1) ∧ w41.cell? (ad537.add ((x9_1).toNat * 4)) = some (.slice A540_0 ((rd_T32 l0 x9_1).f0).length c540_0) ∧ w41.cell? ⟨(ad537.add ((x9_1).toNat * 4)).block, (ad537.add ((x9_1).toNat * 4)).off + 1, none⟩ = some (.slice A540_1 ((rd_T32 l0 x9_1).f1).length c540_1) ∧ w41.cell? ⟨(ad537.add ((x9_1).toNat * 4)).block, (ad537.add ((x9_1).toNat * 4)).off + 2, none⟩ = some (.int .i64 ((rd_T32 l0 x9_1).f2)) ∧ w41.cell? ⟨(ad537.add ((x9_1).toNat * 4)).block, (ad537.add ((x9_1).toNat * 4)).off + 3, none⟩ = some (.int .i64 ((rd_T32 l0 x9_1).f3)) := hS_
            obtain ⟨Ao42, co42, eo42⟩ := Kd.R_slice HO543.out
            (first | subst eo42 | (injection eo42 with f1_ f2_ f3_; have f4_ := f1_.symm; have f5_ := f3_.symm; clear f1_ f2_ f3_; subst f4_; subst f5_))
            refine norm_ (a' := ?_) ?_ ?_
            rotate_left
            ·simp only [putAll, Act.put, List.setIfInBounds_toArray, List.set_cons_zero, List.set_cons_succ]
             rfl
            refine one_ (i := 10) (N := none) #[true, true, true, true, true, true, true, true, true, true, true, false] rfl rfl (one_of HT_.out (by kernel_rfl)) (by decide) (fun K hK => ?_)
            have hs43 : w41.cell? ⟨gB, 0, none⟩ = some (.slice none 0 0) := (blk_cell BK547.out 0).trans rfl
            have hfs43 := blk_frozen BK547.out 0
            have hns43_0 := NB536_547.out
            have hms43_0 := NB547_536.out
            have hs44 : w41.cell? ⟨gB, 1, none⟩ = some (.int .i64 0) := (blk_cell BK547.out 1).trans rfl
            have hfs44 := blk_frozen BK547.out 1
            have hns44_0 := NB536_547.out
            have hms44_0 := NB547_536.out
            have hs45 : w41.cell? ⟨gB, 2, none⟩ = some (.int .i64 0) := (blk_cell BK547.out 2).trans rfl
            have hfs45 := blk_frozen BK547.out 2
            have hns45_0 := NB536_547.out
            have hms45_0 := NB547_536.out
            refine skip_ (w1 := ?_) (by rfl) rfl ?_ ?_
            rotate_left
            ·go_simp
             rfl
            refine hK.out _ _ ⟨((cell_far (p := ⟨gB, _, none⟩) NB536_547.out _).trans (((cell_far (p := ⟨gB, _, none⟩) NB536_547.out _).trans (((cell_far (p := ⟨gB, _, none⟩) NB536_547.out _).trans (hHeld.1)))))), ((cell_far (p := ⟨gB, _, none⟩) NB536_547.out _).trans (((cell_far (p := ⟨gB, _, none⟩) NB536_547.out _).trans (((cell_far (p := ⟨gB, _, none⟩) NB536_547.out _).trans (hHeld.2.1)))))), ((cell_far (p := ⟨gB, _, none⟩) NB536_547.out _).trans (((cell_far (p := ⟨gB, _, none⟩) NB536_547.out _).trans (((cell_far (p := ⟨gB, _, none⟩) NB536_547.out _).trans (hHeld.2.2.1)))))), ((cell_far (p := ⟨gB, _, none⟩) (by first | exact Nat.ne_of_lt (Nat.lt_of_lt_of_le (by have := World.block_lt_of_cell? _ _ hw540_0; first | rwa [add_block] at this | exact this) GW547.out) | (rw [add_block]; exact Nat.ne_of_lt (Nat.lt_of_lt_of_le (by have := World.block_lt_of_cell? _ _ hw540_0; first | rwa [add_block] at this | exact this) GW547.out)) | (show (Addr.add _ _).block ≠ _; rw [add_block]; exact Nat.ne_of_lt (Nat.lt_of_lt_of_le (by have := World.block_lt_of_cell? _ _ hw540_0; first | rwa [add_block] at this | exact this) GW547.out)) | (dsimp only; exact Nat.ne_of_lt (Nat.lt_of_lt_of_le (by have := World.block_lt_of_cell? _ _ hw540_0; first | rwa [add_block] at this | exact this) GW547.out))) _).trans (((cell_far (p := ⟨gB, _, none⟩) (by first | exact Nat.ne_of_lt (Nat.lt_of_lt_of_le (by have := World.block_lt_of_cell? _ _ hw540_0; first | rwa [add_block] at this | exact this) GW547.out) | (rw [add_block]; exact Nat.ne_of_lt (Nat.lt_of_lt_of_le (by have := World.block_lt_of_cell? _ _ hw540_0; first | rwa [add_block] at this | exact this) GW547.out)) | (show (Addr.add _ _).block ≠ _; rw [add_block]; exact Nat.ne_of_lt (Nat.lt_of_lt_of_le (by have := World.block_lt_of_cell? _ _ hw540_0; first | rwa [add_block] at this | exact this) GW547.out)) | (dsimp only; exact Nat.ne_of_lt (Nat.lt_of_lt_of_le (by have := World.block_lt_of_cell? _ _ hw540_0; first | rwa [add_block] at this | exact this) GW547.out))) _).trans (((cell_far (p := ⟨gB, _, none⟩) (by first | exact Nat.ne_of_lt (Nat.lt_of_lt_of_le (by have := World.block_lt_of_cell? _ _ hw540_0; first | rwa [add_block] at this | exact this) GW547.out) | (rw [add_block]; exact Nat.ne_of_lt (Nat.lt_of_lt_of_le (by have := World.block_lt_of_cell? _ _ hw540_0; first | rwa [add_block] at this | exact this) GW547.out)) | (show (Addr.add _ _).block ≠ _; rw [add_block]; exact Nat.ne_of_lt (Nat.lt_of_lt_of_le (by have := World.block_lt_of_cell? _ _ hw540_0; first | rwa [add_block] at this | exact this) GW547.out)) | (dsimp only; exact Nat.ne_of_lt (Nat.lt_of_lt_of_le (by have := World.block_lt_of_cell? _ _ hw540_0; first | rwa [add_block] at this | exact this) GW547.out))) _).trans (hHeld.2.2.2.1)))))), ((cell_far (p := ⟨gB, _, none⟩) (by first | exact Nat.ne_of_lt (Nat.lt_of_lt_of_le (by have := World.block_lt_of_cell? _ _ hw540_1; first | rwa [add_block] at this | exact this) GW547.out) | (rw [add_block]; exact Nat.ne_of_lt (Nat.lt_of_lt_of_le (by have := World.block_lt_of_cell? _ _ hw540_1; first | rwa [add_block] at this | exact this) GW547.out)) | (show (Addr.add _ _).block ≠ _; rw [add_block]; exact Nat.ne_of_lt (Nat.lt_of_lt_of_le (by have := World.block_lt_of_cell? _ _ hw540_1; first | rwa [add_block] at this | exact this) GW547.out)) | (dsimp only; exact Nat.ne_of_lt (Nat.lt_of_lt_of_le (by have := World.block_lt_of_cell? _ _ hw540_1; first | rwa [add_block] at this | exact this) GW547.out))) _).trans (((cell_far (p := ⟨gB, _, none⟩) (by first | exact Nat.ne_of_lt (Nat.lt_of_lt_of_le (by have := World.block_lt_of_cell? _ _ hw540_1; first | rwa [add_block] at this | exact this) GW547.out) | (rw [add_block]; exact Nat.ne_of_lt (Nat.lt_of_lt_of_le (by have := World.block_lt_of_cell? _ _ hw540_1; first | rwa [add_block] at this | exact this) GW547.out)) | (show (Addr.add _ _).block ≠ _; rw [add_block]; exact Nat.ne_of_lt (Nat.lt_of_lt_of_le (by have := World.block_lt_of_cell? _ _ hw540_1; first | rwa [add_block] at this | exact this) GW547.out)) | (dsimp only; exact Nat.ne_of_lt (Nat.lt_of_lt_of_le (by have := World.block_lt_of_cell? _ _ hw540_1; first | rwa [add_block] at this | exact this) GW547.out))) _).trans (((cell_far (p := ⟨gB, _, none⟩) (by first | exact Nat.ne_of_lt (Nat.lt_of_lt_of_le (by have := World.block_lt_of_cell? _ _ hw540_1; first | rwa [add_block] at this | exact this) GW547.out) | (rw [add_block]; exact Nat.ne_of_lt (Nat.lt_of_lt_of_le (by have := World.block_lt_of_cell? _ _ hw540_1; first | rwa [add_block] at this | exact this) GW547.out)) | (show (Addr.add _ _).block ≠ _; rw [add_block]; exact Nat.ne_of_lt (Nat.lt_of_lt_of_le (by have := World.block_lt_of_cell? _ _ hw540_1; first | rwa [add_block] at this | exact this) GW547.out)) | (dsimp only; exact Nat.ne_of_lt (Nat.lt_of_lt_of_le (by have := World.block_lt_of_cell? _ _ hw540_1; first | rwa [add_block] at this | exact this) GW547.out))) _).trans (hHeld.2.2.2.2.1)))))), ((cell_far (p := ⟨gB, _, none⟩) (by first | exact Nat.ne_of_lt (Nat.lt_of_lt_of_le (by have := World.block_lt_of_cell? _ _ hw540_2; first | rwa [add_block] at this | exact this) GW547.out) | (rw [add_block]; exact Nat.ne_of_lt (Nat.lt_of_lt_of_le (by have := World.block_lt_of_cell? _ _ hw540_2; first | rwa [add_block] at this | exact this) GW547.out)) | (show (Addr.add _ _).block ≠ _; rw [add_block]; exact Nat.ne_of_lt (Nat.lt_of_lt_of_le (by have := World.block_lt_of_cell? _ _ hw540_2; first | rwa [add_block] at this | exact this) GW547.out)) | (dsimp only; exact Nat.ne_of_lt (Nat.lt_of_lt_of_le (by have := World.block_lt_of_cell? _ _ hw540_2; first | rwa [add_block] at this | exact this) GW547.out))) _).trans (((cell_far (p := ⟨gB, _, none⟩) (by first | exact Nat.ne_of_lt (Nat.lt_of_lt_of_le (by have := World.block_lt_of_cell? _ _ hw540_2; first | rwa [add_block] at this | exact this) GW547.out) | (rw [add_block]; exact Nat.ne_of_lt (Nat.lt_of_lt_of_le (by have := World.block_lt_of_cell? _ _ hw540_2; first | rwa [add_block] at this | exact this) GW547.out)) | (show (Addr.add _ _).block ≠ _; rw [add_block]; exact Nat.ne_of_lt (Nat.lt_of_lt_of_le (by have := World.block_lt_of_cell? _ _ hw540_2; first | rwa [add_block] at this | exact this) GW547.out)) | (dsimp only; exact Nat.ne_of_lt (Nat.lt_of_lt_of_le (by have := World.block_lt_of_cell? _ _ hw540_2; first | rwa [add_block] at this | exact this) GW547.out))) _).trans (((cell_far (p := ⟨gB, _, none⟩) (by first | exact Nat.ne_of_lt (Nat.lt_of_lt_of_le (by have := World.block_lt_of_cell? _ _ hw540_2; first | rwa [add_block] at this | exact this) GW547.out) | (rw [add_block]; exact Nat.ne_of_lt (Nat.lt_of_lt_of_le (by have := World.block_lt_of_cell? _ _ hw540_2; first | rwa [add_block] at this | exact this) GW547.out)) | (show (Addr.add _ _).block ≠ _; rw [add_block]; exact Nat.ne_of_lt (Nat.lt_of_lt_of_le (by have := World.block_lt_of_cell? _ _ hw540_2; first | rwa [add_block] at this | exact this) GW547.out)) | (dsimp only; exact Nat.ne_of_lt (Nat.lt_of_lt_of_le (by have := World.block_lt_of_cell? _ _ hw540_2; first | rwa [add_block] at this | exact this) GW547.out))) _).trans (hHeld.2.2.2.2.2.1)))))), ((cell_far (p := ⟨gB, _, none⟩) (by first | exact Nat.ne_of_lt (Nat.lt_of_lt_of_le (by have := World.block_lt_of_cell? _ _ hw540_3; first | rwa [add_block] at this | exact this) GW547.out) | (rw [add_block]; exact Nat.ne_of_lt (Nat.lt_of_lt_of_le (by have := World.block_lt_of_cell? _ _ hw540_3; first | rwa [add_block] at this | exact this) GW547.out)) | (show (Addr.add _ _).block ≠ _; rw [add_block]; exact Nat.ne_of_lt (Nat.lt_of_lt_of_le (by have := World.block_lt_of_cell? _ _ hw540_3; first | rwa [add_block] at this | exact this) GW547.out)) | (dsimp only; exact Nat.ne_of_lt (Nat.lt_of_lt_of_le (by have := World.block_lt_of_cell? _ _ hw540_3; first | rwa [add_block] at this | exact this) GW547.out))) _).trans (((cell_far (p := ⟨gB, _, none⟩) (by first | exact Nat.ne_of_lt (Nat.lt_of_lt_of_le (by have := World.block_lt_of_cell? _ _ hw540_3; first | rwa [add_block] at this | exact this) GW547.out) | (rw [add_block]; exact Nat.ne_of_lt (Nat.lt_of_lt_of_le (by have := World.block_lt_of_cell? _ _ hw540_3; first | rwa [add_block] at this | exact this) GW547.out)) | (show (Addr.add _ _).block ≠ _; rw [add_block]; exact Nat.ne_of_lt (Nat.lt_of_lt_of_le (by have := World.block_lt_of_cell? _ _ hw540_3; first | rwa [add_block] at this | exact this) GW547.out)) | (dsimp only; exact Nat.ne_of_lt (Nat.lt_of_lt_of_le (by have := World.block_lt_of_cell? _ _ hw540_3; first | rwa [add_block] at this | exact this) GW547.out))) _).trans (((cell_far (p := ⟨gB, _, none⟩) (by first | exact Nat.ne_of_lt (Nat.lt_of_lt_of_le (by have := World.block_lt_of_cell? _ _ hw540_3; first | rwa [add_block] at this | exact this) GW547.out) | (rw [add_block]; exact Nat.ne_of_lt (Nat.lt_of_lt_of_le (by have := World.block_lt_of_cell? _ _ hw540_3; first | rwa [add_block] at this | exact this) GW547.out)) | (show (Addr.add _ _).block ≠ _; rw [add_block]; exact Nat.ne_of_lt (Nat.lt_of_lt_of_le (by have := World.block_lt_of_cell? _ _ hw540_3; first | rwa [add_block] at this | exact this) GW547.out)) | (dsimp only; exact Nat.ne_of_lt (Nat.lt_of_lt_of_le (by have := World.block_lt_of_cell? _ _ hw540_3; first | rwa [add_block] at this | exact this) GW547.out))) _).trans (hHeld.2.2.2.2.2.2))))))⟩ (fun hHeld => ?_)
            clear hK K
            refine pure_ (i := 11) (N := some 13) (v := ?_) (a' := ?_) #[true, true, true, true, true, true, true, true, true, true, true, true] rfl rfl (any_of HT_.out (by kernel_rfl)) (fun _ _ _ h => h) (Or.inl ⟨by rfl, ?_⟩) ?_ ?_
            rotate_left
            ·intro w'
             go_simp
             with_reducible rfl
            rotate_left
            ·simp only [Act.put, List.setIfInBounds_toArray, List.set_cons_zero, List.set_cons_succ, i64_w, i32_w]
             rfl
            refine done_ (done_of HT_.out (by kernel_rfl)) ?_
            try go_wp2
            go_meet
            case rel => exact ⟨_, (x5_1), (x6_1), (x7_1), (x537000_1), (x537001_1), (x537002_1), (.slice Ao37 x537000_1.length co37), (by first | rfl | (simp; done) | (simp [*]; done)), H', ⟨by have := HK1.out; have := HJ7.out; first | omega | exact Nat.le_refl _⟩, ⟨by (with_reducible repeat (first | apply Kd.R_alloc | apply Kd.R_drewN | apply Kd.R_drew)); exact Kd.R_mono (Kd.R_far (p := ⟨gB, 2, none⟩) (Kd.R_far (p := ⟨gB, 1, none⟩) (Kd.R_far (p := ⟨gB, 0, none⟩) (Kd.R_types HO_6.out BK547.out (by decide)) (fun _ hk => hk.2) (.slice Ao42 t541.length co42)) (fun _ hk => hk.2) (.int .i64 t544)) (fun _ hk => hk.2) (.int .i64 t545)) (fun _ hk => trivial)⟩, ⟨by (with_reducible repeat (first | apply Kd.S_alloc | apply Kd.S_drewN | apply Kd.S_drew)); exact Kd.S_mono (Kd.S_far (p := ⟨gB, 2, none⟩) (Kd.S_far (p := ⟨gB, 1, none⟩) (Kd.S_far (p := ⟨gB, 0, none⟩) (Kd.S_mono HO_7.out (fun k_ hk => (⟨hk, hk.2.2.2⟩ : _ ∧ k_ ≠ gB))) (fun _ hk => hk.2) (.slice Ao42 t541.length co42)) (fun _ hk => hk.2) (.int .i64 t544)) (fun _ hk => hk.2) (.int .i64 t545)) (fun _ hk => ⟨hk.1.2.1, hk.1.2.2.1⟩)⟩, ⟨by (with_reducible repeat (first | apply Kd.R_alloc | apply Kd.R_drewN | apply Kd.R_drew)); exact Kd.R_mono (Kd.R_far (p := ⟨gB, 2, none⟩) (Kd.R_far (p := ⟨gB, 1, none⟩) (Kd.R_far (p := ⟨gB, 0, none⟩) (Kd.R_types HO_537000.out BK547.out (by decide)) (fun _ hk => hk.2) (.slice Ao42 t541.length co42)) (fun _ hk => hk.2) (.int .i64 t544)) (fun _ hk => hk.2) (.int .i64 t545)) (fun _ hk => trivial)⟩, ⟨by (with_reducible repeat (first | refine blk_drewN ?_ _ | refine blk_drew ?_ | refine blk_alloc ?_ _)); refine blk_far ?_ NB536_547.out _; (with_reducible repeat (first | refine blk_drewN ?_ _ | refine blk_drew ?_ | refine blk_alloc ?_ _)); refine blk_far ?_ NB536_547.out _; (with_reducible repeat (first | refine blk_drewN ?_ _ | refine blk_drew ?_ | refine blk_alloc ?_ _)); refine blk_far ?_ NB536_547.out _; (with_reducible repeat (first | refine blk_drewN ?_ _ | refine blk_drew ?_ | refine blk_alloc ?_ _)); exact BK536.out⟩, ⟨by repeat (first | (with_reducible first | exact HB.out | apply below_alloc | apply pw_below_drewN | apply below_drew1 | refine below_set ?_ GE536.out | refine below_set ?_ GE547.out) | exact HB.out)⟩⟩
          ·rw [if_neg c15] at H
           have c15b0 : (t539 == 0) = false := beq_eq_false_iff_ne.mpr c15
           have c15b1 : (t539 != 0) = true := bne_iff_ne.mpr c15
           have H' := Aside0.mk H
           clear H
           have p537 : 0 ≤ (x9_1 : Int) := of_decide_eq_true (by first | (with_reducible assumption) | assumption)
           have q537 : x9_1 < (l0.length : Int) := of_decide_eq_true (by first | (with_reducible assumption) | assumption)
           obtain ⟨ad537, A537_0, c537_0, A537_1, c537_1, e537, hx537_0, hx537_1, hx537_2, hx537_3, hl537_0, hi537_0, hl537_1, hi537_1⟩ := at_T32 HR0.out x9_1 p537 q537
           cases e537
           replace hx537_0 := (HB.out.cell (World.block_lt_of_cell? w _ hx537_0)).trans hx537_0
           replace hx537_1 := (HB.out.cell (World.block_lt_of_cell? w _ hx537_1)).trans hx537_1
           replace hx537_2 := (HB.out.cell (World.block_lt_of_cell? w _ hx537_2)).trans hx537_2
           replace hx537_3 := (HB.out.cell (World.block_lt_of_cell? w _ hx537_3)).trans hx537_3
           have HR537_0 := Aside0.mk hi537_0
           have HC537_0 := Aside0.mk hl537_0
           clear hi537_0 hl537_0
           have HR537_1 := Aside0.mk hi537_1
           have HC537_1 := Aside0.mk hl537_1
           clear hi537_1 hl537_1
           replace p537 := eq_true p537
           replace q537 := eq_true q537
           try go_wp2_with (first | ((with_reducible refine gate_callee (f := 12) rfl ?_); refine goesL_ (some 38) rfl rfl Try.func12 (by kernel_rfl) rfl #[.agg #[.slice A537_0 ((rd_T32 l0 x9_1).f0).length c537_0, .slice A537_1 ((rd_T32 l0 x9_1).f1).length c537_1, .int .i64 ((rd_T32 l0 x9_1).f2), .int .i64 ((rd_T32 l0 x9_1).f3)]] rfl (by (try simp only [List.map_toArray, List.map_cons, List.map_nil]); first | done | rfl | (simp only [List.length_drop, List.length_take]; rfl) | (go_simp; simp [IntKind.wrap, IntKind.bits, IntKind.signed]; omega)) ?_; (with_reducible refine (manifest_Write.calls kj7 _ _ ((rd_T32 l0 x9_1).f0) _ _ ((rd_T32 l0 x9_1).f1) ((rd_T32 l0 x9_1).f2) ((rd_T32 l0 x9_1).f3) t538 t539 _ ?side1 ?side2 ?side3 ?side4 A13.out).mono ?_); (case side1 => repeat (first | exact (Kd.C_below HR537_0.out HB.out) | (with_reducible refine Kd.C_alloc ?_ _) | (with_reducible refine Kd.C_drewN ?_ _) | (with_reducible refine Kd.C_drew ?_))); (case side2 => exact HC537_0.out); (case side3 => repeat (first | exact (Kd.C_below HR537_1.out HB.out) | (with_reducible refine Kd.C_alloc ?_ _) | (with_reducible refine Kd.C_drewN ?_ _) | (with_reducible refine Kd.C_drew ?_))); (case side4 => exact HC537_1.out); rintro e w46 ⟨rfl, hb⟩; refine ⟨_, rfl, ?_⟩; have n0_ := Aside0.mk (Kd.R_below (by (with_reducible repeat (first | apply Kd.R_alloc | apply Kd.R_drewN | apply Kd.R_drew)); exact HO_6.out) hb); have n1_ := Aside0.mk (Kd.S_below (by (with_reducible repeat (first | apply Kd.S_alloc | apply Kd.S_drewN | apply Kd.S_drew)); exact HO_7.out) hb); have n2_ := Aside0.mk (Kd.R_below (by (with_reducible repeat (first | apply Kd.R_alloc | apply Kd.R_drewN | apply Kd.R_drew)); exact HO_537000.out) hb); have n3_ := Aside0.mk (blk_below (g := gA) (o := .cells #[u537000, .int .i64 x537001_1, .int .i64 x537002_1] 26 (0, 0)) (by (with_reducible repeat (first | refine blk_drewN ?_ _ | refine blk_drew ?_ | refine blk_alloc ?_ _)); exact BK536.out) hb); have n4_ := Aside0.mk (below_step (by repeat (first | (with_reducible first | exact HB.out | apply below_alloc | apply pw_below_drewN | apply below_drew1 | refine below_set ?_ GE536.out) | exact HB.out)) hb); clear HO_6; clear HO_7; clear HO_537000; clear BK536; clear HB; have HO_6 := n0_; have HO_7 := n1_; have HO_537000 := n2_; have BK536 := n3_; have HB := n4_; clear n0_ n1_ n2_ n3_ n4_; (try clear hb); (try clear hb2); (try clear hk); (try clear hi); obtain ⟨Ao47, co47, eo47⟩ := Kd.R_slice HO_537000.out; subst eo47))
           have n0_ := Aside0.mk (Kd.R_drew HO_6.out)
           have n1_ := Aside0.mk (Kd.S_drew HO_7.out)
           have n2_ := Aside0.mk (Kd.R_drew HO_537000.out)
           have n3_ := Aside0.mk (blk_drew BK536.out)
           have n4_ := Aside0.mk (below_drew1 HB.out)
           clear HO_6
           clear HO_7
           clear HO_537000
           clear BK536
           clear HB
           have HO_6 := n0_
           have HO_7 := n1_
           have HO_537000 := n2_
           have BK536 := n3_
           have HB := n4_
           clear n0_ n1_ n2_ n3_ n4_
           have p540 : 0 ≤ (x9_1 : Int) := of_decide_eq_true (by first | (with_reducible assumption) | assumption)
           have q540 : x9_1 < (l0.length : Int) := of_decide_eq_true (by first | (with_reducible assumption) | assumption)
           obtain ⟨ad540, A540_0, c540_0, A540_1, c540_1, e540, hx540_0, hx540_1, hx540_2, hx540_3, hl540_0, hi540_0, hl540_1, hi540_1⟩ := at_T32 HR0.out x9_1 p540 q540
           have hw540_3 := hx540_3
           have hw540_2 := hx540_2
           have hw540_1 := hx540_1
           have hw540_0 := hx540_0
           obtain rfl : ad537 = ad540 := (by injection e540)
           replace hx540_0 := (HB.out.cell (World.block_lt_of_cell? w _ hx540_0)).trans hx540_0
           replace hx540_1 := (HB.out.cell (World.block_lt_of_cell? w _ hx540_1)).trans hx540_1
           replace hx540_2 := (HB.out.cell (World.block_lt_of_cell? w _ hx540_2)).trans hx540_2
           replace hx540_3 := (HB.out.cell (World.block_lt_of_cell? w _ hx540_3)).trans hx540_3
           have HR540_0 := Aside0.mk hi540_0
           have HC540_0 := Aside0.mk hl540_0
           clear hi540_0 hl540_0
           have HR540_1 := Aside0.mk hi540_1
           have HC540_1 := Aside0.mk hl540_1
           clear hi540_1 hl540_1
           replace p540 := eq_true p540
           replace q540 := eq_true q540
           refine start_ (n := 12) (S := fun w' => w'.cell? ⟨gA, 0, none⟩ = some (.slice Ao47 x537000_1.length co47) ∧ w'.cell? ⟨gA, 1, none⟩ = some (.int .i64 x537001_1) ∧ w'.cell? ⟨gA, 2, none⟩ = some (.int .i64 x537002_1) ∧ w'.cell? (ad537.add ((x9_1).toNat * 4)) = some (.slice A540_0 ((rd_T32 l0 x9_1).f0).length c540_0) ∧ w'.cell? ⟨(ad537.add ((x9_1).toNat * 4)).block, (ad537.add ((x9_1).toNat * 4)).off + 1, none⟩ = some (.slice A540_1 ((rd_T32 l0 x9_1).f1).length c540_1) ∧ w'.cell? ⟨(ad537.add ((x9_1).toNat * 4)).block, (ad537.add ((x9_1).toNat * 4)).off + 2, none⟩ = some (.int .i64 ((rd_T32 l0 x9_1).f2)) ∧ w'.cell? ⟨(ad537.add ((x9_1).toNat * 4)).block, (ad537.add ((x9_1).toNat * 4)).off + 3, none⟩ = some (.int .i64 ((rd_T32 l0 x9_1).f3))) (ds := []) #[false, false, false, false, false, false, false, false, false, false, false, false] (by kernel_rfl) rfl rfl ⟨(blk_cell BK536.out 0).trans rfl, (blk_cell BK536.out 1).trans rfl, (blk_cell BK536.out 2).trans rfl, ((HB.out.cell (World.block_lt_of_cell? w _ hw540_0)).trans hw540_0), ((HB.out.cell (World.block_lt_of_cell? w _ hw540_1)).trans hw540_1), ((HB.out.cell (World.block_lt_of_cell? w _ hw540_2)).trans hw540_2), ((HB.out.cell (World.block_lt_of_cell? w _ hw540_3)).trans hw540_3)⟩ (fun hHeld => ?_); refine with_tabW mbk.tab11 mbk.bits11 (fun HT_ HW_ => ?_)
           generalize w46.drew = w48 at HO_6 HO_7 HO_537000 BK536 HB HR540_0 HR540_1 hx540_0 hx540_1 hx540_2 hx540_3 hHeld ⊢
           refine pure_ (i := 1) (N := some 43) (v := ?_) (a' := ?_) #[false, true, false, false, false, false, false, false, false, false, false, false] rfl rfl (any_of HT_.out (by kernel_rfl)) (fun _ _ _ h => h) (Or.inl ⟨by rfl, ?_⟩) ?_ ?_
           rotate_left
           ·intro w'
            go_simp
            with_reducible rfl
           rotate_left
           ·simp only [Act.put, List.setIfInBounds_toArray, List.set_cons_zero, List.set_cons_succ, i64_w, i32_w]
            rfl
           refine pure_ (i := 2) (N := some 44) (v := ?_) (a' := ?_) #[false, true, true, false, false, false, false, false, false, false, false, false] rfl rfl (any_of HT_.out (by kernel_rfl)) (fun _ _ _ h => h) (Or.inl ⟨by rfl, ?_⟩) ?_ ?_
           rotate_left
           ·intro w'
            go_simp
            with_reducible rfl
           rotate_left
           ·simp only [Act.put, List.setIfInBounds_toArray, List.set_cons_zero, List.set_cons_succ, i64_w, i32_w]
            rfl
           refine pure_ (i := 3) (N := some 45) (v := ?_) (a' := ?_) #[false, true, true, true, false, false, false, false, false, false, false, false] rfl rfl (any_of HT_.out (by kernel_rfl)) (fun _ _ _ h => h) (Or.inl ⟨by rfl, ?_⟩) ?_ ?_
           rotate_left
           ·intro w'
            go_simp
            with_reducible rfl
           rotate_left
           ·simp only [Act.put, List.setIfInBounds_toArray, List.set_cons_zero, List.set_cons_succ, i64_w, i32_w]
            rfl
           refine take_ (i := 0) (N := some 42) (v := ?_) (a' := ?_) #[true, true, true, true, false, false, false, false, false, false, false, false] rfl rfl (take_ofW HT_.out HW_.out (by kernel_rfl)) (fun _ _ _ h => h) (Or.inl ⟨by rfl, ?_⟩) hHeld ?_ ?_
           rotate_left
           ·rintro w' ⟨s0, s1, s2, s3, s4, s5, s6⟩
            go_simp
            with_reducible rfl
           rotate_left
           ·simp only [Act.put, List.setIfInBounds_toArray, List.set_cons_zero, List.set_cons_succ, i64_w, i32_w]
            rfl
           refine take_ (i := 4) (N := some 46) (v := ?_) (a' := ?_) #[true, true, true, true, true, false, false, false, false, false, false, false] rfl rfl (take_ofW HT_.out HW_.out (by kernel_rfl)) (fun _ _ _ h => h) (Or.inl ⟨by rfl, ?_⟩) hHeld ?_ ?_
           rotate_left
           ·rintro w' ⟨s0, s1, s2, s3, s4, s5, s6⟩
            go_simp
            with_reducible rfl
           rotate_left
           ·simp only [Act.put, List.setIfInBounds_toArray, List.set_cons_zero, List.set_cons_succ, i64_w, i32_w]
            rfl
           refine join_ (σ := Value × Nat) 2 #[true, true, true, true, true, true, true, true, true, true, false, false] (fun s_ => [(47, .tuple #[.agg #[s_.1, .int .i64 t544, .int .i64 t545], .int .i64 t546]), (12, .pointer (some ⟨s_.2, 0, none⟩)), (41, .tuple #[.agg #[s_.1, .int .i64 t544, .int .i64 t545], .int .i64 t546]), (48, .agg #[s_.1, .int .i64 t544, .int .i64 t545]), (49, .int .i64 t546)]) (fun s_ w' => (w'.cell? ⟨gA, 0, none⟩ = some (.slice Ao47 x537000_1.length co47) ∧ w'.cell? ⟨gA, 1, none⟩ = some (.int .i64 x537001_1) ∧ w'.cell? ⟨gA, 2, none⟩ = some (.int .i64 x537002_1) ∧ w'.cell? (ad537.add ((x9_1).toNat * 4)) = some (.slice A540_0 ((rd_T32 l0 x9_1).f0).length c540_0) ∧ w'.cell? ⟨(ad537.add ((x9_1).toNat * 4)).block, (ad537.add ((x9_1).toNat * 4)).off + 1, none⟩ = some (.slice A540_1 ((rd_T32 l0 x9_1).f1).length c540_1) ∧ w'.cell? ⟨(ad537.add ((x9_1).toNat * 4)).block, (ad537.add ((x9_1).toNat * 4)).off + 2, none⟩ = some (.int .i64 ((rd_T32 l0 x9_1).f2)) ∧ w'.cell? ⟨(ad537.add ((x9_1).toNat * 4)).block, (ad537.add ((x9_1).toNat * 4)).off + 3, none⟩ = some (.int .i64 ((rd_T32 l0 x9_1).f3))) ∧ (Kd.R k36 36 w' w.heap.size (fun k_ => some k_ ≠ (.slice Ao47 x537000_1.length co47 : Value).ownBlock) s_.1 t541) ∧ (Kd.R k36 36 w' w.heap.size (fun k_ => some k_ ≠ (s_.1 : Value).ownBlock) (.slice Ao47 x537000_1.length co47) x537000_1) ∧ (Kd.R (Kd.int .i64) 3 w' w.heap.size (fun _ => True) u6 x6_1) ∧ (Kd.S k26 26 w' w.heap.size (fun k_ => some k_ ≠ (s_.1 : Value).ownBlock ∧ True ∧ k_ ≠ gA ∧ k_ ≠ s_.2) u7 x7_1) ∧ (w'.heap[gA]? = some (.cells #[.slice Ao47 x537000_1.length co47, .int .i64 x537001_1, .int .i64 x537002_1] 26 (0, 0))) ∧ (w'.heap[s_.2]? = some (.cells #[.slice none 0 0, .int .i64 0, .int .i64 0] 26 (0, 0))) ∧ (w.heap.size ≤ s_.2) ∧ (w.heap.size ≤ s_.2) ∧ (gA ≠ s_.2) ∧ (s_.2 ≠ gA) ∧ (Below w.heap.size w w')) ?_ ?_
           rotate_left
           ·intro hCont
            refine two_ (i := 5) (j := 9) (Ni := some 47) (Nj := some 12) #[true, true, true, true, true, true, false, false, false, false, false, false] #[true, true, true, true, true, false, false, false, false, true, false, false] rfl rfl rfl rfl (two_of HT_.out (by kernel_rfl)) (by decide) (by decide) (fun K hK => ?_) (fun K hK => ?_)
            ·skip
             refine goes_ Try.func9 (by kernel_rfl) rfl #[.agg #[.slice Ao47 x537000_1.length co47, .int .i64 x537001_1, .int .i64 x537002_1], .agg #[.slice A540_0 ((rd_T32 l0 x9_1).f0).length c540_0, .slice A540_1 ((rd_T32 l0 x9_1).f1).length c540_1, .int .i64 ((rd_T32 l0 x9_1).f2), .int .i64 ((rd_T32 l0 x9_1).f3)]] (by rfl) rfl rfl (by (try simp only [List.map_toArray, List.map_cons, List.map_nil]); first | done | rfl | (simp only [List.length_drop, List.length_take]; rfl)) ?_
             with_reducible refine (manifest_Apply.calls _ _ x537000_1 x537001_1 x537002_1 _ _ ((rd_T32 l0 x9_1).f0) _ _ ((rd_T32 l0 x9_1).f1) ((rd_T32 l0 x9_1).f2) ((rd_T32 l0 x9_1).f3) t541 t544 t545 t546 _ ?side1 ?side2 ?side3 ?side4 ?side5 ?side6 A14.out).mono ?_
             (case side1 => repeat (first | exact (Kd.R_reads' HO_537000.out).2.2 | (with_reducible refine Kd.C_alloc ?_ _) | (with_reducible refine Kd.C_drewN ?_ _) | (with_reducible refine Kd.C_drew ?_)))
             (case side2 => exact (Kd.R_reads' HO_537000.out).2.1)
             (case side3 => repeat (first | exact (Kd.C_below HR540_0.out HB.out) | (with_reducible refine Kd.C_alloc ?_ _) | (with_reducible refine Kd.C_drewN ?_ _) | (with_reducible refine Kd.C_drew ?_)))
             (case side4 => exact HC540_0.out)
             (case side5 => repeat (first | exact (Kd.C_below HR540_1.out HB.out) | (with_reducible refine Kd.C_alloc ?_ _) | (with_reducible refine Kd.C_drewN ?_ _) | (with_reducible refine Kd.C_drew ?_)))
             (case side6 => exact HC540_1.out)
             rintro e w49 ⟨v542, rfl, ho0, hb⟩
             refine ⟨_, rfl, ?_⟩
             have n0_ := Aside0.mk (Kd.R_below (by (with_reducible repeat (first | apply Kd.R_alloc | apply Kd.R_drewN | apply Kd.R_drew)); exact HO_6.out) hb)
             have n1_ := Aside0.mk (Kd.S_elder' (by (with_reducible repeat (first | apply Kd.S_alloc | apply Kd.S_drewN | apply Kd.S_drew)); exact HO_7.out) (Kd.R_base ho0) hb)
             have n2_ := Aside0.mk (Kd.R_elder' (by (with_reducible repeat (first | apply Kd.R_alloc | apply Kd.R_drewN | apply Kd.R_drew)); exact HO_537000.out) (Kd.R_base ho0) hb)
             have n3_ := Aside0.mk (Kd.R_lower (Kd.R_new' ho0 (Kd.R_lt (by (with_reducible repeat (first | apply Kd.R_alloc | apply Kd.R_drewN | apply Kd.R_drew)); exact HO_537000.out))) (below_size (by repeat (first | (with_reducible first | exact HB.out | apply below_alloc | apply pw_below_drewN | apply below_drew1 | refine below_set ?_ GE536.out) | exact HB.out))))
             have n4_ := Aside0.mk (blk_below (g := gA) (o := .cells #[.slice Ao47 x537000_1.length co47, .int .i64 x537001_1, .int .i64 x537002_1] 26 (0, 0)) (by (with_reducible repeat (first | refine blk_drewN ?_ _ | refine blk_drew ?_ | refine blk_alloc ?_ _)); exact BK536.out) hb)
             have n5_ := Aside0.mk (below_step (by repeat (first | (with_reducible first | exact HB.out | apply below_alloc | apply pw_below_drewN | apply below_drew1 | refine below_set ?_ GE536.out) | exact HB.out)) hb)
             clear HO_6
             clear HO_7
             clear HO_537000
             clear BK536
             clear HB
             have HO_6 := n0_
             have HO_7 := n1_
             have HO_537000 := n2_
             have HO543 := n3_
             have BK536 := n4_
             have HB := n5_
             clear n0_ n1_ n2_ n3_ n4_ n5_
             (try clear hb)
             (try clear hb2)
             (try clear hk)
             (try clear hi)
             (try clear ho0)
             refine hK.out _ _ ⟨(blk_cell BK536.out 0).trans rfl, (blk_cell BK536.out 1).trans rfl, (blk_cell BK536.out 2).trans rfl, ((HB.out.cell (World.block_lt_of_cell? w _ hw540_0)).trans hw540_0), ((HB.out.cell (World.block_lt_of_cell? w _ hw540_1)).trans hw540_1), ((HB.out.cell (World.block_lt_of_cell? w _ hw540_2)).trans hw540_2), ((HB.out.cell (World.block_lt_of_cell? w _ hw540_3)).trans hw540_3)⟩ (fun hHeld => ?_)
             clear hK K
             refine norm_ (a' := ?_) ?_ ?_
             rotate_left
             ·show Act.put _ (some 47) _ = _
              simp only [Act.put, List.setIfInBounds_toArray, List.set_cons_zero, List.set_cons_succ, i64_w, i32_w]
              rfl
             refine pure_ (i := 6) (N := some 41) (v := ?_) (a' := ?_) #[true, true, true, true, true, true, true, false, false, false, false, false] rfl rfl (any_of HT_.out (by kernel_rfl)) (fun _ _ _ h => h) (Or.inl ⟨by rfl, ?_⟩) ?_ ?_
             rotate_left
             ·intro w'
              go_simp
              with_reducible rfl
             rotate_left
             ·simp only [Act.put, List.setIfInBounds_toArray, List.set_cons_zero, List.set_cons_succ, i64_w, i32_w]
              rfl
             refine pure_ (i := 7) (N := some 48) (v := ?_) (a' := ?_) #[true, true, true, true, true, true, true, true, false, false, false, false] rfl rfl (any_of HT_.out (by kernel_rfl)) (fun _ _ _ h => h) (Or.inl ⟨by rfl, ?_⟩) ?_ ?_
             rotate_left
             ·intro w'
              go_simp
              with_reducible rfl
             rotate_left
             ·simp only [Act.put, List.setIfInBounds_toArray, List.set_cons_zero, List.set_cons_succ, i64_w, i32_w]
              rfl
             refine pure_ (i := 8) (N := some 49) (v := ?_) (a' := ?_) #[true, true, true, true, true, true, true, true, true, false, false, false] rfl rfl (any_of HT_.out (by kernel_rfl)) (fun _ _ _ h => h) (Or.inl ⟨by rfl, ?_⟩) ?_ ?_
             rotate_left
             ·intro w'
              go_simp
              with_reducible rfl
             rotate_left
             ·simp only [Act.put, List.setIfInBounds_toArray, List.set_cons_zero, List.set_cons_succ, i64_w, i32_w]
              rfl
             refine one_ (i := 9) (N := some 12) #[true, true, true, true, true, true, true, true, true, true, false, false] rfl rfl (one_of HT_.out (by kernel_rfl)) (by decide) (fun K hK => ?_)
             refine box_step ?hg (N := 12) ?hd (cs := #[.slice none 0 0, .int .i64 0, .int .i64 0]) (t := 26) ?hr ?_; (case hd => rfl); (case hg => rfl); (case hr => first | (go_simp; done) | (go_simp; rfl))
             intro gB hg w50 hbox hb
             have n0_ := Aside0.mk (Kd.R_below (by (with_reducible repeat (first | apply Kd.R_alloc | apply Kd.R_drewN | apply Kd.R_drew)); exact HO_6.out) hb)
             have n1_ := Aside0.mk (Kd.S_below (Kd.S_elderB (by (with_reducible repeat (first | apply Kd.S_alloc | apply Kd.S_drewN | apply Kd.S_drew)); exact HO_7.out) gB (Nat.le_of_eq hg.symm)) hb)
             have n2_ := Aside0.mk (Kd.R_below (by (with_reducible repeat (first | apply Kd.R_alloc | apply Kd.R_drewN | apply Kd.R_drew)); exact HO_537000.out) hb)
             have n3_ := Aside0.mk (Kd.R_below (by (with_reducible repeat (first | apply Kd.R_alloc | apply Kd.R_drewN | apply Kd.R_drew)); exact HO543.out) hb)
             have n4_ := Aside0.mk (blk_below (g := gA) (o := .cells #[.slice Ao47 x537000_1.length co47, .int .i64 x537001_1, .int .i64 x537002_1] 26 (0, 0)) (by (with_reducible repeat (first | refine blk_drewN ?_ _ | refine blk_drew ?_ | refine blk_alloc ?_ _)); exact BK536.out) hb)
             have n5_ := Aside0.mk (below_step (by repeat (first | (with_reducible first | exact HB.out | apply below_alloc | apply pw_below_drewN | apply below_drew1 | refine below_set ?_ GE536.out) | exact HB.out)) hb)
             have n6_ := Aside0.mk (hbox)
             have n7_ := Aside0.mk ((by rw [hg]; exact (below_size (by repeat (first | (with_reducible first | exact HB.out | apply below_alloc | apply pw_below_drewN | apply below_drew1 | refine below_set ?_ GE536.out) | exact HB.out))) : w.heap.size ≤ gB))
             have n8_ := Aside0.mk ((by rw [hg]; exact (below_size (by repeat (first | (with_reducible first | exact HB.out | apply below_alloc | apply pw_below_drewN | apply below_drew1 | refine below_set ?_ GE536.out) | exact HB.out))) : w.heap.size ≤ gB))
             have n9_ := Aside0.mk ((by rw [hg]; exact Nat.ne_of_lt (blk_lt (g := gA) (o := .cells #[.slice Ao47 x537000_1.length co47, .int .i64 x537001_1, .int .i64 x537002_1] 26 (0, 0)) (by (with_reducible repeat (first | refine blk_drewN ?_ _ | refine blk_drew ?_ | refine blk_alloc ?_ _)); exact BK536.out)) : gA ≠ gB))
             have n10_ := Aside0.mk ((by rw [hg]; exact Nat.ne_of_gt (blk_lt (g := gA) (o := .cells #[.slice Ao47 x537000_1.length co47, .int .i64 x537001_1, .int .i64 x537002_1] 26 (0, 0)) (by (with_reducible repeat (first | refine blk_drewN ?_ _ | refine blk_drew ?_ | refine blk_alloc ?_ _)); exact BK536.out)) : gB ≠ gA))
             clear HO_6
             clear HO_7
             clear HO_537000
             clear HO543
             clear BK536
             clear HB
             have HO_6 := n0_
             have HO_7 := n1_
             have HO_537000 := n2_
             have HO543 := n3_
             have BK536 := n4_
             have HB := n5_
             have BK547 := n6_
             have GW547 := n7_
             have GE547 := n8_
             have NB536_547 := n9_
             have NB547_536 := n10_
             clear n0_ n1_ n2_ n3_ n4_ n5_ n6_ n7_ n8_ n9_ n10_
             clear hb hbox hg
             refine hK.out _ _ ⟨(blk_cell BK536.out 0).trans rfl, (blk_cell BK536.out 1).trans rfl, (blk_cell BK536.out 2).trans rfl, ((HB.out.cell (World.block_lt_of_cell? w _ hw540_0)).trans hw540_0), ((HB.out.cell (World.block_lt_of_cell? w _ hw540_1)).trans hw540_1), ((HB.out.cell (World.block_lt_of_cell? w _ hw540_2)).trans hw540_2), ((HB.out.cell (World.block_lt_of_cell? w _ hw540_3)).trans hw540_3)⟩ (fun hHeld => ?_)
             clear hK K
             refine norm_ (a' := ?_) ?_ ?_
             rotate_left
             ·show Act.put _ (some 12) _ = _
              simp only [Act.put, List.setIfInBounds_toArray, List.set_cons_zero, List.set_cons_succ, i64_w, i32_w]
              rfl
             exact norm_ (by simp only [putAll, Act.put, List.setIfInBounds_toArray, List.set_cons_zero, List.set_cons_succ]) (hCont (v542, gB) _ ⟨hHeld, (by (with_reducible repeat (first | apply Kd.R_alloc | apply Kd.R_drewN | apply Kd.R_drew)); exact Kd.R_mono HO543.out (fun _ hk => hk.2)), (by (with_reducible repeat (first | apply Kd.R_alloc | apply Kd.R_drewN | apply Kd.R_drew)); exact Kd.R_mono HO_537000.out (fun _ hk => hk.2)), (by (with_reducible repeat (first | apply Kd.R_alloc | apply Kd.R_drewN | apply Kd.R_drew)); exact HO_6.out), (by (with_reducible repeat (first | apply Kd.S_alloc | apply Kd.S_drewN | apply Kd.S_drew)); exact Kd.S_mono HO_7.out (fun _ hk => ⟨hk.1.2, ⟨hk.1.1.1, ⟨hk.1.1.2, hk.2⟩⟩⟩)), (by (with_reducible repeat (first | refine blk_drewN ?_ _ | refine blk_drew ?_ | refine blk_alloc ?_ _)); exact BK536.out), (by (with_reducible repeat (first | refine blk_drewN ?_ _ | refine blk_drew ?_ | refine blk_alloc ?_ _)); exact BK547.out), GW547.out, GE547.out, NB536_547.out, NB547_536.out, (by repeat (first | (with_reducible first | exact HB.out | apply below_alloc | apply pw_below_drewN | apply below_drew1 | refine below_set ?_ GE536.out | refine below_set ?_ GE547.out) | exact HB.out))⟩)
            ·skip
             refine box_step ?hg (N := 12) ?hd (cs := #[.slice none 0 0, .int .i64 0, .int .i64 0]) (t := 26) ?hr ?_; (case hd => rfl); (case hg => rfl); (case hr => first | (go_simp; done) | (go_simp; rfl))
             intro gB hg w49 hbox hb
             have n0_ := Aside0.mk (Kd.R_below (by (with_reducible repeat (first | apply Kd.R_alloc | apply Kd.R_drewN | apply Kd.R_drew)); exact HO_6.out) hb)
             have n1_ := Aside0.mk (Kd.S_below (Kd.S_elderB (by (with_reducible repeat (first | apply Kd.S_alloc | apply Kd.S_drewN | apply Kd.S_drew)); exact HO_7.out) gB (Nat.le_of_eq hg.symm)) hb)
             have n2_ := Aside0.mk (Kd.R_below (by (with_reducible repeat (first | apply Kd.R_alloc | apply Kd.R_drewN | apply Kd.R_drew)); exact HO_537000.out) hb)
             have n3_ := Aside0.mk (blk_below (g := gA) (o := .cells #[.slice Ao47 x537000_1.length co47, .int .i64 x537001_1, .int .i64 x537002_1] 26 (0, 0)) (by (with_reducible repeat (first | refine blk_drewN ?_ _ | refine blk_drew ?_ | refine blk_alloc ?_ _)); exact BK536.out) hb)
             have n4_ := Aside0.mk (below_step (by repeat (first | (with_reducible first | exact HB.out | apply below_alloc | apply pw_below_drewN | apply below_drew1 | refine below_set ?_ GE536.out) | exact HB.out)) hb)
             have n5_ := Aside0.mk (hbox)
             have n6_ := Aside0.mk ((by rw [hg]; exact (below_size (by repeat (first | (with_reducible first | exact HB.out | apply below_alloc | apply pw_below_drewN | apply below_drew1 | refine below_set ?_ GE536.out) | exact HB.out))) : w.heap.size ≤ gB))
             have n7_ := Aside0.mk ((by rw [hg]; exact (below_size (by repeat (first | (with_reducible first | exact HB.out | apply below_alloc | apply pw_below_drewN | apply below_drew1 | refine below_set ?_ GE536.out) | exact HB.out))) : w.heap.size ≤ gB))
             have n8_ := Aside0.mk ((by rw [hg]; exact Nat.ne_of_lt (blk_lt (g := gA) (o := .cells #[.slice Ao47 x537000_1.length co47, .int .i64 x537001_1, .int .i64 x537002_1] 26 (0, 0)) (by (with_reducible repeat (first | refine blk_drewN ?_ _ | refine blk_drew ?_ | refine blk_alloc ?_ _)); exact BK536.out)) : gA ≠ gB))
             have n9_ := Aside0.mk ((by rw [hg]; exact Nat.ne_of_gt (blk_lt (g := gA) (o := .cells #[.slice Ao47 x537000_1.length co47, .int .i64 x537001_1, .int .i64 x537002_1] 26 (0, 0)) (by (with_reducible repeat (first | refine blk_drewN ?_ _ | refine blk_drew ?_ | refine blk_alloc ?_ _)); exact BK536.out)) : gB ≠ gA))
             clear HO_6
             clear HO_7
             clear HO_537000
             clear BK536
             clear HB
             have HO_6 := n0_
             have HO_7 := n1_
             have HO_537000 := n2_
             have BK536 := n3_
             have HB := n4_
             have BK547 := n5_
             have GW547 := n6_
             have GE547 := n7_
             have NB536_547 := n8_
             have NB547_536 := n9_
             clear n0_ n1_ n2_ n3_ n4_ n5_ n6_ n7_ n8_ n9_
             clear hb hbox hg
             refine hK.out _ _ ⟨(blk_cell BK536.out 0).trans rfl, (blk_cell BK536.out 1).trans rfl, (blk_cell BK536.out 2).trans rfl, ((HB.out.cell (World.block_lt_of_cell? w _ hw540_0)).trans hw540_0), ((HB.out.cell (World.block_lt_of_cell? w _ hw540_1)).trans hw540_1), ((HB.out.cell (World.block_lt_of_cell? w _ hw540_2)).trans hw540_2), ((HB.out.cell (World.block_lt_of_cell? w _ hw540_3)).trans hw540_3)⟩ (fun hHeld => ?_)
             clear hK K
             refine norm_ (a' := ?_) ?_ ?_
             rotate_left
             ·show Act.put _ (some 12) _ = _
              simp only [Act.put, List.setIfInBounds_toArray, List.set_cons_zero, List.set_cons_succ, i64_w, i32_w]
              rfl
             refine one_ (i := 5) (N := some 47) #[true, true, true, true, true, true, false, false, false, true, false, false] rfl rfl (one_of HT_.out (by kernel_rfl)) (by decide) (fun K hK => ?_)
             refine goes_ Try.func9 (by kernel_rfl) rfl #[.agg #[.slice Ao47 x537000_1.length co47, .int .i64 x537001_1, .int .i64 x537002_1], .agg #[.slice A540_0 ((rd_T32 l0 x9_1).f0).length c540_0, .slice A540_1 ((rd_T32 l0 x9_1).f1).length c540_1, .int .i64 ((rd_T32 l0 x9_1).f2), .int .i64 ((rd_T32 l0 x9_1).f3)]] (by rfl) rfl rfl (by (try simp only [List.map_toArray, List.map_cons, List.map_nil]); first | done | rfl | (simp only [List.length_drop, List.length_take]; rfl)) ?_
             with_reducible refine (manifest_Apply.calls _ _ x537000_1 x537001_1 x537002_1 _ _ ((rd_T32 l0 x9_1).f0) _ _ ((rd_T32 l0 x9_1).f1) ((rd_T32 l0 x9_1).f2) ((rd_T32 l0 x9_1).f3) t541 t544 t545 t546 _ ?side1 ?side2 ?side3 ?side4 ?side5 ?side6 A14.out).mono ?_
             (case side1 => repeat (first | exact (Kd.R_reads' HO_537000.out).2.2 | (with_reducible refine Kd.C_alloc ?_ _) | (with_reducible refine Kd.C_drewN ?_ _) | (with_reducible refine Kd.C_drew ?_)))
             (case side2 => exact (Kd.R_reads' HO_537000.out).2.1)
             (case side3 => repeat (first | exact (Kd.C_below HR540_0.out HB.out) | (with_reducible refine Kd.C_alloc ?_ _) | (with_reducible refine Kd.C_drewN ?_ _) | (with_reducible refine Kd.C_drew ?_)))
             (case side4 => exact HC540_0.out)
             (case side5 => repeat (first | exact (Kd.C_below HR540_1.out HB.out) | (with_reducible refine Kd.C_alloc ?_ _) | (with_reducible refine Kd.C_drewN ?_ _) | (with_reducible refine Kd.C_drew ?_)))
             (case side6 => exact HC540_1.out)
             rintro e w50 ⟨v542, rfl, ho0, hb⟩
             refine ⟨_, rfl, ?_⟩
             have n0_ := Aside0.mk (Kd.R_below (by (with_reducible repeat (first | apply Kd.R_alloc | apply Kd.R_drewN | apply Kd.R_drew)); exact HO_6.out) hb)
             have n1_ := Aside0.mk (Kd.S_elder' (by (with_reducible repeat (first | apply Kd.S_alloc | apply Kd.S_drewN | apply Kd.S_drew)); exact HO_7.out) (Kd.R_base ho0) hb)
             have n2_ := Aside0.mk (Kd.R_elder' (by (with_reducible repeat (first | apply Kd.R_alloc | apply Kd.R_drewN | apply Kd.R_drew)); exact HO_537000.out) (Kd.R_base ho0) hb)
             have n3_ := Aside0.mk (Kd.R_lower (Kd.R_new' ho0 (Kd.R_lt (by (with_reducible repeat (first | apply Kd.R_alloc | apply Kd.R_drewN | apply Kd.R_drew)); exact HO_537000.out))) (below_size (by repeat (first | (with_reducible first | exact HB.out | apply below_alloc | apply pw_below_drewN | apply below_drew1 | refine below_set ?_ GE536.out | refine below_set ?_ GE547.out) | exact HB.out))))
             have n4_ := Aside0.mk (blk_below (g := gA) (o := .cells #[.slice Ao47 x537000_1.length co47, .int .i64 x537001_1, .int .i64 x537002_1] 26 (0, 0)) (by (with_reducible repeat (first | refine blk_drewN ?_ _ | refine blk_drew ?_ | refine blk_alloc ?_ _)); exact BK536.out) hb)
             have n5_ := Aside0.mk (blk_below (g := gB) (o := .cells #[.slice none 0 0, .int .i64 0, .int .i64 0] 26 (0, 0)) (by (with_reducible repeat (first | refine blk_drewN ?_ _ | refine blk_drew ?_ | refine blk_alloc ?_ _)); exact BK547.out) hb)
             have n6_ := Aside0.mk (below_step (by repeat (first | (with_reducible first | exact HB.out | apply below_alloc | apply pw_below_drewN | apply below_drew1 | refine below_set ?_ GE536.out | refine below_set ?_ GE547.out) | exact HB.out)) hb)
             clear HO_6
             clear HO_7
             clear HO_537000
             clear BK536
             clear BK547
             clear HB
             have HO_6 := n0_
             have HO_7 := n1_
             have HO_537000 := n2_
             have HO543 := n3_
             have BK536 := n4_
             have BK547 := n5_
             have HB := n6_
             clear n0_ n1_ n2_ n3_ n4_ n5_ n6_
             (try clear hb)
             (try clear hb2)
             (try clear hk)
             (try clear hi)
             (try clear ho0)
             refine hK.out _ _ ⟨(blk_cell BK536.out 0).trans rfl, (blk_cell BK536.out 1).trans rfl, (blk_cell BK536.out 2).trans rfl, ((HB.out.cell (World.block_lt_of_cell? w _ hw540_0)).trans hw540_0), ((HB.out.cell (World.block_lt_of_cell? w _ hw540_1)).trans hw540_1), ((HB.out.cell (World.block_lt_of_cell? w _ hw540_2)).trans hw540_2), ((HB.out.cell (World.block_lt_of_cell? w _ hw540_3)).trans hw540_3)⟩ (fun hHeld => ?_)
             clear hK K
             refine norm_ (a' := ?_) ?_ ?_
             rotate_left
             ·show Act.put _ (some 47) _ = _
              simp only [Act.put, List.setIfInBounds_toArray, List.set_cons_zero, List.set_cons_succ, i64_w, i32_w]
              rfl
             refine pure_ (i := 6) (N := some 41) (v := ?_) (a' := ?_) #[true, true, true, true, true, true, true, false, false, true, false, false] rfl rfl (any_of HT_.out (by kernel_rfl)) (fun _ _ _ h => h) (Or.inl ⟨by rfl, ?_⟩) ?_ ?_
             rotate_left
             ·intro w'
              go_simp
              with_reducible rfl
             rotate_left
             ·simp only [Act.put, List.setIfInBounds_toArray, List.set_cons_zero, List.set_cons_succ, i64_w, i32_w]
              rfl
             refine pure_ (i := 7) (N := some 48) (v := ?_) (a' := ?_) #[true, true, true, true, true, true, true, true, false, true, false, false] rfl rfl (any_of HT_.out (by kernel_rfl)) (fun _ _ _ h => h) (Or.inl ⟨by rfl, ?_⟩) ?_ ?_
             rotate_left
             ·intro w'
              go_simp
              with_reducible rfl
             rotate_left
             ·simp only [Act.put, List.setIfInBounds_toArray, List.set_cons_zero, List.set_cons_succ, i64_w, i32_w]
              rfl
             refine pure_ (i := 8) (N := some 49) (v := ?_) (a' := ?_) #[true, true, true, true, true, true, true, true, true, true, false, false] rfl rfl (any_of HT_.out (by kernel_rfl)) (fun _ _ _ h => h) (Or.inl ⟨by rfl, ?_⟩) ?_ ?_
             rotate_left
             ·intro w'
              go_simp
              with_reducible rfl
             rotate_left
             ·simp only [Act.put, List.setIfInBounds_toArray, List.set_cons_zero, List.set_cons_succ, i64_w, i32_w]
              rfl
             exact norm_ (by simp only [putAll, Act.put, List.setIfInBounds_toArray, List.set_cons_zero, List.set_cons_succ]) (hCont (v542, gB) _ ⟨hHeld, (by (with_reducible repeat (first | apply Kd.R_alloc | apply Kd.R_drewN | apply Kd.R_drew)); exact Kd.R_mono HO543.out (fun _ hk => hk.2)), (by (with_reducible repeat (first | apply Kd.R_alloc | apply Kd.R_drewN | apply Kd.R_drew)); exact Kd.R_mono HO_537000.out (fun _ hk => hk.2)), (by (with_reducible repeat (first | apply Kd.R_alloc | apply Kd.R_drewN | apply Kd.R_drew)); exact HO_6.out), (by (with_reducible repeat (first | apply Kd.S_alloc | apply Kd.S_drewN | apply Kd.S_drew)); exact Kd.S_mono HO_7.out (fun _ hk => ⟨hk.2, ⟨hk.1.1.1, ⟨hk.1.1.2, hk.1.2⟩⟩⟩)), (by (with_reducible repeat (first | refine blk_drewN ?_ _ | refine blk_drew ?_ | refine blk_alloc ?_ _)); exact BK536.out), (by (with_reducible repeat (first | refine blk_drewN ?_ _ | refine blk_drew ?_ | refine blk_alloc ?_ _)); exact BK547.out), GW547.out, GE547.out, NB536_547.out, NB547_536.out, (by repeat (first | (with_reducible first | exact HB.out | apply below_alloc | apply pw_below_drewN | apply below_drew1 | refine below_set ?_ GE536.out | refine below_set ?_ GE547.out) | exact HB.out))⟩)
           rintro ⟨v542, gB⟩ w51 ⟨hS_, h0_, h1_, h2_, h3_, h4_, h5_, h6_, h7_, h8_, h9_, h10_⟩
           have n0_ : Aside0 (Kd.R k36 36 w51 w.heap.size (fun k_ => some k_ ≠ (.slice Ao47 x537000_1.length co47 : Value).ownBlock) v542 t541) := ⟨h0_⟩
           have n1_ : Aside0 (Kd.R k36 36 w51 w.heap.size (fun k_ => some k_ ≠ (v542 : Value).ownBlock) (.slice Ao47 x537000_1.length co47) x537000_1) := ⟨h1_⟩
           have n2_ : Aside0 (Kd.R (Kd.int .i64) 3 w51 w.heap.size (fun _ => True) u6 x6_1) := ⟨h2_⟩
           have n3_ : Aside0 (Kd.S k26 26 w51 w.heap.size (fun k_ => some k_ ≠ (v542 : Value).ownBlock ∧ True ∧ k_ ≠ gA ∧ k_ ≠ gB) u7 x7_1) := ⟨h3_⟩
           have n4_ : Aside0 (w51.heap[gA]? = some (.cells #[.slice Ao47 x537000_1.length co47, .int .i64 x537001_1, .int .i64 x537002_1] 26 (0, 0))) := ⟨h4_⟩
           have n5_ : Aside0 (w51.heap[gB]? = some (.cells #[.slice none 0 0, .int .i64 0, .int .i64 0] 26 (0, 0))) := ⟨h5_⟩
           have n6_ : Aside0 (w.heap.size ≤ gB) := ⟨h6_⟩
           have n7_ : Aside0 (w.heap.size ≤ gB) := ⟨h7_⟩
           have n8_ : Aside0 (gA ≠ gB) := ⟨h8_⟩
           have n9_ : Aside0 (gB ≠ gA) := ⟨h9_⟩
           have n10_ : Aside0 (Below w.heap.size w w51) := ⟨h10_⟩
           clear HO_6
           clear HO_7
           clear HO_537000
           clear BK536
           clear HB
           clear h0_ h1_ h2_ h3_ h4_ h5_ h6_ h7_ h8_ h9_ h10_
           have HO543 := n0_
           have HO_537000 := n1_
           have HO_6 := n2_
           have HO_7 := n3_
           have BK536 := n4_
           have BK547 := n5_
           have GW547 := n6_
           have GE547 := n7_
           have NB536_547 := n8_
           have NB547_536 := n9_
           have HB := n10_
           clear n0_ n1_ n2_ n3_ n4_ n5_ n6_ n7_ n8_ n9_ n10_
           have hHeld : w51.cell? ⟨gA, 0, none⟩ = some (.slice Ao47 x537000_1.length co47) ∧ w51.cell? ⟨gA, 1, none⟩ = some (.int .i64 x537001_1) ∧ w51.cell? ⟨gA, 2, none⟩ = some (.int .i64 x537002_1) ∧ w51.cell? (ad537.add ((x9_1).toNat * 4)) = some (.slice A540_0 ((rd_T32 l0 x9_1).f0).length c540_0) ∧ w51.cell? ⟨(ad537.add ((x9_1).toNat * 4)).block, (ad537.add ((x9_1).toNat * 4)).off + 1, none⟩ = some (.slice A540_1 ((rd_T32 l0 x9_1).f1).length c540_1) ∧ w51.cell? ⟨(ad537.add ((x9_1).toNat * 4)).block, (ad537.add ((x9_1).toNat * 4)).off + 2, none⟩ = some (.int .i64 ((rd_T32 l0 x9_1).f2)) ∧ w51.cell? ⟨(ad537.add ((x9_1).toNat * 4)).block, (ad537.add ((x9_1).toNat * 4)).off + 3, none⟩ = some (.int .i64 ((rd_T32 l0 x9_1).f3)) := hS_
           obtain ⟨Ao52, co52, eo52⟩ := Kd.R_slice HO543.out
           (first | subst eo52 | (injection eo52 with f1_ f2_ f3_; have f4_ := f1_.symm; have f5_ := f3_.symm; clear f1_ f2_ f3_; subst f4_; subst f5_))
           refine norm_ (a' := ?_) ?_ ?_
           rotate_left
           ·simp only [putAll, Act.put, List.setIfInBounds_toArray, List.set_cons_zero, List.set_cons_succ]
            rfl
           refine one_ (i := 10) (N := none) #[true, true, true, true, true, true, true, true, true, true, true, false] rfl rfl (one_of HT_.out (by kernel_rfl)) (by decide) (fun K hK => ?_)
           have hs53 : w51.cell? ⟨gB, 0, none⟩ = some (.slice none 0 0) := (blk_cell BK547.out 0).trans rfl
           have hfs53 := blk_frozen BK547.out 0
           have hns53_0 := NB536_547.out
           have hms53_0 := NB547_536.out
           have hs54 : w51.cell? ⟨gB, 1, none⟩ = some (.int .i64 0) := (blk_cell BK547.out 1).trans rfl
           have hfs54 := blk_frozen BK547.out 1
           have hns54_0 := NB536_547.out
           have hms54_0 := NB547_536.out
           have hs55 : w51.cell? ⟨gB, 2, none⟩ = some (.int .i64 0) := (blk_cell BK547.out 2).trans rfl
           have hfs55 := blk_frozen BK547.out 2
           have hns55_0 := NB536_547.out
           have hms55_0 := NB547_536.out
           refine skip_ (w1 := ?_) (by rfl) rfl ?_ ?_
           rotate_left
           ·go_simp
            rfl
           refine hK.out _ _ ⟨((cell_far (p := ⟨gB, _, none⟩) NB536_547.out _).trans (((cell_far (p := ⟨gB, _, none⟩) NB536_547.out _).trans (((cell_far (p := ⟨gB, _, none⟩) NB536_547.out _).trans (hHeld.1)))))), ((cell_far (p := ⟨gB, _, none⟩) NB536_547.out _).trans (((cell_far (p := ⟨gB, _, none⟩) NB536_547.out _).trans (((cell_far (p := ⟨gB, _, none⟩) NB536_547.out _).trans (hHeld.2.1)))))), ((cell_far (p := ⟨gB, _, none⟩) NB536_547.out _).trans (((cell_far (p := ⟨gB, _, none⟩) NB536_547.out _).trans (((cell_far (p := ⟨gB, _, none⟩) NB536_547.out _).trans (hHeld.2.2.1)))))), ((cell_far (p := ⟨gB, _, none⟩) (by first | exact Nat.ne_of_lt (Nat.lt_of_lt_of_le (by have := World.block_lt_of_cell? _ _ hw540_0; first | rwa [add_block] at this | exact this) GW547.out) | (rw [add_block]; exact Nat.ne_of_lt (Nat.lt_of_lt_of_le (by have := World.block_lt_of_cell? _ _ hw540_0; first | rwa [add_block] at this | exact this) GW547.out)) | (show (Addr.add _ _).block ≠ _; rw [add_block]; exact Nat.ne_of_lt (Nat.lt_of_lt_of_le (by have := World.block_lt_of_cell? _ _ hw540_0; first | rwa [add_block] at this | exact this) GW547.out)) | (dsimp only; exact Nat.ne_of_lt (Nat.lt_of_lt_of_le (by have := World.block_lt_of_cell? _ _ hw540_0; first | rwa [add_block] at this | exact this) GW547.out))) _).trans (((cell_far (p := ⟨gB, _, none⟩) (by first | exact Nat.ne_of_lt (Nat.lt_of_lt_of_le (by have := World.block_lt_of_cell? _ _ hw540_0; first | rwa [add_block] at this | exact this) GW547.out) | (rw [add_block]; exact Nat.ne_of_lt (Nat.lt_of_lt_of_le (by have := World.block_lt_of_cell? _ _ hw540_0; first | rwa [add_block] at this | exact this) GW547.out)) | (show (Addr.add _ _).block ≠ _; rw [add_block]; exact Nat.ne_of_lt (Nat.lt_of_lt_of_le (by have := World.block_lt_of_cell? _ _ hw540_0; first | rwa [add_block] at this | exact this) GW547.out)) | (dsimp only; exact Nat.ne_of_lt (Nat.lt_of_lt_of_le (by have := World.block_lt_of_cell? _ _ hw540_0; first | rwa [add_block] at this | exact this) GW547.out))) _).trans (((cell_far (p := ⟨gB, _, none⟩) (by first | exact Nat.ne_of_lt (Nat.lt_of_lt_of_le (by have := World.block_lt_of_cell? _ _ hw540_0; first | rwa [add_block] at this | exact this) GW547.out) | (rw [add_block]; exact Nat.ne_of_lt (Nat.lt_of_lt_of_le (by have := World.block_lt_of_cell? _ _ hw540_0; first | rwa [add_block] at this | exact this) GW547.out)) | (show (Addr.add _ _).block ≠ _; rw [add_block]; exact Nat.ne_of_lt (Nat.lt_of_lt_of_le (by have := World.block_lt_of_cell? _ _ hw540_0; first | rwa [add_block] at this | exact this) GW547.out)) | (dsimp only; exact Nat.ne_of_lt (Nat.lt_of_lt_of_le (by have := World.block_lt_of_cell? _ _ hw540_0; first | rwa [add_block] at this | exact this) GW547.out))) _).trans (hHeld.2.2.2.1)))))), ((cell_far (p := ⟨gB, _, none⟩) (by first | exact Nat.ne_of_lt (Nat.lt_of_lt_of_le (by have := World.block_lt_of_cell? _ _ hw540_1; first | rwa [add_block] at this | exact this) GW547.out) | (rw [add_block]; exact Nat.ne_of_lt (Nat.lt_of_lt_of_le (by have := World.block_lt_of_cell? _ _ hw540_1; first | rwa [add_block] at this | exact this) GW547.out)) | (show (Addr.add _ _).block ≠ _; rw [add_block]; exact Nat.ne_of_lt (Nat.lt_of_lt_of_le (by have := World.block_lt_of_cell? _ _ hw540_1; first | rwa [add_block] at this | exact this) GW547.out)) | (dsimp only; exact Nat.ne_of_lt (Nat.lt_of_lt_of_le (by have := World.block_lt_of_cell? _ _ hw540_1; first | rwa [add_block] at this | exact this) GW547.out))) _).trans (((cell_far (p := ⟨gB, _, none⟩) (by first | exact Nat.ne_of_lt (Nat.lt_of_lt_of_le (by have := World.block_lt_of_cell? _ _ hw540_1; first | rwa [add_block] at this | exact this) GW547.out) | (rw [add_block]; exact Nat.ne_of_lt (Nat.lt_of_lt_of_le (by have := World.block_lt_of_cell? _ _ hw540_1; first | rwa [add_block] at this | exact this) GW547.out)) | (show (Addr.add _ _).block ≠ _; rw [add_block]; exact Nat.ne_of_lt (Nat.lt_of_lt_of_le (by have := World.block_lt_of_cell? _ _ hw540_1; first | rwa [add_block] at this | exact this) GW547.out)) | (dsimp only; exact Nat.ne_of_lt (Nat.lt_of_lt_of_le (by have := World.block_lt_of_cell? _ _ hw540_1; first | rwa [add_block] at this | exact this) GW547.out))) _).trans (((cell_far (p := ⟨gB, _, none⟩) (by first | exact Nat.ne_of_lt (Nat.lt_of_lt_of_le (by have := World.block_lt_of_cell? _ _ hw540_1; first | rwa [add_block] at this | exact this) GW547.out) | (rw [add_block]; exact Nat.ne_of_lt (Nat.lt_of_lt_of_le (by have := World.block_lt_of_cell? _ _ hw540_1; first | rwa [add_block] at this | exact this) GW547.out)) | (show (Addr.add _ _).block ≠ _; rw [add_block]; exact Nat.ne_of_lt (Nat.lt_of_lt_of_le (by have := World.block_lt_of_cell? _ _ hw540_1; first | rwa [add_block] at this | exact this) GW547.out)) | (dsimp only; exact Nat.ne_of_lt (Nat.lt_of_lt_of_le (by have := World.block_lt_of_cell? _ _ hw540_1; first | rwa [add_block] at this | exact this) GW547.out))) _).trans (hHeld.2.2.2.2.1)))))), ((cell_far (p := ⟨gB, _, none⟩) (by first | exact Nat.ne_of_lt (Nat.lt_of_lt_of_le (by have := World.block_lt_of_cell? _ _ hw540_2; first | rwa [add_block] at this | exact this) GW547.out) | (rw [add_block]; exact Nat.ne_of_lt (Nat.lt_of_lt_of_le (by have := World.block_lt_of_cell? _ _ hw540_2; first | rwa [add_block] at this | exact this) GW547.out)) | (show (Addr.add _ _).block ≠ _; rw [add_block]; exact Nat.ne_of_lt (Nat.lt_of_lt_of_le (by have := World.block_lt_of_cell? _ _ hw540_2; first | rwa [add_block] at this | exact this) GW547.out)) | (dsimp only; exact Nat.ne_of_lt (Nat.lt_of_lt_of_le (by have := World.block_lt_of_cell? _ _ hw540_2; first | rwa [add_block] at this | exact this) GW547.out))) _).trans (((cell_far (p := ⟨gB, _, none⟩) (by first | exact Nat.ne_of_lt (Nat.lt_of_lt_of_le (by have := World.block_lt_of_cell? _ _ hw540_2; first | rwa [add_block] at this | exact this) GW547.out) | (rw [add_block]; exact Nat.ne_of_lt (Nat.lt_of_lt_of_le (by have := World.block_lt_of_cell? _ _ hw540_2; first | rwa [add_block] at this | exact this) GW547.out)) | (show (Addr.add _ _).block ≠ _; rw [add_block]; exact Nat.ne_of_lt (Nat.lt_of_lt_of_le (by have := World.block_lt_of_cell? _ _ hw540_2; first | rwa [add_block] at this | exact this) GW547.out)) | (dsimp only; exact Nat.ne_of_lt (Nat.lt_of_lt_of_le (by have := World.block_lt_of_cell? _ _ hw540_2; first | rwa [add_block] at this | exact this) GW547.out))) _).trans (((cell_far (p := ⟨gB, _, none⟩) (by first | exact Nat.ne_of_lt (Nat.lt_of_lt_of_le (by have := World.block_lt_of_cell? _ _ hw540_2; first | rwa [add_block] at this | exact this) GW547.out) | (rw [add_block]; exact Nat.ne_of_lt (Nat.lt_of_lt_of_le (by have := World.block_lt_of_cell? _ _ hw540_2; first | rwa [add_block] at this | exact this) GW547.out)) | (show (Addr.add _ _).block ≠ _; rw [add_block]; exact Nat.ne_of_lt (Nat.lt_of_lt_of_le (by have := World.block_lt_of_cell? _ _ hw540_2; first | rwa [add_block] at this | exact this) GW547.out)) | (dsimp only; exact Nat.ne_of_lt (Nat.lt_of_lt_of_le (by have := World.block_lt_of_cell? _ _ hw540_2; first | rwa [add_block] at this | exact this) GW547.out))) _).trans (hHeld.2.2.2.2.2.1)))))), ((cell_far (p := ⟨gB, _, none⟩) (by first | exact Nat.ne_of_lt (Nat.lt_of_lt_of_le (by have := World.block_lt_of_cell? _ _ hw540_3; first | rwa [add_block] at this | exact this) GW547.out) | (rw [add_block]; exact Nat.ne_of_lt (Nat.lt_of_lt_of_le (by have := World.block_lt_of_cell? _ _ hw540_3; first | rwa [add_block] at this | exact this) GW547.out)) | (show (Addr.add _ _).block ≠ _; rw [add_block]; exact Nat.ne_of_lt (Nat.lt_of_lt_of_le (by have := World.block_lt_of_cell? _ _ hw540_3; first | rwa [add_block] at this | exact this) GW547.out)) | (dsimp only; exact Nat.ne_of_lt (Nat.lt_of_lt_of_le (by have := World.block_lt_of_cell? _ _ hw540_3; first | rwa [add_block] at this | exact this) GW547.out))) _).trans (((cell_far (p := ⟨gB, _, none⟩) (by first | exact Nat.ne_of_lt (Nat.lt_of_lt_of_le (by have := World.block_lt_of_cell? _ _ hw540_3; first | rwa [add_block] at this | exact this) GW547.out) | (rw [add_block]; exact Nat.ne_of_lt (Nat.lt_of_lt_of_le (by have := World.block_lt_of_cell? _ _ hw540_3; first | rwa [add_block] at this | exact this) GW547.out)) | (show (Addr.add _ _).block ≠ _; rw [add_block]; exact Nat.ne_of_lt (Nat.lt_of_lt_of_le (by have := World.block_lt_of_cell? _ _ hw540_3; first | rwa [add_block] at this | exact this) GW547.out)) | (dsimp only; exact Nat.ne_of_lt (Nat.lt_of_lt_of_le (by have := World.block_lt_of_cell? _ _ hw540_3; first | rwa [add_block] at this | exact this) GW547.out))) _).trans (((cell_far (p := ⟨gB, _, none⟩) (by first | exact Nat.ne_of_lt (Nat.lt_of_lt_of_le (by have := World.block_lt_of_cell? _ _ hw540_3; first | rwa [add_block] at this | exact this) GW547.out) | (rw [add_block]; exact Nat.ne_of_lt (Nat.lt_of_lt_of_le (by have := World.block_lt_of_cell? _ _ hw540_3; first | rwa [add_block] at this | exact this) GW547.out)) | (show (Addr.add _ _).block ≠ _; rw [add_block]; exact Nat.ne_of_lt (Nat.lt_of_lt_of_le (by have := World.block_lt_of_cell? _ _ hw540_3; first | rwa [add_block] at this | exact this) GW547.out)) | (dsimp only; exact Nat.ne_of_lt (Nat.lt_of_lt_of_le (by have := World.block_lt_of_cell? _ _ hw540_3; first | rwa [add_block] at this | exact this) GW547.out))) _).trans (hHeld.2.2.2.2.2.2))))))⟩ (fun hHeld => ?_)
           clear hK K
           refine pure_ (i := 11) (N := some 13) (v := ?_) (a' := ?_) #[true, true, true, true, true, true, true, true, true, true, true, true] rfl rfl (any_of HT_.out (by kernel_rfl)) (fun _ _ _ h => h) (Or.inl ⟨by rfl, ?_⟩) ?_ ?_
           rotate_left
           ·intro w'
            go_simp
            with_reducible rfl
           rotate_left
           ·simp only [Act.put, List.setIfInBounds_toArray, List.set_cons_zero, List.set_cons_succ, i64_w, i32_w]
            rfl
           refine done_ (done_of HT_.out (by kernel_rfl)) ?_
           try go_wp2
           go_meet
           case rel => exact ⟨_, (x5_1), (x6_1), (x7_1), (x537000_1), (x537001_1), (x537002_1), (.slice Ao47 x537000_1.length co47), (by first | rfl | (simp; done) | (simp [*]; done)), H', ⟨by have := HK1.out; have := HJ7.out; first | omega | exact Nat.le_refl _⟩, ⟨by (with_reducible repeat (first | apply Kd.R_alloc | apply Kd.R_drewN | apply Kd.R_drew)); exact Kd.R_mono (Kd.R_far (p := ⟨gB, 2, none⟩) (Kd.R_far (p := ⟨gB, 1, none⟩) (Kd.R_far (p := ⟨gB, 0, none⟩) (Kd.R_types HO_6.out BK547.out (by decide)) (fun _ hk => hk.2) (.slice Ao52 t541.length co52)) (fun _ hk => hk.2) (.int .i64 t544)) (fun _ hk => hk.2) (.int .i64 t545)) (fun _ hk => trivial)⟩, ⟨by (with_reducible repeat (first | apply Kd.S_alloc | apply Kd.S_drewN | apply Kd.S_drew)); exact Kd.S_mono (Kd.S_far (p := ⟨gB, 2, none⟩) (Kd.S_far (p := ⟨gB, 1, none⟩) (Kd.S_far (p := ⟨gB, 0, none⟩) (Kd.S_mono HO_7.out (fun k_ hk => (⟨hk, hk.2.2.2⟩ : _ ∧ k_ ≠ gB))) (fun _ hk => hk.2) (.slice Ao52 t541.length co52)) (fun _ hk => hk.2) (.int .i64 t544)) (fun _ hk => hk.2) (.int .i64 t545)) (fun _ hk => ⟨hk.1.2.1, hk.1.2.2.1⟩)⟩, ⟨by (with_reducible repeat (first | apply Kd.R_alloc | apply Kd.R_drewN | apply Kd.R_drew)); exact Kd.R_mono (Kd.R_far (p := ⟨gB, 2, none⟩) (Kd.R_far (p := ⟨gB, 1, none⟩) (Kd.R_far (p := ⟨gB, 0, none⟩) (Kd.R_types HO_537000.out BK547.out (by decide)) (fun _ hk => hk.2) (.slice Ao52 t541.length co52)) (fun _ hk => hk.2) (.int .i64 t544)) (fun _ hk => hk.2) (.int .i64 t545)) (fun _ hk => trivial)⟩, ⟨by (with_reducible repeat (first | refine blk_drewN ?_ _ | refine blk_drew ?_ | refine blk_alloc ?_ _)); refine blk_far ?_ NB536_547.out _; (with_reducible repeat (first | refine blk_drewN ?_ _ | refine blk_drew ?_ | refine blk_alloc ?_ _)); refine blk_far ?_ NB536_547.out _; (with_reducible repeat (first | refine blk_drewN ?_ _ | refine blk_drew ?_ | refine blk_alloc ?_ _)); refine blk_far ?_ NB536_547.out _; (with_reducible repeat (first | refine blk_drewN ?_ _ | refine blk_drew ?_ | refine blk_alloc ?_ _)); exact BK536.out⟩, ⟨by repeat (first | (with_reducible first | exact HB.out | apply below_alloc | apply pw_below_drewN | apply below_drew1 | refine below_set ?_ GE536.out | refine below_set ?_ GE547.out) | exact HB.out)⟩⟩
         ·rw [if_neg c12] at H
          exact absurd H (by simp)
        ·rw [if_neg c11] at H
         exact absurd H (by simp)
       ·replace c10 := Bool.eq_false_iff.mpr c10
        subst c10
        have H1 : (mbk.j2 kj7 a1 x5_1 x6_1 x7_1 x537000_1 x537001_1 x537002_1) = some r := by rw [if_neg (show ¬ (false = true) by decide)] at H; exact H
        clear H
        have H := H1
        clear H1
        have H' := Aside0.mk H
        clear H
        go_wp2
        go_meet
        case rel => exact ⟨_, (x5_1), (x6_1), (x7_1), (x537000_1), (x537001_1), (x537002_1), (u537000), (by first | rfl | (simp; done) | (simp [*]; done)), H', ⟨by have := HK1.out; have := HJ7.out; first | omega | exact Nat.le_refl _⟩, ⟨by (with_reducible repeat (first | apply Kd.R_alloc | apply Kd.R_drewN | apply Kd.R_drew)); exact HO_6.out⟩, ⟨by (with_reducible repeat (first | apply Kd.S_alloc | apply Kd.S_drewN | apply Kd.S_drew)); exact HO_7.out⟩, ⟨by (with_reducible repeat (first | apply Kd.R_alloc | apply Kd.R_drewN | apply Kd.R_drew)); exact HO_537000.out⟩, ⟨by (with_reducible repeat (first | refine blk_drewN ?_ _ | refine blk_drew ?_ | refine blk_alloc ?_ _)); exact BK536.out⟩, ⟨by repeat (first | (with_reducible first | exact HB.out | apply below_alloc | apply pw_below_drewN | apply below_drew1 | refine below_set ?_ GE536.out) | exact HB.out)⟩⟩
  case rest =>
   clear HC5
   try clear c1
   try clear p2
   try clear c5
   try clear p5
   try clear q5
   try clear hx5
   try clear c9
   try clear c10
   try clear c11
   try clear c12
   try clear c15
   try clear c15b0
   try clear c15b1
   try clear c53
   try clear p53
   try clear q53
   try clear hx53
   try clear c54
   try clear p54
   try clear q54
   try clear hx54
   try clear hx537_0
   try clear hx537_1
   try clear hx537_2
   try clear hx537_3
   try clear hx540_0
   try clear hx540_1
   try clear hx540_2
   try clear hx540_3
   try clear p537
   try clear p540
   try clear q537
   try clear q540
   obtain ⟨kq, x5_4, x6_4, x7_4, x537000_4, x537001_4, x537002_4, u537000, rfl, HA, HJ4, HO_6, HO_7, HO_537000, BK536, HB⟩ := hcut
   cases kq with
   | zero => exact absurd HA.out (by simp [mbk.j2])
   | succ kj4 =>
    have H := HA.out
    clear HA
    simp only [mbk.j2] at H
    by_cases c56 : (IntKind.u64.wrap (wrap64 ((x5_4.size : Int) + 1))) = 0
    ·rw [if_pos c56] at H
     exact absurd H (by simp)
    ·rw [if_neg c56] at H
     have c56b0 : ((IntKind.u64.wrap (wrap64 ((x5_4.size : Int) + 1))) == 0) = false := beq_eq_false_iff_ne.mpr c56
     have c56b1 : ((IntKind.u64.wrap (wrap64 ((x5_4.size : Int) + 1))) != 0) = true := bne_iff_ne.mpr c56
     obtain ⟨ji57, hji57⟩ : ∃ j_ : Int, (wrap64 (Int.tmod (IntKind.u64.wrap (a1)) (IntKind.u64.wrap (wrap64 ((x5_4.size : Int) + 1))))) = j_ := ⟨_, rfl⟩
     replace H : (if 0 ≤ (ji57) then (if (ji57) ≤ (x5_4.size : Int) then ((manifest_Read.f kj4 (x5_4.extract 0 ((ji57) : Int).toNat)).bind fun bt554 => (mbk.l1 kj4 x5_4 x6_4 x7_4 ji57 bt554.2.2.2 0 x537000_4 x537001_4 x537002_4 bt554.1 bt554.2.1 bt554.2.2.1 ([] : List (S36)) 0 0)) else (none)) else (none)) = some r := by first | (rw [hji57] at H; exact H) | (simp only [hji57] at H ⊢; exact H)
     have hji57w : (IntKind.i64.wrap (Int.tmod (IntKind.u64.wrap (a1)) (IntKind.u64.wrap (wrap64 ((x5_4.size : Int) + 1))))) = ji57 := (i64_w _).trans hji57
     by_cases c58 : 0 ≤ (ji57)
     ·rw [if_pos c58] at H
      have c58b0 := eq_true c58
      have c58b1 : decide (0 ≤ (ji57)) = true := decide_eq_true c58
      clear c58
      by_cases c59 : (ji57) ≤ (x5_4.size : Int)
      ·rw [if_pos c59] at H
       have c59b0 := eq_true c59
       have c59b1 : decide ((ji57) ≤ (x5_4.size : Int)) = true := decide_eq_true c59
       clear c59
       replace H := Option.bind_eq_some_iff.mp H
       obtain ⟨⟨t554, t557, t558, t559⟩, A600, H⟩ := H
       replace H : (mbk.l1 kj4 x5_4 x6_4 x7_4 ji57 t559 0 x537000_4 x537001_4 x537002_4 t554 t557 t558 ([] : List (S36)) 0 0) = some r := H
       have A60 := Aside0.mk A600
       clear A600
       have H' := Aside0.mk H
       clear H
       go_wp2_with (first | ((with_reducible refine gate_callee (f := 15) rfl ?_); refine goesL_ (some 81) rfl rfl Try.func15 (by kernel_rfl) rfl #[.string (x5_4.extract 0 ((ji57) : Int).toNat)] rfl (by (try simp only [List.map_toArray, List.map_cons, List.map_nil]); first | done | (simp only [hji57]; rfl) | rfl | (simp only [List.length_drop, List.length_take]; rfl) | (go_simp; simp [IntKind.wrap, IntKind.bits, IntKind.signed]; omega)) ?_; (with_reducible refine (manifest_Read.calls kj4 (x5_4.extract 0 ((ji57) : Int).toNat) t554 t557 t558 t559 _ A60.out).mono ?_); rintro e w61 ⟨v555, rfl, ho0, hb⟩; refine ⟨_, rfl, ?_⟩; have n0_ := Aside0.mk (Kd.R_below (by (with_reducible repeat (first | apply Kd.R_alloc | apply Kd.R_drewN | apply Kd.R_drew)); exact HO_6.out) hb); have n1_ := Aside0.mk (Kd.S_elder' (by (with_reducible repeat (first | apply Kd.S_alloc | apply Kd.S_drewN | apply Kd.S_drew)); exact HO_7.out) (Kd.R_base ho0) hb); have n2_ := Aside0.mk (Kd.R_elder' (by (with_reducible repeat (first | apply Kd.R_alloc | apply Kd.R_drewN | apply Kd.R_drew)); exact HO_537000.out) (Kd.R_base ho0) hb); have n3_ := Aside0.mk (Kd.R_lower (Kd.R_new' ho0 (Kd.R_lt (by (with_reducible repeat (first | apply Kd.R_alloc | apply Kd.R_drewN | apply Kd.R_drew)); exact HO_537000.out))) (below_size (by repeat (first | (with_reducible first | exact HB.out | apply below_alloc | apply pw_below_drewN | apply below_drew1 | refine below_set ?_ GE536.out) | exact HB.out)))); have n4_ := Aside0.mk (blk_below (g := gA) (o := .cells #[u537000, .int .i64 x537001_4, .int .i64 x537002_4] 26 (0, 0)) (by (with_reducible repeat (first | refine blk_drewN ?_ _ | refine blk_drew ?_ | refine blk_alloc ?_ _)); exact BK536.out) hb); have n5_ := Aside0.mk (below_step (by repeat (first | (with_reducible first | exact HB.out | apply below_alloc | apply pw_below_drewN | apply below_drew1 | refine below_set ?_ GE536.out) | exact HB.out)) hb); clear HO_6; clear HO_7; clear HO_537000; clear BK536; clear HB; have HO_6 := n0_; have HO_7 := n1_; have HO_537000 := n2_; have HO556 := n3_; have BK536 := n4_; have HB := n5_; clear n0_ n1_ n2_ n3_ n4_ n5_; (try clear hb); (try clear hb2); (try clear hk); (try clear hi); (try clear ho0)) | ((with_reducible refine gate_dst (N := 15) rfl ?_); refine box_event ?hg (N := 15) ?hd (cs := #[.slice none 0 0, .int .i64 0, .int .i64 0]) (t := 26) ?hr ?_; (case hd => rfl); (case hg => rfl); (case hr => first | (go_simp; done) | (go_simp; rfl)); intro gC hg w62 hbox hb; have n0_ := Aside0.mk (Kd.R_below (by (with_reducible repeat (first | apply Kd.R_alloc | apply Kd.R_drewN | apply Kd.R_drew)); exact HO_6.out) hb); have n1_ := Aside0.mk (Kd.S_below (Kd.S_elderB (by (with_reducible repeat (first | apply Kd.S_alloc | apply Kd.S_drewN | apply Kd.S_drew)); exact HO_7.out) gC (Nat.le_of_eq hg.symm)) hb); have n2_ := Aside0.mk (Kd.R_below (by (with_reducible repeat (first | apply Kd.R_alloc | apply Kd.R_drewN | apply Kd.R_drew)); exact HO_537000.out) hb); have n3_ := Aside0.mk (Kd.R_below (by (with_reducible repeat (first | apply Kd.R_alloc | apply Kd.R_drewN | apply Kd.R_drew)); exact HO556.out) hb); have n4_ := Aside0.mk (blk_below (g := gA) (o := .cells #[u537000, .int .i64 x537001_4, .int .i64 x537002_4] 26 (0, 0)) (by (with_reducible repeat (first | refine blk_drewN ?_ _ | refine blk_drew ?_ | refine blk_alloc ?_ _)); exact BK536.out) hb); have n5_ := Aside0.mk (below_step (by repeat (first | (with_reducible first | exact HB.out | apply below_alloc | apply pw_below_drewN | apply below_drew1 | refine below_set ?_ GE536.out) | exact HB.out)) hb); have n6_ := Aside0.mk (hbox); have n7_ := Aside0.mk ((by rw [hg]; exact (below_size (by repeat (first | (with_reducible first | exact HB.out | apply below_alloc | apply pw_below_drewN | apply below_drew1 | refine below_set ?_ GE536.out) | exact HB.out))) : w.heap.size ≤ gC)); have n8_ := Aside0.mk ((by rw [hg]; exact (below_size (by repeat (first | (with_reducible first | exact HB.out | apply below_alloc | apply pw_below_drewN | apply below_drew1 | refine below_set ?_ GE536.out) | exact HB.out))) : w.heap.size ≤ gC)); have n9_ := Aside0.mk ((by rw [hg]; exact Nat.ne_of_lt (blk_lt (g := gA) (o := .cells #[u537000, .int .i64 x537001_4, .int .i64 x537002_4] 26 (0, 0)) (by (with_reducible repeat (first | refine blk_drewN ?_ _ | refine blk_drew ?_ | refine blk_alloc ?_ _)); exact BK536.out)) : gA ≠ gC)); have n10_ := Aside0.mk ((by rw [hg]; exact Nat.ne_of_gt (blk_lt (g := gA) (o := .cells #[u537000, .int .i64 x537001_4, .int .i64 x537002_4] 26 (0, 0)) (by (with_reducible repeat (first | refine blk_drewN ?_ _ | refine blk_drew ?_ | refine blk_alloc ?_ _)); exact BK536.out)) : gC ≠ gA)); clear HO_6; clear HO_7; clear HO_537000; clear HO556; clear BK536; clear HB; have HO_6 := n0_; have HO_7 := n1_; have HO_537000 := n2_; have HO556 := n3_; have BK536 := n4_; have HB := n5_; have BK560 := n6_; have GW560 := n7_; have GE560 := n8_; have NB536_560 := n9_; have NB560_536 := n10_; clear n0_ n1_ n2_ n3_ n4_ n5_ n6_ n7_ n8_ n9_ n10_; clear hb hbox hg; obtain ⟨Ao63, co63, eo63⟩ := Kd.R_slice HO556.out; subst eo63; have hnb64 := NB560_536.out; have hnc64 := NB536_560.out; have hcz65_0 : w62.cell? ⟨gC, 0, none⟩ = some (.slice none 0 0) := (blk_cell BK560.out 0).trans rfl; have hcz65_1 : w62.cell? ⟨gC, 1, none⟩ = some (.int .i64 0) := (blk_cell BK560.out 1).trans rfl; have hcz65_2 : w62.cell? ⟨gC, 2, none⟩ = some (.int .i64 0) := (blk_cell BK560.out 2).trans rfl; have hfz65_0 := blk_frozen BK560.out 0; have hfz65_1 := blk_frozen BK560.out 1; have hfz65_2 := blk_frozen BK560.out 2) | ((with_reducible refine gate_dst (N := 17) rfl ?_); refine box_event ?hg (N := 17) ?hd (cs := #[.slice none 0 0, .int .i64 0, .int .i64 0]) (t := 26) ?hr ?_; (case hd => rfl); (case hg => rfl); (case hr => first | (go_simp; done) | (go_simp; rfl)); intro gD hg w66 hbox hb; have n0_ := Aside0.mk (Kd.R_below (by (with_reducible repeat (first | apply Kd.R_alloc | apply Kd.R_drewN | apply Kd.R_drew)); exact (Kd.R_mono (Kd.R_far (p := ⟨gC, 2, none⟩) (Kd.R_far (p := ⟨gC, 1, none⟩) (Kd.R_far (p := ⟨gC, 0, none⟩) (Kd.R_types HO_6.out BK560.out (by decide)) (fun _ hk => hk.2) (.slice Ao63 t554.length co63)) (fun _ hk => hk.2) (.int .i64 t557)) (fun _ hk => hk.2) (.int .i64 t558)) (fun _ h_ => h_.1))) hb); have n1_ := Aside0.mk (Kd.S_below (Kd.S_elderB (by (with_reducible repeat (first | apply Kd.S_alloc | apply Kd.S_drewN | apply Kd.S_drew)); exact (Kd.S_mono (Kd.S_far (p := ⟨gC, 2, none⟩) (Kd.S_far (p := ⟨gC, 1, none⟩) (Kd.S_far (p := ⟨gC, 0, none⟩) (Kd.S_mono HO_7.out (fun k_ hk => (⟨hk, hk.2⟩ : _ ∧ k_ ≠ gC))) (fun _ hk => hk.2) (.slice Ao63 t554.length co63)) (fun _ hk => hk.2) (.int .i64 t557)) (fun _ hk => hk.2) (.int .i64 t558)) (fun _ h_ => h_.1))) gD (Nat.le_of_eq hg.symm)) hb); have n2_ := Aside0.mk (Kd.R_below (by (with_reducible repeat (first | apply Kd.R_alloc | apply Kd.R_drewN | apply Kd.R_drew)); exact (Kd.R_mono (Kd.R_far (p := ⟨gC, 2, none⟩) (Kd.R_far (p := ⟨gC, 1, none⟩) (Kd.R_far (p := ⟨gC, 0, none⟩) (Kd.R_types HO_537000.out BK560.out (by decide)) (fun _ hk => hk.2) (.slice Ao63 t554.length co63)) (fun _ hk => hk.2) (.int .i64 t557)) (fun _ hk => hk.2) (.int .i64 t558)) (fun _ h_ => h_.1))) hb); have n3_ := Aside0.mk (Kd.R_below (by (with_reducible repeat (first | apply Kd.R_alloc | apply Kd.R_drewN | apply Kd.R_drew)); exact (Kd.R_mono (Kd.R_far (p := ⟨gC, 2, none⟩) (Kd.R_far (p := ⟨gC, 1, none⟩) (Kd.R_far (p := ⟨gC, 0, none⟩) (Kd.R_types HO556.out BK560.out (by decide)) (fun _ hk => hk.2) (.slice Ao63 t554.length co63)) (fun _ hk => hk.2) (.int .i64 t557)) (fun _ hk => hk.2) (.int .i64 t558)) (fun _ h_ => h_.1))) hb); have n4_ := Aside0.mk (blk_below (g := gA) (o := .cells #[u537000, .int .i64 x537001_4, .int .i64 x537002_4] 26 (0, 0)) (by (with_reducible repeat (first | refine blk_drewN ?_ _ | refine blk_drew ?_ | refine blk_alloc ?_ _)); refine blk_far ?_ NB536_560.out _; (with_reducible repeat (first | refine blk_drewN ?_ _ | refine blk_drew ?_ | refine blk_alloc ?_ _)); refine blk_far ?_ NB536_560.out _; (with_reducible repeat (first | refine blk_drewN ?_ _ | refine blk_drew ?_ | refine blk_alloc ?_ _)); refine blk_far ?_ NB536_560.out _; (with_reducible repeat (first | refine blk_drewN ?_ _ | refine blk_drew ?_ | refine blk_alloc ?_ _)); exact BK536.out) hb); have n5_ := Aside0.mk (blk_below (g := gC) (o := .cells #[.slice Ao63 t554.length co63, .int .i64 t557, .int .i64 t558] 26 (0, 0)) (by (with_reducible repeat (first | refine blk_drewN ?_ _ | refine blk_drew ?_ | refine blk_alloc ?_ _)); refine blk_put (cs := #[.slice Ao63 t554.length co63, .int .i64 t557, .int .i64 0]) ?_ 2 _ rfl; (with_reducible repeat (first | refine blk_drewN ?_ _ | refine blk_drew ?_ | refine blk_alloc ?_ _)); refine blk_put (cs := #[.slice Ao63 t554.length co63, .int .i64 0, .int .i64 0]) ?_ 1 _ rfl; (with_reducible repeat (first | refine blk_drewN ?_ _ | refine blk_drew ?_ | refine blk_alloc ?_ _)); refine blk_put (cs := #[.slice none 0 0, .int .i64 0, .int .i64 0]) ?_ 0 _ rfl; (with_reducible repeat (first | refine blk_drewN ?_ _ | refine blk_drew ?_ | refine blk_alloc ?_ _)); exact BK560.out) hb); have n6_ := Aside0.mk (below_step (by repeat (first | (with_reducible first | exact HB.out | apply below_alloc | apply pw_below_drewN | apply below_drew1 | refine below_set ?_ GE536.out | refine below_set ?_ GE560.out) | exact HB.out)) hb); have n7_ := Aside0.mk (hbox); have n8_ := Aside0.mk ((by rw [hg]; exact (below_size (by repeat (first | (with_reducible first | exact HB.out | apply below_alloc | apply pw_below_drewN | apply below_drew1 | refine below_set ?_ GE536.out | refine below_set ?_ GE560.out) | exact HB.out))) : w.heap.size ≤ gD)); have n9_ := Aside0.mk ((by rw [hg]; exact (below_size (by repeat (first | (with_reducible first | exact HB.out | apply below_alloc | apply pw_below_drewN | apply below_drew1 | refine below_set ?_ GE536.out | refine below_set ?_ GE560.out) | exact HB.out))) : w.heap.size ≤ gD)); have n10_ := Aside0.mk ((by rw [hg]; exact Nat.ne_of_lt (blk_lt (g := gA) (o := .cells #[u537000, .int .i64 x537001_4, .int .i64 x537002_4] 26 (0, 0)) (by (with_reducible repeat (first | refine blk_drewN ?_ _ | refine blk_drew ?_ | refine blk_alloc ?_ _)); refine blk_far ?_ NB536_560.out _; (with_reducible repeat (first | refine blk_drewN ?_ _ | refine blk_drew ?_ | refine blk_alloc ?_ _)); refine blk_far ?_ NB536_560.out _; (with_reducible repeat (first | refine blk_drewN ?_ _ | refine blk_drew ?_ | refine blk_alloc ?_ _)); refine blk_far ?_ NB536_560.out _; (with_reducible repeat (first | refine blk_drewN ?_ _ | refine blk_drew ?_ | refine blk_alloc ?_ _)); exact BK536.out)) : gA ≠ gD)); have n11_ := Aside0.mk ((by rw [hg]; exact Nat.ne_of_gt (blk_lt (g := gA) (o := .cells #[u537000, .int .i64 x537001_4, .int .i64 x537002_4] 26 (0, 0)) (by (with_reducible repeat (first | refine blk_drewN ?_ _ | refine blk_drew ?_ | refine blk_alloc ?_ _)); refine blk_far ?_ NB536_560.out _; (with_reducible repeat (first | refine blk_drewN ?_ _ | refine blk_drew ?_ | refine blk_alloc ?_ _)); refine blk_far ?_ NB536_560.out _; (with_reducible repeat (first | refine blk_drewN ?_ _ | refine blk_drew ?_ | refine blk_alloc ?_ _)); refine blk_far ?_ NB536_560.out _; (with_reducible repeat (first | refine blk_drewN ?_ _ | refine blk_drew ?_ | refine blk_alloc ?_ _)); exact BK536.out)) : gD ≠ gA)); have n12_ := Aside0.mk ((by rw [hg]; exact Nat.ne_of_lt (blk_lt (g := gC) (o := .cells #[.slice Ao63 t554.length co63, .int .i64 t557, .int .i64 t558] 26 (0, 0)) (by (with_reducible repeat (first | refine blk_drewN ?_ _ | refine blk_drew ?_ | refine blk_alloc ?_ _)); refine blk_put (cs := #[.slice Ao63 t554.length co63, .int .i64 t557, .int .i64 0]) ?_ 2 _ rfl; (with_reducible repeat (first | refine blk_drewN ?_ _ | refine blk_drew ?_ | refine blk_alloc ?_ _)); refine blk_put (cs := #[.slice Ao63 t554.length co63, .int .i64 0, .int .i64 0]) ?_ 1 _ rfl; (with_reducible repeat (first | refine blk_drewN ?_ _ | refine blk_drew ?_ | refine blk_alloc ?_ _)); refine blk_put (cs := #[.slice none 0 0, .int .i64 0, .int .i64 0]) ?_ 0 _ rfl; (with_reducible repeat (first | refine blk_drewN ?_ _ | refine blk_drew ?_ | refine blk_alloc ?_ _)); exact BK560.out)) : gC ≠ gD)); have n13_ := Aside0.mk ((by rw [hg]; exact Nat.ne_of_gt (blk_lt (g := gC) (o := .cells #[.slice Ao63 t554.length co63, .int .i64 t557, .int .i64 t558] 26 (0, 0)) (by (with_reducible repeat (first | refine blk_drewN ?_ _ | refine blk_drew ?_ | refine blk_alloc ?_ _)); refine blk_put (cs := #[.slice Ao63 t554.length co63, .int .i64 t557, .int .i64 0]) ?_ 2 _ rfl; (with_reducible repeat (first | refine blk_drewN ?_ _ | refine blk_drew ?_ | refine blk_alloc ?_ _)); refine blk_put (cs := #[.slice Ao63 t554.length co63, .int .i64 0, .int .i64 0]) ?_ 1 _ rfl; (with_reducible repeat (first | refine blk_drewN ?_ _ | refine blk_drew ?_ | refine blk_alloc ?_ _)); refine blk_put (cs := #[.slice none 0 0, .int .i64 0, .int .i64 0]) ?_ 0 _ rfl; (with_reducible repeat (first | refine blk_drewN ?_ _ | refine blk_drew ?_ | refine blk_alloc ?_ _)); exact BK560.out)) : gD ≠ gC)); clear HO_6; clear HO_7; clear HO_537000; clear HO556; clear BK536; clear BK560; clear HB; have HO_6 := n0_; have HO_7 := n1_; have HO_537000 := n2_; have HO556 := n3_; have BK536 := n4_; have BK560 := n5_; have HB := n6_; have BK561 := n7_; have GW561 := n8_; have GE561 := n9_; have NB536_561 := n10_; have NB561_536 := n11_; have NB560_561 := n12_; have NB561_560 := n13_; clear n0_ n1_ n2_ n3_ n4_ n5_ n6_ n7_ n8_ n9_ n10_ n11_ n12_ n13_; clear hb hbox hg; have hnb67 := NB561_536.out; have hnc67 := NB536_561.out; have hnb68 := NB561_560.out; have hnc68 := NB560_561.out; have hcz69_0 : w66.cell? ⟨gD, 0, none⟩ = some (.slice none 0 0) := (blk_cell BK561.out 0).trans rfl; have hcz69_1 : w66.cell? ⟨gD, 1, none⟩ = some (.int .i64 0) := (blk_cell BK561.out 1).trans rfl; have hcz69_2 : w66.cell? ⟨gD, 2, none⟩ = some (.int .i64 0) := (blk_cell BK561.out 2).trans rfl; have hfz69_0 := blk_frozen BK561.out 0; have hfz69_1 := blk_frozen BK561.out 1; have hfz69_2 := blk_frozen BK561.out 2))
       go_loopg [18] kj4 (fun kq v18 w' => ∃ (x18_2 : Int) (x562000_2 : List (S36)) (x562001_2 : Int) (x562002_2 : Int) (u562000 : Value), v18 = .int .i64 x18_2 ∧ Aside0 (mbk.l1 kq x5_4 x6_4 x7_4 ji57 t559 x18_2 x537000_4 x537001_4 x537002_4 t554 t557 t558 x562000_2 x562001_2 x562002_2 = some r) ∧ Aside0 (kq ≤ kj4) ∧ Aside0 (Kd.R (Kd.int .i64) 3 w' w.heap.size (fun _ => True) u6 x6_4) ∧ Aside0 (Kd.S k26 26 w' w.heap.size (fun k_ => True ∧ some k_ ≠ ((.slice Ao63 t554.length co63) : Value).ownBlock ∧ True ∧ k_ ≠ gA ∧ k_ ≠ gC ∧ k_ ≠ gD) u7 x7_4) ∧ Aside0 (Kd.R k36 36 w' w.heap.size (fun k_ => some k_ ≠ ((.slice Ao63 t554.length co63) : Value).ownBlock ∧ True) u537000 x537000_4) ∧ Aside0 (Kd.R k36 36 w' w.heap.size (fun k_ => True ∧ True) (.slice Ao63 t554.length co63) t554) ∧ Aside0 (Kd.R k36 36 w' w.heap.size (fun k_ => True ∧ some k_ ≠ ((.slice Ao63 t554.length co63) : Value).ownBlock) u562000 x562000_2) ∧ Aside0 (w'.heap[gA]? = some (.cells #[u537000, .int .i64 x537001_4, .int .i64 x537002_4] 26 (0, 0))) ∧ Aside0 (w'.heap[gC]? = some (.cells #[(.slice Ao63 t554.length co63), .int .i64 t557, .int .i64 t558] 26 (0, 0))) ∧ Aside0 (w'.heap[gD]? = some (.cells #[u562000, .int .i64 x562001_2, .int .i64 x562002_2] 26 (0, 0))) ∧ Aside0 (Below w.heap.size w w'))
       case atStart => exact ⟨(0), (([] : List (S36))), (0), (0), (.slice none 0 0), (by first | rfl | (simp; done) | (simp [*]; done)), H', ⟨Nat.le_refl _⟩, ⟨by (with_reducible repeat (first | apply Kd.R_alloc | apply Kd.R_drewN | apply Kd.R_drew)); exact Kd.R_mono (Kd.R_far (p := ⟨gD, 2, none⟩) (Kd.R_far (p := ⟨gD, 1, none⟩) (Kd.R_far (p := ⟨gD, 0, none⟩) (Kd.R_types HO_6.out BK561.out (by decide)) (fun _ hk => hk.2) (.slice none 0 0)) (fun _ hk => hk.2) (.int .i64 0)) (fun _ hk => hk.2) (.int .i64 0)) (fun _ hk => trivial)⟩, ⟨by (with_reducible repeat (first | apply Kd.S_alloc | apply Kd.S_drewN | apply Kd.S_drew)); exact Kd.S_mono (Kd.S_far (p := ⟨gD, 2, none⟩) (Kd.S_far (p := ⟨gD, 1, none⟩) (Kd.S_far (p := ⟨gD, 0, none⟩) (Kd.S_mono HO_7.out (fun k_ hk => (⟨hk, hk.2⟩ : _ ∧ k_ ≠ gD))) (fun _ hk => hk.2) (.slice none 0 0)) (fun _ hk => hk.2) (.int .i64 0)) (fun _ hk => hk.2) (.int .i64 0)) (fun _ hk => ⟨hk.1.1.1.1.1, ⟨hk.1.1.1.2, ⟨(by simp [Value.ownBlock]), ⟨hk.1.1.1.1.2, ⟨hk.1.1.2, hk.1.2⟩⟩⟩⟩⟩)⟩, ⟨by (with_reducible repeat (first | apply Kd.R_alloc | apply Kd.R_drewN | apply Kd.R_drew)); exact Kd.R_mono (Kd.R_far (p := ⟨gD, 2, none⟩) (Kd.R_far (p := ⟨gD, 1, none⟩) (Kd.R_far (p := ⟨gD, 0, none⟩) (Kd.R_types HO_537000.out BK561.out (by decide)) (fun _ hk => hk.2) (.slice none 0 0)) (fun _ hk => hk.2) (.int .i64 0)) (fun _ hk => hk.2) (.int .i64 0)) (fun _ hk => ⟨hk.1.2, (by simp [Value.ownBlock])⟩)⟩, ⟨by (with_reducible repeat (first | apply Kd.R_alloc | apply Kd.R_drewN | apply Kd.R_drew)); exact Kd.R_mono (Kd.R_far (p := ⟨gD, 2, none⟩) (Kd.R_far (p := ⟨gD, 1, none⟩) (Kd.R_far (p := ⟨gD, 0, none⟩) (Kd.R_types HO556.out BK561.out (by decide)) (fun _ hk => hk.2) (.slice none 0 0)) (fun _ hk => hk.2) (.int .i64 0)) (fun _ hk => hk.2) (.int .i64 0)) (fun _ hk => ⟨trivial, trivial⟩)⟩, ⟨by first | exact Kd.R_nil _ _ _ _ _ | exact Kd.N_nil _ _ _ _ _ | exact Kd.V_nil _ _ _ _ _ | exact Kd.Q_nil _ _ _ _ _ | exact Kd.S_nil _ _ _ _ _⟩, ⟨by (with_reducible repeat (first | refine blk_drewN ?_ _ | refine blk_drew ?_ | refine blk_alloc ?_ _)); refine blk_far ?_ NB536_561.out _; (with_reducible repeat (first | refine blk_drewN ?_ _ | refine blk_drew ?_ | refine blk_alloc ?_ _)); refine blk_far ?_ NB536_561.out _; (with_reducible repeat (first | refine blk_drewN ?_ _ | refine blk_drew ?_ | refine blk_alloc ?_ _)); refine blk_far ?_ NB536_561.out _; (with_reducible repeat (first | refine blk_drewN ?_ _ | refine blk_drew ?_ | refine blk_alloc ?_ _)); exact BK536.out⟩, ⟨by (with_reducible repeat (first | refine blk_drewN ?_ _ | refine blk_drew ?_ | refine blk_alloc ?_ _)); refine blk_far ?_ NB560_561.out _; (with_reducible repeat (first | refine blk_drewN ?_ _ | refine blk_drew ?_ | refine blk_alloc ?_ _)); refine blk_far ?_ NB560_561.out _; (with_reducible repeat (first | refine blk_drewN ?_ _ | refine blk_drew ?_ | refine blk_alloc ?_ _)); refine blk_far ?_ NB560_561.out _; (with_reducible repeat (first | refine blk_drewN ?_ _ | refine blk_drew ?_ | refine blk_alloc ?_ _)); exact BK560.out⟩, ⟨by (with_reducible repeat (first | refine blk_drewN ?_ _ | refine blk_drew ?_ | refine blk_alloc ?_ _)); refine blk_put (cs := #[.slice none 0 0, .int .i64 0, .int .i64 0]) ?_ 2 _ rfl; (with_reducible repeat (first | refine blk_drewN ?_ _ | refine blk_drew ?_ | refine blk_alloc ?_ _)); refine blk_put (cs := #[.slice none 0 0, .int .i64 0, .int .i64 0]) ?_ 1 _ rfl; (with_reducible repeat (first | refine blk_drewN ?_ _ | refine blk_drew ?_ | refine blk_alloc ?_ _)); refine blk_put (cs := #[.slice none 0 0, .int .i64 0, .int .i64 0]) ?_ 0 _ rfl; (with_reducible repeat (first | refine blk_drewN ?_ _ | refine blk_drew ?_ | refine blk_alloc ?_ _)); exact BK561.out⟩, ⟨by repeat (first | (with_reducible first | exact HB.out | apply below_alloc | apply pw_below_drewN | apply below_drew1 | refine below_set ?_ GE536.out | refine below_set ?_ GE560.out | refine below_set ?_ GE561.out) | exact HB.out)⟩⟩
       case round =>
        clear H'
        try clear c1
        try clear p2
        try clear c5
        try clear p5
        try clear q5
        try clear hx5
        try clear c6
        try clear p6
        try clear c9
        try clear c10
        try clear c11
        try clear c12
        try clear c15
        try clear c15b0
        try clear c15b1
        try clear c53
        try clear p53
        try clear q53
        try clear hx53
        try clear c54
        try clear p54
        try clear q54
        try clear hx54
        try clear c56
        try clear c56b0
        try clear c56b1
        try clear c58
        try clear c58b0
        try clear c58b1
        try clear c59
        try clear c59b0
        try clear c59b1
        try clear c64
        try clear p64
        try clear c67
        try clear c68
        try clear hcz65_0
        try clear hcz65_1
        try clear hcz65_2
        try clear hcz69_0
        try clear hcz69_1
        try clear hcz69_2
        try clear hfz65_0
        try clear hfz65_1
        try clear hfz65_2
        try clear hfz69_0
        try clear hfz69_1
        try clear hfz69_2
        try clear hx537_0
        try clear hx537_1
        try clear hx537_2
        try clear hx537_3
        try clear hx540_0
        try clear hx540_1
        try clear hx540_2
        try clear hx540_3
        try clear p2
        try clear p5
        try clear p53
        try clear p537
        try clear p54
        try clear p540
        try clear q5
        try clear q53
        try clear q537
        try clear q54
        try clear q540
        obtain ⟨x18_2, x562000_2, x562001_2, x562002_2, u562000, rfl, HA, HK2, HO_6, HO_7, HO_537000, HO_561000, HO_562000, BK536, BK560, BK561, HB⟩ := hrel
        cases gk with
        | zero => exact absurd HA.out (by simp [mbk.l1])
        | succ k2 =>
         have H := HA.out
         clear HA
         simp only [mbk.l1] at H
         by_cases c70 : x18_2 < (x6_4.length : Int)
         ·rw [if_pos c70] at H
          have c70b0 : decide (x18_2 < (x6_4.length : Int)) = true := decide_eq_true c70
          clear c70
          by_cases c71 : 0 ≤ x18_2
          ·rw [if_pos c71] at H
           have c71b0 : decide (0 ≤ x18_2) = true := decide_eq_true c71
           clear c71
           by_cases c72 : (rd x6_4 x18_2) ≤ ji57
           ·rw [if_pos c72] at H
            have c72b0 : decide ((rd x6_4 x18_2) ≤ ji57) = true := decide_eq_true c72
            clear c72
            by_cases c73 : x18_2 < (x7_4.length : Int)
            ·rw [if_pos c73] at H
             have c73b0 : decide (x18_2 < (x7_4.length : Int)) = true := decide_eq_true c73
             clear c73
             have H' := Aside0.mk H
             clear H
             obtain ⟨Ao74, co74, eo74⟩ := Kd.R_slice HO_6.out
             subst eo74
             have p562 : 0 ≤ (x18_2 : Int) := of_decide_eq_true (by first | (with_reducible assumption) | assumption)
             have q562 : x18_2 < (x6_4.length : Int) := of_decide_eq_true (by first | (with_reducible assumption) | assumption)
             obtain ⟨ad562, e562, hx562_0⟩ := Kd.at_int (Kd.R_reads' HO_6.out).2.2 x18_2 p562 q562
             cases e562
             replace p562 := eq_true p562
             replace q562 := eq_true q562
             obtain ⟨Ao75, co75, eo75⟩ := Kd.S_slice HO_7.out
             subst eo75
             have p563 : 0 ≤ (x18_2 : Int) := of_decide_eq_true (by first | (with_reducible assumption) | assumption)
             have q563 : x18_2 < (x7_4.length : Int) := of_decide_eq_true (by first | (with_reducible assumption) | assumption)
             obtain ⟨ad563, A563_0, c563_0, e563, hx563_0, hx563_1, hx563_2, hl563_0, hi563_0⟩ := at_T26 (Kd.S_reads' HO_7.out).2.2 x18_2 p563 q563
             cases e563
             obtain ⟨ce563, hce563, hMe563, hcc563⟩ := Kd.S_get HO_7.out z26 x18_2 p563 (by first | exact q563 | exact of_decide_eq_true (by first | (with_reducible assumption) | assumption) | (have e_ := (Kd.S_reads' HO_7.out).1; omega))
             obtain ⟨ve563_0, rfl, ge563_0⟩ := k26_openM hMe563
             have hv563_0 := hcc563 0 _ rfl
             rw [Nat.add_zero] at hv563_0
             replace hv563_0 := Option.some.inj (hv563_0.symm.trans hx563_0)
             rw [hv563_0] at ge563_0
             have HL563_0 := Aside0.mk (show Kd.R k36 36 _ _ _ _ ((rd_T26 x7_4 x18_2).f0) from ge563_0)
             clear hv563_0 ge563_0
             clear hcc563 hce563
             have HR563_0 := Aside0.mk hi563_0
             have HC563_0 := Aside0.mk hl563_0
             clear hi563_0 hl563_0
             replace p563 := eq_true p563
             replace q563 := eq_true q563
             have hnb76 := NB561_536.out
             have hnc76 := NB536_561.out
             have hnb77 := NB561_560.out
             have hnc77 := NB560_561.out
             have hcz78_0 : wr.cell? ⟨gD, 0, none⟩ = some (u562000) := (blk_cell BK561.out 0).trans rfl
             have hcz78_1 : wr.cell? ⟨gD, 1, none⟩ = some (.int .i64 x562001_2) := (blk_cell BK561.out 1).trans rfl
             have hcz78_2 : wr.cell? ⟨gD, 2, none⟩ = some (.int .i64 x562002_2) := (blk_cell BK561.out 2).trans rfl
             have hfz78_0 := blk_frozen BK561.out 0
             have hfz78_1 := blk_frozen BK561.out 1
             have hfz78_2 := blk_frozen BK561.out 2
             go_wp2
             go_roundg k2
             case measure => have := HJ4.out; have := HK2.out; omega
             case rel => exact ⟨(wrap64 (x18_2 + 1)), ((rd_T26 x7_4 x18_2).f0), ((rd_T26 x7_4 x18_2).f1), ((rd_T26 x7_4 x18_2).f2), (.slice A563_0 ((rd_T26 x7_4 x18_2).f0).length c563_0), (by first | rfl | (simp; done) | (simp [*]; done)), H', ⟨by have := HJ4.out; have := HK2.out; omega⟩, ⟨by (with_reducible repeat (first | apply Kd.R_alloc | apply Kd.R_drewN | apply Kd.R_drew)); exact Kd.R_mono (Kd.R_far (p := ⟨gD, 2, none⟩) (Kd.R_far (p := ⟨gD, 1, none⟩) (Kd.R_far (p := ⟨gD, 0, none⟩) (Kd.R_types HO_6.out BK561.out (by decide)) (fun _ hk => hk.2) (.slice A563_0 ((rd_T26 x7_4 x18_2).f0).length c563_0)) (fun _ hk => hk.2) (.int .i64 ((rd_T26 x7_4 x18_2).f1))) (fun _ hk => hk.2) (.int .i64 ((rd_T26 x7_4 x18_2).f2))) (fun _ hk => trivial)⟩, ⟨by (with_reducible repeat (first | apply Kd.S_alloc | apply Kd.S_drewN | apply Kd.S_drew)); exact Kd.S_mono (Kd.S_far (p := ⟨gD, 2, none⟩) (Kd.S_far (p := ⟨gD, 1, none⟩) (Kd.S_far (p := ⟨gD, 0, none⟩) (Kd.S_mono HO_7.out (fun k_ hk => (⟨hk, hk.2.2.2.2.2⟩ : _ ∧ k_ ≠ gD))) (fun _ hk => hk.2) (.slice A563_0 ((rd_T26 x7_4 x18_2).f0).length c563_0)) (fun _ hk => hk.2) (.int .i64 ((rd_T26 x7_4 x18_2).f1))) (fun _ hk => hk.2) (.int .i64 ((rd_T26 x7_4 x18_2).f2))) (fun _ hk => ⟨hk.1.1, ⟨hk.1.2.1, ⟨trivial, ⟨hk.1.2.2.2.1, ⟨hk.1.2.2.2.2.1, hk.1.2.2.2.2.2⟩⟩⟩⟩⟩)⟩, ⟨by (with_reducible repeat (first | apply Kd.R_alloc | apply Kd.R_drewN | apply Kd.R_drew)); exact Kd.R_mono (Kd.R_far (p := ⟨gD, 2, none⟩) (Kd.R_far (p := ⟨gD, 1, none⟩) (Kd.R_far (p := ⟨gD, 0, none⟩) (Kd.R_types HO_537000.out BK561.out (by decide)) (fun _ hk => hk.2) (.slice A563_0 ((rd_T26 x7_4 x18_2).f0).length c563_0)) (fun _ hk => hk.2) (.int .i64 ((rd_T26 x7_4 x18_2).f1))) (fun _ hk => hk.2) (.int .i64 ((rd_T26 x7_4 x18_2).f2))) (fun _ hk => ⟨hk.1.1, trivial⟩)⟩, ⟨by (with_reducible repeat (first | apply Kd.R_alloc | apply Kd.R_drewN | apply Kd.R_drew)); exact Kd.R_mono (Kd.R_far (p := ⟨gD, 2, none⟩) (Kd.R_far (p := ⟨gD, 1, none⟩) (Kd.R_far (p := ⟨gD, 0, none⟩) (Kd.R_types HO_561000.out BK561.out (by decide)) (fun _ hk => hk.2) (.slice A563_0 ((rd_T26 x7_4 x18_2).f0).length c563_0)) (fun _ hk => hk.2) (.int .i64 ((rd_T26 x7_4 x18_2).f1))) (fun _ hk => hk.2) (.int .i64 ((rd_T26 x7_4 x18_2).f2))) (fun _ hk => ⟨hk.1.1, trivial⟩)⟩, ⟨by (with_reducible repeat (first | apply Kd.R_alloc | apply Kd.R_drewN | apply Kd.R_drew)); exact Kd.R_mono (Kd.R_far (p := ⟨gD, 2, none⟩) (Kd.R_far (p := ⟨gD, 1, none⟩) (Kd.R_far (p := ⟨gD, 0, none⟩) (Kd.R_types HL563_0.out BK561.out (by decide)) (fun _ hk => hk.2) (.slice A563_0 ((rd_T26 x7_4 x18_2).f0).length c563_0)) (fun _ hk => hk.2) (.int .i64 ((rd_T26 x7_4 x18_2).f1))) (fun _ hk => hk.2) (.int .i64 ((rd_T26 x7_4 x18_2).f2))) (fun _ hk => ⟨hk.1.1.1, hk.1.1.2.1⟩)⟩, ⟨by (with_reducible repeat (first | refine blk_drewN ?_ _ | refine blk_drew ?_ | refine blk_alloc ?_ _)); refine blk_far ?_ NB536_561.out _; (with_reducible repeat (first | refine blk_drewN ?_ _ | refine blk_drew ?_ | refine blk_alloc ?_ _)); refine blk_far ?_ NB536_561.out _; (with_reducible repeat (first | refine blk_drewN ?_ _ | refine blk_drew ?_ | refine blk_alloc ?_ _)); refine blk_far ?_ NB536_561.out _; (with_reducible repeat (first | refine blk_drewN ?_ _ | refine blk_drew ?_ | refine blk_alloc ?_ _)); exact BK536.out⟩, ⟨by (with_reducible repeat (first | refine blk_drewN ?_ _ | refine blk_drew ?_ | refine blk_alloc ?_ _)); refine blk_far ?_ NB560_561.out _; (with_reducible repeat (first | refine blk_drewN ?_ _ | refine blk_drew ?_ | refine blk_alloc ?_ _)); refine blk_far ?_ NB560_561.out _; (with_reducible repeat (first | refine blk_drewN ?_ _ | refine blk_drew ?_ | refine blk_alloc ?_ _)); refine blk_far ?_ NB560_561.out _; (with_reducible repeat (first | refine blk_drewN ?_ _ | refine blk_drew ?_ | refine blk_alloc ?_ _)); exact BK560.out⟩, ⟨by (with_reducible repeat (first | refine blk_drewN ?_ _ | refine blk_drew ?_ | refine blk_alloc ?_ _)); refine blk_put (cs := #[.slice A563_0 ((rd_T26 x7_4 x18_2).f0).length c563_0, .int .i64 ((rd_T26 x7_4 x18_2).f1), .int .i64 x562002_2]) ?_ 2 _ rfl; (with_reducible repeat (first | refine blk_drewN ?_ _ | refine blk_drew ?_ | refine blk_alloc ?_ _)); refine blk_put (cs := #[.slice A563_0 ((rd_T26 x7_4 x18_2).f0).length c563_0, .int .i64 x562001_2, .int .i64 x562002_2]) ?_ 1 _ rfl; (with_reducible repeat (first | refine blk_drewN ?_ _ | refine blk_drew ?_ | refine blk_alloc ?_ _)); refine blk_put (cs := #[u562000, .int .i64 x562001_2, .int .i64 x562002_2]) ?_ 0 _ rfl; (with_reducible repeat (first | refine blk_drewN ?_ _ | refine blk_drew ?_ | refine blk_alloc ?_ _)); exact BK561.out⟩, ⟨by repeat (first | (with_reducible first | exact HB.out | apply below_alloc | apply pw_below_drewN | apply below_drew1 | refine below_set ?_ GE536.out | refine below_set ?_ GE560.out | refine below_set ?_ GE561.out) | exact HB.out)⟩⟩
            ·rw [if_neg c73] at H
             exact absurd H (by simp)
           ·rw [if_neg c72] at H
            have c72b0 : decide ((rd x6_4 x18_2) ≤ ji57) = false := decide_eq_false c72
            clear c72
            have H' := Aside0.mk H
            clear H
            obtain ⟨Ao79, co79, eo79⟩ := Kd.R_slice HO_6.out
            subst eo79
            have p562 : 0 ≤ (x18_2 : Int) := of_decide_eq_true (by first | (with_reducible assumption) | assumption)
            have q562 : x18_2 < (x6_4.length : Int) := of_decide_eq_true (by first | (with_reducible assumption) | assumption)
            obtain ⟨ad562, e562, hx562_0⟩ := Kd.at_int (Kd.R_reads' HO_6.out).2.2 x18_2 p562 q562
            cases e562
            replace p562 := eq_true p562
            replace q562 := eq_true q562
            go_wp2
            go_roundg k2
            case measure => have := HJ4.out; have := HK2.out; omega
            case rel => exact ⟨(wrap64 (x18_2 + 1)), (x562000_2), (x562001_2), (x562002_2), (u562000), (by first | rfl | (simp; done) | (simp [*]; done)), H', ⟨by have := HJ4.out; have := HK2.out; omega⟩, ⟨by (with_reducible repeat (first | apply Kd.R_alloc | apply Kd.R_drewN | apply Kd.R_drew)); exact HO_6.out⟩, ⟨by (with_reducible repeat (first | apply Kd.S_alloc | apply Kd.S_drewN | apply Kd.S_drew)); exact HO_7.out⟩, ⟨by (with_reducible repeat (first | apply Kd.R_alloc | apply Kd.R_drewN | apply Kd.R_drew)); exact HO_537000.out⟩, ⟨by (with_reducible repeat (first | apply Kd.R_alloc | apply Kd.R_drewN | apply Kd.R_drew)); exact HO_561000.out⟩, ⟨by (with_reducible repeat (first | apply Kd.R_alloc | apply Kd.R_drewN | apply Kd.R_drew)); exact HO_562000.out⟩, ⟨by (with_reducible repeat (first | refine blk_drewN ?_ _ | refine blk_drew ?_ | refine blk_alloc ?_ _)); exact BK536.out⟩, ⟨by (with_reducible repeat (first | refine blk_drewN ?_ _ | refine blk_drew ?_ | refine blk_alloc ?_ _)); exact BK560.out⟩, ⟨by (with_reducible repeat (first | refine blk_drewN ?_ _ | refine blk_drew ?_ | refine blk_alloc ?_ _)); exact BK561.out⟩, ⟨by repeat (first | (with_reducible first | exact HB.out | apply below_alloc | apply pw_below_drewN | apply below_drew1 | refine below_set ?_ GE536.out | refine below_set ?_ GE560.out | refine below_set ?_ GE561.out) | exact HB.out)⟩⟩
          ·rw [if_neg c71] at H
           exact absurd H (by simp)
         ·rw [if_neg c70] at H
          have c70b0 : decide (x18_2 < (x6_4.length : Int)) = false := decide_eq_false c70
          clear c70
          replace H := Option.bind_eq_some_iff.mp H
          obtain ⟨⟨t564, t567, t568, t569⟩, A800, H⟩ := H
          replace H : (if t559 = 0 then ((tithebarnref16_Same.f k2 t554 t557 t558 x562000_2 x562001_2 x562002_2).bind fun t571 => (if t571 = true then (if t569 = 0 then ((tithebarnref16_Same.f k2 t564 t567 t568 x537000_4 x537001_4 x537002_4).bind fun t572 => (some t572)) else (some false)) else (some false))) else (some false)) = some r := H
          have A80 := Aside0.mk A800
          clear A800
          by_cases c81 : t559 = 0
          ·rw [if_pos c81] at H
           have c81b0 : (t559 == 0) = true := beq_iff_eq.mpr c81
           have c81b1 : (t559 != 0) = false := bne_eq_false_iff_eq.mpr c81
           clear c81
           replace H := Option.bind_eq_some_iff.mp H
           obtain ⟨t571, A820, H⟩ := H
           replace H : (if t571 = true then (if t569 = 0 then ((tithebarnref16_Same.f k2 t564 t567 t568 x537000_4 x537001_4 x537002_4).bind fun t572 => (some t572)) else (some false)) else (some false)) = some r := H
           have A82 := Aside0.mk A820
           clear A820
           by_cases c83 : t571 = true
           ·subst c83
            have H1 : (if t569 = 0 then ((tithebarnref16_Same.f k2 t564 t567 t568 x537000_4 x537001_4 x537002_4).bind fun t572 => (some t572)) else (some false)) = some r := by rw [if_pos rfl] at H; exact H
            clear H
            have H := H1
            clear H1
            by_cases c84 : t569 = 0
            ·rw [if_pos c84] at H
             have c84b0 : (t569 == 0) = true := beq_iff_eq.mpr c84
             have c84b1 : (t569 != 0) = false := bne_eq_false_iff_eq.mpr c84
             clear c84
             replace H := Option.bind_eq_some_iff.mp H
             obtain ⟨t572, A850, H⟩ := H
             replace H : (some t572) = some r := H
             have A85 := Aside0.mk A850
             clear A850
             obtain rfl := Option.some.inj H
             obtain ⟨Ao86, co86, eo86⟩ := Kd.R_slice HO_6.out
             subst eo86
             go_wp2_with (first | ((with_reducible refine gate_callee (f := 15) rfl ?_); refine goesL_ (some 103) rfl rfl Try.func15 (by kernel_rfl) rfl #[.string x5_4] rfl (by (try simp only [List.map_toArray, List.map_cons, List.map_nil]); first | done | rfl | (simp only [List.length_drop, List.length_take]; rfl) | (go_simp; simp [IntKind.wrap, IntKind.bits, IntKind.signed]; omega)) ?_; (with_reducible refine (manifest_Read.calls k2 x5_4 t564 t567 t568 t569 _ A80.out).mono ?_); rintro e w87 ⟨v565, rfl, ho0, hb⟩; refine ⟨_, rfl, ?_⟩; have n0_ := Aside0.mk (Kd.R_below (by (with_reducible repeat (first | apply Kd.R_alloc | apply Kd.R_drewN | apply Kd.R_drew)); exact HO_6.out) hb); have n1_ := Aside0.mk (Kd.S_elder' (by (with_reducible repeat (first | apply Kd.S_alloc | apply Kd.S_drewN | apply Kd.S_drew)); exact HO_7.out) (Kd.R_base ho0) hb); have n2_ := Aside0.mk (Kd.R_elder' (by (with_reducible repeat (first | apply Kd.R_alloc | apply Kd.R_drewN | apply Kd.R_drew)); exact HO_537000.out) (Kd.R_base ho0) hb); have n3_ := Aside0.mk (Kd.R_elder' (by (with_reducible repeat (first | apply Kd.R_alloc | apply Kd.R_drewN | apply Kd.R_drew)); exact HO_561000.out) (Kd.R_base ho0) hb); have n4_ := Aside0.mk (Kd.R_elder' (by (with_reducible repeat (first | apply Kd.R_alloc | apply Kd.R_drewN | apply Kd.R_drew)); exact HO_562000.out) (Kd.R_base ho0) hb); have n5_ := Aside0.mk (Kd.R_lower (Kd.R_new' (Kd.R_new' (Kd.R_new' ho0 (Kd.R_lt (by (with_reducible repeat (first | apply Kd.R_alloc | apply Kd.R_drewN | apply Kd.R_drew)); exact HO_537000.out))) (Kd.R_lt (by (with_reducible repeat (first | apply Kd.R_alloc | apply Kd.R_drewN | apply Kd.R_drew)); exact HO_561000.out))) (Kd.R_lt (by (with_reducible repeat (first | apply Kd.R_alloc | apply Kd.R_drewN | apply Kd.R_drew)); exact HO_562000.out))) (below_size (by repeat (first | (with_reducible first | exact HB.out | apply below_alloc | apply pw_below_drewN | apply below_drew1 | refine below_set ?_ GE536.out | refine below_set ?_ GE560.out | refine below_set ?_ GE561.out) | exact HB.out)))); have n6_ := Aside0.mk (blk_below (g := gA) (o := .cells #[u537000, .int .i64 x537001_4, .int .i64 x537002_4] 26 (0, 0)) (by (with_reducible repeat (first | refine blk_drewN ?_ _ | refine blk_drew ?_ | refine blk_alloc ?_ _)); exact BK536.out) hb); have n7_ := Aside0.mk (blk_below (g := gC) (o := .cells #[.slice Ao63 t554.length co63, .int .i64 t557, .int .i64 t558] 26 (0, 0)) (by (with_reducible repeat (first | refine blk_drewN ?_ _ | refine blk_drew ?_ | refine blk_alloc ?_ _)); exact BK560.out) hb); have n8_ := Aside0.mk (blk_below (g := gD) (o := .cells #[u562000, .int .i64 x562001_2, .int .i64 x562002_2] 26 (0, 0)) (by (with_reducible repeat (first | refine blk_drewN ?_ _ | refine blk_drew ?_ | refine blk_alloc ?_ _)); exact BK561.out) hb); have n9_ := Aside0.mk (below_step (by repeat (first | (with_reducible first | exact HB.out | apply below_alloc | apply pw_below_drewN | apply below_drew1 | refine below_set ?_ GE536.out | refine below_set ?_ GE560.out | refine below_set ?_ GE561.out) | exact HB.out)) hb); clear HO_6; clear HO_7; clear HO_537000; clear HO_561000; clear HO_562000; clear BK536; clear BK560; clear BK561; clear HB; have HO_6 := n0_; have HO_7 := n1_; have HO_537000 := n2_; have HO_561000 := n3_; have HO_562000 := n4_; have HO566 := n5_; have BK536 := n6_; have BK560 := n7_; have BK561 := n8_; have HB := n9_; clear n0_ n1_ n2_ n3_ n4_ n5_ n6_ n7_ n8_ n9_; (try clear hb); (try clear hb2); (try clear hk); (try clear hi); (try clear ho0)) | ((with_reducible refine gate_dst (N := 19) rfl ?_); refine box_event ?hg (N := 19) ?hd (cs := #[.slice none 0 0, .int .i64 0, .int .i64 0]) (t := 26) ?hr ?_; (case hd => rfl); (case hg => rfl); (case hr => first | (go_simp; done) | (go_simp; rfl)); intro gb570 hg w88 hbox hb; have n0_ := Aside0.mk (Kd.R_below (by (with_reducible repeat (first | apply Kd.R_alloc | apply Kd.R_drewN | apply Kd.R_drew)); exact HO_6.out) hb); have n1_ := Aside0.mk (Kd.S_below (Kd.S_elderB (by (with_reducible repeat (first | apply Kd.S_alloc | apply Kd.S_drewN | apply Kd.S_drew)); exact HO_7.out) gb570 (Nat.le_of_eq hg.symm)) hb); have n2_ := Aside0.mk (Kd.R_below (by (with_reducible repeat (first | apply Kd.R_alloc | apply Kd.R_drewN | apply Kd.R_drew)); exact HO_537000.out) hb); have n3_ := Aside0.mk (Kd.R_below (by (with_reducible repeat (first | apply Kd.R_alloc | apply Kd.R_drewN | apply Kd.R_drew)); exact HO_561000.out) hb); have n4_ := Aside0.mk (Kd.R_below (by (with_reducible repeat (first | apply Kd.R_alloc | apply Kd.R_drewN | apply Kd.R_drew)); exact HO_562000.out) hb); have n5_ := Aside0.mk (Kd.R_below (by (with_reducible repeat (first | apply Kd.R_alloc | apply Kd.R_drewN | apply Kd.R_drew)); exact HO566.out) hb); have n6_ := Aside0.mk (blk_below (g := gA) (o := .cells #[u537000, .int .i64 x537001_4, .int .i64 x537002_4] 26 (0, 0)) (by (with_reducible repeat (first | refine blk_drewN ?_ _ | refine blk_drew ?_ | refine blk_alloc ?_ _)); exact BK536.out) hb); have n7_ := Aside0.mk (blk_below (g := gC) (o := .cells #[.slice Ao63 t554.length co63, .int .i64 t557, .int .i64 t558] 26 (0, 0)) (by (with_reducible repeat (first | refine blk_drewN ?_ _ | refine blk_drew ?_ | refine blk_alloc ?_ _)); exact BK560.out) hb); have n8_ := Aside0.mk (blk_below (g := gD) (o := .cells #[u562000, .int .i64 x562001_2, .int .i64 x562002_2] 26 (0, 0)) (by (with_reducible repeat (first | refine blk_drewN ?_ _ | refine blk_drew ?_ | refine blk_alloc ?_ _)); exact BK561.out) hb); have n9_ := Aside0.mk (below_step (by repeat (first | (with_reducible first | exact HB.out | apply below_alloc | apply pw_below_drewN | apply below_drew1 | refine below_set ?_ GE536.out | refine below_set ?_ GE560.out | refine below_set ?_ GE561.out) | exact HB.out)) hb); have n10_ := Aside0.mk (hbox); have n11_ := Aside0.mk ((by rw [hg]; exact (below_size (by repeat (first | (with_reducible first | exact HB.out | apply below_alloc | apply pw_below_drewN | apply below_drew1 | refine below_set ?_ GE536.out | refine below_set ?_ GE560.out | refine below_set ?_ GE561.out) | exact HB.out))) : w.heap.size ≤ gb570)); have n12_ := Aside0.mk ((by rw [hg]; exact (below_size (by repeat (first | (with_reducible first | exact HB.out | apply below_alloc | apply pw_below_drewN | apply below_drew1 | refine below_set ?_ GE536.out | refine below_set ?_ GE560.out | refine below_set ?_ GE561.out) | exact HB.out))) : w.heap.size ≤ gb570)); have n13_ := Aside0.mk ((by rw [hg]; exact Nat.ne_of_lt (blk_lt (g := gA) (o := .cells #[u537000, .int .i64 x537001_4, .int .i64 x537002_4] 26 (0, 0)) (by (with_reducible repeat (first | refine blk_drewN ?_ _ | refine blk_drew ?_ | refine blk_alloc ?_ _)); exact BK536.out)) : gA ≠ gb570)); have n14_ := Aside0.mk ((by rw [hg]; exact Nat.ne_of_gt (blk_lt (g := gA) (o := .cells #[u537000, .int .i64 x537001_4, .int .i64 x537002_4] 26 (0, 0)) (by (with_reducible repeat (first | refine blk_drewN ?_ _ | refine blk_drew ?_ | refine blk_alloc ?_ _)); exact BK536.out)) : gb570 ≠ gA)); have n15_ := Aside0.mk ((by rw [hg]; exact Nat.ne_of_lt (blk_lt (g := gC) (o := .cells #[.slice Ao63 t554.length co63, .int .i64 t557, .int .i64 t558] 26 (0, 0)) (by (with_reducible repeat (first | refine blk_drewN ?_ _ | refine blk_drew ?_ | refine blk_alloc ?_ _)); exact BK560.out)) : gC ≠ gb570)); have n16_ := Aside0.mk ((by rw [hg]; exact Nat.ne_of_gt (blk_lt (g := gC) (o := .cells #[.slice Ao63 t554.length co63, .int .i64 t557, .int .i64 t558] 26 (0, 0)) (by (with_reducible repeat (first | refine blk_drewN ?_ _ | refine blk_drew ?_ | refine blk_alloc ?_ _)); exact BK560.out)) : gb570 ≠ gC)); have n17_ := Aside0.mk ((by rw [hg]; exact Nat.ne_of_lt (blk_lt (g := gD) (o := .cells #[u562000, .int .i64 x562001_2, .int .i64 x562002_2] 26 (0, 0)) (by (with_reducible repeat (first | refine blk_drewN ?_ _ | refine blk_drew ?_ | refine blk_alloc ?_ _)); exact BK561.out)) : gD ≠ gb570)); have n18_ := Aside0.mk ((by rw [hg]; exact Nat.ne_of_gt (blk_lt (g := gD) (o := .cells #[u562000, .int .i64 x562001_2, .int .i64 x562002_2] 26 (0, 0)) (by (with_reducible repeat (first | refine blk_drewN ?_ _ | refine blk_drew ?_ | refine blk_alloc ?_ _)); exact BK561.out)) : gb570 ≠ gD)); clear HO_6; clear HO_7; clear HO_537000; clear HO_561000; clear HO_562000; clear HO566; clear BK536; clear BK560; clear BK561; clear HB; have HO_6 := n0_; have HO_7 := n1_; have HO_537000 := n2_; have HO_561000 := n3_; have HO_562000 := n4_; have HO566 := n5_; have BK536 := n6_; have BK560 := n7_; have BK561 := n8_; have HB := n9_; have BK570 := n10_; have GW570 := n11_; have GE570 := n12_; have NB536_570 := n13_; have NB570_536 := n14_; have NB560_570 := n15_; have NB570_560 := n16_; have NB561_570 := n17_; have NB570_561 := n18_; clear n0_ n1_ n2_ n3_ n4_ n5_ n6_ n7_ n8_ n9_ n10_ n11_ n12_ n13_ n14_ n15_ n16_ n17_ n18_; clear hb hbox hg; obtain ⟨Ao89, co89, eo89⟩ := Kd.R_slice HO566.out; subst eo89; have hnb90 := NB570_536.out; have hnc90 := NB536_570.out; have hnb91 := NB570_560.out; have hnc91 := NB560_570.out; have hnb92 := NB570_561.out; have hnc92 := NB561_570.out; have hcz93_0 : w88.cell? ⟨gb570, 0, none⟩ = some (.slice none 0 0) := (blk_cell BK570.out 0).trans rfl; have hcz93_1 : w88.cell? ⟨gb570, 1, none⟩ = some (.int .i64 0) := (blk_cell BK570.out 1).trans rfl; have hcz93_2 : w88.cell? ⟨gb570, 2, none⟩ = some (.int .i64 0) := (blk_cell BK570.out 2).trans rfl; have hfz93_0 := blk_frozen BK570.out 0; have hfz93_1 := blk_frozen BK570.out 1; have hfz93_2 := blk_frozen BK570.out 2; have hnb94 := NB560_536.out; have hnc94 := NB536_560.out; have hnb95 := NB560_561.out; have hnc95 := NB561_560.out; have hcz96_0 : w88.cell? ⟨gC, 0, none⟩ = some (.slice Ao63 t554.length co63) := (blk_cell BK560.out 0).trans rfl; have hcz96_1 : w88.cell? ⟨gC, 1, none⟩ = some (.int .i64 t557) := (blk_cell BK560.out 1).trans rfl; have hcz96_2 : w88.cell? ⟨gC, 2, none⟩ = some (.int .i64 t558) := (blk_cell BK560.out 2).trans rfl; have hfz96_0 := blk_frozen BK560.out 0; have hfz96_1 := blk_frozen BK560.out 1; have hfz96_2 := blk_frozen BK560.out 2; have hnb97 := NB561_536.out; have hnc97 := NB536_561.out; have hcz98_0 : w88.cell? ⟨gD, 0, none⟩ = some (u562000) := (blk_cell BK561.out 0).trans rfl; have hcz98_1 : w88.cell? ⟨gD, 1, none⟩ = some (.int .i64 x562001_2) := (blk_cell BK561.out 1).trans rfl; have hcz98_2 : w88.cell? ⟨gD, 2, none⟩ = some (.int .i64 x562002_2) := (blk_cell BK561.out 2).trans rfl; have hfz98_0 := blk_frozen BK561.out 0; have hfz98_1 := blk_frozen BK561.out 1; have hfz98_2 := blk_frozen BK561.out 2; obtain ⟨Ao99, co99, eo99⟩ := Kd.R_slice HO_562000.out; subst eo99) | (go_at_call 11; (with_reducible refine (tithebarnref16_Same.calls k2 _ _ t554 t557 t558 _ _ x562000_2 x562001_2 x562002_2 true _ ?side1 ?side2 ?side3 ?side4 A82.out).mono ?_); (case side1 => refine (Kd.R_reads' (e := 36) (base := w.heap.size) (ok := fun k_ => ((True ∧ True) ∧ some k_ ≠ (.slice Ao89 t564.length co89 : Value).ownBlock)) (n := t554.length) (c := co63) ?_).2.2; exact (by (with_reducible repeat (first | apply Kd.R_alloc | apply Kd.R_drewN | apply Kd.R_drew)); exact (Kd.R_mono (Kd.R_far (p := ⟨gb570, 2, none⟩) (Kd.R_far (p := ⟨gb570, 1, none⟩) (Kd.R_far (p := ⟨gb570, 0, none⟩) (Kd.R_types HO_561000.out BK570.out (by decide)) (fun _ hk => hk.2) (.slice Ao89 t564.length co89)) (fun _ hk => hk.2) (.int .i64 t567)) (fun _ hk => hk.2) (.int .i64 t568)) (fun _ h_ => h_.1)))); (case side2 => exact (Kd.R_reads' HO_561000.out).2.1); (case side3 => refine (Kd.R_reads' (e := 36) (base := w.heap.size) (ok := fun k_ => ((True ∧ some k_ ≠ (.slice Ao63 t554.length co63 : Value).ownBlock) ∧ some k_ ≠ (.slice Ao89 t564.length co89 : Value).ownBlock)) (n := x562000_2.length) (c := co99) ?_).2.2; exact (by (with_reducible repeat (first | apply Kd.R_alloc | apply Kd.R_drewN | apply Kd.R_drew)); exact (Kd.R_mono (Kd.R_far (p := ⟨gb570, 2, none⟩) (Kd.R_far (p := ⟨gb570, 1, none⟩) (Kd.R_far (p := ⟨gb570, 0, none⟩) (Kd.R_types HO_562000.out BK570.out (by decide)) (fun _ hk => hk.2) (.slice Ao89 t564.length co89)) (fun _ hk => hk.2) (.int .i64 t567)) (fun _ hk => hk.2) (.int .i64 t568)) (fun _ h_ => h_.1)))); (case side4 => exact (Kd.R_reads' HO_562000.out).2.1); rintro e w100 ⟨rfl, hb⟩; have n0_ := Aside0.mk (Kd.R_below (by (with_reducible repeat (first | apply Kd.R_alloc | apply Kd.R_drewN | apply Kd.R_drew)); exact (Kd.R_mono (Kd.R_far (p := ⟨gb570, 2, none⟩) (Kd.R_far (p := ⟨gb570, 1, none⟩) (Kd.R_far (p := ⟨gb570, 0, none⟩) (Kd.R_types HO_6.out BK570.out (by decide)) (fun _ hk => hk.2) (.slice Ao89 t564.length co89)) (fun _ hk => hk.2) (.int .i64 t567)) (fun _ hk => hk.2) (.int .i64 t568)) (fun _ h_ => h_.1))) hb); have n1_ := Aside0.mk (Kd.S_below (by (with_reducible repeat (first | apply Kd.S_alloc | apply Kd.S_drewN | apply Kd.S_drew)); exact (Kd.S_mono (Kd.S_far (p := ⟨gb570, 2, none⟩) (Kd.S_far (p := ⟨gb570, 1, none⟩) (Kd.S_far (p := ⟨gb570, 0, none⟩) (Kd.S_mono HO_7.out (fun k_ hk => (⟨hk, hk.2⟩ : _ ∧ k_ ≠ gb570))) (fun _ hk => hk.2) (.slice Ao89 t564.length co89)) (fun _ hk => hk.2) (.int .i64 t567)) (fun _ hk => hk.2) (.int .i64 t568)) (fun _ h_ => h_.1))) hb); have n2_ := Aside0.mk (Kd.R_below (by (with_reducible repeat (first | apply Kd.R_alloc | apply Kd.R_drewN | apply Kd.R_drew)); exact (Kd.R_mono (Kd.R_far (p := ⟨gb570, 2, none⟩) (Kd.R_far (p := ⟨gb570, 1, none⟩) (Kd.R_far (p := ⟨gb570, 0, none⟩) (Kd.R_types HO_537000.out BK570.out (by decide)) (fun _ hk => hk.2) (.slice Ao89 t564.length co89)) (fun _ hk => hk.2) (.int .i64 t567)) (fun _ hk => hk.2) (.int .i64 t568)) (fun _ h_ => h_.1))) hb); have n3_ := Aside0.mk (Kd.R_below (by (with_reducible repeat (first | apply Kd.R_alloc | apply Kd.R_drewN | apply Kd.R_drew)); exact (Kd.R_mono (Kd.R_far (p := ⟨gb570, 2, none⟩) (Kd.R_far (p := ⟨gb570, 1, none⟩) (Kd.R_far (p := ⟨gb570, 0, none⟩) (Kd.R_types HO_561000.out BK570.out (by decide)) (fun _ hk => hk.2) (.slice Ao89 t564.length co89)) (fun _ hk => hk.2) (.int .i64 t567)) (fun _ hk => hk.2) (.int .i64 t568)) (fun _ h_ => h_.1))) hb); have n4_ := Aside0.mk (Kd.R_below (by (with_reducible repeat (first | apply Kd.R_alloc | apply Kd.R_drewN | apply Kd.R_drew)); exact (Kd.R_mono (Kd.R_far (p := ⟨gb570, 2, none⟩) (Kd.R_far (p := ⟨gb570, 1, none⟩) (Kd.R_far (p := ⟨gb570, 0, none⟩) (Kd.R_types HO_562000.out BK570.out (by decide)) (fun _ hk => hk.2) (.slice Ao89 t564.length co89)) (fun _ hk => hk.2) (.int .i64 t567)) (fun _ hk => hk.2) (.int .i64 t568)) (fun _ h_ => h_.1))) hb); have n5_ := Aside0.mk (Kd.R_below (by (with_reducible repeat (first | apply Kd.R_alloc | apply Kd.R_drewN | apply Kd.R_drew)); exact (Kd.R_mono (Kd.R_far (p := ⟨gb570, 2, none⟩) (Kd.R_far (p := ⟨gb570, 1, none⟩) (Kd.R_far (p := ⟨gb570, 0, none⟩) (Kd.R_types HO566.out BK570.out (by decide)) (fun _ hk => hk.2) (.slice Ao89 t564.length co89)) (fun _ hk => hk.2) (.int .i64 t567)) (fun _ hk => hk.2) (.int .i64 t568)) (fun _ h_ => h_.1))) hb); have n6_ := Aside0.mk (blk_below (g := gA) (o := .cells #[u537000, .int .i64 x537001_4, .int .i64 x537002_4] 26 (0, 0)) (by (with_reducible repeat (first | refine blk_drewN ?_ _ | refine blk_drew ?_ | refine blk_alloc ?_ _)); refine blk_far ?_ NB536_570.out _; (with_reducible repeat (first | refine blk_drewN ?_ _ | refine blk_drew ?_ | refine blk_alloc ?_ _)); refine blk_far ?_ NB536_570.out _; (with_reducible repeat (first | refine blk_drewN ?_ _ | refine blk_drew ?_ | refine blk_alloc ?_ _)); refine blk_far ?_ NB536_570.out _; (with_reducible repeat (first | refine blk_drewN ?_ _ | refine blk_drew ?_ | refine blk_alloc ?_ _)); exact BK536.out) hb); have n7_ := Aside0.mk (blk_below (g := gC) (o := .cells #[.slice Ao63 t554.length co63, .int .i64 t557, .int .i64 t558] 26 (0, 0)) (by (with_reducible repeat (first | refine blk_drewN ?_ _ | refine blk_drew ?_ | refine blk_alloc ?_ _)); refine blk_far ?_ NB560_570.out _; (with_reducible repeat (first | refine blk_drewN ?_ _ | refine blk_drew ?_ | refine blk_alloc ?_ _)); refine blk_far ?_ NB560_570.out _; (with_reducible repeat (first | refine blk_drewN ?_ _ | refine blk_drew ?_ | refine blk_alloc ?_ _)); refine blk_far ?_ NB560_570.out _; (with_reducible repeat (first | refine blk_drewN ?_ _ | refine blk_drew ?_ | refine blk_alloc ?_ _)); exact BK560.out) hb); have n8_ := Aside0.mk (blk_below (g := gD) (o := .cells #[.slice Ao99 x562000_2.length co99, .int .i64 x562001_2, .int .i64 x562002_2] 26 (0, 0)) (by (with_reducible repeat (first | refine blk_drewN ?_ _ | refine blk_drew ?_ | refine blk_alloc ?_ _)); refine blk_far ?_ NB561_570.out _; (with_reducible repeat (first | refine blk_drewN ?_ _ | refine blk_drew ?_ | refine blk_alloc ?_ _)); refine blk_far ?_ NB561_570.out _; (with_reducible repeat (first | refine blk_drewN ?_ _ | refine blk_drew ?_ | refine blk_alloc ?_ _)); refine blk_far ?_ NB561_570.out _; (with_reducible repeat (first | refine blk_drewN ?_ _ | refine blk_drew ?_ | refine blk_alloc ?_ _)); exact BK561.out) hb); have n9_ := Aside0.mk (blk_below (g := gb570) (o := .cells #[.slice Ao89 t564.length co89, .int .i64 t567, .int .i64 t568] 26 (0, 0)) (by (with_reducible repeat (first | refine blk_drewN ?_ _ | refine blk_drew ?_ | refine blk_alloc ?_ _)); refine blk_put (cs := #[.slice Ao89 t564.length co89, .int .i64 t567, .int .i64 0]) ?_ 2 _ rfl; (with_reducible repeat (first | refine blk_drewN ?_ _ | refine blk_drew ?_ | refine blk_alloc ?_ _)); refine blk_put (cs := #[.slice Ao89 t564.length co89, .int .i64 0, .int .i64 0]) ?_ 1 _ rfl; (with_reducible repeat (first | refine blk_drewN ?_ _ | refine blk_drew ?_ | refine blk_alloc ?_ _)); refine blk_put (cs := #[.slice none 0 0, .int .i64 0, .int .i64 0]) ?_ 0 _ rfl; (with_reducible repeat (first | refine blk_drewN ?_ _ | refine blk_drew ?_ | refine blk_alloc ?_ _)); exact BK570.out) hb); have n10_ := Aside0.mk (below_step (by repeat (first | (with_reducible first | exact HB.out | apply below_alloc | apply pw_below_drewN | apply below_drew1 | refine below_set ?_ GE536.out | refine below_set ?_ GE560.out | refine below_set ?_ GE561.out | refine below_set ?_ GE570.out) | exact HB.out)) hb); clear HO_6; clear HO_7; clear HO_537000; clear HO_561000; clear HO_562000; clear HO566; clear BK536; clear BK560; clear BK561; clear BK570; clear HB; have HO_6 := n0_; have HO_7 := n1_; have HO_537000 := n2_; have HO_561000 := n3_; have HO_562000 := n4_; have HO566 := n5_; have BK536 := n6_; have BK560 := n7_; have BK561 := n8_; have BK570 := n9_; have HB := n10_; clear n0_ n1_ n2_ n3_ n4_ n5_ n6_ n7_ n8_ n9_ n10_; (try clear hb); (try clear hb2); (try clear hk); (try clear hi); have hcz101_0 : w100.cell? ⟨gb570, 0, none⟩ = some (.slice Ao89 t564.length co89) := (blk_cell BK570.out 0).trans rfl; have hcz101_1 : w100.cell? ⟨gb570, 1, none⟩ = some (.int .i64 t567) := (blk_cell BK570.out 1).trans rfl; have hcz101_2 : w100.cell? ⟨gb570, 2, none⟩ = some (.int .i64 t568) := (blk_cell BK570.out 2).trans rfl; have hfz101_0 := blk_frozen BK570.out 0; have hfz101_1 := blk_frozen BK570.out 1; have hfz101_2 := blk_frozen BK570.out 2; have hcz102_0 : w100.cell? ⟨gA, 0, none⟩ = some (u537000) := (blk_cell BK536.out 0).trans rfl; have hcz102_1 : w100.cell? ⟨gA, 1, none⟩ = some (.int .i64 x537001_4) := (blk_cell BK536.out 1).trans rfl; have hcz102_2 : w100.cell? ⟨gA, 2, none⟩ = some (.int .i64 x537002_4) := (blk_cell BK536.out 2).trans rfl; have hfz102_0 := blk_frozen BK536.out 0; have hfz102_1 := blk_frozen BK536.out 1; have hfz102_2 := blk_frozen BK536.out 2; obtain ⟨Ao103, co103, eo103⟩ := Kd.R_slice HO_537000.out; subst eo103) | (go_at_call 11; (with_reducible refine (tithebarnref16_Same.calls k2 _ _ t564 t567 t568 _ _ x537000_4 x537001_4 x537002_4 t572 _ ?side1 ?side2 ?side3 ?side4 A85.out).mono ?_); (case side1 => repeat (first | exact (Kd.R_reads' HO566.out).2.2 | (with_reducible refine Kd.C_alloc ?_ _) | (with_reducible refine Kd.C_drewN ?_ _) | (with_reducible refine Kd.C_drew ?_))); (case side2 => exact (Kd.R_reads' HO566.out).2.1); (case side3 => repeat (first | exact (Kd.R_reads' HO_537000.out).2.2 | (with_reducible refine Kd.C_alloc ?_ _) | (with_reducible refine Kd.C_drewN ?_ _) | (with_reducible refine Kd.C_drew ?_))); (case side4 => exact (Kd.R_reads' HO_537000.out).2.1); rintro e w104 ⟨rfl, hb⟩; have n0_ := Aside0.mk (Kd.R_below (by (with_reducible repeat (first | apply Kd.R_alloc | apply Kd.R_drewN | apply Kd.R_drew)); exact HO_6.out) hb); have n1_ := Aside0.mk (Kd.S_below (by (with_reducible repeat (first | apply Kd.S_alloc | apply Kd.S_drewN | apply Kd.S_drew)); exact HO_7.out) hb); have n2_ := Aside0.mk (Kd.R_below (by (with_reducible repeat (first | apply Kd.R_alloc | apply Kd.R_drewN | apply Kd.R_drew)); exact HO_537000.out) hb); have n3_ := Aside0.mk (Kd.R_below (by (with_reducible repeat (first | apply Kd.R_alloc | apply Kd.R_drewN | apply Kd.R_drew)); exact HO_561000.out) hb); have n4_ := Aside0.mk (Kd.R_below (by (with_reducible repeat (first | apply Kd.R_alloc | apply Kd.R_drewN | apply Kd.R_drew)); exact HO_562000.out) hb); have n5_ := Aside0.mk (Kd.R_below (by (with_reducible repeat (first | apply Kd.R_alloc | apply Kd.R_drewN | apply Kd.R_drew)); exact HO566.out) hb); have n6_ := Aside0.mk (blk_below (g := gA) (o := .cells #[.slice Ao103 x537000_4.length co103, .int .i64 x537001_4, .int .i64 x537002_4] 26 (0, 0)) (by (with_reducible repeat (first | refine blk_drewN ?_ _ | refine blk_drew ?_ | refine blk_alloc ?_ _)); exact BK536.out) hb); have n7_ := Aside0.mk (blk_below (g := gC) (o := .cells #[.slice Ao63 t554.length co63, .int .i64 t557, .int .i64 t558] 26 (0, 0)) (by (with_reducible repeat (first | refine blk_drewN ?_ _ | refine blk_drew ?_ | refine blk_alloc ?_ _)); exact BK560.out) hb); have n8_ := Aside0.mk (blk_below (g := gD) (o := .cells #[.slice Ao99 x562000_2.length co99, .int .i64 x562001_2, .int .i64 x562002_2] 26 (0, 0)) (by (with_reducible repeat (first | refine blk_drewN ?_ _ | refine blk_drew ?_ | refine blk_alloc ?_ _)); exact BK561.out) hb); have n9_ := Aside0.mk (blk_below (g := gb570) (o := .cells #[.slice Ao89 t564.length co89, .int .i64 t567, .int .i64 t568] 26 (0, 0)) (by (with_reducible repeat (first | refine blk_drewN ?_ _ | refine blk_drew ?_ | refine blk_alloc ?_ _)); exact BK570.out) hb); have n10_ := Aside0.mk (below_step (by repeat (first | (with_reducible first | exact HB.out | apply below_alloc | apply pw_below_drewN | apply below_drew1 | refine below_set ?_ GE536.out | refine below_set ?_ GE560.out | refine below_set ?_ GE561.out | refine below_set ?_ GE570.out) | exact HB.out)) hb); clear HO_6; clear HO_7; clear HO_537000; clear HO_561000; clear HO_562000; clear HO566; clear BK536; clear BK560; clear BK561; clear BK570; clear HB; have HO_6 := n0_; have HO_7 := n1_; have HO_537000 := n2_; have HO_561000 := n3_; have HO_562000 := n4_; have HO566 := n5_; have BK536 := n6_; have BK560 := n7_; have BK561 := n8_; have BK570 := n9_; have HB := n10_; clear n0_ n1_ n2_ n3_ n4_ n5_ n6_ n7_ n8_ n9_ n10_; (try clear hb); (try clear hb2); (try clear hk); (try clear hi)))
             go_ret
             exact ⟨by first | rfl | (simp [errW_none, errW_some] <;> rfl) | (simp only [← hji57]; first | rfl | (simp [errW_none, errW_some] <;> rfl)) | (simp [*, errW_none, errW_some] <;> rfl), by repeat (first | (with_reducible first | exact HB.out | apply below_alloc | apply pw_below_drewN | apply below_drew1 | refine below_set ?_ GE536.out | refine below_set ?_ GE560.out | refine below_set ?_ GE561.out | refine below_set ?_ GE570.out) | exact HB.out)⟩
            ·rw [if_neg c84] at H
             have c84b0 : (t569 == 0) = false := beq_eq_false_iff_ne.mpr c84
             have c84b1 : (t569 != 0) = true := bne_iff_ne.mpr c84
             obtain rfl := Option.some.inj H
             obtain ⟨Ao105, co105, eo105⟩ := Kd.R_slice HO_6.out
             subst eo105
             go_wp2_with (first | ((with_reducible refine gate_callee (f := 15) rfl ?_); refine goesL_ (some 103) rfl rfl Try.func15 (by kernel_rfl) rfl #[.string x5_4] rfl (by (try simp only [List.map_toArray, List.map_cons, List.map_nil]); first | done | rfl | (simp only [List.length_drop, List.length_take]; rfl) | (go_simp; simp [IntKind.wrap, IntKind.bits, IntKind.signed]; omega)) ?_; (with_reducible refine (manifest_Read.calls k2 x5_4 t564 t567 t568 t569 _ A80.out).mono ?_); rintro e w106 ⟨v565, rfl, ho0, hb⟩; refine ⟨_, rfl, ?_⟩; have n0_ := Aside0.mk (Kd.R_below (by (with_reducible repeat (first | apply Kd.R_alloc | apply Kd.R_drewN | apply Kd.R_drew)); exact HO_6.out) hb); have n1_ := Aside0.mk (Kd.S_elder' (by (with_reducible repeat (first | apply Kd.S_alloc | apply Kd.S_drewN | apply Kd.S_drew)); exact HO_7.out) (Kd.R_base ho0) hb); have n2_ := Aside0.mk (Kd.R_elder' (by (with_reducible repeat (first | apply Kd.R_alloc | apply Kd.R_drewN | apply Kd.R_drew)); exact HO_537000.out) (Kd.R_base ho0) hb); have n3_ := Aside0.mk (Kd.R_elder' (by (with_reducible repeat (first | apply Kd.R_alloc | apply Kd.R_drewN | apply Kd.R_drew)); exact HO_561000.out) (Kd.R_base ho0) hb); have n4_ := Aside0.mk (Kd.R_elder' (by (with_reducible repeat (first | apply Kd.R_alloc | apply Kd.R_drewN | apply Kd.R_drew)); exact HO_562000.out) (Kd.R_base ho0) hb); have n5_ := Aside0.mk (Kd.R_lower (Kd.R_new' (Kd.R_new' (Kd.R_new' ho0 (Kd.R_lt (by (with_reducible repeat (first | apply Kd.R_alloc | apply Kd.R_drewN | apply Kd.R_drew)); exact HO_537000.out))) (Kd.R_lt (by (with_reducible repeat (first | apply Kd.R_alloc | apply Kd.R_drewN | apply Kd.R_drew)); exact HO_561000.out))) (Kd.R_lt (by (with_reducible repeat (first | apply Kd.R_alloc | apply Kd.R_drewN | apply Kd.R_drew)); exact HO_562000.out))) (below_size (by repeat (first | (with_reducible first | exact HB.out | apply below_alloc | apply pw_below_drewN | apply below_drew1 | refine below_set ?_ GE536.out | refine below_set ?_ GE560.out | refine below_set ?_ GE561.out) | exact HB.out)))); have n6_ := Aside0.mk (blk_below (g := gA) (o := .cells #[u537000, .int .i64 x537001_4, .int .i64 x537002_4] 26 (0, 0)) (by (with_reducible repeat (first | refine blk_drewN ?_ _ | refine blk_drew ?_ | refine blk_alloc ?_ _)); exact BK536.out) hb); have n7_ := Aside0.mk (blk_below (g := gC) (o := .cells #[.slice Ao63 t554.length co63, .int .i64 t557, .int .i64 t558] 26 (0, 0)) (by (with_reducible repeat (first | refine blk_drewN ?_ _ | refine blk_drew ?_ | refine blk_alloc ?_ _)); exact BK560.out) hb); have n8_ := Aside0.mk (blk_below (g := gD) (o := .cells #[u562000, .int .i64 x562001_2, .int .i64 x562002_2] 26 (0, 0)) (by (with_reducible repeat (first | refine blk_drewN ?_ _ | refine blk_drew ?_ | refine blk_alloc ?_ _)); exact BK561.out) hb); have n9_ := Aside0.mk (below_step (by repeat (first | (with_reducible first | exact HB.out | apply below_alloc | apply pw_below_drewN | apply below_drew1 | refine below_set ?_ GE536.out | refine below_set ?_ GE560.out | refine below_set ?_ GE561.out) | exact HB.out)) hb); clear HO_6; clear HO_7; clear HO_537000; clear HO_561000; clear HO_562000; clear BK536; clear BK560; clear BK561; clear HB; have HO_6 := n0_; have HO_7 := n1_; have HO_537000 := n2_; have HO_561000 := n3_; have HO_562000 := n4_; have HO566 := n5_; have BK536 := n6_; have BK560 := n7_; have BK561 := n8_; have HB := n9_; clear n0_ n1_ n2_ n3_ n4_ n5_ n6_ n7_ n8_ n9_; (try clear hb); (try clear hb2); (try clear hk); (try clear hi); (try clear ho0)) | ((with_reducible refine gate_dst (N := 19) rfl ?_); refine box_event ?hg (N := 19) ?hd (cs := #[.slice none 0 0, .int .i64 0, .int .i64 0]) (t := 26) ?hr ?_; (case hd => rfl); (case hg => rfl); (case hr => first | (go_simp; done) | (go_simp; rfl)); intro gb570 hg w107 hbox hb; have n0_ := Aside0.mk (Kd.R_below (by (with_reducible repeat (first | apply Kd.R_alloc | apply Kd.R_drewN | apply Kd.R_drew)); exact HO_6.out) hb); have n1_ := Aside0.mk (Kd.S_below (Kd.S_elderB (by (with_reducible repeat (first | apply Kd.S_alloc | apply Kd.S_drewN | apply Kd.S_drew)); exact HO_7.out) gb570 (Nat.le_of_eq hg.symm)) hb); have n2_ := Aside0.mk (Kd.R_below (by (with_reducible repeat (first | apply Kd.R_alloc | apply Kd.R_drewN | apply Kd.R_drew)); exact HO_537000.out) hb); have n3_ := Aside0.mk (Kd.R_below (by (with_reducible repeat (first | apply Kd.R_alloc | apply Kd.R_drewN | apply Kd.R_drew)); exact HO_561000.out) hb); have n4_ := Aside0.mk (Kd.R_below (by (with_reducible repeat (first | apply Kd.R_alloc | apply Kd.R_drewN | apply Kd.R_drew)); exact HO_562000.out) hb); have n5_ := Aside0.mk (Kd.R_below (by (with_reducible repeat (first | apply Kd.R_alloc | apply Kd.R_drewN | apply Kd.R_drew)); exact HO566.out) hb); have n6_ := Aside0.mk (blk_below (g := gA) (o := .cells #[u537000, .int .i64 x537001_4, .int .i64 x537002_4] 26 (0, 0)) (by (with_reducible repeat (first | refine blk_drewN ?_ _ | refine blk_drew ?_ | refine blk_alloc ?_ _)); exact BK536.out) hb); have n7_ := Aside0.mk (blk_below (g := gC) (o := .cells #[.slice Ao63 t554.length co63, .int .i64 t557, .int .i64 t558] 26 (0, 0)) (by (with_reducible repeat (first | refine blk_drewN ?_ _ | refine blk_drew ?_ | refine blk_alloc ?_ _)); exact BK560.out) hb); have n8_ := Aside0.mk (blk_below (g := gD) (o := .cells #[u562000, .int .i64 x562001_2, .int .i64 x562002_2] 26 (0, 0)) (by (with_reducible repeat (first | refine blk_drewN ?_ _ | refine blk_drew ?_ | refine blk_alloc ?_ _)); exact BK561.out) hb); have n9_ := Aside0.mk (below_step (by repeat (first | (with_reducible first | exact HB.out | apply below_alloc | apply pw_below_drewN | apply below_drew1 | refine below_set ?_ GE536.out | refine below_set ?_ GE560.out | refine below_set ?_ GE561.out) | exact HB.out)) hb); have n10_ := Aside0.mk (hbox); have n11_ := Aside0.mk ((by rw [hg]; exact (below_size (by repeat (first | (with_reducible first | exact HB.out | apply below_alloc | apply pw_below_drewN | apply below_drew1 | refine below_set ?_ GE536.out | refine below_set ?_ GE560.out | refine below_set ?_ GE561.out) | exact HB.out))) : w.heap.size ≤ gb570)); have n12_ := Aside0.mk ((by rw [hg]; exact (below_size (by repeat (first | (with_reducible first | exact HB.out | apply below_alloc | apply pw_below_drewN | apply below_drew1 | refine below_set ?_ GE536.out | refine below_set ?_ GE560.out | refine below_set ?_ GE561.out) | exact HB.out))) : w.heap.size ≤ gb570)); have n13_ := Aside0.mk ((by rw [hg]; exact Nat.ne_of_lt (blk_lt (g := gA) (o := .cells #[u537000, .int .i64 x537001_4, .int .i64 x537002_4] 26 (0, 0)) (by (with_reducible repeat (first | refine blk_drewN ?_ _ | refine blk_drew ?_ | refine blk_alloc ?_ _)); exact BK536.out)) : gA ≠ gb570)); have n14_ := Aside0.mk ((by rw [hg]; exact Nat.ne_of_gt (blk_lt (g := gA) (o := .cells #[u537000, .int .i64 x537001_4, .int .i64 x537002_4] 26 (0, 0)) (by (with_reducible repeat (first | refine blk_drewN ?_ _ | refine blk_drew ?_ | refine blk_alloc ?_ _)); exact BK536.out)) : gb570 ≠ gA)); have n15_ := Aside0.mk ((by rw [hg]; exact Nat.ne_of_lt (blk_lt (g := gC) (o := .cells #[.slice Ao63 t554.length co63, .int .i64 t557, .int .i64 t558] 26 (0, 0)) (by (with_reducible repeat (first | refine blk_drewN ?_ _ | refine blk_drew ?_ | refine blk_alloc ?_ _)); exact BK560.out)) : gC ≠ gb570)); have n16_ := Aside0.mk ((by rw [hg]; exact Nat.ne_of_gt (blk_lt (g := gC) (o := .cells #[.slice Ao63 t554.length co63, .int .i64 t557, .int .i64 t558] 26 (0, 0)) (by (with_reducible repeat (first | refine blk_drewN ?_ _ | refine blk_drew ?_ | refine blk_alloc ?_ _)); exact BK560.out)) : gb570 ≠ gC)); have n17_ := Aside0.mk ((by rw [hg]; exact Nat.ne_of_lt (blk_lt (g := gD) (o := .cells #[u562000, .int .i64 x562001_2, .int .i64 x562002_2] 26 (0, 0)) (by (with_reducible repeat (first | refine blk_drewN ?_ _ | refine blk_drew ?_ | refine blk_alloc ?_ _)); exact BK561.out)) : gD ≠ gb570)); have n18_ := Aside0.mk ((by rw [hg]; exact Nat.ne_of_gt (blk_lt (g := gD) (o := .cells #[u562000, .int .i64 x562001_2, .int .i64 x562002_2] 26 (0, 0)) (by (with_reducible repeat (first | refine blk_drewN ?_ _ | refine blk_drew ?_ | refine blk_alloc ?_ _)); exact BK561.out)) : gb570 ≠ gD)); clear HO_6; clear HO_7; clear HO_537000; clear HO_561000; clear HO_562000; clear HO566; clear BK536; clear BK560; clear BK561; clear HB; have HO_6 := n0_; have HO_7 := n1_; have HO_537000 := n2_; have HO_561000 := n3_; have HO_562000 := n4_; have HO566 := n5_; have BK536 := n6_; have BK560 := n7_; have BK561 := n8_; have HB := n9_; have BK570 := n10_; have GW570 := n11_; have GE570 := n12_; have NB536_570 := n13_; have NB570_536 := n14_; have NB560_570 := n15_; have NB570_560 := n16_; have NB561_570 := n17_; have NB570_561 := n18_; clear n0_ n1_ n2_ n3_ n4_ n5_ n6_ n7_ n8_ n9_ n10_ n11_ n12_ n13_ n14_ n15_ n16_ n17_ n18_; clear hb hbox hg; obtain ⟨Ao108, co108, eo108⟩ := Kd.R_slice HO566.out; subst eo108; have hnb109 := NB570_536.out; have hnc109 := NB536_570.out; have hnb110 := NB570_560.out; have hnc110 := NB560_570.out; have hnb111 := NB570_561.out; have hnc111 := NB561_570.out; have hcz112_0 : w107.cell? ⟨gb570, 0, none⟩ = some (.slice none 0 0) := (blk_cell BK570.out 0).trans rfl; have hcz112_1 : w107.cell? ⟨gb570, 1, none⟩ = some (.int .i64 0) := (blk_cell BK570.out 1).trans rfl; have hcz112_2 : w107.cell? ⟨gb570, 2, none⟩ = some (.int .i64 0) := (blk_cell BK570.out 2).trans rfl; have hfz112_0 := blk_frozen BK570.out 0; have hfz112_1 := blk_frozen BK570.out 1; have hfz112_2 := blk_frozen BK570.out 2; have hnb113 := NB560_536.out; have hnc113 := NB536_560.out; have hnb114 := NB560_561.out; have hnc114 := NB561_560.out; have hcz115_0 : w107.cell? ⟨gC, 0, none⟩ = some (.slice Ao63 t554.length co63) := (blk_cell BK560.out 0).trans rfl; have hcz115_1 : w107.cell? ⟨gC, 1, none⟩ = some (.int .i64 t557) := (blk_cell BK560.out 1).trans rfl; have hcz115_2 : w107.cell? ⟨gC, 2, none⟩ = some (.int .i64 t558) := (blk_cell BK560.out 2).trans rfl; have hfz115_0 := blk_frozen BK560.out 0; have hfz115_1 := blk_frozen BK560.out 1; have hfz115_2 := blk_frozen BK560.out 2; have hnb116 := NB561_536.out; have hnc116 := NB536_561.out; have hcz117_0 : w107.cell? ⟨gD, 0, none⟩ = some (u562000) := (blk_cell BK561.out 0).trans rfl; have hcz117_1 : w107.cell? ⟨gD, 1, none⟩ = some (.int .i64 x562001_2) := (blk_cell BK561.out 1).trans rfl; have hcz117_2 : w107.cell? ⟨gD, 2, none⟩ = some (.int .i64 x562002_2) := (blk_cell BK561.out 2).trans rfl; have hfz117_0 := blk_frozen BK561.out 0; have hfz117_1 := blk_frozen BK561.out 1; have hfz117_2 := blk_frozen BK561.out 2; obtain ⟨Ao118, co118, eo118⟩ := Kd.R_slice HO_562000.out; subst eo118) | (go_at_call 11; (with_reducible refine (tithebarnref16_Same.calls k2 _ _ t554 t557 t558 _ _ x562000_2 x562001_2 x562002_2 true _ ?side1 ?side2 ?side3 ?side4 A82.out).mono ?_); (case side1 => refine (Kd.R_reads' (e := 36) (base := w.heap.size) (ok := fun k_ => ((True ∧ True) ∧ some k_ ≠ (.slice Ao108 t564.length co108 : Value).ownBlock)) (n := t554.length) (c := co63) ?_).2.2; exact (by (with_reducible repeat (first | apply Kd.R_alloc | apply Kd.R_drewN | apply Kd.R_drew)); exact (Kd.R_mono (Kd.R_far (p := ⟨gb570, 2, none⟩) (Kd.R_far (p := ⟨gb570, 1, none⟩) (Kd.R_far (p := ⟨gb570, 0, none⟩) (Kd.R_types HO_561000.out BK570.out (by decide)) (fun _ hk => hk.2) (.slice Ao108 t564.length co108)) (fun _ hk => hk.2) (.int .i64 t567)) (fun _ hk => hk.2) (.int .i64 t568)) (fun _ h_ => h_.1)))); (case side2 => exact (Kd.R_reads' HO_561000.out).2.1); (case side3 => refine (Kd.R_reads' (e := 36) (base := w.heap.size) (ok := fun k_ => ((True ∧ some k_ ≠ (.slice Ao63 t554.length co63 : Value).ownBlock) ∧ some k_ ≠ (.slice Ao108 t564.length co108 : Value).ownBlock)) (n := x562000_2.length) (c := co118) ?_).2.2; exact (by (with_reducible repeat (first | apply Kd.R_alloc | apply Kd.R_drewN | apply Kd.R_drew)); exact (Kd.R_mono (Kd.R_far (p := ⟨gb570, 2, none⟩) (Kd.R_far (p := ⟨gb570, 1, none⟩) (Kd.R_far (p := ⟨gb570, 0, none⟩) (Kd.R_types HO_562000.out BK570.out (by decide)) (fun _ hk => hk.2) (.slice Ao108 t564.length co108)) (fun _ hk => hk.2) (.int .i64 t567)) (fun _ hk => hk.2) (.int .i64 t568)) (fun _ h_ => h_.1)))); (case side4 => exact (Kd.R_reads' HO_562000.out).2.1); rintro e w119 ⟨rfl, hb⟩; have n0_ := Aside0.mk (Kd.R_below (by (with_reducible repeat (first | apply Kd.R_alloc | apply Kd.R_drewN | apply Kd.R_drew)); exact (Kd.R_mono (Kd.R_far (p := ⟨gb570, 2, none⟩) (Kd.R_far (p := ⟨gb570, 1, none⟩) (Kd.R_far (p := ⟨gb570, 0, none⟩) (Kd.R_types HO_6.out BK570.out (by decide)) (fun _ hk => hk.2) (.slice Ao108 t564.length co108)) (fun _ hk => hk.2) (.int .i64 t567)) (fun _ hk => hk.2) (.int .i64 t568)) (fun _ h_ => h_.1))) hb); have n1_ := Aside0.mk (Kd.S_below (by (with_reducible repeat (first | apply Kd.S_alloc | apply Kd.S_drewN | apply Kd.S_drew)); exact (Kd.S_mono (Kd.S_far (p := ⟨gb570, 2, none⟩) (Kd.S_far (p := ⟨gb570, 1, none⟩) (Kd.S_far (p := ⟨gb570, 0, none⟩) (Kd.S_mono HO_7.out (fun k_ hk => (⟨hk, hk.2⟩ : _ ∧ k_ ≠ gb570))) (fun _ hk => hk.2) (.slice Ao108 t564.length co108)) (fun _ hk => hk.2) (.int .i64 t567)) (fun _ hk => hk.2) (.int .i64 t568)) (fun _ h_ => h_.1))) hb); have n2_ := Aside0.mk (Kd.R_below (by (with_reducible repeat (first | apply Kd.R_alloc | apply Kd.R_drewN | apply Kd.R_drew)); exact (Kd.R_mono (Kd.R_far (p := ⟨gb570, 2, none⟩) (Kd.R_far (p := ⟨gb570, 1, none⟩) (Kd.R_far (p := ⟨gb570, 0, none⟩) (Kd.R_types HO_537000.out BK570.out (by decide)) (fun _ hk => hk.2) (.slice Ao108 t564.length co108)) (fun _ hk => hk.2) (.int .i64 t567)) (fun _ hk => hk.2) (.int .i64 t568)) (fun _ h_ => h_.1))) hb); have n3_ := Aside0.mk (Kd.R_below (by (with_reducible repeat (first | apply Kd.R_alloc | apply Kd.R_drewN | apply Kd.R_drew)); exact (Kd.R_mono (Kd.R_far (p := ⟨gb570, 2, none⟩) (Kd.R_far (p := ⟨gb570, 1, none⟩) (Kd.R_far (p := ⟨gb570, 0, none⟩) (Kd.R_types HO_561000.out BK570.out (by decide)) (fun _ hk => hk.2) (.slice Ao108 t564.length co108)) (fun _ hk => hk.2) (.int .i64 t567)) (fun _ hk => hk.2) (.int .i64 t568)) (fun _ h_ => h_.1))) hb); have n4_ := Aside0.mk (Kd.R_below (by (with_reducible repeat (first | apply Kd.R_alloc | apply Kd.R_drewN | apply Kd.R_drew)); exact (Kd.R_mono (Kd.R_far (p := ⟨gb570, 2, none⟩) (Kd.R_far (p := ⟨gb570, 1, none⟩) (Kd.R_far (p := ⟨gb570, 0, none⟩) (Kd.R_types HO_562000.out BK570.out (by decide)) (fun _ hk => hk.2) (.slice Ao108 t564.length co108)) (fun _ hk => hk.2) (.int .i64 t567)) (fun _ hk => hk.2) (.int .i64 t568)) (fun _ h_ => h_.1))) hb); have n5_ := Aside0.mk (Kd.R_below (by (with_reducible repeat (first | apply Kd.R_alloc | apply Kd.R_drewN | apply Kd.R_drew)); exact (Kd.R_mono (Kd.R_far (p := ⟨gb570, 2, none⟩) (Kd.R_far (p := ⟨gb570, 1, none⟩) (Kd.R_far (p := ⟨gb570, 0, none⟩) (Kd.R_types HO566.out BK570.out (by decide)) (fun _ hk => hk.2) (.slice Ao108 t564.length co108)) (fun _ hk => hk.2) (.int .i64 t567)) (fun _ hk => hk.2) (.int .i64 t568)) (fun _ h_ => h_.1))) hb); have n6_ := Aside0.mk (blk_below (g := gA) (o := .cells #[u537000, .int .i64 x537001_4, .int .i64 x537002_4] 26 (0, 0)) (by (with_reducible repeat (first | refine blk_drewN ?_ _ | refine blk_drew ?_ | refine blk_alloc ?_ _)); refine blk_far ?_ NB536_570.out _; (with_reducible repeat (first | refine blk_drewN ?_ _ | refine blk_drew ?_ | refine blk_alloc ?_ _)); refine blk_far ?_ NB536_570.out _; (with_reducible repeat (first | refine blk_drewN ?_ _ | refine blk_drew ?_ | refine blk_alloc ?_ _)); refine blk_far ?_ NB536_570.out _; (with_reducible repeat (first | refine blk_drewN ?_ _ | refine blk_drew ?_ | refine blk_alloc ?_ _)); exact BK536.out) hb); have n7_ := Aside0.mk (blk_below (g := gC) (o := .cells #[.slice Ao63 t554.length co63, .int .i64 t557, .int .i64 t558] 26 (0, 0)) (by (with_reducible repeat (first | refine blk_drewN ?_ _ | refine blk_drew ?_ | refine blk_alloc ?_ _)); refine blk_far ?_ NB560_570.out _; (with_reducible repeat (first | refine blk_drewN ?_ _ | refine blk_drew ?_ | refine blk_alloc ?_ _)); refine blk_far ?_ NB560_570.out _; (with_reducible repeat (first | refine blk_drewN ?_ _ | refine blk_drew ?_ | refine blk_alloc ?_ _)); refine blk_far ?_ NB560_570.out _; (with_reducible repeat (first | refine blk_drewN ?_ _ | refine blk_drew ?_ | refine blk_alloc ?_ _)); exact BK560.out) hb); have n8_ := Aside0.mk (blk_below (g := gD) (o := .cells #[.slice Ao118 x562000_2.length co118, .int .i64 x562001_2, .int .i64 x562002_2] 26 (0, 0)) (by (with_reducible repeat (first | refine blk_drewN ?_ _ | refine blk_drew ?_ | refine blk_alloc ?_ _)); refine blk_far ?_ NB561_570.out _; (with_reducible repeat (first | refine blk_drewN ?_ _ | refine blk_drew ?_ | refine blk_alloc ?_ _)); refine blk_far ?_ NB561_570.out _; (with_reducible repeat (first | refine blk_drewN ?_ _ | refine blk_drew ?_ | refine blk_alloc ?_ _)); refine blk_far ?_ NB561_570.out _; (with_reducible repeat (first | refine blk_drewN ?_ _ | refine blk_drew ?_ | refine blk_alloc ?_ _)); exact BK561.out) hb); have n9_ := Aside0.mk (blk_below (g := gb570) (o := .cells #[.slice Ao108 t564.length co108, .int .i64 t567, .int .i64 t568] 26 (0, 0)) (by (with_reducible repeat (first | refine blk_drewN ?_ _ | refine blk_drew ?_ | refine blk_alloc ?_ _)); refine blk_put (cs := #[.slice Ao108 t564.length co108, .int .i64 t567, .int .i64 0]) ?_ 2 _ rfl; (with_reducible repeat (first | refine blk_drewN ?_ _ | refine blk_drew ?_ | refine blk_alloc ?_ _)); refine blk_put (cs := #[.slice Ao108 t564.length co108, .int .i64 0, .int .i64 0]) ?_ 1 _ rfl; (with_reducible repeat (first | refine blk_drewN ?_ _ | refine blk_drew ?_ | refine blk_alloc ?_ _)); refine blk_put (cs := #[.slice none 0 0, .int .i64 0, .int .i64 0]) ?_ 0 _ rfl; (with_reducible repeat (first | refine blk_drewN ?_ _ | refine blk_drew ?_ | refine blk_alloc ?_ _)); exact BK570.out) hb); have n10_ := Aside0.mk (below_step (by repeat (first | (with_reducible first | exact HB.out | apply below_alloc | apply pw_below_drewN | apply below_drew1 | refine below_set ?_ GE536.out | refine below_set ?_ GE560.out | refine below_set ?_ GE561.out | refine below_set ?_ GE570.out) | exact HB.out)) hb); clear HO_6; clear HO_7; clear HO_537000; clear HO_561000; clear HO_562000; clear HO566; clear BK536; clear BK560; clear BK561; clear BK570; clear HB; have HO_6 := n0_; have HO_7 := n1_; have HO_537000 := n2_; have HO_561000 := n3_; have HO_562000 := n4_; have HO566 := n5_; have BK536 := n6_; have BK560 := n7_; have BK561 := n8_; have BK570 := n9_; have HB := n10_; clear n0_ n1_ n2_ n3_ n4_ n5_ n6_ n7_ n8_ n9_ n10_; (try clear hb); (try clear hb2); (try clear hk); (try clear hi)))
             go_ret
             exact ⟨by first | rfl | (simp [errW_none, errW_some] <;> rfl) | (simp only [← hji57]; first | rfl | (simp [errW_none, errW_some] <;> rfl)) | (simp [*, errW_none, errW_some] <;> rfl), by repeat (first | (with_reducible first | exact HB.out | apply below_alloc | apply pw_below_drewN | apply below_drew1 | refine below_set ?_ GE536.out | refine below_set ?_ GE560.out | refine below_set ?_ GE561.out | refine below_set ?_ GE570.out) | exact HB.out)⟩
           ·replace c83 := Bool.eq_false_iff.mpr c83
            subst c83
            have H1 : (some false) = some r := by rw [if_neg (show ¬ (false = true) by decide)] at H; exact H
            clear H
            have H := H1
            clear H1
            obtain rfl := Option.some.inj H
            obtain ⟨Ao120, co120, eo120⟩ := Kd.R_slice HO_6.out
            subst eo120
            go_wp2_with (first | ((with_reducible refine gate_callee (f := 15) rfl ?_); refine goesL_ (some 103) rfl rfl Try.func15 (by kernel_rfl) rfl #[.string x5_4] rfl (by (try simp only [List.map_toArray, List.map_cons, List.map_nil]); first | done | rfl | (simp only [List.length_drop, List.length_take]; rfl) | (go_simp; simp [IntKind.wrap, IntKind.bits, IntKind.signed]; omega)) ?_; (with_reducible refine (manifest_Read.calls k2 x5_4 t564 t567 t568 t569 _ A80.out).mono ?_); rintro e w121 ⟨v565, rfl, ho0, hb⟩; refine ⟨_, rfl, ?_⟩; have n0_ := Aside0.mk (Kd.R_below (by (with_reducible repeat (first | apply Kd.R_alloc | apply Kd.R_drewN | apply Kd.R_drew)); exact HO_6.out) hb); have n1_ := Aside0.mk (Kd.S_elder' (by (with_reducible repeat (first | apply Kd.S_alloc | apply Kd.S_drewN | apply Kd.S_drew)); exact HO_7.out) (Kd.R_base ho0) hb); have n2_ := Aside0.mk (Kd.R_elder' (by (with_reducible repeat (first | apply Kd.R_alloc | apply Kd.R_drewN | apply Kd.R_drew)); exact HO_537000.out) (Kd.R_base ho0) hb); have n3_ := Aside0.mk (Kd.R_elder' (by (with_reducible repeat (first | apply Kd.R_alloc | apply Kd.R_drewN | apply Kd.R_drew)); exact HO_561000.out) (Kd.R_base ho0) hb); have n4_ := Aside0.mk (Kd.R_elder' (by (with_reducible repeat (first | apply Kd.R_alloc | apply Kd.R_drewN | apply Kd.R_drew)); exact HO_562000.out) (Kd.R_base ho0) hb); have n5_ := Aside0.mk (Kd.R_lower (Kd.R_new' (Kd.R_new' (Kd.R_new' ho0 (Kd.R_lt (by (with_reducible repeat (first | apply Kd.R_alloc | apply Kd.R_drewN | apply Kd.R_drew)); exact HO_537000.out))) (Kd.R_lt (by (with_reducible repeat (first | apply Kd.R_alloc | apply Kd.R_drewN | apply Kd.R_drew)); exact HO_561000.out))) (Kd.R_lt (by (with_reducible repeat (first | apply Kd.R_alloc | apply Kd.R_drewN | apply Kd.R_drew)); exact HO_562000.out))) (below_size (by repeat (first | (with_reducible first | exact HB.out | apply below_alloc | apply pw_below_drewN | apply below_drew1 | refine below_set ?_ GE536.out | refine below_set ?_ GE560.out | refine below_set ?_ GE561.out) | exact HB.out)))); have n6_ := Aside0.mk (blk_below (g := gA) (o := .cells #[u537000, .int .i64 x537001_4, .int .i64 x537002_4] 26 (0, 0)) (by (with_reducible repeat (first | refine blk_drewN ?_ _ | refine blk_drew ?_ | refine blk_alloc ?_ _)); exact BK536.out) hb); have n7_ := Aside0.mk (blk_below (g := gC) (o := .cells #[.slice Ao63 t554.length co63, .int .i64 t557, .int .i64 t558] 26 (0, 0)) (by (with_reducible repeat (first | refine blk_drewN ?_ _ | refine blk_drew ?_ | refine blk_alloc ?_ _)); exact BK560.out) hb); have n8_ := Aside0.mk (blk_below (g := gD) (o := .cells #[u562000, .int .i64 x562001_2, .int .i64 x562002_2] 26 (0, 0)) (by (with_reducible repeat (first | refine blk_drewN ?_ _ | refine blk_drew ?_ | refine blk_alloc ?_ _)); exact BK561.out) hb); have n9_ := Aside0.mk (below_step (by repeat (first | (with_reducible first | exact HB.out | apply below_alloc | apply pw_below_drewN | apply below_drew1 | refine below_set ?_ GE536.out | refine below_set ?_ GE560.out | refine below_set ?_ GE561.out) | exact HB.out)) hb); clear HO_6; clear HO_7; clear HO_537000; clear HO_561000; clear HO_562000; clear BK536; clear BK560; clear BK561; clear HB; have HO_6 := n0_; have HO_7 := n1_; have HO_537000 := n2_; have HO_561000 := n3_; have HO_562000 := n4_; have HO566 := n5_; have BK536 := n6_; have BK560 := n7_; have BK561 := n8_; have HB := n9_; clear n0_ n1_ n2_ n3_ n4_ n5_ n6_ n7_ n8_ n9_; (try clear hb); (try clear hb2); (try clear hk); (try clear hi); (try clear ho0)) | ((with_reducible refine gate_dst (N := 19) rfl ?_); refine box_event ?hg (N := 19) ?hd (cs := #[.slice none 0 0, .int .i64 0, .int .i64 0]) (t := 26) ?hr ?_; (case hd => rfl); (case hg => rfl); (case hr => first | (go_simp; done) | (go_simp; rfl)); intro gb570 hg w122 hbox hb; have n0_ := Aside0.mk (Kd.R_below (by (with_reducible repeat (first | apply Kd.R_alloc | apply Kd.R_drewN | apply Kd.R_drew)); exact HO_6.out) hb); have n1_ := Aside0.mk (Kd.S_below (Kd.S_elderB (by (with_reducible repeat (first | apply Kd.S_alloc | apply Kd.S_drewN | apply Kd.S_drew)); exact HO_7.out) gb570 (Nat.le_of_eq hg.symm)) hb); have n2_ := Aside0.mk (Kd.R_below (by (with_reducible repeat (first | apply Kd.R_alloc | apply Kd.R_drewN | apply Kd.R_drew)); exact HO_537000.out) hb); have n3_ := Aside0.mk (Kd.R_below (by (with_reducible repeat (first | apply Kd.R_alloc | apply Kd.R_drewN | apply Kd.R_drew)); exact HO_561000.out) hb); have n4_ := Aside0.mk (Kd.R_below (by (with_reducible repeat (first | apply Kd.R_alloc | apply Kd.R_drewN | apply Kd.R_drew)); exact HO_562000.out) hb); have n5_ := Aside0.mk (Kd.R_below (by (with_reducible repeat (first | apply Kd.R_alloc | apply Kd.R_drewN | apply Kd.R_drew)); exact HO566.out) hb); have n6_ := Aside0.mk (blk_below (g := gA) (o := .cells #[u537000, .int .i64 x537001_4, .int .i64 x537002_4] 26 (0, 0)) (by (with_reducible repeat (first | refine blk_drewN ?_ _ | refine blk_drew ?_ | refine blk_alloc ?_ _)); exact BK536.out) hb); have n7_ := Aside0.mk (blk_below (g := gC) (o := .cells #[.slice Ao63 t554.length co63, .int .i64 t557, .int .i64 t558] 26 (0, 0)) (by (with_reducible repeat (first | refine blk_drewN ?_ _ | refine blk_drew ?_ | refine blk_alloc ?_ _)); exact BK560.out) hb); have n8_ := Aside0.mk (blk_below (g := gD) (o := .cells #[u562000, .int .i64 x562001_2, .int .i64 x562002_2] 26 (0, 0)) (by (with_reducible repeat (first | refine blk_drewN ?_ _ | refine blk_drew ?_ | refine blk_alloc ?_ _)); exact BK561.out) hb); have n9_ := Aside0.mk (below_step (by repeat (first | (with_reducible first | exact HB.out | apply below_alloc | apply pw_below_drewN | apply below_drew1 | refine below_set ?_ GE536.out | refine below_set ?_ GE560.out | refine below_set ?_ GE561.out) | exact HB.out)) hb); have n10_ := Aside0.mk (hbox); have n11_ := Aside0.mk ((by rw [hg]; exact (below_size (by repeat (first | (with_reducible first | exact HB.out | apply below_alloc | apply pw_below_drewN | apply below_drew1 | refine below_set ?_ GE536.out | refine below_set ?_ GE560.out | refine below_set ?_ GE561.out) | exact HB.out))) : w.heap.size ≤ gb570)); have n12_ := Aside0.mk ((by rw [hg]; exact (below_size (by repeat (first | (with_reducible first | exact HB.out | apply below_alloc | apply pw_below_drewN | apply below_drew1 | refine below_set ?_ GE536.out | refine below_set ?_ GE560.out | refine below_set ?_ GE561.out) | exact HB.out))) : w.heap.size ≤ gb570)); have n13_ := Aside0.mk ((by rw [hg]; exact Nat.ne_of_lt (blk_lt (g := gA) (o := .cells #[u537000, .int .i64 x537001_4, .int .i64 x537002_4] 26 (0, 0)) (by (with_reducible repeat (first | refine blk_drewN ?_ _ | refine blk_drew ?_ | refine blk_alloc ?_ _)); exact BK536.out)) : gA ≠ gb570)); have n14_ := Aside0.mk ((by rw [hg]; exact Nat.ne_of_gt (blk_lt (g := gA) (o := .cells #[u537000, .int .i64 x537001_4, .int .i64 x537002_4] 26 (0, 0)) (by (with_reducible repeat (first | refine blk_drewN ?_ _ | refine blk_drew ?_ | refine blk_alloc ?_ _)); exact BK536.out)) : gb570 ≠ gA)); have n15_ := Aside0.mk ((by rw [hg]; exact Nat.ne_of_lt (blk_lt (g := gC) (o := .cells #[.slice Ao63 t554.length co63, .int .i64 t557, .int .i64 t558] 26 (0, 0)) (by (with_reducible repeat (first | refine blk_drewN ?_ _ | refine blk_drew ?_ | refine blk_alloc ?_ _)); exact BK560.out)) : gC ≠ gb570)); have n16_ := Aside0.mk ((by rw [hg]; exact Nat.ne_of_gt (blk_lt (g := gC) (o := .cells #[.slice Ao63 t554.length co63, .int .i64 t557, .int .i64 t558] 26 (0, 0)) (by (with_reducible repeat (first | refine blk_drewN ?_ _ | refine blk_drew ?_ | refine blk_alloc ?_ _)); exact BK560.out)) : gb570 ≠ gC)); have n17_ := Aside0.mk ((by rw [hg]; exact Nat.ne_of_lt (blk_lt (g := gD) (o := .cells #[u562000, .int .i64 x562001_2, .int .i64 x562002_2] 26 (0, 0)) (by (with_reducible repeat (first | refine blk_drewN ?_ _ | refine blk_drew ?_ | refine blk_alloc ?_ _)); exact BK561.out)) : gD ≠ gb570)); have n18_ := Aside0.mk ((by rw [hg]; exact Nat.ne_of_gt (blk_lt (g := gD) (o := .cells #[u562000, .int .i64 x562001_2, .int .i64 x562002_2] 26 (0, 0)) (by (with_reducible repeat (first | refine blk_drewN ?_ _ | refine blk_drew ?_ | refine blk_alloc ?_ _)); exact BK561.out)) : gb570 ≠ gD)); clear HO_6; clear HO_7; clear HO_537000; clear HO_561000; clear HO_562000; clear HO566; clear BK536; clear BK560; clear BK561; clear HB; have HO_6 := n0_; have HO_7 := n1_; have HO_537000 := n2_; have HO_561000 := n3_; have HO_562000 := n4_; have HO566 := n5_; have BK536 := n6_; have BK560 := n7_; have BK561 := n8_; have HB := n9_; have BK570 := n10_; have GW570 := n11_; have GE570 := n12_; have NB536_570 := n13_; have NB570_536 := n14_; have NB560_570 := n15_; have NB570_560 := n16_; have NB561_570 := n17_; have NB570_561 := n18_; clear n0_ n1_ n2_ n3_ n4_ n5_ n6_ n7_ n8_ n9_ n10_ n11_ n12_ n13_ n14_ n15_ n16_ n17_ n18_; clear hb hbox hg; obtain ⟨Ao123, co123, eo123⟩ := Kd.R_slice HO566.out; subst eo123; have hnb124 := NB570_536.out; have hnc124 := NB536_570.out; have hnb125 := NB570_560.out; have hnc125 := NB560_570.out; have hnb126 := NB570_561.out; have hnc126 := NB561_570.out; have hcz127_0 : w122.cell? ⟨gb570, 0, none⟩ = some (.slice none 0 0) := (blk_cell BK570.out 0).trans rfl; have hcz127_1 : w122.cell? ⟨gb570, 1, none⟩ = some (.int .i64 0) := (blk_cell BK570.out 1).trans rfl; have hcz127_2 : w122.cell? ⟨gb570, 2, none⟩ = some (.int .i64 0) := (blk_cell BK570.out 2).trans rfl; have hfz127_0 := blk_frozen BK570.out 0; have hfz127_1 := blk_frozen BK570.out 1; have hfz127_2 := blk_frozen BK570.out 2; have hnb128 := NB560_536.out; have hnc128 := NB536_560.out; have hnb129 := NB560_561.out; have hnc129 := NB561_560.out; have hcz130_0 : w122.cell? ⟨gC, 0, none⟩ = some (.slice Ao63 t554.length co63) := (blk_cell BK560.out 0).trans rfl; have hcz130_1 : w122.cell? ⟨gC, 1, none⟩ = some (.int .i64 t557) := (blk_cell BK560.out 1).trans rfl; have hcz130_2 : w122.cell? ⟨gC, 2, none⟩ = some (.int .i64 t558) := (blk_cell BK560.out 2).trans rfl; have hfz130_0 := blk_frozen BK560.out 0; have hfz130_1 := blk_frozen BK560.out 1; have hfz130_2 := blk_frozen BK560.out 2; have hnb131 := NB561_536.out; have hnc131 := NB536_561.out; have hcz132_0 : w122.cell? ⟨gD, 0, none⟩ = some (u562000) := (blk_cell BK561.out 0).trans rfl; have hcz132_1 : w122.cell? ⟨gD, 1, none⟩ = some (.int .i64 x562001_2) := (blk_cell BK561.out 1).trans rfl; have hcz132_2 : w122.cell? ⟨gD, 2, none⟩ = some (.int .i64 x562002_2) := (blk_cell BK561.out 2).trans rfl; have hfz132_0 := blk_frozen BK561.out 0; have hfz132_1 := blk_frozen BK561.out 1; have hfz132_2 := blk_frozen BK561.out 2; obtain ⟨Ao133, co133, eo133⟩ := Kd.R_slice HO_562000.out; subst eo133) | (go_at_call 11; (with_reducible refine (tithebarnref16_Same.calls k2 _ _ t554 t557 t558 _ _ x562000_2 x562001_2 x562002_2 false _ ?side1 ?side2 ?side3 ?side4 A82.out).mono ?_); (case side1 => refine (Kd.R_reads' (e := 36) (base := w.heap.size) (ok := fun k_ => ((True ∧ True) ∧ some k_ ≠ (.slice Ao123 t564.length co123 : Value).ownBlock)) (n := t554.length) (c := co63) ?_).2.2; exact (by (with_reducible repeat (first | apply Kd.R_alloc | apply Kd.R_drewN | apply Kd.R_drew)); exact (Kd.R_mono (Kd.R_far (p := ⟨gb570, 2, none⟩) (Kd.R_far (p := ⟨gb570, 1, none⟩) (Kd.R_far (p := ⟨gb570, 0, none⟩) (Kd.R_types HO_561000.out BK570.out (by decide)) (fun _ hk => hk.2) (.slice Ao123 t564.length co123)) (fun _ hk => hk.2) (.int .i64 t567)) (fun _ hk => hk.2) (.int .i64 t568)) (fun _ h_ => h_.1)))); (case side2 => exact (Kd.R_reads' HO_561000.out).2.1); (case side3 => refine (Kd.R_reads' (e := 36) (base := w.heap.size) (ok := fun k_ => ((True ∧ some k_ ≠ (.slice Ao63 t554.length co63 : Value).ownBlock) ∧ some k_ ≠ (.slice Ao123 t564.length co123 : Value).ownBlock)) (n := x562000_2.length) (c := co133) ?_).2.2; exact (by (with_reducible repeat (first | apply Kd.R_alloc | apply Kd.R_drewN | apply Kd.R_drew)); exact (Kd.R_mono (Kd.R_far (p := ⟨gb570, 2, none⟩) (Kd.R_far (p := ⟨gb570, 1, none⟩) (Kd.R_far (p := ⟨gb570, 0, none⟩) (Kd.R_types HO_562000.out BK570.out (by decide)) (fun _ hk => hk.2) (.slice Ao123 t564.length co123)) (fun _ hk => hk.2) (.int .i64 t567)) (fun _ hk => hk.2) (.int .i64 t568)) (fun _ h_ => h_.1)))); (case side4 => exact (Kd.R_reads' HO_562000.out).2.1); rintro e w134 ⟨rfl, hb⟩; have n0_ := Aside0.mk (Kd.R_below (by (with_reducible repeat (first | apply Kd.R_alloc | apply Kd.R_drewN | apply Kd.R_drew)); exact (Kd.R_mono (Kd.R_far (p := ⟨gb570, 2, none⟩) (Kd.R_far (p := ⟨gb570, 1, none⟩) (Kd.R_far (p := ⟨gb570, 0, none⟩) (Kd.R_types HO_6.out BK570.out (by decide)) (fun _ hk => hk.2) (.slice Ao123 t564.length co123)) (fun _ hk => hk.2) (.int .i64 t567)) (fun _ hk => hk.2) (.int .i64 t568)) (fun _ h_ => h_.1))) hb); have n1_ := Aside0.mk (Kd.S_below (by (with_reducible repeat (first | apply Kd.S_alloc | apply Kd.S_drewN | apply Kd.S_drew)); exact (Kd.S_mono (Kd.S_far (p := ⟨gb570, 2, none⟩) (Kd.S_far (p := ⟨gb570, 1, none⟩) (Kd.S_far (p := ⟨gb570, 0, none⟩) (Kd.S_mono HO_7.out (fun k_ hk => (⟨hk, hk.2⟩ : _ ∧ k_ ≠ gb570))) (fun _ hk => hk.2) (.slice Ao123 t564.length co123)) (fun _ hk => hk.2) (.int .i64 t567)) (fun _ hk => hk.2) (.int .i64 t568)) (fun _ h_ => h_.1))) hb); have n2_ := Aside0.mk (Kd.R_below (by (with_reducible repeat (first | apply Kd.R_alloc | apply Kd.R_drewN | apply Kd.R_drew)); exact (Kd.R_mono (Kd.R_far (p := ⟨gb570, 2, none⟩) (Kd.R_far (p := ⟨gb570, 1, none⟩) (Kd.R_far (p := ⟨gb570, 0, none⟩) (Kd.R_types HO_537000.out BK570.out (by decide)) (fun _ hk => hk.2) (.slice Ao123 t564.length co123)) (fun _ hk => hk.2) (.int .i64 t567)) (fun _ hk => hk.2) (.int .i64 t568)) (fun _ h_ => h_.1))) hb); have n3_ := Aside0.mk (Kd.R_below (by (with_reducible repeat (first | apply Kd.R_alloc | apply Kd.R_drewN | apply Kd.R_drew)); exact (Kd.R_mono (Kd.R_far (p := ⟨gb570, 2, none⟩) (Kd.R_far (p := ⟨gb570, 1, none⟩) (Kd.R_far (p := ⟨gb570, 0, none⟩) (Kd.R_types HO_561000.out BK570.out (by decide)) (fun _ hk => hk.2) (.slice Ao123 t564.length co123)) (fun _ hk => hk.2) (.int .i64 t567)) (fun _ hk => hk.2) (.int .i64 t568)) (fun _ h_ => h_.1))) hb); have n4_ := Aside0.mk (Kd.R_below (by (with_reducible repeat (first | apply Kd.R_alloc | apply Kd.R_drewN | apply Kd.R_drew)); exact (Kd.R_mono (Kd.R_far (p := ⟨gb570, 2, none⟩) (Kd.R_far (p := ⟨gb570, 1, none⟩) (Kd.R_far (p := ⟨gb570, 0, none⟩) (Kd.R_types HO_562000.out BK570.out (by decide)) (fun _ hk => hk.2) (.slice Ao123 t564.length co123)) (fun _ hk => hk.2) (.int .i64 t567)) (fun _ hk => hk.2) (.int .i64 t568)) (fun _ h_ => h_.1))) hb); have n5_ := Aside0.mk (Kd.R_below (by (with_reducible repeat (first | apply Kd.R_alloc | apply Kd.R_drewN | apply Kd.R_drew)); exact (Kd.R_mono (Kd.R_far (p := ⟨gb570, 2, none⟩) (Kd.R_far (p := ⟨gb570, 1, none⟩) (Kd.R_far (p := ⟨gb570, 0, none⟩) (Kd.R_types HO566.out BK570.out (by decide)) (fun _ hk => hk.2) (.slice Ao123 t564.length co123)) (fun _ hk => hk.2) (.int .i64 t567)) (fun _ hk => hk.2) (.int .i64 t568)) (fun _ h_ => h_.1))) hb); have n6_ := Aside0.mk (blk_below (g := gA) (o := .cells #[u537000, .int .i64 x537001_4, .int .i64 x537002_4] 26 (0, 0)) (by (with_reducible repeat (first | refine blk_drewN ?_ _ | refine blk_drew ?_ | refine blk_alloc ?_ _)); refine blk_far ?_ NB536_570.out _; (with_reducible repeat (first | refine blk_drewN ?_ _ | refine blk_drew ?_ | refine blk_alloc ?_ _)); refine blk_far ?_ NB536_570.out _; (with_reducible repeat (first | refine blk_drewN ?_ _ | refine blk_drew ?_ | refine blk_alloc ?_ _)); refine blk_far ?_ NB536_570.out _; (with_reducible repeat (first | refine blk_drewN ?_ _ | refine blk_drew ?_ | refine blk_alloc ?_ _)); exact BK536.out) hb); have n7_ := Aside0.mk (blk_below (g := gC) (o := .cells #[.slice Ao63 t554.length co63, .int .i64 t557, .int .i64 t558] 26 (0, 0)) (by (with_reducible repeat (first | refine blk_drewN ?_ _ | refine blk_drew ?_ | refine blk_alloc ?_ _)); refine blk_far ?_ NB560_570.out _; (with_reducible repeat (first | refine blk_drewN ?_ _ | refine blk_drew ?_ | refine blk_alloc ?_ _)); refine blk_far ?_ NB560_570.out _; (with_reducible repeat (first | refine blk_drewN ?_ _ | refine blk_drew ?_ | refine blk_alloc ?_ _)); refine blk_far ?_ NB560_570.out _; (with_reducible repeat (first | refine blk_drewN ?_ _ | refine blk_drew ?_ | refine blk_alloc ?_ _)); exact BK560.out) hb); have n8_ := Aside0.mk (blk_below (g := gD) (o := .cells #[.slice Ao133 x562000_2.length co133, .int .i64 x562001_2, .int .i64 x562002_2] 26 (0, 0)) (by (with_reducible repeat (first | refine blk_drewN ?_ _ | refine blk_drew ?_ | refine blk_alloc ?_ _)); refine blk_far ?_ NB561_570.out _; (with_reducible repeat (first | refine blk_drewN ?_ _ | refine blk_drew ?_ | refine blk_alloc ?_ _)); refine blk_far ?_ NB561_570.out _; (with_reducible repeat (first | refine blk_drewN ?_ _ | refine blk_drew ?_ | refine blk_alloc ?_ _)); refine blk_far ?_ NB561_570.out _; (with_reducible repeat (first | refine blk_drewN ?_ _ | refine blk_drew ?_ | refine blk_alloc ?_ _)); exact BK561.out) hb); have n9_ := Aside0.mk (blk_below (g := gb570) (o := .cells #[.slice Ao123 t564.length co123, .int .i64 t567, .int .i64 t568] 26 (0, 0)) (by (with_reducible repeat (first | refine blk_drewN ?_ _ | refine blk_drew ?_ | refine blk_alloc ?_ _)); refine blk_put (cs := #[.slice Ao123 t564.length co123, .int .i64 t567, .int .i64 0]) ?_ 2 _ rfl; (with_reducible repeat (first | refine blk_drewN ?_ _ | refine blk_drew ?_ | refine blk_alloc ?_ _)); refine blk_put (cs := #[.slice Ao123 t564.length co123, .int .i64 0, .int .i64 0]) ?_ 1 _ rfl; (with_reducible repeat (first | refine blk_drewN ?_ _ | refine blk_drew ?_ | refine blk_alloc ?_ _)); refine blk_put (cs := #[.slice none 0 0, .int .i64 0, .int .i64 0]) ?_ 0 _ rfl; (with_reducible repeat (first | refine blk_drewN ?_ _ | refine blk_drew ?_ | refine blk_alloc ?_ _)); exact BK570.out) hb); have n10_ := Aside0.mk (below_step (by repeat (first | (with_reducible first | exact HB.out | apply below_alloc | apply pw_below_drewN | apply below_drew1 | refine below_set ?_ GE536.out | refine below_set ?_ GE560.out | refine below_set ?_ GE561.out | refine below_set ?_ GE570.out) | exact HB.out)) hb); clear HO_6; clear HO_7; clear HO_537000; clear HO_561000; clear HO_562000; clear HO566; clear BK536; clear BK560; clear BK561; clear BK570; clear HB; have HO_6 := n0_; have HO_7 := n1_; have HO_537000 := n2_; have HO_561000 := n3_; have HO_562000 := n4_; have HO566 := n5_; have BK536 := n6_; have BK560 := n7_; have BK561 := n8_; have BK570 := n9_; have HB := n10_; clear n0_ n1_ n2_ n3_ n4_ n5_ n6_ n7_ n8_ n9_ n10_; (try clear hb); (try clear hb2); (try clear hk); (try clear hi)))
            go_ret
            exact ⟨by first | rfl | (simp [errW_none, errW_some] <;> rfl) | (simp only [← hji57]; first | rfl | (simp [errW_none, errW_some] <;> rfl)) | (simp [*, errW_none, errW_some] <;> rfl), by repeat (first | (with_reducible first | exact HB.out | apply below_alloc | apply pw_below_drewN | apply below_drew1 | refine below_set ?_ GE536.out | refine below_set ?_ GE560.out | refine below_set ?_ GE561.out | refine below_set ?_ GE570.out) | exact HB.out)⟩
          ·rw [if_neg c81] at H
           have c81b0 : (t559 == 0) = false := beq_eq_false_iff_ne.mpr c81
           have c81b1 : (t559 != 0) = true := bne_iff_ne.mpr c81
           obtain rfl := Option.some.inj H
           obtain ⟨Ao135, co135, eo135⟩ := Kd.R_slice HO_6.out
           subst eo135
           go_wp2_with (first | ((with_reducible refine gate_callee (f := 15) rfl ?_); refine goesL_ (some 103) rfl rfl Try.func15 (by kernel_rfl) rfl #[.string x5_4] rfl (by (try simp only [List.map_toArray, List.map_cons, List.map_nil]); first | done | rfl | (simp only [List.length_drop, List.length_take]; rfl) | (go_simp; simp [IntKind.wrap, IntKind.bits, IntKind.signed]; omega)) ?_; (with_reducible refine (manifest_Read.calls k2 x5_4 t564 t567 t568 t569 _ A80.out).mono ?_); rintro e w136 ⟨v565, rfl, ho0, hb⟩; refine ⟨_, rfl, ?_⟩; have n0_ := Aside0.mk (Kd.R_below (by (with_reducible repeat (first | apply Kd.R_alloc | apply Kd.R_drewN | apply Kd.R_drew)); exact HO_6.out) hb); have n1_ := Aside0.mk (Kd.S_elder' (by (with_reducible repeat (first | apply Kd.S_alloc | apply Kd.S_drewN | apply Kd.S_drew)); exact HO_7.out) (Kd.R_base ho0) hb); have n2_ := Aside0.mk (Kd.R_elder' (by (with_reducible repeat (first | apply Kd.R_alloc | apply Kd.R_drewN | apply Kd.R_drew)); exact HO_537000.out) (Kd.R_base ho0) hb); have n3_ := Aside0.mk (Kd.R_elder' (by (with_reducible repeat (first | apply Kd.R_alloc | apply Kd.R_drewN | apply Kd.R_drew)); exact HO_561000.out) (Kd.R_base ho0) hb); have n4_ := Aside0.mk (Kd.R_elder' (by (with_reducible repeat (first | apply Kd.R_alloc | apply Kd.R_drewN | apply Kd.R_drew)); exact HO_562000.out) (Kd.R_base ho0) hb); have n5_ := Aside0.mk (Kd.R_lower (Kd.R_new' (Kd.R_new' (Kd.R_new' ho0 (Kd.R_lt (by (with_reducible repeat (first | apply Kd.R_alloc | apply Kd.R_drewN | apply Kd.R_drew)); exact HO_537000.out))) (Kd.R_lt (by (with_reducible repeat (first | apply Kd.R_alloc | apply Kd.R_drewN | apply Kd.R_drew)); exact HO_561000.out))) (Kd.R_lt (by (with_reducible repeat (first | apply Kd.R_alloc | apply Kd.R_drewN | apply Kd.R_drew)); exact HO_562000.out))) (below_size (by repeat (first | (with_reducible first | exact HB.out | apply below_alloc | apply pw_below_drewN | apply below_drew1 | refine below_set ?_ GE536.out | refine below_set ?_ GE560.out | refine below_set ?_ GE561.out) | exact HB.out)))); have n6_ := Aside0.mk (blk_below (g := gA) (o := .cells #[u537000, .int .i64 x537001_4, .int .i64 x537002_4] 26 (0, 0)) (by (with_reducible repeat (first | refine blk_drewN ?_ _ | refine blk_drew ?_ | refine blk_alloc ?_ _)); exact BK536.out) hb); have n7_ := Aside0.mk (blk_below (g := gC) (o := .cells #[.slice Ao63 t554.length co63, .int .i64 t557, .int .i64 t558] 26 (0, 0)) (by (with_reducible repeat (first | refine blk_drewN ?_ _ | refine blk_drew ?_ | refine blk_alloc ?_ _)); exact BK560.out) hb); have n8_ := Aside0.mk (blk_below (g := gD) (o := .cells #[u562000, .int .i64 x562001_2, .int .i64 x562002_2] 26 (0, 0)) (by (with_reducible repeat (first | refine blk_drewN ?_ _ | refine blk_drew ?_ | refine blk_alloc ?_ _)); exact BK561.out) hb); have n9_ := Aside0.mk (below_step (by repeat (first | (with_reducible first | exact HB.out | apply below_alloc | apply pw_below_drewN | apply below_drew1 | refine below_set ?_ GE536.out | refine below_set ?_ GE560.out | refine below_set ?_ GE561.out) | exact HB.out)) hb); clear HO_6; clear HO_7; clear HO_537000; clear HO_561000; clear HO_562000; clear BK536; clear BK560; clear BK561; clear HB; have HO_6 := n0_; have HO_7 := n1_; have HO_537000 := n2_; have HO_561000 := n3_; have HO_562000 := n4_; have HO566 := n5_; have BK536 := n6_; have BK560 := n7_; have BK561 := n8_; have HB := n9_; clear n0_ n1_ n2_ n3_ n4_ n5_ n6_ n7_ n8_ n9_; (try clear hb); (try clear hb2); (try clear hk); (try clear hi); (try clear ho0)) | ((with_reducible refine gate_dst (N := 19) rfl ?_); refine box_event ?hg (N := 19) ?hd (cs := #[.slice none 0 0, .int .i64 0, .int .i64 0]) (t := 26) ?hr ?_; (case hd => rfl); (case hg => rfl); (case hr => first | (go_simp; done) | (go_simp; rfl)); intro gb570 hg w137 hbox hb; have n0_ := Aside0.mk (Kd.R_below (by (with_reducible repeat (first | apply Kd.R_alloc | apply Kd.R_drewN | apply Kd.R_drew)); exact HO_6.out) hb); have n1_ := Aside0.mk (Kd.S_below (Kd.S_elderB (by (with_reducible repeat (first | apply Kd.S_alloc | apply Kd.S_drewN | apply Kd.S_drew)); exact HO_7.out) gb570 (Nat.le_of_eq hg.symm)) hb); have n2_ := Aside0.mk (Kd.R_below (by (with_reducible repeat (first | apply Kd.R_alloc | apply Kd.R_drewN | apply Kd.R_drew)); exact HO_537000.out) hb); have n3_ := Aside0.mk (Kd.R_below (by (with_reducible repeat (first | apply Kd.R_alloc | apply Kd.R_drewN | apply Kd.R_drew)); exact HO_561000.out) hb); have n4_ := Aside0.mk (Kd.R_below (by (with_reducible repeat (first | apply Kd.R_alloc | apply Kd.R_drewN | apply Kd.R_drew)); exact HO_562000.out) hb); have n5_ := Aside0.mk (Kd.R_below (by (with_reducible repeat (first | apply Kd.R_alloc | apply Kd.R_drewN | apply Kd.R_drew)); exact HO566.out) hb); have n6_ := Aside0.mk (blk_below (g := gA) (o := .cells #[u537000, .int .i64 x537001_4, .int .i64 x537002_4] 26 (0, 0)) (by (with_reducible repeat (first | refine blk_drewN ?_ _ | refine blk_drew ?_ | refine blk_alloc ?_ _)); exact BK536.out) hb); have n7_ := Aside0.mk (blk_below (g := gC) (o := .cells #[.slice Ao63 t554.length co63, .int .i64 t557, .int .i64 t558] 26 (0, 0)) (by (with_reducible repeat (first | refine blk_drewN ?_ _ | refine blk_drew ?_ | refine blk_alloc ?_ _)); exact BK560.out) hb); have n8_ := Aside0.mk (blk_below (g := gD) (o := .cells #[u562000, .int .i64 x562001_2, .int .i64 x562002_2] 26 (0, 0)) (by (with_reducible repeat (first | refine blk_drewN ?_ _ | refine blk_drew ?_ | refine blk_alloc ?_ _)); exact BK561.out) hb); have n9_ := Aside0.mk (below_step (by repeat (first | (with_reducible first | exact HB.out | apply below_alloc | apply pw_below_drewN | apply below_drew1 | refine below_set ?_ GE536.out | refine below_set ?_ GE560.out | refine below_set ?_ GE561.out) | exact HB.out)) hb); have n10_ := Aside0.mk (hbox); have n11_ := Aside0.mk ((by rw [hg]; exact (below_size (by repeat (first | (with_reducible first | exact HB.out | apply below_alloc | apply pw_below_drewN | apply below_drew1 | refine below_set ?_ GE536.out | refine below_set ?_ GE560.out | refine below_set ?_ GE561.out) | exact HB.out))) : w.heap.size ≤ gb570)); have n12_ := Aside0.mk ((by rw [hg]; exact (below_size (by repeat (first | (with_reducible first | exact HB.out | apply below_alloc | apply pw_below_drewN | apply below_drew1 | refine below_set ?_ GE536.out | refine below_set ?_ GE560.out | refine below_set ?_ GE561.out) | exact HB.out))) : w.heap.size ≤ gb570)); have n13_ := Aside0.mk ((by rw [hg]; exact Nat.ne_of_lt (blk_lt (g := gA) (o := .cells #[u537000, .int .i64 x537001_4, .int .i64 x537002_4] 26 (0, 0)) (by (with_reducible repeat (first | refine blk_drewN ?_ _ | refine blk_drew ?_ | refine blk_alloc ?_ _)); exact BK536.out)) : gA ≠ gb570)); have n14_ := Aside0.mk ((by rw [hg]; exact Nat.ne_of_gt (blk_lt (g := gA) (o := .cells #[u537000, .int .i64 x537001_4, .int .i64 x537002_4] 26 (0, 0)) (by (with_reducible repeat (first | refine blk_drewN ?_ _ | refine blk_drew ?_ | refine blk_alloc ?_ _)); exact BK536.out)) : gb570 ≠ gA)); have n15_ := Aside0.mk ((by rw [hg]; exact Nat.ne_of_lt (blk_lt (g := gC) (o := .cells #[.slice Ao63 t554.length co63, .int .i64 t557, .int .i64 t558] 26 (0, 0)) (by (with_reducible repeat (first | refine blk_drewN ?_ _ | refine blk_drew ?_ | refine blk_alloc ?_ _)); exact BK560.out)) : gC ≠ gb570)); have n16_ := Aside0.mk ((by rw [hg]; exact Nat.ne_of_gt (blk_lt (g := gC) (o := .cells #[.slice Ao63 t554.length co63, .int .i64 t557, .int .i64 t558] 26 (0, 0)) (by (with_reducible repeat (first | refine blk_drewN ?_ _ | refine blk_drew ?_ | refine blk_alloc ?_ _)); exact BK560.out)) : gb570 ≠ gC)); have n17_ := Aside0.mk ((by rw [hg]; exact Nat.ne_of_lt (blk_lt (g := gD) (o := .cells #[u562000, .int .i64 x562001_2, .int .i64 x562002_2] 26 (0, 0)) (by (with_reducible repeat (first | refine blk_drewN ?_ _ | refine blk_drew ?_ | refine blk_alloc ?_ _)); exact BK561.out)) : gD ≠ gb570)); have n18_ := Aside0.mk ((by rw [hg]; exact Nat.ne_of_gt (blk_lt (g := gD) (o := .cells #[u562000, .int .i64 x562001_2, .int .i64 x562002_2] 26 (0, 0)) (by (with_reducible repeat (first | refine blk_drewN ?_ _ | refine blk_drew ?_ | refine blk_alloc ?_ _)); exact BK561.out)) : gb570 ≠ gD)); clear HO_6; clear HO_7; clear HO_537000; clear HO_561000; clear HO_562000; clear HO566; clear BK536; clear BK560; clear BK561; clear HB; have HO_6 := n0_; have HO_7 := n1_; have HO_537000 := n2_; have HO_561000 := n3_; have HO_562000 := n4_; have HO566 := n5_; have BK536 := n6_; have BK560 := n7_; have BK561 := n8_; have HB := n9_; have BK570 := n10_; have GW570 := n11_; have GE570 := n12_; have NB536_570 := n13_; have NB570_536 := n14_; have NB560_570 := n15_; have NB570_560 := n16_; have NB561_570 := n17_; have NB570_561 := n18_; clear n0_ n1_ n2_ n3_ n4_ n5_ n6_ n7_ n8_ n9_ n10_ n11_ n12_ n13_ n14_ n15_ n16_ n17_ n18_; clear hb hbox hg; obtain ⟨Ao138, co138, eo138⟩ := Kd.R_slice HO566.out; subst eo138; have hnb139 := NB570_536.out; have hnc139 := NB536_570.out; have hnb140 := NB570_560.out; have hnc140 := NB560_570.out; have hnb141 := NB570_561.out; have hnc141 := NB561_570.out; have hcz142_0 : w137.cell? ⟨gb570, 0, none⟩ = some (.slice none 0 0) := (blk_cell BK570.out 0).trans rfl; have hcz142_1 : w137.cell? ⟨gb570, 1, none⟩ = some (.int .i64 0) := (blk_cell BK570.out 1).trans rfl; have hcz142_2 : w137.cell? ⟨gb570, 2, none⟩ = some (.int .i64 0) := (blk_cell BK570.out 2).trans rfl; have hfz142_0 := blk_frozen BK570.out 0; have hfz142_1 := blk_frozen BK570.out 1; have hfz142_2 := blk_frozen BK570.out 2))
           go_ret
           exact ⟨by first | rfl | (simp [errW_none, errW_some] <;> rfl) | (simp only [← hji57]; first | rfl | (simp [errW_none, errW_some] <;> rfl)) | (simp [*, errW_none, errW_some] <;> rfl), by repeat (first | (with_reducible first | exact HB.out | apply below_alloc | apply pw_below_drewN | apply below_drew1 | refine below_set ?_ GE536.out | refine below_set ?_ GE560.out | refine below_set ?_ GE561.out | refine below_set ?_ GE570.out) | exact HB.out)⟩
      ·rw [if_neg c59] at H
       exact absurd H (by simp)
     ·rw [if_neg c58] at H
      exact absurd H (by simp)
 ·replace c4 := Bool.eq_false_iff.mpr c4
  subst c4
  have H1 : (some false) = some r := by rw [if_neg (show ¬ (false = true) by decide)] at H; exact H
  clear H
  have H := H1
  clear H1
  obtain rfl := Option.some.inj H
  go_enter Try.func7, Try.ntmps7
  go_wp2_with (first | ((with_reducible refine gate_callee (f := 8) rfl ?_); refine goesL_ (some 21) rfl rfl Try.func8 (by kernel_rfl) rfl #[] rfl (by (try simp only [List.map_toArray, List.map_cons, List.map_nil]); first | done | rfl | (simp only [List.length_drop, List.length_take]; rfl) | (go_simp; simp [IntKind.wrap, IntKind.bits, IntKind.signed]; omega)) ?_; (with_reducible refine (tithebarnlaw16_lives.calls k  false _ A3.out).mono ?_); rintro e w143 ⟨rfl, hb⟩; refine ⟨_, rfl, ?_⟩; have n0_ := Aside0.mk (below_step (by repeat (first | (with_reducible first | exact HB.out | apply below_alloc | apply pw_below_drewN | apply below_drew1) | exact HB.out)) hb); clear HB; have HB := n0_; clear n0_; (try clear hb); (try clear hb2); (try clear hk); (try clear hi)))
  go_ret
  exact ⟨by first | rfl | (simp [errW_none, errW_some] <;> rfl) | (simp [*, errW_none, errW_some] <;> rfl), by repeat (first | (with_reducible first | exact HB.out | apply below_alloc | apply pw_below_drewN | apply below_drew1) | exact HB.out)⟩
end Go.Proofs.Ytagokgijffpdnaa.G
