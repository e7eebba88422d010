import Derived.Test.YtgeddoklmcjdcaaZQA
import Derived.Test.YtgeddoklmcjdcaaZG4
namespace Go.Proofs.Ytgeddoklmcjdcaa.G
open Go.RowKit Go.Proofs.YtgeddoklmcjdcaaQ Go.Proofs.YtgeddoklmcjdcaaW.PrintWords Go.Proofs.YtgeddoklmcjdcaaW.PrintLast Go.Proofs.YtgeddoklmcjdcaaW.PrintMore
attribute [local go_sem] max2_int min2_int max_two min_two max_three min_three max_four min_four   -- for this text's walks alone
set_option linter.unusedVariables false
set_option linter.unusedSimpArgs false
mutual
def ints_readRuns.l0 : Nat → Int → List Int → ByteArray → Int → Option (List Int × Int × ByteArray × Int)
 | 0, _, _, _, _ => none
 | k + 1, x1, x6, x1000, x1001 => if (x6.length : Int) < x1 then ((tally_Cursor_Uint.f x1000 x1001).bind fun bt191 => ((tally_Cursor_Err.f bt191.2.1 bt191.2.2).bind fun bt194 => (if bt194.1 = 0 then (if bt191.1 = 0 then (ints_readRuns.j1 k x1 x6 bt191.1 true bt194.2.1 bt194.2.2) else (ints_readRuns.j1 k x1 x6 bt191.1 (decide (bt191.1 > (IntKind.u64.wrap (wrap64 (x1 - (x6.length : Int)))))) bt194.2.1 bt194.2.2)) else (ints_readRuns.j1 k x1 x6 bt191.1 false bt194.2.1 bt194.2.2)))) else (some (x6, 0, x1000, x1001))
def ints_readRuns.j1 : Nat → Int → List Int → Int → Bool → ByteArray → Int → Option (List Int × Int × ByteArray × Int)
 | 0, _, _, _, _, _, _ => none
 | k + 1, x1, x6, x7, x30, x1000, x1001 => if x30 = true then (some (([] : List Int), 4, x1000, x1001)) else ((tally_Cursor_Int.f x1000 x1001).bind fun bt197 => ((tally_Cursor_Err.f bt197.2.1 bt197.2.2).bind fun bt200 => (if bt200.1 = 0 then (if (x6.length : Int) > 0 then (if 0 ≤ (wrap64 ((x6.length : Int) - 1)) then (if (wrap64 ((x6.length : Int) - 1)) < (x6.length : Int) then (if (rd x6 (wrap64 ((x6.length : Int) - 1))) = bt197.1 then (some (([] : List Int), 4, bt200.2.1, bt200.2.2)) else ((slices_Repeat_int64_int64.f (([bt197.1] : List Int)) (wrap64 (x7))).bind fun t207 => (if x6.length + t207.length < 17592186044416 then (ints_readRuns.l0 k x1 (x6 ++ t207) bt200.2.1 bt200.2.2) else (none)))) else (none)) else (none)) else ((slices_Repeat_int64_int64.f (([bt197.1] : List Int)) (wrap64 (x7))).bind fun t216 => (if x6.length + t216.length < 17592186044416 then (ints_readRuns.l0 k x1 (x6 ++ t216) bt200.2.1 bt200.2.2) else (none)))) else ((tally_Cursor_Err.f bt200.2.1 bt200.2.2).bind fun bt222 => (some (([] : List Int), bt222.1, bt222.2.1, bt222.2.2))))))
end
def ints_readRuns.f (k : Nat) (s0_0 : ByteArray) (s0_1 : Int) (a1 : Int) : Option (List Int × Int × ByteArray × Int) := ints_readRuns.l0 k a1 ([] : List Int) s0_0 s0_1
theorem ints_readRuns.mono_l : ∀ k, (∀ y0 y1 y2 y3, LeO (ints_readRuns.l0 k y0 y1 y2 y3) (ints_readRuns.l0 (k + 1) y0 y1 y2 y3)) ∧ (∀ y0 y1 y2 y3 y4 y5, LeO (ints_readRuns.j1 k y0 y1 y2 y3 y4 y5) (ints_readRuns.j1 (k + 1) y0 y1 y2 y3 y4 y5))
 | 0 => ⟨fun _ _ _ _ r h => by simp [ints_readRuns.l0] at h, fun _ _ _ _ _ _ r h => by simp [ints_readRuns.j1] at h⟩
 | k + 1 => by
  obtain ⟨ih0, ih1⟩ := ints_readRuns.mono_l k
  refine ⟨?_, ?_⟩
  ·intro y0 y1 y2 y3
   unfold ints_readRuns.l0
   repeat' first
   | (with_reducible exact ih0 _ _ _ _)
   | (with_reducible exact ih1 _ _ _ _ _ _)
   | (with_reducible exact LeO.refl _)
   | (with_reducible exact LeO.none _)
   | (with_reducible refine LeO.ite ?_ ?_)
   | (with_reducible refine LeO.bind ?_ (fun _ => ?_))
   | exact ih0 _ _ _ _
   | exact ih1 _ _ _ _ _ _
   | exact LeO.none _
   | refine LeO.ite ?_ ?_
   | refine LeO.bind ?_ (fun _ => ?_)
  ·intro y0 y1 y2 y3 y4 y5
   unfold ints_readRuns.j1
   repeat' first
   | (with_reducible exact ih0 _ _ _ _)
   | (with_reducible exact ih1 _ _ _ _ _ _)
   | (with_reducible exact LeO.refl _)
   | (with_reducible exact LeO.none _)
   | (with_reducible refine LeO.ite ?_ ?_)
   | (with_reducible refine LeO.bind ?_ (fun _ => ?_))
   | exact ih0 _ _ _ _
   | exact ih1 _ _ _ _ _ _
   | exact LeO.none _
   | refine LeO.ite ?_ ?_
   | refine LeO.bind ?_ (fun _ => ?_)
theorem ints_readRuns.mono : ∀ a0 a1 a2 k, LeO (ints_readRuns.f k a0 a1 a2) (ints_readRuns.f (k + 1) a0 a1 a2) := by
 intro a0 a1 a2 k
 obtain ⟨ih0, ih1⟩ := ints_readRuns.mono_l k
 unfold ints_readRuns.f
 repeat' first
   | (with_reducible exact ih0 _ _ _ _)
   | (with_reducible exact ih1 _ _ _ _ _ _)
   | (with_reducible exact LeO.refl _)
   | (with_reducible exact LeO.none _)
   | (with_reducible refine LeO.ite ?_ ?_)
   | (with_reducible refine LeO.bind ?_ (fun _ => ?_))
   | exact ih0 _ _ _ _
   | exact ih1 _ _ _ _ _ _
   | exact LeO.none _
   | refine LeO.ite ?_ ?_
   | refine LeO.bind ?_ (fun _ => ?_)
set_option maxHeartbeats 8000000 in
set_option maxRecDepth 100000 in
theorem ints_readRuns.calls (k : Nat) (g : Nat) (s0_0 : ByteArray) (s0_1 : Int) (a1 : Int) (r1 : List Int) (r2 : Int) (r3 : ByteArray) (r4 : Int) (w0 w : World) (hI : IsS66 w0 w g s0_0 s0_1) (hB : Below w0.heap.size w0 w) (h : ints_readRuns.f k s0_0 s0_1 a1 = some (r1, r2, r3, r4)) :
  Calls Try.prog 39 #[.pointer (some ⟨g, 0, none⟩), .int .i64 a1] w fun e w' => ∃ v0_ : Value, e = .returned (.tuple #[v0_, .int .i64 r2]) ∧ Kd.R (Kd.int .i64) 2 w' w.heap.size (fun _ => True) v0_ r1 ∧ IsS66 w0 w' g r3 r4 ∧ Below w0.heap.size w0 w' ∧ KeepBut w w' g none := by
 have HI0 := Aside0.mk hI
 have HK := Aside0.mk (KeepBut.refl w g none)
 have HL := Aside0.mk hB.size
 clear hI
 have HW0 := Aside0.mk hB.size
 have HB := Aside0.mk hB
 clear hB
 have H : (ints_readRuns.l0 k a1 ([] : List Int) s0_0 s0_1) = some (r1, r2, r3, r4) := h
 clear h
 have H' := Aside0.mk H
 clear H
 go_enter Try.func39, Try.ntmps39
 go_wp2
 go_loopg [6] k (fun kq v6 w' => ∃ (x6_1 : List Int) (x1000_1 : ByteArray) (x1001_1 : Int), Aside0 (ints_readRuns.l0 kq a1 x6_1 x1000_1 x1001_1 = some (r1, r2, r3, r4)) ∧ Aside0 (kq ≤ k) ∧ Aside0 (Kd.R (Kd.int .i64) 2 w' w.heap.size (fun _ => True) v6 x6_1) ∧ Aside0 (IsS66 w0 w' g x1000_1 x1001_1) ∧ Aside0 (KeepBut w w' g none) ∧ Aside0 (Below w0.heap.size w0 w'))
 case atStart => exact ⟨(([] : List Int)), (s0_0), (s0_1), H', ⟨Nat.le_refl _⟩, ⟨z8_⟩, ⟨z2_⟩, ⟨z1_⟩, ⟨z3_⟩⟩
 case round =>
  clear H'
  try clear p2
  obtain ⟨x6_1, x1000_1, x1001_1, HA, HK1, HO_6, HI0, HK, HB⟩ := hrel
  cases gk with
  | zero => exact absurd HA.out (by simp [ints_readRuns.l0])
  | succ k1 =>
   have H := HA.out
   clear HA
   simp only [ints_readRuns.l0] at H
   by_cases c3 : (x6_1.length : Int) < a1
   ·rw [if_pos c3] at H
    have c3b0 : decide ((x6_1.length : Int) < a1) = true := decide_eq_true c3
    clear c3
    replace H := Option.bind_eq_some_iff.mp H
    obtain ⟨⟨t191, t192, t193⟩, A40, H⟩ := H
    replace H : ((tally_Cursor_Err.f t192 t193).bind fun bt194 => (if bt194.1 = 0 then (if t191 = 0 then (ints_readRuns.j1 k1 a1 x6_1 t191 true bt194.2.1 bt194.2.2) else (ints_readRuns.j1 k1 a1 x6_1 t191 (decide (t191 > (IntKind.u64.wrap (wrap64 (a1 - (x6_1.length : Int)))))) bt194.2.1 bt194.2.2)) else (ints_readRuns.j1 k1 a1 x6_1 t191 false bt194.2.1 bt194.2.2))) = some (r1, r2, r3, r4) := H
    have A4 := Aside0.mk A40
    clear A40
    have HC5 := Aside0.mk H
    clear H
    obtain ⟨Ao6, co6, eo6⟩ := Kd.R_slice HO_6.out
    subst eo6
    go_upto_region 4 with (first | ((with_reducible refine gate_callee (f := 26) rfl ?_); refine goesL_ (some 14) rfl rfl Try.func26 (by kernel_rfl) rfl #[.pointer (some ⟨g, 0, none⟩)] rfl (by (try simp only [List.map_toArray, List.map_cons, List.map_nil]); first | done | rfl | (simp only [List.length_drop, List.length_take]; rfl) | (go_simp; simp [IntKind.wrap, IntKind.bits, IntKind.signed]; omega)) ?_; (with_reducible refine (tally_Cursor_Uint.calls g x1000_1 x1001_1 t191 t192 t193 w0 _ ?side1 ?side2 A4.out).mono ?_); (case side1 => repeat (first | (with_reducible first | exact HI0.out | apply IsS66.alloc | apply IsS66.drewN | apply IsS66.drew | apply IsS66.set_0 | apply IsS66.set_1) | exact HI0.out)); (case side2 => repeat (first | (with_reducible first | exact HB.out | apply below_alloc | apply pw_below_drewN | apply below_drew1 | refine below_set ?_ (IsS66.ge HI0.out)) | exact HB.out)); rintro e w7 ⟨rfl, hi, hb, hk⟩; refine ⟨_, rfl, ?_⟩; have n0_ := Aside0.mk (Kd.R_mono (Kd.R_keep (IsS66.apart (show IsS66 w0 _ g x1000_1 x1001_1 from z2_) (by (with_reducible repeat (first | apply Kd.R_alloc | apply Kd.R_drewN | apply Kd.R_drew)); exact HO_6.out) (by decide)) hk (fun _ h => h.2)) (fun _ h => h.1)); have n1_ := Aside0.mk (KeepBut.trans z1_ hk (.inl rfl)); have n2_ := Aside0.mk (hb); have n3_ := Aside0.mk (hi); clear HO_6; clear HK; clear HB; clear HI0; have HO_6 := n0_; have HK := n1_; have HB := n2_; have HI0 := n3_; clear n0_ n1_ n2_ n3_; (try clear hb); (try clear hb2); (try clear hk); (try clear hi)))
    (try simp only [Act.put, List.setIfInBounds_toArray, List.set_cons_zero, List.set_cons_succ])
    go_cut [30] (fun v30 wc => ∃ (kq : Nat) (x30_4 : Bool) (x1000_4 : ByteArray) (x1001_4 : Int), v30 = .bool x30_4 ∧ Aside0 (ints_readRuns.j1 kq a1 x6_1 t191 x30_4 x1000_4 x1001_4 = some (r1, r2, r3, r4)) ∧ Aside0 (kq ≤ k1) ∧ Aside0 (Kd.R (Kd.int .i64) 2 wc w.heap.size (fun _ => True) (.slice Ao6 x6_1.length co6) x6_1) ∧ Aside0 (IsS66 w0 wc g x1000_4 x1001_4) ∧ Aside0 (KeepBut w wc g none) ∧ Aside0 (Below w0.heap.size w0 wc))
    case first =>
     have H := HC5.out
     clear HC5
     replace H := Option.bind_eq_some_iff.mp H
     obtain ⟨⟨t194, t195, t196⟩, A80, H⟩ := H
     replace H : (if t194 = 0 then (if t191 = 0 then (ints_readRuns.j1 k1 a1 x6_1 t191 true t195 t196) else (ints_readRuns.j1 k1 a1 x6_1 t191 (decide (t191 > (IntKind.u64.wrap (wrap64 (a1 - (x6_1.length : Int)))))) t195 t196)) else (ints_readRuns.j1 k1 a1 x6_1 t191 false t195 t196)) = some (r1, r2, r3, r4) := H
     have A8 := Aside0.mk A80
     clear A80
     by_cases c9 : t194 = 0
     ·rw [if_pos c9] at H
      have c9b0 : (t194 == 0) = true := beq_iff_eq.mpr c9
      have c9b1 : (t194 != 0) = false := bne_eq_false_iff_eq.mpr c9
      clear c9
      (first | rw [c9b0] | (simp only [i64_w, i32_w]; rw [c9b0]) | skip)
      by_cases c10 : t191 = 0
      ·rw [if_pos c10] at H
       have c10b0 : (t191 == 0) = true := beq_iff_eq.mpr c10
       have c10b1 : (t191 != 0) = false := bne_eq_false_iff_eq.mpr c10
       clear c10
       have H' := Aside0.mk H
       clear H
       go_wp2_with (first | ((with_reducible refine gate_callee (f := 25) rfl ?_); refine goesL_ (some 16) rfl rfl Try.func25 (by kernel_rfl) rfl #[.pointer (some ⟨g, 0, none⟩)] rfl (by (try simp only [List.map_toArray, List.map_cons, List.map_nil]); first | done | rfl | (simp only [List.length_drop, List.length_take]; rfl) | (go_simp; simp [IntKind.wrap, IntKind.bits, IntKind.signed]; omega)) ?_; (with_reducible refine (tally_Cursor_Err.calls g t192 t193 t194 t195 t196 w0 _ ?side1 ?side2 A8.out).mono ?_); (case side1 => repeat (first | (with_reducible first | exact HI0.out | apply IsS66.alloc | apply IsS66.drewN | apply IsS66.drew | apply IsS66.set_0 | apply IsS66.set_1) | exact HI0.out)); (case side2 => repeat (first | (with_reducible first | exact HB.out | apply below_alloc | apply pw_below_drewN | apply below_drew1 | refine below_set ?_ (IsS66.ge HI0.out)) | exact HB.out)); rintro e w11 ⟨rfl, hi, hb, hk⟩; refine ⟨_, rfl, ?_⟩; have n0_ := Aside0.mk (Kd.R_mono (Kd.R_keep (IsS66.apart (show IsS66 w0 _ g t192 t193 from z2_) (by (with_reducible repeat (first | apply Kd.R_alloc | apply Kd.R_drewN | apply Kd.R_drew)); exact HO_6.out) (by decide)) hk (fun _ h => h.2)) (fun _ h => h.1)); have n1_ := Aside0.mk (KeepBut.trans z1_ hk (.inl rfl)); have n2_ := Aside0.mk (hb); have n3_ := Aside0.mk (hi); clear HO_6; clear HK; clear HB; clear HI0; have HO_6 := n0_; have HK := n1_; have HB := n2_; have HI0 := n3_; clear n0_ n1_ n2_ n3_; (try clear hb); (try clear hb2); (try clear hk); (try clear hi)))
       go_meet
       case rel => exact ⟨_, (true), (t195), (t196), z6_, H', ⟨by have := HK1.out; first | omega | exact Nat.le_refl _⟩, ⟨by (with_reducible repeat (first | apply Kd.R_alloc | apply Kd.R_drewN | apply Kd.R_drew)); exact HO_6.out⟩, ⟨z2_⟩, ⟨z1_⟩, ⟨z3_⟩⟩
      ·rw [if_neg c10] at H
       have c10b0 : (t191 == 0) = false := beq_eq_false_iff_ne.mpr c10
       have c10b1 : (t191 != 0) = true := bne_iff_ne.mpr c10
       have H' := Aside0.mk H
       clear H
       go_wp2_with (first | ((with_reducible refine gate_callee (f := 25) rfl ?_); refine goesL_ (some 16) rfl rfl Try.func25 (by kernel_rfl) rfl #[.pointer (some ⟨g, 0, none⟩)] rfl (by (try simp only [List.map_toArray, List.map_cons, List.map_nil]); first | done | rfl | (simp only [List.length_drop, List.length_take]; rfl) | (go_simp; simp [IntKind.wrap, IntKind.bits, IntKind.signed]; omega)) ?_; (with_reducible refine (tally_Cursor_Err.calls g t192 t193 t194 t195 t196 w0 _ ?side1 ?side2 A8.out).mono ?_); (case side1 => repeat (first | (with_reducible first | exact HI0.out | apply IsS66.alloc | apply IsS66.drewN | apply IsS66.drew | apply IsS66.set_0 | apply IsS66.set_1) | exact HI0.out)); (case side2 => repeat (first | (with_reducible first | exact HB.out | apply below_alloc | apply pw_below_drewN | apply below_drew1 | refine below_set ?_ (IsS66.ge HI0.out)) | exact HB.out)); rintro e w12 ⟨rfl, hi, hb, hk⟩; refine ⟨_, rfl, ?_⟩; have n0_ := Aside0.mk (Kd.R_mono (Kd.R_keep (IsS66.apart (show IsS66 w0 _ g t192 t193 from z2_) (by (with_reducible repeat (first | apply Kd.R_alloc | apply Kd.R_drewN | apply Kd.R_drew)); exact HO_6.out) (by decide)) hk (fun _ h => h.2)) (fun _ h => h.1)); have n1_ := Aside0.mk (KeepBut.trans z1_ hk (.inl rfl)); have n2_ := Aside0.mk (hb); have n3_ := Aside0.mk (hi); clear HO_6; clear HK; clear HB; clear HI0; have HO_6 := n0_; have HK := n1_; have HB := n2_; have HI0 := n3_; clear n0_ n1_ n2_ n3_; (try clear hb); (try clear hb2); (try clear hk); (try clear hi)))
       go_meet
       case rel => exact ⟨_, (decide (t191 > (IntKind.u64.wrap (wrap64 (a1 - (x6_1.length : Int)))))), (t195), (t196), z6_, H', ⟨by have := HK1.out; first | omega | exact Nat.le_refl _⟩, ⟨by (with_reducible repeat (first | apply Kd.R_alloc | apply Kd.R_drewN | apply Kd.R_drew)); exact HO_6.out⟩, ⟨z2_⟩, ⟨z1_⟩, ⟨z3_⟩⟩
     ·rw [if_neg c9] at H
      have c9b0 : (t194 == 0) = false := beq_eq_false_iff_ne.mpr c9
      have c9b1 : (t194 != 0) = true := bne_iff_ne.mpr c9
      (first | rw [c9b0] | (simp only [i64_w, i32_w]; rw [c9b0]) | skip)
      have H' := Aside0.mk H
      clear H
      go_wp2_with (first | ((with_reducible refine gate_callee (f := 25) rfl ?_); refine goesL_ (some 16) rfl rfl Try.func25 (by kernel_rfl) rfl #[.pointer (some ⟨g, 0, none⟩)] rfl (by (try simp only [List.map_toArray, List.map_cons, List.map_nil]); first | done | rfl | (simp only [List.length_drop, List.length_take]; rfl) | (go_simp; simp [IntKind.wrap, IntKind.bits, IntKind.signed]; omega)) ?_; (with_reducible refine (tally_Cursor_Err.calls g t192 t193 t194 t195 t196 w0 _ ?side1 ?side2 A8.out).mono ?_); (case side1 => repeat (first | (with_reducible first | exact HI0.out | apply IsS66.alloc | apply IsS66.drewN | apply IsS66.drew | apply IsS66.set_0 | apply IsS66.set_1) | exact HI0.out)); (case side2 => repeat (first | (with_reducible first | exact HB.out | apply below_alloc | apply pw_below_drewN | apply below_drew1 | refine below_set ?_ (IsS66.ge HI0.out)) | exact HB.out)); rintro e w13 ⟨rfl, hi, hb, hk⟩; refine ⟨_, rfl, ?_⟩; have n0_ := Aside0.mk (Kd.R_mono (Kd.R_keep (IsS66.apart (show IsS66 w0 _ g t192 t193 from z2_) (by (with_reducible repeat (first | apply Kd.R_alloc | apply Kd.R_drewN | apply Kd.R_drew)); exact HO_6.out) (by decide)) hk (fun _ h => h.2)) (fun _ h => h.1)); have n1_ := Aside0.mk (KeepBut.trans z1_ hk (.inl rfl)); have n2_ := Aside0.mk (hb); have n3_ := Aside0.mk (hi); clear HO_6; clear HK; clear HB; clear HI0; have HO_6 := n0_; have HK := n1_; have HB := n2_; have HI0 := n3_; clear n0_ n1_ n2_ n3_; (try clear hb); (try clear hb2); (try clear hk); (try clear hi)))
      go_meet
      case rel => exact ⟨_, (false), (t195), (t196), z6_, H', ⟨by have := HK1.out; first | omega | exact Nat.le_refl _⟩, ⟨by (with_reducible repeat (first | apply Kd.R_alloc | apply Kd.R_drewN | apply Kd.R_drew)); exact HO_6.out⟩, ⟨z2_⟩, ⟨z1_⟩, ⟨z3_⟩⟩
    case rest =>
     clear HC5
     try clear c1
     try clear c2
     try clear p2
     try clear c3
     try clear c3b0
     try clear p6
     try clear c9
     try clear c9b0
     try clear c9b1
     try clear c10
     try clear c10b0
     try clear c10b1
     try clear p2
     obtain ⟨kq, x30_4, x1000_4, x1001_4, rfl, HA, HJ4, HO_6, HI0, HK, HB⟩ := hcut
     cases kq with
     | zero => exact absurd HA.out (by simp [ints_readRuns.j1])
     | succ kj4 =>
      have H := HA.out
      clear HA
      simp only [ints_readRuns.j1] at H
      by_cases c14 : x30_4 = true
      ·subst c14
       have H1 : (some (([] : List Int), 4, x1000_4, x1001_4)) = some (r1, r2, r3, r4) := by rw [if_pos rfl] at H; exact H
       clear H
       have H := H1
       clear H1
       simp only [Option.some.injEq, Prod.mk.injEq] at H
       obtain ⟨rfl, rfl, rfl, rfl⟩ := H
       go_wp2
       go_ret2
       exact ⟨_, z5_, z8_, z2_, z3_, z1_⟩
      ·replace c14 := Bool.eq_false_iff.mpr c14
       subst c14
       have H1 : ((tally_Cursor_Int.f x1000_4 x1001_4).bind fun bt197 => ((tally_Cursor_Err.f bt197.2.1 bt197.2.2).bind fun bt200 => (if bt200.1 = 0 then (if (x6_1.length : Int) > 0 then (if 0 ≤ (wrap64 ((x6_1.length : Int) - 1)) then (if (wrap64 ((x6_1.length : Int) - 1)) < (x6_1.length : Int) then (if (rd x6_1 (wrap64 ((x6_1.length : Int) - 1))) = bt197.1 then (some (([] : List Int), 4, bt200.2.1, bt200.2.2)) else ((slices_Repeat_int64_int64.f (([bt197.1] : List Int)) (wrap64 (t191))).bind fun t207 => (if x6_1.length + t207.length < 17592186044416 then (ints_readRuns.l0 kj4 a1 (x6_1 ++ t207) bt200.2.1 bt200.2.2) else (none)))) else (none)) else (none)) else ((slices_Repeat_int64_int64.f (([bt197.1] : List Int)) (wrap64 (t191))).bind fun t216 => (if x6_1.length + t216.length < 17592186044416 then (ints_readRuns.l0 kj4 a1 (x6_1 ++ t216) bt200.2.1 bt200.2.2) else (none)))) else ((tally_Cursor_Err.f bt200.2.1 bt200.2.2).bind fun bt222 => (some (([] : List Int), bt222.1, bt222.2.1, bt222.2.2)))))) = some (r1, r2, r3, r4) := by rw [if_neg (show ¬ (false = true) by decide)] at H; exact H
       clear H
       have H := H1
       clear H1
       replace H := Option.bind_eq_some_iff.mp H
       obtain ⟨⟨t197, t198, t199⟩, A150, H⟩ := H
       replace H : ((tally_Cursor_Err.f t198 t199).bind fun bt200 => (if bt200.1 = 0 then (if (x6_1.length : Int) > 0 then (if 0 ≤ (wrap64 ((x6_1.length : Int) - 1)) then (if (wrap64 ((x6_1.length : Int) - 1)) < (x6_1.length : Int) then (if (rd x6_1 (wrap64 ((x6_1.length : Int) - 1))) = t197 then (some (([] : List Int), 4, bt200.2.1, bt200.2.2)) else ((slices_Repeat_int64_int64.f (([t197] : List Int)) (wrap64 (t191))).bind fun t207 => (if x6_1.length + t207.length < 17592186044416 then (ints_readRuns.l0 kj4 a1 (x6_1 ++ t207) bt200.2.1 bt200.2.2) else (none)))) else (none)) else (none)) else ((slices_Repeat_int64_int64.f (([t197] : List Int)) (wrap64 (t191))).bind fun t216 => (if x6_1.length + t216.length < 17592186044416 then (ints_readRuns.l0 kj4 a1 (x6_1 ++ t216) bt200.2.1 bt200.2.2) else (none)))) else ((tally_Cursor_Err.f bt200.2.1 bt200.2.2).bind fun bt222 => (some (([] : List Int), bt222.1, bt222.2.1, bt222.2.2))))) = some (r1, r2, r3, r4) := H
       have A15 := Aside0.mk A150
       clear A150
       replace H := Option.bind_eq_some_iff.mp H
       obtain ⟨⟨t200, t201, t202⟩, A160, H⟩ := H
       replace H : (if t200 = 0 then (if (x6_1.length : Int) > 0 then (if 0 ≤ (wrap64 ((x6_1.length : Int) - 1)) then (if (wrap64 ((x6_1.length : Int) - 1)) < (x6_1.length : Int) then (if (rd x6_1 (wrap64 ((x6_1.length : Int) - 1))) = t197 then (some (([] : List Int), 4, t201, t202)) else ((slices_Repeat_int64_int64.f (([t197] : List Int)) (wrap64 (t191))).bind fun t207 => (if x6_1.length + t207.length < 17592186044416 then (ints_readRuns.l0 kj4 a1 (x6_1 ++ t207) t201 t202) else (none)))) else (none)) else (none)) else ((slices_Repeat_int64_int64.f (([t197] : List Int)) (wrap64 (t191))).bind fun t216 => (if x6_1.length + t216.length < 17592186044416 then (ints_readRuns.l0 kj4 a1 (x6_1 ++ t216) t201 t202) else (none)))) else ((tally_Cursor_Err.f t201 t202).bind fun bt222 => (some (([] : List Int), bt222.1, bt222.2.1, bt222.2.2)))) = some (r1, r2, r3, r4) := H
       have A16 := Aside0.mk A160
       clear A160
       by_cases c17 : t200 = 0
       ·rw [if_pos c17] at H
        have c17b0 : (t200 == 0) = true := beq_iff_eq.mpr c17
        have c17b1 : (t200 != 0) = false := bne_eq_false_iff_eq.mpr c17
        clear c17
        by_cases c18 : (x6_1.length : Int) > 0
        ·rw [if_pos c18] at H
         have c18b0 : decide (0 < (x6_1.length : Int)) = true := decide_eq_true c18
         have c18b1 : decide (0 < x6_1.length) = true := decide_eq_true (by omega)
         clear c18
         obtain ⟨ji19, hji19⟩ : ∃ j_ : Int, (wrap64 ((x6_1.length : Int) - 1)) = j_ := ⟨_, rfl⟩
         replace H : (if 0 ≤ (ji19) then (if (ji19) < (x6_1.length : Int) then (if (rd x6_1 (ji19)) = t197 then (some (([] : List Int), 4, t201, t202)) else ((slices_Repeat_int64_int64.f (([t197] : List Int)) (wrap64 (t191))).bind fun t207 => (if x6_1.length + t207.length < 17592186044416 then (ints_readRuns.l0 kj4 a1 (x6_1 ++ t207) t201 t202) else (none)))) else (none)) else (none)) = some (r1, r2, r3, r4) := by first | (rw [hji19] at H; exact H) | (simp only [hji19] at H ⊢; exact H)
         (try rw [hji19] at A15)
         (try rw [hji19] at A16)
         have hji19w : (IntKind.i64.wrap ((x6_1.length : Int) - 1)) = ji19 := (i64_w _).trans hji19
         by_cases c20 : 0 ≤ (ji19)
         ·rw [if_pos c20] at H
          have c20b0 : decide (0 ≤ (ji19)) = true := decide_eq_true c20
          clear c20
          by_cases c21 : (ji19) < (x6_1.length : Int)
          ·rw [if_pos c21] at H
           have c21b0 : decide ((ji19) < (x6_1.length : Int)) = true := decide_eq_true c21
           clear c21
           by_cases c22 : (rd x6_1 (ji19)) = t197
           ·rw [if_pos c22] at H
            have c22b0 : ((rd x6_1 (ji19)) == t197) = true := beq_iff_eq.mpr c22
            have c22b1 : ((rd x6_1 (ji19)) != t197) = false := bne_eq_false_iff_eq.mpr c22
            clear c22
            simp only [Option.some.injEq, Prod.mk.injEq] at H
            obtain ⟨rfl, rfl, rfl, rfl⟩ := H
            go_wp2_with (first | ((with_reducible refine gate_callee (f := 56) rfl ?_); refine goesL_ (some 32) rfl rfl Try.func56 (by kernel_rfl) rfl #[.pointer (some ⟨g, 0, none⟩)] rfl (by (try simp only [List.map_toArray, List.map_cons, List.map_nil]); first | done | rfl | (simp only [List.length_drop, List.length_take]; rfl) | (go_simp; simp [IntKind.wrap, IntKind.bits, IntKind.signed]; omega)) ?_; (with_reducible refine (tally_Cursor_Int.calls g x1000_4 x1001_4 t197 t198 t199 w0 _ ?side1 ?side2 A15.out).mono ?_); (case side1 => repeat (first | (with_reducible first | exact HI0.out | apply IsS66.alloc | apply IsS66.drewN | apply IsS66.drew | apply IsS66.set_0 | apply IsS66.set_1) | exact HI0.out)); (case side2 => repeat (first | (with_reducible first | exact HB.out | apply below_alloc | apply pw_below_drewN | apply below_drew1 | refine below_set ?_ (IsS66.ge HI0.out)) | exact HB.out)); rintro e w23 ⟨rfl, hi, hb, hk⟩; refine ⟨_, rfl, ?_⟩; have n0_ := Aside0.mk (Kd.R_mono (Kd.R_keep (IsS66.apart (show IsS66 w0 _ g x1000_4 x1001_4 from z2_) (by (with_reducible repeat (first | apply Kd.R_alloc | apply Kd.R_drewN | apply Kd.R_drew)); exact HO_6.out) (by decide)) hk (fun _ h => h.2)) (fun _ h => h.1)); have n1_ := Aside0.mk (KeepBut.trans z1_ hk (.inl rfl)); have n2_ := Aside0.mk (hb); have n3_ := Aside0.mk (hi); clear HO_6; clear HK; clear HB; clear HI0; have HO_6 := n0_; have HK := n1_; have HB := n2_; have HI0 := n3_; clear n0_ n1_ n2_ n3_; (try clear hb); (try clear hb2); (try clear hk); (try clear hi)) | ((with_reducible refine gate_callee (f := 25) rfl ?_); refine goesL_ (some 35) rfl rfl Try.func25 (by kernel_rfl) rfl #[.pointer (some ⟨g, 0, none⟩)] rfl (by (try simp only [List.map_toArray, List.map_cons, List.map_nil]); first | done | rfl | (simp only [List.length_drop, List.length_take]; rfl) | (go_simp; simp [IntKind.wrap, IntKind.bits, IntKind.signed]; omega)) ?_; (with_reducible refine (tally_Cursor_Err.calls g t198 t199 t200 t201 t202 w0 _ ?side1 ?side2 A16.out).mono ?_); (case side1 => repeat (first | (with_reducible first | exact HI0.out | apply IsS66.alloc | apply IsS66.drewN | apply IsS66.drew | apply IsS66.set_0 | apply IsS66.set_1) | exact HI0.out)); (case side2 => repeat (first | (with_reducible first | exact HB.out | apply below_alloc | apply pw_below_drewN | apply below_drew1 | refine below_set ?_ (IsS66.ge HI0.out)) | exact HB.out)); rintro e w24 ⟨rfl, hi, hb, hk⟩; refine ⟨_, rfl, ?_⟩; have n0_ := Aside0.mk (Kd.R_mono (Kd.R_keep (IsS66.apart (show IsS66 w0 _ g t198 t199 from z2_) (by (with_reducible repeat (first | apply Kd.R_alloc | apply Kd.R_drewN | apply Kd.R_drew)); exact HO_6.out) (by decide)) hk (fun _ h => h.2)) (fun _ h => h.1)); have n1_ := Aside0.mk (KeepBut.trans z1_ hk (.inl rfl)); have n2_ := Aside0.mk (hb); have n3_ := Aside0.mk (hi); clear HO_6; clear HK; clear HB; clear HI0; have HO_6 := n0_; have HK := n1_; have HB := n2_; have HI0 := n3_; clear n0_ n1_ n2_ n3_; (try clear hb); (try clear hb2); (try clear hk); (try clear hi); have p203 : 0 ≤ ((ji19) : Int) := of_decide_eq_true z7_; have q203 : (ji19) < (x6_1.length : Int) := of_decide_eq_true z7_; obtain ⟨ad203, e203, hx203_0⟩ := Kd.at_int (Kd.R_reads' HO_6.out).2.2 (ji19) p203 q203; cases e203; replace p203 := eq_true p203; replace q203 := eq_true q203))
            go_ret2
            exact ⟨_, by first | rfl | (simp [errW_none, errW_some] <;> rfl) | (simp only [← hji19]; first | rfl | (simp [errW_none, errW_some] <;> rfl)) | (simp [*, errW_none, errW_some] <;> rfl), z8_, z2_, z3_, z1_⟩
           ·rw [if_neg c22] at H
            have c22b0 : ((rd x6_1 (ji19)) == t197) = false := beq_eq_false_iff_ne.mpr c22
            have c22b1 : ((rd x6_1 (ji19)) != t197) = true := bne_iff_ne.mpr c22
            obtain ⟨y204, hy204⟩ : ∃ y_ : List Int, y_ = (([t197] : List Int)) := ⟨_, rfl⟩
            replace H : ((slices_Repeat_int64_int64.f y204 (wrap64 (t191))).bind fun t207 => (if x6_1.length + t207.length < 17592186044416 then (ints_readRuns.l0 kj4 a1 (x6_1 ++ t207) t201 t202) else (none))) = some (r1, r2, r3, r4) := by first | (rw [hy204]; with_reducible exact H) | (have H2_ := (Option.bind_some _ _).symm.trans H; rw [hy204]; with_reducible exact H2_) | (have H2_ := (Option.bind_some _ _).symm.trans H; with_reducible exact H2_) | with_reducible exact H | (rw [hy204]; exact H) | exact H
            have Ny204 := Aside0.mk hy204
            clear hy204
            replace H := Option.bind_eq_some_iff.mp H
            obtain ⟨t207, A250, H⟩ := H
            replace H : (if x6_1.length + t207.length < 17592186044416 then (ints_readRuns.l0 kj4 a1 (x6_1 ++ t207) t201 t202) else (none)) = some (r1, r2, r3, r4) := H
            have A25 := Aside0.mk A250
            clear A250
            by_cases c26 : x6_1.length + t207.length < 17592186044416
            ·rw [if_pos c26] at H
             have LMc26 := Aside0.mk c26
             clear c26
             obtain ⟨y210, hy210⟩ : ∃ y_ : List Int, y_ = (x6_1 ++ t207) := ⟨_, rfl⟩
             replace H : (ints_readRuns.l0 kj4 a1 y210 t201 t202) = some (r1, r2, r3, r4) := by first | (rw [hy210]; with_reducible exact H) | (have H2_ := (Option.bind_some _ _).symm.trans H; rw [hy210]; with_reducible exact H2_) | (have H2_ := (Option.bind_some _ _).symm.trans H; with_reducible exact H2_) | with_reducible exact H | (rw [hy210]; exact H) | exact H
             have Ny210 := Aside0.mk hy210
             clear hy210
             have H' := Aside0.mk H
             clear H
             go_wp2_with (first | ((with_reducible refine gate_callee (f := 56) rfl ?_); refine goesL_ (some 32) rfl rfl Try.func56 (by kernel_rfl) rfl #[.pointer (some ⟨g, 0, none⟩)] rfl (by (try simp only [List.map_toArray, List.map_cons, List.map_nil]); first | done | rfl | (simp only [List.length_drop, List.length_take]; rfl) | (go_simp; simp [IntKind.wrap, IntKind.bits, IntKind.signed]; omega)) ?_; (with_reducible refine (tally_Cursor_Int.calls g x1000_4 x1001_4 t197 t198 t199 w0 _ ?side1 ?side2 A15.out).mono ?_); (case side1 => repeat (first | (with_reducible first | exact HI0.out | apply IsS66.alloc | apply IsS66.drewN | apply IsS66.drew | apply IsS66.set_0 | apply IsS66.set_1) | exact HI0.out)); (case side2 => repeat (first | (with_reducible first | exact HB.out | apply below_alloc | apply pw_below_drewN | apply below_drew1 | refine below_set ?_ (IsS66.ge HI0.out)) | exact HB.out)); rintro e w27 ⟨rfl, hi, hb, hk⟩; refine ⟨_, rfl, ?_⟩; have n0_ := Aside0.mk (Kd.R_mono (Kd.R_keep (IsS66.apart (show IsS66 w0 _ g x1000_4 x1001_4 from z2_) (by (with_reducible repeat (first | apply Kd.R_alloc | apply Kd.R_drewN | apply Kd.R_drew)); exact HO_6.out) (by decide)) hk (fun _ h => h.2)) (fun _ h => h.1)); have n1_ := Aside0.mk (KeepBut.trans z1_ hk (.inl rfl)); have n2_ := Aside0.mk (hb); have n3_ := Aside0.mk (hi); clear HO_6; clear HK; clear HB; clear HI0; have HO_6 := n0_; have HK := n1_; have HB := n2_; have HI0 := n3_; clear n0_ n1_ n2_ n3_; (try clear hb); (try clear hb2); (try clear hk); (try clear hi)) | ((with_reducible refine gate_callee (f := 25) rfl ?_); refine goesL_ (some 35) rfl rfl Try.func25 (by kernel_rfl) rfl #[.pointer (some ⟨g, 0, none⟩)] rfl (by (try simp only [List.map_toArray, List.map_cons, List.map_nil]); first | done | rfl | (simp only [List.length_drop, List.length_take]; rfl) | (go_simp; simp [IntKind.wrap, IntKind.bits, IntKind.signed]; omega)) ?_; (with_reducible refine (tally_Cursor_Err.calls g t198 t199 t200 t201 t202 w0 _ ?side1 ?side2 A16.out).mono ?_); (case side1 => repeat (first | (with_reducible first | exact HI0.out | apply IsS66.alloc | apply IsS66.drewN | apply IsS66.drew | apply IsS66.set_0 | apply IsS66.set_1) | exact HI0.out)); (case side2 => repeat (first | (with_reducible first | exact HB.out | apply below_alloc | apply pw_below_drewN | apply below_drew1 | refine below_set ?_ (IsS66.ge HI0.out)) | exact HB.out)); rintro e w28 ⟨rfl, hi, hb, hk⟩; refine ⟨_, rfl, ?_⟩; have n0_ := Aside0.mk (Kd.R_mono (Kd.R_keep (IsS66.apart (show IsS66 w0 _ g t198 t199 from z2_) (by (with_reducible repeat (first | apply Kd.R_alloc | apply Kd.R_drewN | apply Kd.R_drew)); exact HO_6.out) (by decide)) hk (fun _ h => h.2)) (fun _ h => h.1)); have n1_ := Aside0.mk (KeepBut.trans z1_ hk (.inl rfl)); have n2_ := Aside0.mk (hb); have n3_ := Aside0.mk (hi); clear HO_6; clear HK; clear HB; clear HI0; have HO_6 := n0_; have HK := n1_; have HB := n2_; have HI0 := n3_; clear n0_ n1_ n2_ n3_; (try clear hb); (try clear hb2); (try clear hk); (try clear hi); have p203 : 0 ≤ ((ji19) : Int) := of_decide_eq_true z7_; have q203 : (ji19) < (x6_1.length : Int) := of_decide_eq_true z7_; obtain ⟨ad203, e203, hx203_0⟩ := Kd.at_int (Kd.R_reads' HO_6.out).2.2 (ji19) p203 q203; cases e203; replace p203 := eq_true p203; replace q203 := eq_true q203) | ((with_reducible refine gate_dst (N := 55) rfl ?_); (try (refine gate_guard (by rfl) ?_; dsimp only)); refine Kd.R_lit (Kd.int .i64) _ 2 ?hg (N := 55) ?hd (xs := ([t197] : List Int)) (inner := [.int .i64 t197]) (ok := fun _ => True) (okp := fun _ => True) ?hr ?hp (fun _ hk => hk) trivial (Below.refl _ _) (Nat.le_refl _) (by simp) ?_; (case hd => rfl); (case hg => rfl); (case hr => first | (go_simp; done) | (go_simp; rfl)); (case hp => exact (Reps.one (show Kd.M (Kd.int .i64) _ _ _ t197 [.int .i64 t197] from rfl) (Reps.none _ _))); intro v205 w29 ho30 hb hg_ hnew_; clear hg_ hnew_; (first | rw [← Ny204.out] at ho30 | (simp only [Int.reduceToNat] at ho30; rw [← Ny204.out] at ho30)); have n0_ := Aside0.mk (Kd.R_elder' (by (with_reducible repeat (first | apply Kd.R_alloc | apply Kd.R_drewN | apply Kd.R_drew)); exact HO_6.out) (Kd.R_base ho30) hb); have n1_ := Aside0.mk (Kd.R_lower (Kd.R_new' ho30 (Kd.R_lt (by (with_reducible repeat (first | apply Kd.R_alloc | apply Kd.R_drewN | apply Kd.R_drew)); exact HO_6.out))) (keep_size (w := w) (g := g) (row := none) z1_)); have n2_ := Aside0.mk (IsS66.below z2_ hb); have n3_ := Aside0.mk (KeepBut.trans z1_ (KeepBut.of_below hb g none) (.inl rfl)); have n4_ := Aside0.mk (below_step z3_ hb); clear HO_6; clear HI0; clear HK; clear HB; have HO_6 := n0_; have HO206 := n1_; have HI0 := n2_; have HK := n3_; have HB := n4_; clear n0_ n1_ n2_ n3_ n4_; clear hb ho30; obtain ⟨Ao31, co31, eo31⟩ := Kd.R_slice HO206.out; subst eo31) | ((with_reducible refine gate_callee (f := 57) rfl ?_); refine goesL_ (some 58) rfl rfl Try.func57 (by kernel_rfl) rfl #[.slice Ao31 y204.length co31, .int .i64 (wrap64 (t191))] rfl (by (try simp only [List.map_toArray, List.map_cons, List.map_nil]); first | done | rfl | (simp only [List.length_drop, List.length_take]; rfl) | (go_simp; simp [IntKind.wrap, IntKind.bits, IntKind.signed]; omega)) ?_; (with_reducible refine (slices_Repeat_int64_int64.calls _ _ y204 (wrap64 (t191)) t207 _ ?side1 ?side2 A25.out).mono ?_); (case side1 => repeat (first | exact (Kd.R_reads' HO206.out).2.2 | (with_reducible refine Kd.C_alloc ?_ _) | (with_reducible refine Kd.C_drewN ?_ _) | (with_reducible refine Kd.C_drew ?_))); (case side2 => exact (Kd.R_reads' HO206.out).2.1); rintro e w32 ⟨v208, rfl, ho0, hb⟩; refine ⟨_, rfl, ?_⟩; have n0_ := Aside0.mk (Kd.R_elder' (by (with_reducible repeat (first | apply Kd.R_alloc | apply Kd.R_drewN | apply Kd.R_drew)); exact HO_6.out) (Kd.R_base ho0) hb); have n1_ := Aside0.mk (Kd.R_elder' (by (with_reducible repeat (first | apply Kd.R_alloc | apply Kd.R_drewN | apply Kd.R_drew)); exact HO206.out) (Kd.R_base ho0) hb); have n2_ := Aside0.mk (Kd.R_lower (Kd.R_new' (Kd.R_new' ho0 (Kd.R_lt (by (with_reducible repeat (first | apply Kd.R_alloc | apply Kd.R_drewN | apply Kd.R_drew)); exact HO_6.out))) (Kd.R_lt (by (with_reducible repeat (first | apply Kd.R_alloc | apply Kd.R_drewN | apply Kd.R_drew)); exact HO206.out))) (keep_size (w := w) (g := g) (row := none) z1_)); have n3_ := Aside0.mk (IsS66.below z2_ hb); have n4_ := Aside0.mk (KeepBut.trans z1_ (KeepBut.of_below hb g none) (.inl rfl)); have n5_ := Aside0.mk (below_step z3_ hb); clear HO_6; clear HO206; clear HI0; clear HK; clear HB; have HO_6 := n0_; have HO206 := n1_; have HO209 := n2_; have HI0 := n3_; have HK := n4_; have HB := n5_; clear n0_ n1_ n2_ n3_ n4_ n5_; (try clear hb); (try clear hb2); (try clear hk); (try clear hi); (try clear ho0); obtain ⟨Ao34, co34, eo34⟩ := Kd.R_slice HO209.out; subst eo34) | ((with_reducible refine gate_builtin (b := .append) (xs := #[.tmp 53, .tmp 58]) rfl ?_); (try (refine gate_guard (by rfl) ?_; dsimp only)); at_builtin; refine Kd.R_append_rows (Kd.int .i64) w.heap.size rfl (.tmp 53) (.tmp 58) 22 2 (.int .i64 0) 8 rfl Try.underlying22 info2 rfl (by decide) (by omega) (.slice (some ad203) x6_1.length co6) x6_1 t207 _ _ _ (fun k_ => some k_ ≠ (.slice Ao31 y204.length co31 : Value).ownBlock ∧ some k_ ≠ (.slice Ao34 t207.length co34 : Value).ownBlock) (fun _ => False) rfl rfl ?aO ?aR (fun _ _ h => h) (fun _ h => h.elim) ?aF (Below.refl _ _) ?aS ?aL ?_; (case aR => repeat (first | exact (Kd.R_reads' HO209.out).2.2 | (with_reducible refine Kd.C_alloc ?_ _) | (with_reducible refine Kd.C_drewN ?_ _) | (with_reducible refine Kd.C_drew ?_))); (case aF => exact (fun k_ hk => ⟨Kd.fresh' (Kd.R_lt (by (with_reducible repeat (first | apply Kd.R_alloc | apply Kd.R_drewN | apply Kd.R_drew)); exact HO206.out)) k_ hk, Kd.fresh' (Kd.R_lt (by (with_reducible repeat (first | apply Kd.R_alloc | apply Kd.R_drewN | apply Kd.R_drew)); exact HO209.out)) k_ hk⟩)); (case aO => exact (by (with_reducible repeat (first | apply Kd.R_alloc | apply Kd.R_drewN | apply Kd.R_drew)); exact Kd.R_mono HO_6.out (fun _ hk => ⟨hk.1.2, hk.2⟩))); (case aS => exact (keep_size (w := w) (g := g) (row := none) z1_)); (case aL => have := LMc26.out; omega); intro v211 w33 ho hb hg hat; rw [← Ny210.out] at ho; have n0_ := Aside0.mk (IsS66.grown z2_ hg (IsS66.own_ne HI0.out HO_6.out (by decide))); have n1_ := Aside0.mk (Kd.R_after (ok := (fun k_ => some k_ ≠ (.slice Ao34 t207.length co34 : Value).ownBlock)) (by (with_reducible repeat (first | apply Kd.R_alloc | apply Kd.R_drewN | apply Kd.R_drew)); exact Kd.R_mono HO206.out (fun _ hk => ⟨hk.2, hk.1.2⟩)) hg hat); have n2_ := Aside0.mk (Kd.R_after (ok := (fun k_ => some k_ ≠ (.slice Ao31 y204.length co31 : Value).ownBlock)) (by (with_reducible repeat (first | apply Kd.R_alloc | apply Kd.R_drewN | apply Kd.R_drew)); exact Kd.R_mono HO209.out (fun _ hk => ⟨hk.2, hk.1.2⟩)) hg hat); have n3_ := Aside0.mk (below_weaken z3_ HL.out hb); have n4_ := Aside0.mk (KeepBut.trans z1_ (KeepBut.of_grown hg g) (Kd.R_base2 HO_6.out)); have n5_ := Aside0.mk (ho); clear HI0; clear HO206; clear HO209; clear HB; clear HK; clear HO_6; have HI0 := n0_; have HO206 := n1_; have HO209 := n2_; have HB := n3_; have HK := n4_; have HO212 := n5_; clear n0_ n1_ n2_ n3_ n4_ n5_; clear ho hb hg hat))
             go_roundg kj4
             case measure => have := HK1.out; have := HJ4.out; omega
             case rel => exact ⟨(y210), (t201), (t202), H', ⟨by have := HK1.out; have := HJ4.out; omega⟩, ⟨by (with_reducible repeat (first | apply Kd.R_alloc | apply Kd.R_drewN | apply Kd.R_drew)); exact Kd.R_mono HO212.out (fun _ hk => trivial)⟩, ⟨z2_⟩, ⟨z1_⟩, ⟨z3_⟩⟩
            ·rw [if_neg c26] at H
             exact absurd H (by simp)
          ·rw [if_neg c21] at H
           exact absurd H (by simp)
         ·rw [if_neg c20] at H
          exact absurd H (by simp)
        ·rw [if_neg c18] at H
         have c18b0 : decide (0 < (x6_1.length : Int)) = false := decide_eq_false c18
         have c18b1 : decide (0 < x6_1.length) = false := decide_eq_false (by omega)
         clear c18
         obtain ⟨y213, hy213⟩ : ∃ y_ : List Int, y_ = (([t197] : List Int)) := ⟨_, rfl⟩
         replace H : ((slices_Repeat_int64_int64.f y213 (wrap64 (t191))).bind fun t216 => (if x6_1.length + t216.length < 17592186044416 then (ints_readRuns.l0 kj4 a1 (x6_1 ++ t216) t201 t202) else (none))) = some (r1, r2, r3, r4) := by first | (rw [hy213]; with_reducible exact H) | (have H2_ := (Option.bind_some _ _).symm.trans H; rw [hy213]; with_reducible exact H2_) | (have H2_ := (Option.bind_some _ _).symm.trans H; with_reducible exact H2_) | with_reducible exact H | (rw [hy213]; exact H) | exact H
         have Ny213 := Aside0.mk hy213
         clear hy213
         replace H := Option.bind_eq_some_iff.mp H
         obtain ⟨t216, A350, H⟩ := H
         replace H : (if x6_1.length + t216.length < 17592186044416 then (ints_readRuns.l0 kj4 a1 (x6_1 ++ t216) t201 t202) else (none)) = some (r1, r2, r3, r4) := H
         have A35 := Aside0.mk A350
         clear A350
         by_cases c36 : x6_1.length + t216.length < 17592186044416
         ·rw [if_pos c36] at H
          have LMc36 := Aside0.mk c36
          clear c36
          obtain ⟨y219, hy219⟩ : ∃ y_ : List Int, y_ = (x6_1 ++ t216) := ⟨_, rfl⟩
          replace H : (ints_readRuns.l0 kj4 a1 y219 t201 t202) = some (r1, r2, r3, r4) := by first | (rw [hy219]; with_reducible exact H) | (have H2_ := (Option.bind_some _ _).symm.trans H; rw [hy219]; with_reducible exact H2_) | (have H2_ := (Option.bind_some _ _).symm.trans H; with_reducible exact H2_) | with_reducible exact H | (rw [hy219]; exact H) | exact H
          have Ny219 := Aside0.mk hy219
          clear hy219
          have H' := Aside0.mk H
          clear H
          go_wp2_with (first | ((with_reducible refine gate_callee (f := 56) rfl ?_); refine goesL_ (some 32) rfl rfl Try.func56 (by kernel_rfl) rfl #[.pointer (some ⟨g, 0, none⟩)] rfl (by (try simp only [List.map_toArray, List.map_cons, List.map_nil]); first | done | rfl | (simp only [List.length_drop, List.length_take]; rfl) | (go_simp; simp [IntKind.wrap, IntKind.bits, IntKind.signed]; omega)) ?_; (with_reducible refine (tally_Cursor_Int.calls g x1000_4 x1001_4 t197 t198 t199 w0 _ ?side1 ?side2 A15.out).mono ?_); (case side1 => repeat (first | (with_reducible first | exact HI0.out | apply IsS66.alloc | apply IsS66.drewN | apply IsS66.drew | apply IsS66.set_0 | apply IsS66.set_1) | exact HI0.out)); (case side2 => repeat (first | (with_reducible first | exact HB.out | apply below_alloc | apply pw_below_drewN | apply below_drew1 | refine below_set ?_ (IsS66.ge HI0.out)) | exact HB.out)); rintro e w37 ⟨rfl, hi, hb, hk⟩; refine ⟨_, rfl, ?_⟩; have n0_ := Aside0.mk (Kd.R_mono (Kd.R_keep (IsS66.apart (show IsS66 w0 _ g x1000_4 x1001_4 from z2_) (by (with_reducible repeat (first | apply Kd.R_alloc | apply Kd.R_drewN | apply Kd.R_drew)); exact HO_6.out) (by decide)) hk (fun _ h => h.2)) (fun _ h => h.1)); have n1_ := Aside0.mk (KeepBut.trans z1_ hk (.inl rfl)); have n2_ := Aside0.mk (hb); have n3_ := Aside0.mk (hi); clear HO_6; clear HK; clear HB; clear HI0; have HO_6 := n0_; have HK := n1_; have HB := n2_; have HI0 := n3_; clear n0_ n1_ n2_ n3_; (try clear hb); (try clear hb2); (try clear hk); (try clear hi)) | ((with_reducible refine gate_callee (f := 25) rfl ?_); refine goesL_ (some 35) rfl rfl Try.func25 (by kernel_rfl) rfl #[.pointer (some ⟨g, 0, none⟩)] rfl (by (try simp only [List.map_toArray, List.map_cons, List.map_nil]); first | done | rfl | (simp only [List.length_drop, List.length_take]; rfl) | (go_simp; simp [IntKind.wrap, IntKind.bits, IntKind.signed]; omega)) ?_; (with_reducible refine (tally_Cursor_Err.calls g t198 t199 t200 t201 t202 w0 _ ?side1 ?side2 A16.out).mono ?_); (case side1 => repeat (first | (with_reducible first | exact HI0.out | apply IsS66.alloc | apply IsS66.drewN | apply IsS66.drew | apply IsS66.set_0 | apply IsS66.set_1) | exact HI0.out)); (case side2 => repeat (first | (with_reducible first | exact HB.out | apply below_alloc | apply pw_below_drewN | apply below_drew1 | refine below_set ?_ (IsS66.ge HI0.out)) | exact HB.out)); rintro e w38 ⟨rfl, hi, hb, hk⟩; refine ⟨_, rfl, ?_⟩; have n0_ := Aside0.mk (Kd.R_mono (Kd.R_keep (IsS66.apart (show IsS66 w0 _ g t198 t199 from z2_) (by (with_reducible repeat (first | apply Kd.R_alloc | apply Kd.R_drewN | apply Kd.R_drew)); exact HO_6.out) (by decide)) hk (fun _ h => h.2)) (fun _ h => h.1)); have n1_ := Aside0.mk (KeepBut.trans z1_ hk (.inl rfl)); have n2_ := Aside0.mk (hb); have n3_ := Aside0.mk (hi); clear HO_6; clear HK; clear HB; clear HI0; have HO_6 := n0_; have HK := n1_; have HB := n2_; have HI0 := n3_; clear n0_ n1_ n2_ n3_; (try clear hb); (try clear hb2); (try clear hk); (try clear hi)) | ((with_reducible refine gate_dst (N := 55) rfl ?_); (try (refine gate_guard (by rfl) ?_; dsimp only)); refine Kd.R_lit (Kd.int .i64) _ 2 ?hg (N := 55) ?hd (xs := ([t197] : List Int)) (inner := [.int .i64 t197]) (ok := fun _ => True) (okp := fun _ => True) ?hr ?hp (fun _ hk => hk) trivial (Below.refl _ _) (Nat.le_refl _) (by simp) ?_; (case hd => rfl); (case hg => rfl); (case hr => first | (go_simp; done) | (go_simp; rfl)); (case hp => exact (Reps.one (show Kd.M (Kd.int .i64) _ _ _ t197 [.int .i64 t197] from rfl) (Reps.none _ _))); intro v214 w39 ho40 hb hg_ hnew_; clear hg_ hnew_; (first | rw [← Ny213.out] at ho40 | (simp only [Int.reduceToNat] at ho40; rw [← Ny213.out] at ho40)); have n0_ := Aside0.mk (Kd.R_elder' (by (with_reducible repeat (first | apply Kd.R_alloc | apply Kd.R_drewN | apply Kd.R_drew)); exact HO_6.out) (Kd.R_base ho40) hb); have n1_ := Aside0.mk (Kd.R_lower (Kd.R_new' ho40 (Kd.R_lt (by (with_reducible repeat (first | apply Kd.R_alloc | apply Kd.R_drewN | apply Kd.R_drew)); exact HO_6.out))) (keep_size (w := w) (g := g) (row := none) z1_)); have n2_ := Aside0.mk (IsS66.below z2_ hb); have n3_ := Aside0.mk (KeepBut.trans z1_ (KeepBut.of_below hb g none) (.inl rfl)); have n4_ := Aside0.mk (below_step z3_ hb); clear HO_6; clear HI0; clear HK; clear HB; have HO_6 := n0_; have HO215 := n1_; have HI0 := n2_; have HK := n3_; have HB := n4_; clear n0_ n1_ n2_ n3_ n4_; clear hb ho40; obtain ⟨Ao41, co41, eo41⟩ := Kd.R_slice HO215.out; subst eo41) | ((with_reducible refine gate_callee (f := 57) rfl ?_); refine goesL_ (some 58) rfl rfl Try.func57 (by kernel_rfl) rfl #[.slice Ao41 y213.length co41, .int .i64 (wrap64 (t191))] rfl (by (try simp only [List.map_toArray, List.map_cons, List.map_nil]); first | done | rfl | (simp only [List.length_drop, List.length_take]; rfl) | (go_simp; simp [IntKind.wrap, IntKind.bits, IntKind.signed]; omega)) ?_; (with_reducible refine (slices_Repeat_int64_int64.calls _ _ y213 (wrap64 (t191)) t216 _ ?side1 ?side2 A35.out).mono ?_); (case side1 => repeat (first | exact (Kd.R_reads' HO215.out).2.2 | (with_reducible refine Kd.C_alloc ?_ _) | (with_reducible refine Kd.C_drewN ?_ _) | (with_reducible refine Kd.C_drew ?_))); (case side2 => exact (Kd.R_reads' HO215.out).2.1); rintro e w42 ⟨v217, rfl, ho0, hb⟩; refine ⟨_, rfl, ?_⟩; have n0_ := Aside0.mk (Kd.R_elder' (by (with_reducible repeat (first | apply Kd.R_alloc | apply Kd.R_drewN | apply Kd.R_drew)); exact HO_6.out) (Kd.R_base ho0) hb); have n1_ := Aside0.mk (Kd.R_elder' (by (with_reducible repeat (first | apply Kd.R_alloc | apply Kd.R_drewN | apply Kd.R_drew)); exact HO215.out) (Kd.R_base ho0) hb); have n2_ := Aside0.mk (Kd.R_lower (Kd.R_new' (Kd.R_new' ho0 (Kd.R_lt (by (with_reducible repeat (first | apply Kd.R_alloc | apply Kd.R_drewN | apply Kd.R_drew)); exact HO_6.out))) (Kd.R_lt (by (with_reducible repeat (first | apply Kd.R_alloc | apply Kd.R_drewN | apply Kd.R_drew)); exact HO215.out))) (keep_size (w := w) (g := g) (row := none) z1_)); have n3_ := Aside0.mk (IsS66.below z2_ hb); have n4_ := Aside0.mk (KeepBut.trans z1_ (KeepBut.of_below hb g none) (.inl rfl)); have n5_ := Aside0.mk (below_step z3_ hb); clear HO_6; clear HO215; clear HI0; clear HK; clear HB; have HO_6 := n0_; have HO215 := n1_; have HO218 := n2_; have HI0 := n3_; have HK := n4_; have HB := n5_; clear n0_ n1_ n2_ n3_ n4_ n5_; (try clear hb); (try clear hb2); (try clear hk); (try clear hi); (try clear ho0); obtain ⟨Ao44, co44, eo44⟩ := Kd.R_slice HO218.out; subst eo44) | ((with_reducible refine gate_builtin (b := .append) (xs := #[.tmp 53, .tmp 58]) rfl ?_); (try (refine gate_guard (by rfl) ?_; dsimp only)); at_builtin; refine Kd.R_append_rows (Kd.int .i64) w.heap.size rfl (.tmp 53) (.tmp 58) 22 2 (.int .i64 0) 8 rfl Try.underlying22 info2 rfl (by decide) (by omega) (.slice Ao6 x6_1.length co6) x6_1 t216 _ _ _ (fun k_ => some k_ ≠ (.slice Ao41 y213.length co41 : Value).ownBlock ∧ some k_ ≠ (.slice Ao44 t216.length co44 : Value).ownBlock) (fun _ => False) rfl rfl ?aO ?aR (fun _ _ h => h) (fun _ h => h.elim) ?aF (Below.refl _ _) ?aS ?aL ?_; (case aR => repeat (first | exact (Kd.R_reads' HO218.out).2.2 | (with_reducible refine Kd.C_alloc ?_ _) | (with_reducible refine Kd.C_drewN ?_ _) | (with_reducible refine Kd.C_drew ?_))); (case aF => exact (fun k_ hk => ⟨Kd.fresh' (Kd.R_lt (by (with_reducible repeat (first | apply Kd.R_alloc | apply Kd.R_drewN | apply Kd.R_drew)); exact HO215.out)) k_ hk, Kd.fresh' (Kd.R_lt (by (with_reducible repeat (first | apply Kd.R_alloc | apply Kd.R_drewN | apply Kd.R_drew)); exact HO218.out)) k_ hk⟩)); (case aO => exact (by (with_reducible repeat (first | apply Kd.R_alloc | apply Kd.R_drewN | apply Kd.R_drew)); exact Kd.R_mono HO_6.out (fun _ hk => ⟨hk.1.2, hk.2⟩))); (case aS => exact (keep_size (w := w) (g := g) (row := none) z1_)); (case aL => have := LMc36.out; omega); intro v220 w43 ho hb hg hat; rw [← Ny219.out] at ho; have n0_ := Aside0.mk (IsS66.grown z2_ hg (IsS66.own_ne HI0.out HO_6.out (by decide))); have n1_ := Aside0.mk (Kd.R_after (ok := (fun k_ => some k_ ≠ (.slice Ao44 t216.length co44 : Value).ownBlock)) (by (with_reducible repeat (first | apply Kd.R_alloc | apply Kd.R_drewN | apply Kd.R_drew)); exact Kd.R_mono HO215.out (fun _ hk => ⟨hk.2, hk.1.2⟩)) hg hat); have n2_ := Aside0.mk (Kd.R_after (ok := (fun k_ => some k_ ≠ (.slice Ao41 y213.length co41 : Value).ownBlock)) (by (with_reducible repeat (first | apply Kd.R_alloc | apply Kd.R_drewN | apply Kd.R_drew)); exact Kd.R_mono HO218.out (fun _ hk => ⟨hk.2, hk.1.2⟩)) hg hat); have n3_ := Aside0.mk (below_weaken z3_ HL.out hb); have n4_ := Aside0.mk (KeepBut.trans z1_ (KeepBut.of_grown hg g) (Kd.R_base2 HO_6.out)); have n5_ := Aside0.mk (ho); clear HI0; clear HO215; clear HO218; clear HB; clear HK; clear HO_6; have HI0 := n0_; have HO215 := n1_; have HO218 := n2_; have HB := n3_; have HK := n4_; have HO221 := n5_; clear n0_ n1_ n2_ n3_ n4_ n5_; clear ho hb hg hat))
          go_roundg kj4
          case measure => have := HK1.out; have := HJ4.out; omega
          case rel => exact ⟨(y219), (t201), (t202), H', ⟨by have := HK1.out; have := HJ4.out; omega⟩, ⟨by (with_reducible repeat (first | apply Kd.R_alloc | apply Kd.R_drewN | apply Kd.R_drew)); exact Kd.R_mono HO221.out (fun _ hk => trivial)⟩, ⟨z2_⟩, ⟨z1_⟩, ⟨z3_⟩⟩
         ·rw [if_neg c36] at H
          exact absurd H (by simp)
       ·rw [if_neg c17] at H
        have c17b0 : (t200 == 0) = false := beq_eq_false_iff_ne.mpr c17
        have c17b1 : (t200 != 0) = true := bne_iff_ne.mpr c17
        replace H := Option.bind_eq_some_iff.mp H
        obtain ⟨⟨t222, t223, t224⟩, A450, H⟩ := H
        replace H : (some (([] : List Int), t222, t223, t224)) = some (r1, r2, r3, r4) := H
        have A45 := Aside0.mk A450
        clear A450
        simp only [Option.some.injEq, Prod.mk.injEq] at H
        obtain ⟨rfl, rfl, rfl, rfl⟩ := H
        go_wp2_with (first | ((with_reducible refine gate_callee (f := 56) rfl ?_); refine goesL_ (some 32) rfl rfl Try.func56 (by kernel_rfl) rfl #[.pointer (some ⟨g, 0, none⟩)] rfl (by (try simp only [List.map_toArray, List.map_cons, List.map_nil]); first | done | rfl | (simp only [List.length_drop, List.length_take]; rfl) | (go_simp; simp [IntKind.wrap, IntKind.bits, IntKind.signed]; omega)) ?_; (with_reducible refine (tally_Cursor_Int.calls g x1000_4 x1001_4 t197 t198 t199 w0 _ ?side1 ?side2 A15.out).mono ?_); (case side1 => repeat (first | (with_reducible first | exact HI0.out | apply IsS66.alloc | apply IsS66.drewN | apply IsS66.drew | apply IsS66.set_0 | apply IsS66.set_1) | exact HI0.out)); (case side2 => repeat (first | (with_reducible first | exact HB.out | apply below_alloc | apply pw_below_drewN | apply below_drew1 | refine below_set ?_ (IsS66.ge HI0.out)) | exact HB.out)); rintro e w46 ⟨rfl, hi, hb, hk⟩; refine ⟨_, rfl, ?_⟩; have n0_ := Aside0.mk (Kd.R_mono (Kd.R_keep (IsS66.apart (show IsS66 w0 _ g x1000_4 x1001_4 from z2_) (by (with_reducible repeat (first | apply Kd.R_alloc | apply Kd.R_drewN | apply Kd.R_drew)); exact HO_6.out) (by decide)) hk (fun _ h => h.2)) (fun _ h => h.1)); have n1_ := Aside0.mk (KeepBut.trans z1_ hk (.inl rfl)); have n2_ := Aside0.mk (hb); have n3_ := Aside0.mk (hi); clear HO_6; clear HK; clear HB; clear HI0; have HO_6 := n0_; have HK := n1_; have HB := n2_; have HI0 := n3_; clear n0_ n1_ n2_ n3_; (try clear hb); (try clear hb2); (try clear hk); (try clear hi)) | ((with_reducible refine gate_callee (f := 25) rfl ?_); refine goesL_ (some 35) rfl rfl Try.func25 (by kernel_rfl) rfl #[.pointer (some ⟨g, 0, none⟩)] rfl (by (try simp only [List.map_toArray, List.map_cons, List.map_nil]); first | done | rfl | (simp only [List.length_drop, List.length_take]; rfl) | (go_simp; simp [IntKind.wrap, IntKind.bits, IntKind.signed]; omega)) ?_; (with_reducible refine (tally_Cursor_Err.calls g t198 t199 t200 t201 t202 w0 _ ?side1 ?side2 A16.out).mono ?_); (case side1 => repeat (first | (with_reducible first | exact HI0.out | apply IsS66.alloc | apply IsS66.drewN | apply IsS66.drew | apply IsS66.set_0 | apply IsS66.set_1) | exact HI0.out)); (case side2 => repeat (first | (with_reducible first | exact HB.out | apply below_alloc | apply pw_below_drewN | apply below_drew1 | refine below_set ?_ (IsS66.ge HI0.out)) | exact HB.out)); rintro e w47 ⟨rfl, hi, hb, hk⟩; refine ⟨_, rfl, ?_⟩; have n0_ := Aside0.mk (Kd.R_mono (Kd.R_keep (IsS66.apart (show IsS66 w0 _ g t198 t199 from z2_) (by (with_reducible repeat (first | apply Kd.R_alloc | apply Kd.R_drewN | apply Kd.R_drew)); exact HO_6.out) (by decide)) hk (fun _ h => h.2)) (fun _ h => h.1)); have n1_ := Aside0.mk (KeepBut.trans z1_ hk (.inl rfl)); have n2_ := Aside0.mk (hb); have n3_ := Aside0.mk (hi); clear HO_6; clear HK; clear HB; clear HI0; have HO_6 := n0_; have HK := n1_; have HB := n2_; have HI0 := n3_; clear n0_ n1_ n2_ n3_; (try clear hb); (try clear hb2); (try clear hk); (try clear hi)) | ((with_reducible refine gate_callee (f := 25) rfl ?_); refine goesL_ (some 38) rfl rfl Try.func25 (by kernel_rfl) rfl #[.pointer (some ⟨g, 0, none⟩)] rfl (by (try simp only [List.map_toArray, List.map_cons, List.map_nil]); first | done | rfl | (simp only [List.length_drop, List.length_take]; rfl) | (go_simp; simp [IntKind.wrap, IntKind.bits, IntKind.signed]; omega)) ?_; (with_reducible refine (tally_Cursor_Err.calls g t201 t202 t222 t223 t224 w0 _ ?side1 ?side2 A45.out).mono ?_); (case side1 => repeat (first | (with_reducible first | exact HI0.out | apply IsS66.alloc | apply IsS66.drewN | apply IsS66.drew | apply IsS66.set_0 | apply IsS66.set_1) | exact HI0.out)); (case side2 => repeat (first | (with_reducible first | exact HB.out | apply below_alloc | apply pw_below_drewN | apply below_drew1 | refine below_set ?_ (IsS66.ge HI0.out)) | exact HB.out)); rintro e w48 ⟨rfl, hi, hb, hk⟩; refine ⟨_, rfl, ?_⟩; have n0_ := Aside0.mk (Kd.R_mono (Kd.R_keep (IsS66.apart (show IsS66 w0 _ g t201 t202 from z2_) (by (with_reducible repeat (first | apply Kd.R_alloc | apply Kd.R_drewN | apply Kd.R_drew)); exact HO_6.out) (by decide)) hk (fun _ h => h.2)) (fun _ h => h.1)); have n1_ := Aside0.mk (KeepBut.trans z1_ hk (.inl rfl)); have n2_ := Aside0.mk (hb); have n3_ := Aside0.mk (hi); clear HO_6; clear HK; clear HB; clear HI0; have HO_6 := n0_; have HK := n1_; have HB := n2_; have HI0 := n3_; clear n0_ n1_ n2_ n3_; (try clear hb); (try clear hb2); (try clear hk); (try clear hi)))
        go_ret2
        exact ⟨_, z5_, z8_, z2_, z3_, z1_⟩
   ·rw [if_neg c3] at H
    have c3b0 : decide ((x6_1.length : Int) < a1) = false := decide_eq_false c3
    clear c3
    simp only [Option.some.injEq, Prod.mk.injEq] at H
    obtain ⟨rfl, rfl, rfl, rfl⟩ := H
    obtain ⟨Ao49, co49, eo49⟩ := Kd.R_slice HO_6.out
    subst eo49
    go_wp2
    go_ret2
    exact ⟨_, z5_, by (with_reducible repeat (first | apply Kd.R_alloc | apply Kd.R_drewN | apply Kd.R_drew)); exact HO_6.out, z2_, z3_, z1_⟩
end Go.Proofs.Ytgeddoklmcjdcaa.G
namespace Go.Proofs.Ytgeddoklmcjdcaa.G
open Go.RowKit Go.Proofs.YtgeddoklmcjdcaaQ Go.Proofs.YtgeddoklmcjdcaaW.PrintWords Go.Proofs.YtgeddoklmcjdcaaW.PrintLast Go.Proofs.YtgeddoklmcjdcaaW.PrintMore
attribute [local go_sem] max2_int min2_int max_two min_two max_three min_three max_four min_four   -- for this text's walks alone
set_option linter.unusedVariables false
set_option linter.unusedSimpArgs false
def tally_Cursor_Byte.f (s0_0 : ByteArray) (s0_1 : Int) : Option (Int × ByteArray × Int) := (tally_Cursor_ok.f s0_0 s0_1).bind fun bt249 => (if bt249.1 = true then (if bt249.2.1.toList = ([] : List UInt8) then (some (0, bt249.2.1, 2)) else (if 0 < (bt249.2.1.size : Int) then (if 1 ≤ (bt249.2.1.size : Int) then (some (wrap64 (bt bt249.2.1 0), bt249.2.1.extract 1 bt249.2.1.size, bt249.2.2)) else (none)) else (none))) else (some (0, bt249.2.1, bt249.2.2)))
set_option maxHeartbeats 8000000 in
set_option maxRecDepth 100000 in
theorem tally_Cursor_Byte.calls (g : Nat) (s0_0 : ByteArray) (s0_1 : Int) (r1 : Int) (r2 : ByteArray) (r3 : Int) (w0 w : World) (hI : IsS66 w0 w g s0_0 s0_1) (hB : Below w0.heap.size w0 w) (h : tally_Cursor_Byte.f s0_0 s0_1 = some (r1, r2, r3)) :
  Calls Try.prog 24 #[.pointer (some ⟨g, 0, none⟩)] w fun e w' => e = .returned (.int .i64 r1) ∧ IsS66 w0 w' g r2 r3 ∧ Below w0.heap.size w0 w' ∧ KeepBut w w' g none := by
 have HI0 := Aside0.mk hI
 have HK := Aside0.mk (KeepBut.refl w g none)
 have HL := Aside0.mk hB.size
 clear hI
 have HW0 := Aside0.mk hB.size
 have HB := Aside0.mk hB
 clear hB
 have H : ((tally_Cursor_ok.f s0_0 s0_1).bind fun bt249 => (if bt249.1 = true then (if bt249.2.1.toList = ([] : List UInt8) then (some (0, bt249.2.1, 2)) else (if 0 < (bt249.2.1.size : Int) then (if 1 ≤ (bt249.2.1.size : Int) then (some (wrap64 (bt bt249.2.1 0), bt249.2.1.extract 1 bt249.2.1.size, bt249.2.2)) else (none)) else (none))) else (some (0, bt249.2.1, bt249.2.2)))) = some (r1, r2, r3) := h
 clear h
 replace H := Option.bind_eq_some_iff.mp H
 obtain ⟨⟨t249, t250, t251⟩, A20, H⟩ := H
 replace H : (if t249 = true then (if t250.toList = ([] : List UInt8) then (some (0, t250, 2)) else (if 0 < (t250.size : Int) then (if 1 ≤ (t250.size : Int) then (some (wrap64 (bt t250 0), t250.extract 1 t250.size, t251)) else (none)) else (none))) else (some (0, t250, t251))) = some (r1, r2, r3) := H
 have A2 := Aside0.mk A20
 clear A20
 by_cases c3 : t249 = true
 ·subst c3
  have H1 : (if t250.toList = ([] : List UInt8) then (some (0, t250, 2)) else (if 0 < (t250.size : Int) then (if 1 ≤ (t250.size : Int) then (some (wrap64 (bt t250 0), t250.extract 1 t250.size, t251)) else (none)) else (none))) = some (r1, r2, r3) := by rw [if_pos rfl] at H; exact H
  clear H
  have H := H1
  clear H1
  by_cases c4 : t250.toList = ([] : List UInt8)
  ·rw [if_pos c4] at H
   have c4b0 : (t250.toList == ([] : List UInt8)) = true := beq_iff_eq.mpr c4
   have c4b1 : (t250.toList != ([] : List UInt8)) = false := bne_eq_false_iff_eq.mpr c4
   clear c4
   simp only [Option.some.injEq, Prod.mk.injEq] at H
   obtain ⟨rfl, rfl, rfl⟩ := H
   go_enter Try.func24, Try.ntmps24
   go_wp2_with (first | ((with_reducible refine gate_callee (f := 47) rfl ?_); refine goesL_ (some 5) rfl rfl Try.func47 (by kernel_rfl) rfl #[.pointer (some ⟨g, 0, none⟩)] rfl (by (try simp only [List.map_toArray, List.map_cons, List.map_nil]); first | done | rfl | (simp only [List.length_drop, List.length_take]; rfl) | (go_simp; simp [IntKind.wrap, IntKind.bits, IntKind.signed]; omega)) ?_; (with_reducible refine (tally_Cursor_ok.calls g s0_0 s0_1 true t250 t251 w0 _ ?side1 ?side2 A2.out).mono ?_); (case side1 => repeat (first | (with_reducible first | exact HI0.out | apply IsS66.alloc | apply IsS66.drewN | apply IsS66.drew | apply IsS66.set_0 | apply IsS66.set_1) | exact HI0.out)); (case side2 => repeat (first | (with_reducible first | exact HB.out | apply below_alloc | apply pw_below_drewN | apply below_drew1 | refine below_set ?_ (IsS66.ge HI0.out)) | exact HB.out)); rintro e w5 ⟨rfl, hi, hb, hk⟩; refine ⟨_, rfl, ?_⟩; have n0_ := Aside0.mk (KeepBut.trans z1_ hk (.inl rfl)); have n1_ := Aside0.mk (hb); have n2_ := Aside0.mk (hi); clear HK; clear HB; clear HI0; have HK := n0_; have HB := n1_; have HI0 := n2_; clear n0_ n1_ n2_; (try clear hb); (try clear hb2); (try clear hk); (try clear hi); obtain ⟨HGz6, hgz6⟩ := HI0.out; have hcz6_0 := cellS66_0 HGz6; have hcz6_1 := cellS66_1 HGz6; have hfz6_0 := blk_frozen HGz6 0; have hfz6_1 := blk_frozen HGz6 1; clear HGz6 hgz6))
   go_ret
   exact ⟨z5_, z2_, z3_, z1_⟩
  ·rw [if_neg c4] at H
   have c4b0 : (t250.toList == ([] : List UInt8)) = false := beq_eq_false_iff_ne.mpr c4
   have c4b1 : (t250.toList != ([] : List UInt8)) = true := bne_iff_ne.mpr c4
   by_cases c7 : 0 < (t250.size : Int)
   ·rw [if_pos c7] at H
    have c7b0 : decide (0 < (t250.size : Int)) = true := decide_eq_true c7
    have c7b1 : decide (0 < t250.size) = true := decide_eq_true (by omega)
    clear c7
    by_cases c9 : 1 ≤ (t250.size : Int)
    ·rw [if_pos c9] at H
     have c9b0 := eq_true c9
     have c9b1 : decide (1 ≤ (t250.size : Int)) = true := decide_eq_true c9
     clear c9
     simp only [Option.some.injEq, Prod.mk.injEq] at H
     obtain ⟨rfl, rfl, rfl⟩ := H
     go_enter Try.func24, Try.ntmps24
     go_wp2_with (first | ((with_reducible refine gate_callee (f := 47) rfl ?_); refine goesL_ (some 5) rfl rfl Try.func47 (by kernel_rfl) rfl #[.pointer (some ⟨g, 0, none⟩)] rfl (by (try simp only [List.map_toArray, List.map_cons, List.map_nil]); first | done | rfl | (simp only [List.length_drop, List.length_take]; rfl) | (go_simp; simp [IntKind.wrap, IntKind.bits, IntKind.signed]; omega)) ?_; (with_reducible refine (tally_Cursor_ok.calls g s0_0 s0_1 true t250 t251 w0 _ ?side1 ?side2 A2.out).mono ?_); (case side1 => repeat (first | (with_reducible first | exact HI0.out | apply IsS66.alloc | apply IsS66.drewN | apply IsS66.drew | apply IsS66.set_0 | apply IsS66.set_1) | exact HI0.out)); (case side2 => repeat (first | (with_reducible first | exact HB.out | apply below_alloc | apply pw_below_drewN | apply below_drew1 | refine below_set ?_ (IsS66.ge HI0.out)) | exact HB.out)); rintro e w10 ⟨rfl, hi, hb, hk⟩; refine ⟨_, rfl, ?_⟩; have n0_ := Aside0.mk (KeepBut.trans z1_ hk (.inl rfl)); have n1_ := Aside0.mk (hb); have n2_ := Aside0.mk (hi); clear HK; clear HB; clear HI0; have HK := n0_; have HB := n1_; have HI0 := n2_; clear n0_ n1_ n2_; (try clear hb); (try clear hb2); (try clear hk); (try clear hi); obtain ⟨HGz11, hgz11⟩ := HI0.out; have hcz11_0 := cellS66_0 HGz11; have hcz11_1 := cellS66_1 HGz11; have hfz11_0 := blk_frozen HGz11 0; have hfz11_1 := blk_frozen HGz11 1; clear HGz11 hgz11; have p8 : 0 ≤ (0 : Int) := (by omega); have q8 : 0 < t250.size := (by have : (0 : Int) < (t250.size : Int) := of_decide_eq_true z7_; omega); have hx8 : ∀ h : 0 < t250.size, ((t250[0]'h).toNat : Int) = bt t250 0 := bt_at t250 0; clear p8; have qi8 : (0 < (t250.size : Int)) = True := eq_true (of_decide_eq_true z7_); replace q8 := eq_true q8))
     go_ret
     exact ⟨z5_, z2_, z3_, z1_⟩
    ·rw [if_neg c9] at H
     exact absurd H (by simp)
   ·rw [if_neg c7] at H
    exact absurd H (by simp)
 ·replace c3 := Bool.eq_false_iff.mpr c3
  subst c3
  have H1 : (some (0, t250, t251)) = some (r1, r2, r3) := by rw [if_neg (show ¬ (false = true) by decide)] at H; exact H
  clear H
  have H := H1
  clear H1
  simp only [Option.some.injEq, Prod.mk.injEq] at H
  obtain ⟨rfl, rfl, rfl⟩ := H
  go_enter Try.func24, Try.ntmps24
  go_wp2_with (first | ((with_reducible refine gate_callee (f := 47) rfl ?_); refine goesL_ (some 5) rfl rfl Try.func47 (by kernel_rfl) rfl #[.pointer (some ⟨g, 0, none⟩)] rfl (by (try simp only [List.map_toArray, List.map_cons, List.map_nil]); first | done | rfl | (simp only [List.length_drop, List.length_take]; rfl) | (go_simp; simp [IntKind.wrap, IntKind.bits, IntKind.signed]; omega)) ?_; (with_reducible refine (tally_Cursor_ok.calls g s0_0 s0_1 false t250 t251 w0 _ ?side1 ?side2 A2.out).mono ?_); (case side1 => repeat (first | (with_reducible first | exact HI0.out | apply IsS66.alloc | apply IsS66.drewN | apply IsS66.drew | apply IsS66.set_0 | apply IsS66.set_1) | exact HI0.out)); (case side2 => repeat (first | (with_reducible first | exact HB.out | apply below_alloc | apply pw_below_drewN | apply below_drew1 | refine below_set ?_ (IsS66.ge HI0.out)) | exact HB.out)); rintro e w12 ⟨rfl, hi, hb, hk⟩; refine ⟨_, rfl, ?_⟩; have n0_ := Aside0.mk (KeepBut.trans z1_ hk (.inl rfl)); have n1_ := Aside0.mk (hb); have n2_ := Aside0.mk (hi); clear HK; clear HB; clear HI0; have HK := n0_; have HB := n1_; have HI0 := n2_; clear n0_ n1_ n2_; (try clear hb); (try clear hb2); (try clear hk); (try clear hi)))
  go_ret
  exact ⟨z5_, z2_, z3_, z1_⟩
def tally_Cursor_Left.f (s0_0 : ByteArray) (s0_1 : Int) : Option (Int × ByteArray × Int) := some ((s0_0.size : Int), s0_0, s0_1)
set_option maxHeartbeats 8000000 in
set_option maxRecDepth 100000 in
theorem tally_Cursor_Left.calls (g : Nat) (s0_0 : ByteArray) (s0_1 : Int) (r1 : Int) (r2 : ByteArray) (r3 : Int) (w0 w : World) (hI : IsS66 w0 w g s0_0 s0_1) (hB : Below w0.heap.size w0 w) (h : tally_Cursor_Left.f s0_0 s0_1 = some (r1, r2, r3)) :
  Calls Try.prog 62 #[.pointer (some ⟨g, 0, none⟩)] w fun e w' => e = .returned (.int .i64 r1) ∧ IsS66 w0 w' g r2 r3 ∧ Below w0.heap.size w0 w' ∧ KeepBut w w' g none := by
 have HI0 := Aside0.mk hI
 have HK := Aside0.mk (KeepBut.refl w g none)
 have HL := Aside0.mk hB.size
 clear hI
 have HW0 := Aside0.mk hB.size
 have HB := Aside0.mk hB
 clear hB
 have H : (some ((s0_0.size : Int), s0_0, s0_1)) = some (r1, r2, r3) := h
 clear h
 simp only [Option.some.injEq, Prod.mk.injEq] at H
 obtain ⟨rfl, rfl, rfl⟩ := H
 obtain ⟨HGz2, hgz2⟩ := HI0.out
 have hcz2_0 := cellS66_0 HGz2
 have hcz2_1 := cellS66_1 HGz2
 have hfz2_0 := blk_frozen HGz2 0
 have hfz2_1 := blk_frozen HGz2 1
 clear HGz2 hgz2
 go_enter Try.func62, Try.ntmps62
 go_wp2
 go_ret
 exact ⟨z5_, z2_, z3_, z1_⟩
def bits_fits.f (a0 : ByteArray) (a1 : Int) : Option (Int) := if (a0.size : Int) < (wrap64 (Int.tdiv (wrap64 (a1 + 7)) 8)) then (some 2) else (if (a0.size : Int) > (wrap64 (Int.tdiv (wrap64 (a1 + 7)) 8)) then (some 3) else (if (Int.tmod a1 8) = 0 then (some 0) else (if 0 ≤ (wrap64 ((wrap64 (Int.tdiv (wrap64 (a1 + 7)) 8)) - 1)) then (if (wrap64 ((wrap64 (Int.tdiv (wrap64 (a1 + 7)) 8)) - 1)) < (a0.size : Int) then (if 0 ≤ (Int.tmod a1 8) then (if (shr .u8 (bt a0 (wrap64 ((wrap64 (Int.tdiv (wrap64 (a1 + 7)) 8)) - 1))) (Int.tmod a1 8)) = 0 then (some 0) else (some 5)) else (none)) else (none)) else (none))))
set_option maxHeartbeats 8000000 in
set_option maxRecDepth 100000 in
theorem bits_fits.calls (a0 : ByteArray) (a1 : Int) (r : Int) (w : World) (h : bits_fits.f a0 a1 = some r) :
  Calls Try.prog 71 #[.string a0, .int .i64 a1] w fun e w' => e = .returned (.int .i64 r) ∧ Drawn0 w w' := by
 have H : (if (a0.size : Int) < (wrap64 (Int.tdiv (wrap64 (a1 + 7)) 8)) then (some 2) else (if (a0.size : Int) > (wrap64 (Int.tdiv (wrap64 (a1 + 7)) 8)) then (some 3) else (if (Int.tmod a1 8) = 0 then (some 0) else (if 0 ≤ (wrap64 ((wrap64 (Int.tdiv (wrap64 (a1 + 7)) 8)) - 1)) then (if (wrap64 ((wrap64 (Int.tdiv (wrap64 (a1 + 7)) 8)) - 1)) < (a0.size : Int) then (if 0 ≤ (Int.tmod a1 8) then (if (shr .u8 (bt a0 (wrap64 ((wrap64 (Int.tdiv (wrap64 (a1 + 7)) 8)) - 1))) (Int.tmod a1 8)) = 0 then (some 0) else (some 5)) else (none)) else (none)) else (none))))) = some r := h
 clear h
 by_cases c3 : (a0.size : Int) < (wrap64 (Int.tdiv (wrap64 (a1 + 7)) 8))
 ·rw [if_pos c3] at H
  have c3b0 : decide ((a0.size : Int) < (wrap64 (Int.tdiv (wrap64 (a1 + 7)) 8))) = true := decide_eq_true c3
  clear c3
  obtain rfl := Option.some.inj H
  go_enter Try.func71, Try.ntmps71
  go_wp2
  go_ret
  exact ⟨z6_, z9_⟩
 ·rw [if_neg c3] at H
  have c3b0 : decide ((a0.size : Int) < (wrap64 (Int.tdiv (wrap64 (a1 + 7)) 8))) = false := decide_eq_false c3
  clear c3
  by_cases c4 : (a0.size : Int) > (wrap64 (Int.tdiv (wrap64 (a1 + 7)) 8))
  ·rw [if_pos c4] at H
   have c4b0 : decide ((wrap64 (Int.tdiv (wrap64 (a1 + 7)) 8)) < (a0.size : Int)) = true := decide_eq_true c4
   clear c4
   obtain rfl := Option.some.inj H
   go_enter Try.func71, Try.ntmps71
   go_wp2
   go_ret
   exact ⟨z6_, z9_⟩
  ·rw [if_neg c4] at H
   have c4b0 : decide ((wrap64 (Int.tdiv (wrap64 (a1 + 7)) 8)) < (a0.size : Int)) = false := decide_eq_false c4
   clear c4
   by_cases c5 : (Int.tmod a1 8) = 0
   ·rw [if_pos c5] at H
    have c5b0 : ((Int.tmod a1 8) == 0) = true := beq_iff_eq.mpr c5
    have c5b1 : ((Int.tmod a1 8) != 0) = false := bne_eq_false_iff_eq.mpr c5
    clear c5
    obtain rfl := Option.some.inj H
    go_enter Try.func71, Try.ntmps71
    go_wp2
    go_ret
    exact ⟨z6_, z9_⟩
   ·rw [if_neg c5] at H
    have c5b0 : ((Int.tmod a1 8) == 0) = false := beq_eq_false_iff_ne.mpr c5
    have c5b1 : ((Int.tmod a1 8) != 0) = true := bne_iff_ne.mpr c5
    obtain ⟨ji6, hji6⟩ : ∃ j_ : Int, (wrap64 ((wrap64 (Int.tdiv (wrap64 (a1 + 7)) 8)) - 1)) = j_ := ⟨_, rfl⟩
    replace H : (if 0 ≤ (ji6) then (if (ji6) < (a0.size : Int) then (if 0 ≤ (Int.tmod a1 8) then (if (shr .u8 (bt a0 (ji6)) (Int.tmod a1 8)) = 0 then (some 0) else (some 5)) else (none)) else (none)) else (none)) = some r := by first | (rw [hji6] at H; exact H) | (simp only [hji6] at H ⊢; exact H)
    have hji6w : (IntKind.i64.wrap ((wrap64 (Int.tdiv (wrap64 (a1 + 7)) 8)) - 1)) = ji6 := (i64_w _).trans hji6
    by_cases c7 : 0 ≤ (ji6)
    ·rw [if_pos c7] at H
     have c7b0 : decide (0 ≤ (ji6)) = true := decide_eq_true c7
     clear c7
     by_cases c8 : (ji6) < (a0.size : Int)
     ·rw [if_pos c8] at H
      have c8b0 : decide ((ji6) < (a0.size : Int)) = true := decide_eq_true c8
      clear c8
      obtain ⟨ji10, hji10⟩ : ∃ j_ : Int, (Int.tmod a1 8) = j_ := ⟨_, rfl⟩
      replace H : (if 0 ≤ (ji10) then (if (shr .u8 (bt a0 (ji6)) (ji10)) = 0 then (some 0) else (some 5)) else (none)) = some r := by first | (rw [hji10] at H; exact H) | (simp only [hji10] at H ⊢; exact H)
      (try rw [hji10] at c5b0)
      (try rw [hji10] at c5b1)
      by_cases c11 : 0 ≤ (ji10)
      ·rw [if_pos c11] at H
       have c11b0 := eq_true c11
       have c11b1 : decide (0 ≤ (ji10)) = true := decide_eq_true c11
       clear c11
       obtain ⟨ji12, hji12⟩ : ∃ j_ : Int, (shr .u8 (bt a0 (ji6)) (ji10)) = j_ := ⟨_, rfl⟩
       replace H : (if (ji12) = 0 then (some 0) else (some 5)) = some r := by first | (rw [hji12] at H; exact H) | (simp only [hji12] at H ⊢; exact H)
       have hji12_ : ((bt a0 (ji6)) / 2 ^ min (ji10).toNat 8) = ji12 := hji12
       have hji12z : (ji10) ≤ 8 → ((bt a0 (ji6)) / 2 ^ (ji10).toNat) = ji12 := shr_small hji12
       by_cases c13 : (ji12) = 0
       ·rw [if_pos c13] at H
        have c13b0 : ((ji12) == 0) = true := beq_iff_eq.mpr c13
        have c13b1 : ((ji12) != 0) = false := bne_eq_false_iff_eq.mpr c13
        clear c13
        obtain rfl := Option.some.inj H
        have p9 : 0 ≤ ((ji6) : Int) := of_decide_eq_true z7_
        have q9 : (ji6) < (a0.size : Int) := of_decide_eq_true z7_
        have hx9 := bt_at a0 (ji6)
        replace p9 := eq_true p9
        replace q9 := eq_true q9
        go_enter Try.func71, Try.ntmps71
        go_wp2
        go_ret
        exact ⟨by first | rfl | (simp; done) | (simp only [← hji6, ← hji10, ← hji12] <;> (first | rfl | simp)) | (simp [*]; done), z9_⟩
       ·rw [if_neg c13] at H
        have c13b0 : ((ji12) == 0) = false := beq_eq_false_iff_ne.mpr c13
        have c13b1 : ((ji12) != 0) = true := bne_iff_ne.mpr c13
        obtain rfl := Option.some.inj H
        have p9 : 0 ≤ ((ji6) : Int) := of_decide_eq_true z7_
        have q9 : (ji6) < (a0.size : Int) := of_decide_eq_true z7_
        have hx9 := bt_at a0 (ji6)
        replace p9 := eq_true p9
        replace q9 := eq_true q9
        go_enter Try.func71, Try.ntmps71
        go_wp2
        go_ret
        exact ⟨by first | rfl | (simp; done) | (simp only [← hji6, ← hji10, ← hji12] <;> (first | rfl | simp)) | (simp [*]; done), z9_⟩
      ·rw [if_neg c11] at H
       exact absurd H (by simp)
     ·rw [if_neg c8] at H
      exact absurd H (by simp)
    ·rw [if_neg c7] at H
     exact absurd H (by simp)
end Go.Proofs.Ytgeddoklmcjdcaa.G
namespace Go.Proofs.Ytgeddoklmcjdcaa.G
open Go.RowKit Go.Proofs.YtgeddoklmcjdcaaQ Go.Proofs.YtgeddoklmcjdcaaW.PrintWords Go.Proofs.YtgeddoklmcjdcaaW.PrintLast Go.Proofs.YtgeddoklmcjdcaaW.PrintMore
attribute [local go_sem] max2_int min2_int max_two min_two max_three min_three max_four min_four   -- for this text's walks alone
set_option linter.unusedVariables false
set_option linter.unusedSimpArgs false
theorem bits_Unpack.fits {s : ByteArray} {m : Nat} (hm : m ≤ 4194304) : bits_fits.f s (m : Int) = some (fitE s m) := by
 have e1 : wrap64 ((m : Int) + 7) = ((m + 7 : Nat) : Int) := by rw [w64 (by omega) (by omega)]; omega
 have e2 : Int.tdiv ((m + 7 : Nat) : Int) 8 = ((need m : Nat) : Int) := by rw [Int.tdiv_eq_ediv_of_nonneg (by omega)]; unfold need; omega
 have hnl : need m ≤ 4194304 := by unfold need; omega
 have e3 : wrap64 ((need m : Nat) : Int) = ((need m : Nat) : Int) := w64 (by omega) (by omega)
 have e4 : Int.tmod (m : Int) 8 = ((m % 8 : Nat) : Int) := by rw [Int.tmod_eq_emod_of_nonneg (by omega)]; omega
 unfold bits_fits.f fitE
 rw [e1, e2, e3, e4]
 by_cases c1 : s.size < need m
 ·rw [if_pos (by omega), if_pos c1]
 ·rw [if_neg (by omega), if_neg c1]
  by_cases c2 : need m < s.size
  ·rw [if_pos (by omega), if_pos c2]
  ·have hs : s.size = need m := by omega
   rw [if_neg (by omega), if_neg c2]
   by_cases c3 : m % 8 = 0
   ·rw [if_pos (by omega), if_pos (num_whole hs c3)]
   ·have hn1 : 1 ≤ need m := by unfold need; omega
    have e5 : wrap64 (((need m : Nat) : Int) - 1) = ((need m - 1 : Nat) : Int) := by rw [w64 (by omega) (by omega)]; omega
    have e6 : bt s ((need m - 1 : Nat) : Int) = ((byt s (need m - 1) : Nat) : Int) := by
     have h1 := byt_at s (need m - 1) (by omega)
     have h2 := bt_at s ((need m - 1 : Nat) : Int) (by rw [Int.toNat_natCast]; omega)
     rw [← h2, ← h1]; rfl
    have e7 : shr .u8 ((byt s (need m - 1) : Nat) : Int) ((m % 8 : Nat) : Int) = ((byt s (need m - 1) / 2 ^ (m % 8) : Nat) : Int) := by
     unfold shr
     rw [Int.toNat_natCast, Nat.min_eq_left (show m % 8 ≤ IntKind.u8.bits by show m % 8 ≤ 8; omega)]
     simp
    rw [if_neg (by omega), e5, if_pos (by omega), if_pos (by omega), if_pos (by omega), e6, e7]
    by_cases c4 : byt s (need m - 1) / 2 ^ (m % 8) = 0
    ·rw [if_pos (by omega), if_pos ((num_top hs c3).2 c4)]
    ·rw [if_neg (by omega), if_neg (fun h => c4 ((num_top hs c3).1 h))]
set_option maxHeartbeats 1000000 in
set_option maxRecDepth 100000 in
theorem bits_Unpack.w1 (a0 : ByteArray) (a1 a2 : Int) (w : World) (b1 b2 b3 b4 : Bool) (h1 : decide (a2 < 0) = b1) (h2 : decide (64 < a2) = b2) (h3 : decide (a1 < 0) = b3) (h4 : decide (65536 < a1) = b4) (h : (b1 || b2 || b3 || b4) = true) :
  Calls Try.prog 63 #[.string a0, .int .i64 a1, .int .i64 a2] w fun e w' => e = .returned (.tuple #[.slice none 0 0, .int .i64 1]) ∧ Below w.heap.size w w' := by
 cases b1
 ·cases b2
  ·cases b3
   ·cases b4
    ·exact absurd h (by decide)
    ·clear h
     go_enter Try.func63, Try.ntmps63
     go_wp2
     go_ret2
     exact ⟨rfl, Below.refl _ _⟩
   ·clear h
    go_enter Try.func63, Try.ntmps63
    go_wp2
    go_ret2
    exact ⟨rfl, Below.refl _ _⟩
  ·clear h
   go_enter Try.func63, Try.ntmps63
   go_wp2
   go_ret2
   exact ⟨rfl, Below.refl _ _⟩
 ·clear h
  go_enter Try.func63, Try.ntmps63
  go_wp2
  go_ret2
  exact ⟨rfl, Below.refl _ _⟩
set_option maxHeartbeats 1000000 in
set_option maxRecDepth 100000 in
theorem bits_Unpack.w2 (a0 : ByteArray) (n q : Nat) (w : World) (hn : n ≤ 65536) (hq : q ≤ 64) (E : Int) (hE : fitE a0 (n * q) = E) (h0 : E ≠ 0) :
  Calls Try.prog 63 #[.string a0, .int .i64 (n : Int), .int .i64 (q : Int)] w fun e w' => e = .returned (.tuple #[.slice none 0 0, .int .i64 E]) ∧ Below w.heap.size w w' := by
 have hm : n * q ≤ 4194304 := Nat.le_trans (Nat.mul_le_mul hn hq) (by decide)
 have hf := bits_Unpack.fits (s := a0) hm
 rw [hE] at hf
 have d1 : decide ((q : Int) < 0) = false := decide_eq_false (by omega)
 have d2 : decide (64 < (q : Int)) = false := decide_eq_false (by omega)
 have d3 : decide ((n : Int) < 0) = false := decide_eq_false (by omega)
 have d4 : decide (65536 < (n : Int)) = false := decide_eq_false (by omega)
 have d5 : (E != 0) = true := bne_iff_ne.mpr h0
 have d6 : (E == 0) = false := beq_eq_false_iff_ne.mpr h0
 have d7 : decide (64 < q) = false := decide_eq_false (by omega)
 have d8 : decide (65536 < n) = false := decide_eq_false (by omega)
 have e1 : (n : Int) * (q : Int) = ((n * q : Nat) : Int) := (Int.natCast_mul n q).symm
 have e2 : wrap64 ((n * q : Nat) : Int) = ((n * q : Nat) : Int) := w64 (by omega) (by omega)
 have e3 : IntKind.i64.wrap ((n : Int) * (q : Int)) = ((n * q : Nat) : Int) := by rw [e1, i64_w]; exact e2
 obtain ⟨m, hmm⟩ : ∃ m, n * q = m := ⟨_, rfl⟩
 rw [hmm] at e1 e2 e3 hf
 have HF := Aside0.mk hf
 clear hf hE h0 hm hmm
 go_enter Try.func63, Try.ntmps63
 go_wp2_with fail
 refine (bits_fits.calls a0 (m : Int) E _ HF.out).mono ?_; rintro e w1 ⟨rfl, ⟨nd, rfl⟩⟩
 go_wp2
 go_ret2
 exact ⟨rfl, pw_below_drewN (Below.refl _ _) _⟩
set_option maxHeartbeats 4000000 in
set_option maxRecDepth 100000 in
theorem bits_Unpack.w3 (a0 : ByteArray) (n q : Nat) (w : World) (hS : a0.size ≤ 140737488355328) (hn : n ≤ 65536) (hq : q ≤ 64) (hE : fitE a0 (n * q) = 0) :
  Calls Try.prog 63 #[.string a0, .int .i64 (n : Int), .int .i64 (q : Int)] w fun e w' => ∃ v0_ : Value, e = .returned (.tuple #[v0_, .int .i64 0]) ∧ Kd.R (Kd.int .u64) 44 w' w.heap.size (fun _ => True) v0_ (ints (dig (2 ^ q) n (num a0))) ∧ Below w.heap.size w w' := by
 have hm : n * q ≤ 4194304 := Nat.le_trans (Nat.mul_le_mul hn hq) (by decide)
 have hf := bits_Unpack.fits (s := a0) hm
 have hsz : a0.size = need (n * q) := by
  unfold fitE at hE
  split at hE
  ·exact absurd hE (by decide)
  ·split at hE
   ·exact absurd hE (by decide)
   ·omega
 have hnd := need_le (n * q)
 rw [hE] at hf
 have d1 : decide ((q : Int) < 0) = false := decide_eq_false (by omega)
 have d2 : decide (64 < (q : Int)) = false := decide_eq_false (by omega)
 have d3 : decide ((n : Int) < 0) = false := decide_eq_false (by omega)
 have d4 : decide (65536 < (n : Int)) = false := decide_eq_false (by omega)
 have d7 : decide (64 < q) = false := decide_eq_false (by omega)
 have d8 : decide (65536 < n) = false := decide_eq_false (by omega)
 have e1 : (n : Int) * (q : Int) = ((n * q : Nat) : Int) := (Int.natCast_mul n q).symm
 have e2 : wrap64 ((n * q : Nat) : Int) = ((n * q : Nat) : Int) := w64 (by omega) (by omega)
 have e3 : IntKind.i64.wrap ((n : Int) * (q : Int)) = ((n * q : Nat) : Int) := by rw [e1, i64_w]; exact e2
 have HNQ := Aside0.mk hnd
 rw [← hsz] at HNQ
 obtain ⟨m, hmm⟩ : ∃ m, n * q = m := ⟨_, rfl⟩
 rw [hmm] at e1 e2 e3 hf
 have HF := Aside0.mk hf
 clear hf hE hm hmm hsz hnd
 go_enter Try.func63, Try.ntmps63
 go_wp2_with fail
 refine (bits_fits.calls a0 (m : Int) 0 _ HF.out).mono ?_; rintro e w1 ⟨rfl, ⟨nd, rfl⟩⟩
 clear e1 e2 e3
 go_wp2_with fail
 have hnew : RD w ((w.drewN nd).alloc (.cells #[.string a0, .int .i64 0] 97)) w.heap.size a0 (0 * q) := by
  rw [Nat.zero_mul]
  exact ⟨heap_alloc_new (w.drewN nd) _, Nat.le_refl _⟩
 have hbw : Below w.heap.size w ((w.drewN nd).alloc (.cells #[.string a0, .int .i64 0] 97)) := below_alloc (pw_below_drewN (Below.refl _ _) _) _
 have HN := Aside0.mk hnew; have HB := Aside0.mk hbw
 clear hnew hbw
 have hin : (Try.prog.info? 44).map (fun i => (i.zero, i.size, i.bytes)) = some (some (.int .u64 0), 1, 8) := by kernel_rfl
 have HI := Aside0.mk hin; clear hin
 go_loopg [10, 37] n (fun gq s10 s37 wx => ∃ (i : Nat) (v : Value), i ≤ n ∧ gq = n - i ∧ s10 = v ∧ s37 = .int .i64 (i : Int) ∧ Aside0 (Kd.R (Kd.int .u64) 44 wx w.heap.size (fun k => k ≠ w.heap.size) v (ints (dig (2 ^ q) i (num a0)))) ∧ Aside0 (RD w wx w.heap.size a0 (i * q)) ∧ Aside0 (Below w.heap.size w wx))
 case atStart => exact ⟨0, _, by omega, by omega, rfl, rfl, ⟨Kd.R_nil _ _ _ _ _⟩, HN, HB⟩
 case round =>
  clear HN HB
  obtain ⟨i, v, hi, rfl, rfl, rfl, HO, HN, HB⟩ := hrel
  by_cases hlt : i < n
  ·obtain ⟨g1, hg1⟩ : ∃ g1, n - i = g1 + 1 := ⟨n - i - 1, by omega⟩
   have k2 : decide ((i : Int) < (n : Int)) = true := decide_eq_true (by omega)
   have k2' : decide (i < n) = true := decide_eq_true hlt
   have hmul : i * q + q = (i + 1) * q := by rw [Nat.succ_mul]
   have hle : (i + 1) * q ≤ n * q := Nat.mul_le_mul_right _ hlt
   have hbits : i * q + q ≤ 8 * a0.size := by have := HNQ.out; omega
   have hdig := dig_succ (2 ^ q) i (num a0)
   rw [← Nat.pow_mul, Nat.mul_comm q i] at hdig
   have HM := Aside0.mk hmul; have HBI := Aside0.mk hbits; have HD := Aside0.mk hdig; have HLT2 := Aside0.mk hlt
   clear hmul hle hbits hdig hlt
   go_wp2_with fail
   refine (get_calls (w0 := w) (i * q) q hS hq HBI.out HN.out HB.out).mono ?_; rintro e w2 ⟨rfl, hr2, hb2, hk2⟩
   rw [HM.out] at hr2
   obtain ⟨x, hx⟩ : ∃ x, num a0 / 2 ^ (i * q) % 2 ^ q = x := ⟨_, rfl⟩
   rw [hx] at HD ⊢
   have HO2 := Aside0.mk (Kd.R_keep HO.out hk2 (fun _ hk => hk))
   have HN2 := Aside0.mk hr2; have HB2 := Aside0.mk hb2
   clear hx hr2 hb2 hk2 HO HN HB
   go_wp2_with ((with_reducible refine gate_builtin (b := .append) (xs := #[.tmp 39, .tmp 43]) rfl ?_); at_builtin; refine Kd.R_append (Kd.int .u64) (w0 := w) w.heap.size rfl (.tmp 39) (.tmp 43) 59 44 (.int .u64 0) 8 rfl Try.underlying59 HI.out rfl (by decide) (by omega) u10 (ints (dig (2 ^ q) i (num a0))) (x : Int) [.int .u64 (x : Int)] (fun k => k ≠ w.heap.size) (fun _ => False) rfl rfl ?aP (fun _ hk => hk.elim) ?aF ?aO ?aB ?aS ?aL ?_; (case aP => exact rfl); (case aB => exact HB2.out); (case aF => exact fun k hk e => by have := blk_lt HN2.out.1; omega); (case aO => exact HO2.out); (case aS => exact HB2.out.size); (case aL => rw [ints_len, dig_len]; omega); intro v5 w5 ho hb hg hat; have HO5 := Aside0.mk ho; have HB5 := Aside0.mk hb; have HN5 := Aside0.mk (RD.keep HN2.out hg (Kd.R_away HO2.out (fun _ hk => hk))); clear ho hb hg hat)
   go_roundg g1
   case measure => omega
   case rel =>
    have h := HO5.out
    rw [show ints (dig (2 ^ q) i (num a0)) ++ [(x : Int)] = ints (dig (2 ^ q) (i + 1) (num a0)) by rw [HD.out, ints_app]; rfl] at h
    exact ⟨i + 1, _, by have := HLT2.out; omega, by omega, rfl, by go_num, ⟨h⟩, HN5, HB5⟩
  ·have e : i = n := by omega
   have k2 : decide ((i : Int) < (n : Int)) = false := decide_eq_false (by omega)
   have k2' : decide (i < n) = false := decide_eq_false hlt
   subst e
   clear hlt hi
   go_wp2
   go_ret2
   exact ⟨u10, rfl, Kd.R_mono HO.out (fun _ _ => trivial), HB.out⟩
def bits_Unpack.f (a0 : ByteArray) (a1 a2 : Int) : Option (List Int × Int) :=
 if a0.size ≤ 140737488355328 then some (if a2 < 0 ∨ 64 < a2 ∨ a1 < 0 ∨ 65536 < a1 then ([], 1) else if fitE a0 (a1.toNat * a2.toNat) = 0 then (ints (dig (2 ^ a2.toNat) a1.toNat (num a0)), 0) else ([], fitE a0 (a1.toNat * a2.toNat))) else none
theorem bits_Unpack.calls (a0 : ByteArray) (a1 : Int) (a2 : Int) (r1 : List Int) (r2 : Int) (w : World) (h : bits_Unpack.f a0 a1 a2 = some (r1, r2)) :
  Calls Try.prog 63 #[.string a0, .int .i64 a1, .int .i64 a2] w fun e w' => ∃ v0_ : Value, e = .returned (.tuple #[v0_, .int .i64 r2]) ∧ Kd.R (Kd.int .u64) 44 w' w.heap.size (fun _ => True) v0_ r1 ∧ Below w.heap.size w w' := by
 unfold bits_Unpack.f at h
 split at h
 ·rename_i hS
  have h := Option.some.inj h
  by_cases c : a2 < 0 ∨ 64 < a2 ∨ a1 < 0 ∨ 65536 < a1
  ·rw [if_pos c] at h
   injection h with h1 h2
   subst h1 h2
   refine (bits_Unpack.w1 a0 a1 a2 w _ _ _ _ rfl rfl rfl rfl ?_).mono ?_
   ·rcases c with c | c | c | c <;> simp [c]
   ·rintro e w' ⟨rfl, hb⟩
    exact ⟨_, rfl, Kd.R_nil _ _ _ _ _, hb⟩
  ·rw [if_neg c] at h
   obtain ⟨q, rfl⟩ : ∃ q : Nat, a2 = (q : Int) := ⟨a2.toNat, by omega⟩
   obtain ⟨n, rfl⟩ : ∃ n : Nat, a1 = (n : Int) := ⟨a1.toNat, by omega⟩
   rw [Int.toNat_natCast, Int.toNat_natCast] at h
   by_cases c2 : fitE a0 (n * q) = 0
   ·rw [if_pos c2] at h
    injection h with h1 h2
    subst h1 h2
    exact bits_Unpack.w3 a0 n q w hS (by omega) (by omega) c2
   ·rw [if_neg c2] at h
    injection h with h1 h2
    subst h1 h2
    refine (bits_Unpack.w2 a0 n q w (by omega) (by omega) _ rfl c2).mono ?_
    rintro e w' ⟨rfl, hb⟩
    exact ⟨_, rfl, Kd.R_nil _ _ _ _ _, hb⟩
 ·exact absurd h (by simp)
end Go.Proofs.Ytgeddoklmcjdcaa.G
namespace Go.Proofs.Ytgeddoklmcjdcaa.G
open Go.RowKit Go.Proofs.YtgeddoklmcjdcaaQ Go.Proofs.YtgeddoklmcjdcaaW.PrintWords Go.Proofs.YtgeddoklmcjdcaaW.PrintLast Go.Proofs.YtgeddoklmcjdcaaW.PrintMore
attribute [local go_sem] max2_int min2_int max_two min_two max_three min_three max_four min_four   -- for this text's walks alone
set_option linter.unusedVariables false
set_option linter.unusedSimpArgs false
mutual
def ints_readPacked.l0 : Nat → Int → Int → Int → List Int → Int → Int → ByteArray → Int → Option (List Int × Int × ByteArray × Int)
 | 0, _, _, _, _, _, _, _, _ => none
 | k + 1, x1, x6, x7, x9, x39, x40, x1000, x1001 => if x40 < x39 then ((tally_Cursor_Byte.f x1000 x1001).bind fun bt267 => (if x9.length < 140737488355328 then (ints_readPacked.l0 k x1 x6 x7 (x9 ++ [(bt267.1) % 256]) x39 (wrap64 (x40 + 1)) bt267.2.1 bt267.2.2) else (none))) else ((bits_Unpack.f (strOfNums x9) x1 x7).bind fun bt273 => (if bt273.2 = 0 then (ints_readPacked.l1 k x6 x7 bt273.1 ([] : List Int) bt273.1 (bt273.1.length : Int) 0 x1000 x1001) else (some (([] : List Int), bt273.2, x1000, x1001))))
def ints_readPacked.l1 : Nat → Int → Int → List Int → List Int → List Int → Int → Int → ByteArray → Int → Option (List Int × Int × ByteArray × Int)
 | 0, _, _, _, _, _, _, _, _, _ => none
 | k + 1, x6, x7, x10, x12, x60, x61, x62, x1000, x1001 => if x62 < x61 then (if 0 ≤ x62 then (if x62 < (x60.length : Int) then (if x12.length < 17592186044416 then (ints_readPacked.l1 k x6 x7 x10 (x12 ++ [wrap64 (x6 + (wrap64 (rd x60 x62)))]) x60 x61 (wrap64 (x62 + 1)) x1000 x1001) else (none)) else (none)) else (none)) else ((slices_Min_int64_int64.f k x12).bind fun t281 => (if t281 = x6 then ((bits_Width.f k x10).bind fun t282 => (if t282 = x7 then (some (x12, 0, x1000, x1001)) else (some (([] : List Int), 4, x1000, x1001)))) else (some (([] : List Int), 4, x1000, x1001))))
end
def ints_readPacked.f (k : Nat) (s0_0 : ByteArray) (s0_1 : Int) (a1 : Int) : Option (List Int × Int × ByteArray × Int) := if a1 = 0 then (some (([] : List Int), 0, s0_0, s0_1)) else ((tally_Cursor_Int.f s0_0 s0_1).bind fun bt252 => ((tally_Cursor_Byte.f bt252.2.1 bt252.2.2).bind fun bt255 => ((tally_Cursor_Err.f bt255.2.1 bt255.2.2).bind fun bt258 => (if bt258.1 = 0 then (if bt255.1 > 64 then (some (([] : List Int), 4, bt258.2.1, bt258.2.2)) else ((tally_Cursor_Left.f bt258.2.1 bt258.2.2).bind fun bt264 => (if bt264.1 < (wrap64 (Int.tdiv (wrap64 ((wrap64 (a1 * bt255.1)) + 7)) 8)) then (some (([] : List Int), 2, bt264.2.1, bt264.2.2)) else (ints_readPacked.l0 k a1 bt252.1 bt255.1 ([] : List Int) (wrap64 (Int.tdiv (wrap64 ((wrap64 (a1 * bt255.1)) + 7)) 8)) 0 bt264.2.1 bt264.2.2)))) else ((tally_Cursor_Err.f bt258.2.1 bt258.2.2).bind fun bt261 => (some (([] : List Int), bt261.1, bt261.2.1, bt261.2.2)))))))
theorem ints_readPacked.mono_l : ∀ k, (∀ y0 y1 y2 y3 y4 y5 y6 y7, LeO (ints_readPacked.l0 k y0 y1 y2 y3 y4 y5 y6 y7) (ints_readPacked.l0 (k + 1) y0 y1 y2 y3 y4 y5 y6 y7)) ∧ (∀ y0 y1 y2 y3 y4 y5 y6 y7 y8, LeO (ints_readPacked.l1 k y0 y1 y2 y3 y4 y5 y6 y7 y8) (ints_readPacked.l1 (k + 1) y0 y1 y2 y3 y4 y5 y6 y7 y8))
 | 0 => ⟨fun _ _ _ _ _ _ _ _ r h => by simp [ints_readPacked.l0] at h, fun _ _ _ _ _ _ _ _ _ r h => by simp [ints_readPacked.l1] at h⟩
 | k + 1 => by
  obtain ⟨ih0, ih1⟩ := ints_readPacked.mono_l k
  refine ⟨?_, ?_⟩
  ·intro y0 y1 y2 y3 y4 y5 y6 y7
   unfold ints_readPacked.l0
   repeat' first
   | (with_reducible exact ih0 _ _ _ _ _ _ _ _)
   | (with_reducible exact ih1 _ _ _ _ _ _ _ _ _)
   | (with_reducible exact bits_Width.mono _ _)
   | (with_reducible exact slices_Min_int64_int64.mono _ _)
   | (with_reducible exact LeO.refl _)
   | (with_reducible exact LeO.none _)
   | (with_reducible refine LeO.ite ?_ ?_)
   | (with_reducible refine LeO.bind ?_ (fun _ => ?_))
   | exact ih0 _ _ _ _ _ _ _ _
   | exact ih1 _ _ _ _ _ _ _ _ _
   | exact bits_Width.mono _ _
   | exact slices_Min_int64_int64.mono _ _
   | exact LeO.none _
   | refine LeO.ite ?_ ?_
   | refine LeO.bind ?_ (fun _ => ?_)
  ·intro y0 y1 y2 y3 y4 y5 y6 y7 y8
   unfold ints_readPacked.l1
   repeat' first
   | (with_reducible exact ih0 _ _ _ _ _ _ _ _)
   | (with_reducible exact ih1 _ _ _ _ _ _ _ _ _)
   | (with_reducible exact bits_Width.mono _ _)
   | (with_reducible exact slices_Min_int64_int64.mono _ _)
   | (with_reducible exact LeO.refl _)
   | (with_reducible exact LeO.none _)
   | (with_reducible refine LeO.ite ?_ ?_)
   | (with_reducible refine LeO.bind ?_ (fun _ => ?_))
   | exact ih0 _ _ _ _ _ _ _ _
   | exact ih1 _ _ _ _ _ _ _ _ _
   | exact bits_Width.mono _ _
   | exact slices_Min_int64_int64.mono _ _
   | exact LeO.none _
   | refine LeO.ite ?_ ?_
   | refine LeO.bind ?_ (fun _ => ?_)
theorem ints_readPacked.mono : ∀ a0 a1 a2 k, LeO (ints_readPacked.f k a0 a1 a2) (ints_readPacked.f (k + 1) a0 a1 a2) := by
 intro a0 a1 a2 k
 obtain ⟨ih0, ih1⟩ := ints_readPacked.mono_l k
 unfold ints_readPacked.f
 repeat' first
   | (with_reducible exact ih0 _ _ _ _ _ _ _ _)
   | (with_reducible exact ih1 _ _ _ _ _ _ _ _ _)
   | (with_reducible exact bits_Width.mono _ _)
   | (with_reducible exact slices_Min_int64_int64.mono _ _)
   | (with_reducible exact LeO.refl _)
   | (with_reducible exact LeO.none _)
   | (with_reducible refine LeO.ite ?_ ?_)
   | (with_reducible refine LeO.bind ?_ (fun _ => ?_))
   | exact ih0 _ _ _ _ _ _ _ _
   | exact ih1 _ _ _ _ _ _ _ _ _
   | exact bits_Width.mono _ _
   | exact slices_Min_int64_int64.mono _ _
   | exact LeO.none _
   | refine LeO.ite ?_ ?_
   | refine LeO.bind ?_ (fun _ => ?_)
set_option maxHeartbeats 8000000 in
set_option maxRecDepth 100000 in
theorem ints_readPacked.calls (k : Nat) (g : Nat) (s0_0 : ByteArray) (s0_1 : Int) (a1 : Int) (r1 : List Int) (r2 : Int) (r3 : ByteArray) (r4 : Int) (w0 w : World) (hI : IsS66 w0 w g s0_0 s0_1) (hB : Below w0.heap.size w0 w) (h : ints_readPacked.f k s0_0 s0_1 a1 = some (r1, r2, r3, r4)) :
  Calls Try.prog 41 #[.pointer (some ⟨g, 0, none⟩), .int .i64 a1] w fun e w' => ∃ v0_ : Value, e = .returned (.tuple #[v0_, .int .i64 r2]) ∧ Kd.R (Kd.int .i64) 2 w' w.heap.size (fun _ => True) v0_ r1 ∧ IsS66 w0 w' g r3 r4 ∧ Below w0.heap.size w0 w' ∧ KeepBut w w' g none := by
 have HI0 := Aside0.mk hI
 have HK := Aside0.mk (KeepBut.refl w g none)
 have HL := Aside0.mk hB.size
 clear hI
 have HW0 := Aside0.mk hB.size
 have HB := Aside0.mk hB
 clear hB
 have H : (if a1 = 0 then (some (([] : List Int), 0, s0_0, s0_1)) else ((tally_Cursor_Int.f s0_0 s0_1).bind fun bt252 => ((tally_Cursor_Byte.f bt252.2.1 bt252.2.2).bind fun bt255 => ((tally_Cursor_Err.f bt255.2.1 bt255.2.2).bind fun bt258 => (if bt258.1 = 0 then (if bt255.1 > 64 then (some (([] : List Int), 4, bt258.2.1, bt258.2.2)) else ((tally_Cursor_Left.f bt258.2.1 bt258.2.2).bind fun bt264 => (if bt264.1 < (wrap64 (Int.tdiv (wrap64 ((wrap64 (a1 * bt255.1)) + 7)) 8)) then (some (([] : List Int), 2, bt264.2.1, bt264.2.2)) else (ints_readPacked.l0 k a1 bt252.1 bt255.1 ([] : List Int) (wrap64 (Int.tdiv (wrap64 ((wrap64 (a1 * bt255.1)) + 7)) 8)) 0 bt264.2.1 bt264.2.2)))) else ((tally_Cursor_Err.f bt258.2.1 bt258.2.2).bind fun bt261 => (some (([] : List Int), bt261.1, bt261.2.1, bt261.2.2)))))))) = some (r1, r2, r3, r4) := h
 clear h
 by_cases c3 : a1 = 0
 ·rw [if_pos c3] at H
  have c3b0 : (a1 == 0) = true := beq_iff_eq.mpr c3
  have c3b1 : (a1 != 0) = false := bne_eq_false_iff_eq.mpr c3
  clear c3
  simp only [Option.some.injEq, Prod.mk.injEq] at H
  obtain ⟨rfl, rfl, rfl, rfl⟩ := H
  go_enter Try.func41, Try.ntmps41
  go_wp2
  go_ret2
  exact ⟨_, z5_, z8_, z2_, z3_, z1_⟩
 ·rw [if_neg c3] at H
  have c3b0 : (a1 == 0) = false := beq_eq_false_iff_ne.mpr c3
  have c3b1 : (a1 != 0) = true := bne_iff_ne.mpr c3
  replace H := Option.bind_eq_some_iff.mp H
  obtain ⟨⟨t252, t253, t254⟩, A40, H⟩ := H
  replace H : ((tally_Cursor_Byte.f t253 t254).bind fun bt255 => ((tally_Cursor_Err.f bt255.2.1 bt255.2.2).bind fun bt258 => (if bt258.1 = 0 then (if bt255.1 > 64 then (some (([] : List Int), 4, bt258.2.1, bt258.2.2)) else ((tally_Cursor_Left.f bt258.2.1 bt258.2.2).bind fun bt264 => (if bt264.1 < (wrap64 (Int.tdiv (wrap64 ((wrap64 (a1 * bt255.1)) + 7)) 8)) then (some (([] : List Int), 2, bt264.2.1, bt264.2.2)) else (ints_readPacked.l0 k a1 t252 bt255.1 ([] : List Int) (wrap64 (Int.tdiv (wrap64 ((wrap64 (a1 * bt255.1)) + 7)) 8)) 0 bt264.2.1 bt264.2.2)))) else ((tally_Cursor_Err.f bt258.2.1 bt258.2.2).bind fun bt261 => (some (([] : List Int), bt261.1, bt261.2.1, bt261.2.2)))))) = some (r1, r2, r3, r4) := H
  have A4 := Aside0.mk A40
  clear A40
  replace H := Option.bind_eq_some_iff.mp H
  obtain ⟨⟨t255, t256, t257⟩, A50, H⟩ := H
  replace H : ((tally_Cursor_Err.f t256 t257).bind fun bt258 => (if bt258.1 = 0 then (if t255 > 64 then (some (([] : List Int), 4, bt258.2.1, bt258.2.2)) else ((tally_Cursor_Left.f bt258.2.1 bt258.2.2).bind fun bt264 => (if bt264.1 < (wrap64 (Int.tdiv (wrap64 ((wrap64 (a1 * t255)) + 7)) 8)) then (some (([] : List Int), 2, bt264.2.1, bt264.2.2)) else (ints_readPacked.l0 k a1 t252 t255 ([] : List Int) (wrap64 (Int.tdiv (wrap64 ((wrap64 (a1 * t255)) + 7)) 8)) 0 bt264.2.1 bt264.2.2)))) else ((tally_Cursor_Err.f bt258.2.1 bt258.2.2).bind fun bt261 => (some (([] : List Int), bt261.1, bt261.2.1, bt261.2.2))))) = some (r1, r2, r3, r4) := H
  have A5 := Aside0.mk A50
  clear A50
  replace H := Option.bind_eq_some_iff.mp H
  obtain ⟨⟨t258, t259, t260⟩, A60, H⟩ := H
  replace H : (if t258 = 0 then (if t255 > 64 then (some (([] : List Int), 4, t259, t260)) else ((tally_Cursor_Left.f t259 t260).bind fun bt264 => (if bt264.1 < (wrap64 (Int.tdiv (wrap64 ((wrap64 (a1 * t255)) + 7)) 8)) then (some (([] : List Int), 2, bt264.2.1, bt264.2.2)) else (ints_readPacked.l0 k a1 t252 t255 ([] : List Int) (wrap64 (Int.tdiv (wrap64 ((wrap64 (a1 * t255)) + 7)) 8)) 0 bt264.2.1 bt264.2.2)))) else ((tally_Cursor_Err.f t259 t260).bind fun bt261 => (some (([] : List Int), bt261.1, bt261.2.1, bt261.2.2)))) = some (r1, r2, r3, r4) := H
  have A6 := Aside0.mk A60
  clear A60
  by_cases c7 : t258 = 0
  ·rw [if_pos c7] at H
   have c7b0 : (t258 == 0) = true := beq_iff_eq.mpr c7
   have c7b1 : (t258 != 0) = false := bne_eq_false_iff_eq.mpr c7
   clear c7
   by_cases c8 : t255 > 64
   ·rw [if_pos c8] at H
    have c8b0 : decide (64 < t255) = true := decide_eq_true c8
    clear c8
    simp only [Option.some.injEq, Prod.mk.injEq] at H
    obtain ⟨rfl, rfl, rfl, rfl⟩ := H
    go_enter Try.func41, Try.ntmps41
    go_wp2_with (first | ((with_reducible refine gate_callee (f := 56) rfl ?_); refine goesL_ (some 18) rfl rfl Try.func56 (by kernel_rfl) rfl #[.pointer (some ⟨g, 0, none⟩)] rfl (by (try simp only [List.map_toArray, List.map_cons, List.map_nil]); first | done | rfl | (simp only [List.length_drop, List.length_take]; rfl) | (go_simp; simp [IntKind.wrap, IntKind.bits, IntKind.signed]; omega)) ?_; (with_reducible refine (tally_Cursor_Int.calls g s0_0 s0_1 t252 t253 t254 w0 _ ?side1 ?side2 A4.out).mono ?_); (case side1 => repeat (first | (with_reducible first | exact HI0.out | apply IsS66.alloc | apply IsS66.drewN | apply IsS66.drew | apply IsS66.set_0 | apply IsS66.set_1) | exact HI0.out)); (case side2 => repeat (first | (with_reducible first | exact HB.out | apply below_alloc | apply pw_below_drewN | apply below_drew1 | refine below_set ?_ (IsS66.ge HI0.out)) | exact HB.out)); rintro e w9 ⟨rfl, hi, hb, hk⟩; refine ⟨_, rfl, ?_⟩; have n0_ := Aside0.mk (KeepBut.trans z1_ hk (.inl rfl)); have n1_ := Aside0.mk (hb); have n2_ := Aside0.mk (hi); clear HK; clear HB; clear HI0; have HK := n0_; have HB := n1_; have HI0 := n2_; clear n0_ n1_ n2_; (try clear hb); (try clear hb2); (try clear hk); (try clear hi)) | ((with_reducible refine gate_callee (f := 24) rfl ?_); refine goesL_ (some 20) rfl rfl Try.func24 (by kernel_rfl) rfl #[.pointer (some ⟨g, 0, none⟩)] rfl (by (try simp only [List.map_toArray, List.map_cons, List.map_nil]); first | done | rfl | (simp only [List.length_drop, List.length_take]; rfl) | (go_simp; simp [IntKind.wrap, IntKind.bits, IntKind.signed]; omega)) ?_; (with_reducible refine (tally_Cursor_Byte.calls g t253 t254 t255 t256 t257 w0 _ ?side1 ?side2 A5.out).mono ?_); (case side1 => repeat (first | (with_reducible first | exact HI0.out | apply IsS66.alloc | apply IsS66.drewN | apply IsS66.drew | apply IsS66.set_0 | apply IsS66.set_1) | exact HI0.out)); (case side2 => repeat (first | (with_reducible first | exact HB.out | apply below_alloc | apply pw_below_drewN | apply below_drew1 | refine below_set ?_ (IsS66.ge HI0.out)) | exact HB.out)); rintro e w10 ⟨rfl, hi, hb, hk⟩; refine ⟨_, rfl, ?_⟩; have n0_ := Aside0.mk (KeepBut.trans z1_ hk (.inl rfl)); have n1_ := Aside0.mk (hb); have n2_ := Aside0.mk (hi); clear HK; clear HB; clear HI0; have HK := n0_; have HB := n1_; have HI0 := n2_; clear n0_ n1_ n2_; (try clear hb); (try clear hb2); (try clear hk); (try clear hi)) | ((with_reducible refine gate_callee (f := 25) rfl ?_); refine goesL_ (some 23) rfl rfl Try.func25 (by kernel_rfl) rfl #[.pointer (some ⟨g, 0, none⟩)] rfl (by (try simp only [List.map_toArray, List.map_cons, List.map_nil]); first | done | rfl | (simp only [List.length_drop, List.length_take]; rfl) | (go_simp; simp [IntKind.wrap, IntKind.bits, IntKind.signed]; omega)) ?_; (with_reducible refine (tally_Cursor_Err.calls g t256 t257 t258 t259 t260 w0 _ ?side1 ?side2 A6.out).mono ?_); (case side1 => repeat (first | (with_reducible first | exact HI0.out | apply IsS66.alloc | apply IsS66.drewN | apply IsS66.drew | apply IsS66.set_0 | apply IsS66.set_1) | exact HI0.out)); (case side2 => repeat (first | (with_reducible first | exact HB.out | apply below_alloc | apply pw_below_drewN | apply below_drew1 | refine below_set ?_ (IsS66.ge HI0.out)) | exact HB.out)); rintro e w11 ⟨rfl, hi, hb, hk⟩; refine ⟨_, rfl, ?_⟩; have n0_ := Aside0.mk (KeepBut.trans z1_ hk (.inl rfl)); have n1_ := Aside0.mk (hb); have n2_ := Aside0.mk (hi); clear HK; clear HB; clear HI0; have HK := n0_; have HB := n1_; have HI0 := n2_; clear n0_ n1_ n2_; (try clear hb); (try clear hb2); (try clear hk); (try clear hi)))
    go_ret2
    exact ⟨_, z5_, z8_, z2_, z3_, z1_⟩
   ·rw [if_neg c8] at H
    have c8b0 : decide (64 < t255) = false := decide_eq_false c8
    clear c8
    replace H := Option.bind_eq_some_iff.mp H
    obtain ⟨⟨t264, t265, t266⟩, A120, H⟩ := H
    replace H : (if t264 < (wrap64 (Int.tdiv (wrap64 ((wrap64 (a1 * t255)) + 7)) 8)) then (some (([] : List Int), 2, t265, t266)) else (ints_readPacked.l0 k a1 t252 t255 ([] : List Int) (wrap64 (Int.tdiv (wrap64 ((wrap64 (a1 * t255)) + 7)) 8)) 0 t265 t266)) = some (r1, r2, r3, r4) := H
    have A12 := Aside0.mk A120
    clear A120
    by_cases c13 : t264 < (wrap64 (Int.tdiv (wrap64 ((wrap64 (a1 * t255)) + 7)) 8))
    ·rw [if_pos c13] at H
     have c13b0 : decide (t264 < (wrap64 (Int.tdiv (wrap64 ((wrap64 (a1 * t255)) + 7)) 8))) = true := decide_eq_true c13
     clear c13
     simp only [Option.some.injEq, Prod.mk.injEq] at H
     obtain ⟨rfl, rfl, rfl, rfl⟩ := H
     go_enter Try.func41, Try.ntmps41
     go_wp2_with (first | ((with_reducible refine gate_callee (f := 56) rfl ?_); refine goesL_ (some 18) rfl rfl Try.func56 (by kernel_rfl) rfl #[.pointer (some ⟨g, 0, none⟩)] rfl (by (try simp only [List.map_toArray, List.map_cons, List.map_nil]); first | done | rfl | (simp only [List.length_drop, List.length_take]; rfl) | (go_simp; simp [IntKind.wrap, IntKind.bits, IntKind.signed]; omega)) ?_; (with_reducible refine (tally_Cursor_Int.calls g s0_0 s0_1 t252 t253 t254 w0 _ ?side1 ?side2 A4.out).mono ?_); (case side1 => repeat (first | (with_reducible first | exact HI0.out | apply IsS66.alloc | apply IsS66.drewN | apply IsS66.drew | apply IsS66.set_0 | apply IsS66.set_1) | exact HI0.out)); (case side2 => repeat (first | (with_reducible first | exact HB.out | apply below_alloc | apply pw_below_drewN | apply below_drew1 | refine below_set ?_ (IsS66.ge HI0.out)) | exact HB.out)); rintro e w14 ⟨rfl, hi, hb, hk⟩; refine ⟨_, rfl, ?_⟩; have n0_ := Aside0.mk (KeepBut.trans z1_ hk (.inl rfl)); have n1_ := Aside0.mk (hb); have n2_ := Aside0.mk (hi); clear HK; clear HB; clear HI0; have HK := n0_; have HB := n1_; have HI0 := n2_; clear n0_ n1_ n2_; (try clear hb); (try clear hb2); (try clear hk); (try clear hi)) | ((with_reducible refine gate_callee (f := 24) rfl ?_); refine goesL_ (some 20) rfl rfl Try.func24 (by kernel_rfl) rfl #[.pointer (some ⟨g, 0, none⟩)] rfl (by (try simp only [List.map_toArray, List.map_cons, List.map_nil]); first | done | rfl | (simp only [List.length_drop, List.length_take]; rfl) | (go_simp; simp [IntKind.wrap, IntKind.bits, IntKind.signed]; omega)) ?_; (with_reducible refine (tally_Cursor_Byte.calls g t253 t254 t255 t256 t257 w0 _ ?side1 ?side2 A5.out).mono ?_); (case side1 => repeat (first | (with_reducible first | exact HI0.out | apply IsS66.alloc | apply IsS66.drewN | apply IsS66.drew | apply IsS66.set_0 | apply IsS66.set_1) | exact HI0.out)); (case side2 => repeat (first | (with_reducible first | exact HB.out | apply below_alloc | apply pw_below_drewN | apply below_drew1 | refine below_set ?_ (IsS66.ge HI0.out)) | exact HB.out)); rintro e w15 ⟨rfl, hi, hb, hk⟩; refine ⟨_, rfl, ?_⟩; have n0_ := Aside0.mk (KeepBut.trans z1_ hk (.inl rfl)); have n1_ := Aside0.mk (hb); have n2_ := Aside0.mk (hi); clear HK; clear HB; clear HI0; have HK := n0_; have HB := n1_; have HI0 := n2_; clear n0_ n1_ n2_; (try clear hb); (try clear hb2); (try clear hk); (try clear hi)) | ((with_reducible refine gate_callee (f := 25) rfl ?_); refine goesL_ (some 23) rfl rfl Try.func25 (by kernel_rfl) rfl #[.pointer (some ⟨g, 0, none⟩)] rfl (by (try simp only [List.map_toArray, List.map_cons, List.map_nil]); first | done | rfl | (simp only [List.length_drop, List.length_take]; rfl) | (go_simp; simp [IntKind.wrap, IntKind.bits, IntKind.signed]; omega)) ?_; (with_reducible refine (tally_Cursor_Err.calls g t256 t257 t258 t259 t260 w0 _ ?side1 ?side2 A6.out).mono ?_); (case side1 => repeat (first | (with_reducible first | exact HI0.out | apply IsS66.alloc | apply IsS66.drewN | apply IsS66.drew | apply IsS66.set_0 | apply IsS66.set_1) | exact HI0.out)); (case side2 => repeat (first | (with_reducible first | exact HB.out | apply below_alloc | apply pw_below_drewN | apply below_drew1 | refine below_set ?_ (IsS66.ge HI0.out)) | exact HB.out)); rintro e w16 ⟨rfl, hi, hb, hk⟩; refine ⟨_, rfl, ?_⟩; have n0_ := Aside0.mk (KeepBut.trans z1_ hk (.inl rfl)); have n1_ := Aside0.mk (hb); have n2_ := Aside0.mk (hi); clear HK; clear HB; clear HI0; have HK := n0_; have HB := n1_; have HI0 := n2_; clear n0_ n1_ n2_; (try clear hb); (try clear hb2); (try clear hk); (try clear hi)) | ((with_reducible refine gate_callee (f := 62) rfl ?_); refine goesL_ (some 36) rfl rfl Try.func62 (by kernel_rfl) rfl #[.pointer (some ⟨g, 0, none⟩)] rfl (by (try simp only [List.map_toArray, List.map_cons, List.map_nil]); first | done | rfl | (simp only [List.length_drop, List.length_take]; rfl) | (go_simp; simp [IntKind.wrap, IntKind.bits, IntKind.signed]; omega)) ?_; (with_reducible refine (tally_Cursor_Left.calls g t259 t260 t264 t265 t266 w0 _ ?side1 ?side2 A12.out).mono ?_); (case side1 => repeat (first | (with_reducible first | exact HI0.out | apply IsS66.alloc | apply IsS66.drewN | apply IsS66.drew | apply IsS66.set_0 | apply IsS66.set_1) | exact HI0.out)); (case side2 => repeat (first | (with_reducible first | exact HB.out | apply below_alloc | apply pw_below_drewN | apply below_drew1 | refine below_set ?_ (IsS66.ge HI0.out)) | exact HB.out)); rintro e w17 ⟨rfl, hi, hb, hk⟩; refine ⟨_, rfl, ?_⟩; have n0_ := Aside0.mk (KeepBut.trans z1_ hk (.inl rfl)); have n1_ := Aside0.mk (hb); have n2_ := Aside0.mk (hi); clear HK; clear HB; clear HI0; have HK := n0_; have HB := n1_; have HI0 := n2_; clear n0_ n1_ n2_; (try clear hb); (try clear hb2); (try clear hk); (try clear hi)))
     go_ret2
     exact ⟨_, z5_, z8_, z2_, z3_, z1_⟩
    ·rw [if_neg c13] at H
     have c13b0 : decide (t264 < (wrap64 (Int.tdiv (wrap64 ((wrap64 (a1 * t255)) + 7)) 8))) = false := decide_eq_false c13
     clear c13
     have H' := Aside0.mk H
     clear H
     go_enter Try.func41, Try.ntmps41
     go_wp2_with (first | ((with_reducible refine gate_callee (f := 56) rfl ?_); refine goesL_ (some 18) rfl rfl Try.func56 (by kernel_rfl) rfl #[.pointer (some ⟨g, 0, none⟩)] rfl (by (try simp only [List.map_toArray, List.map_cons, List.map_nil]); first | done | rfl | (simp only [List.length_drop, List.length_take]; rfl) | (go_simp; simp [IntKind.wrap, IntKind.bits, IntKind.signed]; omega)) ?_; (with_reducible refine (tally_Cursor_Int.calls g s0_0 s0_1 t252 t253 t254 w0 _ ?side1 ?side2 A4.out).mono ?_); (case side1 => repeat (first | (with_reducible first | exact HI0.out | apply IsS66.alloc | apply IsS66.drewN | apply IsS66.drew | apply IsS66.set_0 | apply IsS66.set_1) | exact HI0.out)); (case side2 => repeat (first | (with_reducible first | exact HB.out | apply below_alloc | apply pw_below_drewN | apply below_drew1 | refine below_set ?_ (IsS66.ge HI0.out)) | exact HB.out)); rintro e w18 ⟨rfl, hi, hb, hk⟩; refine ⟨_, rfl, ?_⟩; have n0_ := Aside0.mk (KeepBut.trans z1_ hk (.inl rfl)); have n1_ := Aside0.mk (hb); have n2_ := Aside0.mk (hi); clear HK; clear HB; clear HI0; have HK := n0_; have HB := n1_; have HI0 := n2_; clear n0_ n1_ n2_; (try clear hb); (try clear hb2); (try clear hk); (try clear hi)) | ((with_reducible refine gate_callee (f := 24) rfl ?_); refine goesL_ (some 20) rfl rfl Try.func24 (by kernel_rfl) rfl #[.pointer (some ⟨g, 0, none⟩)] rfl (by (try simp only [List.map_toArray, List.map_cons, List.map_nil]); first | done | rfl | (simp only [List.length_drop, List.length_take]; rfl) | (go_simp; simp [IntKind.wrap, IntKind.bits, IntKind.signed]; omega)) ?_; (with_reducible refine (tally_Cursor_Byte.calls g t253 t254 t255 t256 t257 w0 _ ?side1 ?side2 A5.out).mono ?_); (case side1 => repeat (first | (with_reducible first | exact HI0.out | apply IsS66.alloc | apply IsS66.drewN | apply IsS66.drew | apply IsS66.set_0 | apply IsS66.set_1) | exact HI0.out)); (case side2 => repeat (first | (with_reducible first | exact HB.out | apply below_alloc | apply pw_below_drewN | apply below_drew1 | refine below_set ?_ (IsS66.ge HI0.out)) | exact HB.out)); rintro e w19 ⟨rfl, hi, hb, hk⟩; refine ⟨_, rfl, ?_⟩; have n0_ := Aside0.mk (KeepBut.trans z1_ hk (.inl rfl)); have n1_ := Aside0.mk (hb); have n2_ := Aside0.mk (hi); clear HK; clear HB; clear HI0; have HK := n0_; have HB := n1_; have HI0 := n2_; clear n0_ n1_ n2_; (try clear hb); (try clear hb2); (try clear hk); (try clear hi)) | ((with_reducible refine gate_callee (f := 25) rfl ?_); refine goesL_ (some 23) rfl rfl Try.func25 (by kernel_rfl) rfl #[.pointer (some ⟨g, 0, none⟩)] rfl (by (try simp only [List.map_toArray, List.map_cons, List.map_nil]); first | done | rfl | (simp only [List.length_drop, List.length_take]; rfl) | (go_simp; simp [IntKind.wrap, IntKind.bits, IntKind.signed]; omega)) ?_; (with_reducible refine (tally_Cursor_Err.calls g t256 t257 t258 t259 t260 w0 _ ?side1 ?side2 A6.out).mono ?_); (case side1 => repeat (first | (with_reducible first | exact HI0.out | apply IsS66.alloc | apply IsS66.drewN | apply IsS66.drew | apply IsS66.set_0 | apply IsS66.set_1) | exact HI0.out)); (case side2 => repeat (first | (with_reducible first | exact HB.out | apply below_alloc | apply pw_below_drewN | apply below_drew1 | refine below_set ?_ (IsS66.ge HI0.out)) | exact HB.out)); rintro e w20 ⟨rfl, hi, hb, hk⟩; refine ⟨_, rfl, ?_⟩; have n0_ := Aside0.mk (KeepBut.trans z1_ hk (.inl rfl)); have n1_ := Aside0.mk (hb); have n2_ := Aside0.mk (hi); clear HK; clear HB; clear HI0; have HK := n0_; have HB := n1_; have HI0 := n2_; clear n0_ n1_ n2_; (try clear hb); (try clear hb2); (try clear hk); (try clear hi)) | ((with_reducible refine gate_callee (f := 62) rfl ?_); refine goesL_ (some 36) rfl rfl Try.func62 (by kernel_rfl) rfl #[.pointer (some ⟨g, 0, none⟩)] rfl (by (try simp only [List.map_toArray, List.map_cons, List.map_nil]); first | done | rfl | (simp only [List.length_drop, List.length_take]; rfl) | (go_simp; simp [IntKind.wrap, IntKind.bits, IntKind.signed]; omega)) ?_; (with_reducible refine (tally_Cursor_Left.calls g t259 t260 t264 t265 t266 w0 _ ?side1 ?side2 A12.out).mono ?_); (case side1 => repeat (first | (with_reducible first | exact HI0.out | apply IsS66.alloc | apply IsS66.drewN | apply IsS66.drew | apply IsS66.set_0 | apply IsS66.set_1) | exact HI0.out)); (case side2 => repeat (first | (with_reducible first | exact HB.out | apply below_alloc | apply pw_below_drewN | apply below_drew1 | refine below_set ?_ (IsS66.ge HI0.out)) | exact HB.out)); rintro e w21 ⟨rfl, hi, hb, hk⟩; refine ⟨_, rfl, ?_⟩; have n0_ := Aside0.mk (KeepBut.trans z1_ hk (.inl rfl)); have n1_ := Aside0.mk (hb); have n2_ := Aside0.mk (hi); clear HK; clear HB; clear HI0; have HK := n0_; have HB := n1_; have HI0 := n2_; clear n0_ n1_ n2_; (try clear hb); (try clear hb2); (try clear hk); (try clear hi)))
     go_loopg [9, 40] k (fun kq v9 v40 w' => ∃ (x9_1 : List Int) (x40_1 : Int) (x1000_1 : ByteArray) (x1001_1 : Int), v40 = .int .i64 x40_1 ∧ Aside0 (ints_readPacked.l0 kq a1 t252 t255 x9_1 (wrap64 (Int.tdiv (wrap64 ((wrap64 (a1 * t255)) + 7)) 8)) x40_1 x1000_1 x1001_1 = some (r1, r2, r3, r4)) ∧ Aside0 (kq ≤ k) ∧ Aside0 (Kd.R (Kd.int .u8) 5 w' w.heap.size (fun _ => True) v9 x9_1) ∧ Aside0 (IsS66 w0 w' g x1000_1 x1001_1) ∧ Aside0 (KeepBut w w' g none) ∧ Aside0 (Below w0.heap.size w0 w'))
     case atStart => exact ⟨(([] : List Int)), (0), (t265), (t266), z6_, H', ⟨Nat.le_refl _⟩, ⟨z8_⟩, ⟨z2_⟩, ⟨z1_⟩, ⟨z3_⟩⟩
     case round =>
      clear H'
      try clear c1
      try clear c2
      try clear p2
      try clear c3
      try clear c3b0
      try clear c3b1
      try clear c4
      try clear c5
      try clear c6
      try clear p6
      try clear c7
      try clear c7b0
      try clear c7b1
      try clear c8
      try clear c8b0
      try clear c13
      try clear c13b0
      obtain ⟨x9_1, x40_1, x1000_1, x1001_1, rfl, HA, HK1, HO_9, HI0, HK, HB⟩ := hrel
      cases gk with
      | zero => exact absurd HA.out (by simp [ints_readPacked.l0])
      | succ k1 =>
       have H := HA.out
       clear HA
       simp only [ints_readPacked.l0] at H
       by_cases c22 : x40_1 < (wrap64 (Int.tdiv (wrap64 ((wrap64 (a1 * t255)) + 7)) 8))
       ·rw [if_pos c22] at H
        have c22b0 : decide (x40_1 < (wrap64 (Int.tdiv (wrap64 ((wrap64 (a1 * t255)) + 7)) 8))) = true := decide_eq_true c22
        clear c22
        replace H := Option.bind_eq_some_iff.mp H
        obtain ⟨⟨t267, t268, t269⟩, A230, H⟩ := H
        replace H : (if x9_1.length < 140737488355328 then (ints_readPacked.l0 k1 a1 t252 t255 (x9_1 ++ [(t267) % 256]) (wrap64 (Int.tdiv (wrap64 ((wrap64 (a1 * t255)) + 7)) 8)) (wrap64 (x40_1 + 1)) t268 t269) else (none)) = some (r1, r2, r3, r4) := H
        have A23 := Aside0.mk A230
        clear A230
        by_cases c24 : x9_1.length < 140737488355328
        ·rw [if_pos c24] at H
         have LMc24 := Aside0.mk c24
         clear c24
         obtain ⟨y270, hy270⟩ : ∃ y_ : List Int, y_ = (x9_1 ++ [(t267) % 256]) := ⟨_, rfl⟩
         replace H : (ints_readPacked.l0 k1 a1 t252 t255 y270 (wrap64 (Int.tdiv (wrap64 ((wrap64 (a1 * t255)) + 7)) 8)) (wrap64 (x40_1 + 1)) t268 t269) = some (r1, r2, r3, r4) := by first | (rw [hy270]; with_reducible exact H) | (have H2_ := (Option.bind_some _ _).symm.trans H; rw [hy270]; with_reducible exact H2_) | (have H2_ := (Option.bind_some _ _).symm.trans H; with_reducible exact H2_) | with_reducible exact H | (rw [hy270]; exact H) | exact H
         have Ny270 := Aside0.mk hy270
         clear hy270
         have H' := Aside0.mk H
         clear H
         go_wp2_with (first | ((with_reducible refine gate_callee (f := 24) rfl ?_); refine goesL_ (some 44) rfl rfl Try.func24 (by kernel_rfl) rfl #[.pointer (some ⟨g, 0, none⟩)] rfl (by (try simp only [List.map_toArray, List.map_cons, List.map_nil]); first | done | rfl | (simp only [List.length_drop, List.length_take]; rfl) | (go_simp; simp [IntKind.wrap, IntKind.bits, IntKind.signed]; omega)) ?_; (with_reducible refine (tally_Cursor_Byte.calls g x1000_1 x1001_1 t267 t268 t269 w0 _ ?side1 ?side2 A23.out).mono ?_); (case side1 => repeat (first | (with_reducible first | exact HI0.out | apply IsS66.alloc | apply IsS66.drewN | apply IsS66.drew | apply IsS66.set_0 | apply IsS66.set_1) | exact HI0.out)); (case side2 => repeat (first | (with_reducible first | exact HB.out | apply below_alloc | apply pw_below_drewN | apply below_drew1 | refine below_set ?_ (IsS66.ge HI0.out)) | exact HB.out)); rintro e w25 ⟨rfl, hi, hb, hk⟩; refine ⟨_, rfl, ?_⟩; have n0_ := Aside0.mk (Kd.R_mono (Kd.R_keep (IsS66.apart (show IsS66 w0 _ g x1000_1 x1001_1 from z2_) (by (with_reducible repeat (first | apply Kd.R_alloc | apply Kd.R_drewN | apply Kd.R_drew)); exact HO_9.out) (by decide)) hk (fun _ h => h.2)) (fun _ h => h.1)); have n1_ := Aside0.mk (KeepBut.trans z1_ hk (.inl rfl)); have n2_ := Aside0.mk (hb); have n3_ := Aside0.mk (hi); clear HO_9; clear HK; clear HB; clear HI0; have HO_9 := n0_; have HK := n1_; have HB := n2_; have HI0 := n3_; clear n0_ n1_ n2_ n3_; (try clear hb); (try clear hb2); (try clear hk); (try clear hi)) | ((with_reducible refine gate_builtin (b := .append) (xs := #[.tmp 42, .tmp 46]) rfl ?_); at_builtin; refine Kd.R_append (Kd.int .u8) w.heap.size rfl (.tmp 42) (.tmp 46) 38 5 (.int .u8 0) 1 rfl Try.underlying38 info5 rfl (by decide) (by omega) u9 x9_1 ((t267) % 256) [.int .u8 ((t267) % 256)] (fun _ => True) (fun _ => False) rfl rfl ?aP (fun _ hk => hk.elim) ?aF ?aO (Below.refl _ _) ?aS ?aL ?_; (case aP => exact rfl); (case aF => exact (fun _ _ => trivial)); (case aO => exact (by (with_reducible repeat (first | apply Kd.R_alloc | apply Kd.R_drewN | apply Kd.R_drew)); exact HO_9.out)); (case aS => exact (keep_size (w := w) (g := g) (row := none) z1_)); (case aL => have := LMc24.out; omega); intro v271 w26 ho hb hg hat; rw [← Ny270.out] at ho; have n0_ := Aside0.mk (IsS66.grown z2_ hg (IsS66.own_ne HI0.out HO_9.out (by decide))); have n1_ := Aside0.mk (below_weaken z3_ HL.out hb); have n2_ := Aside0.mk (KeepBut.trans z1_ (KeepBut.of_grown hg g) (Kd.R_base2 HO_9.out)); have n3_ := Aside0.mk (ho); clear HI0; clear HB; clear HK; clear HO_9; have HI0 := n0_; have HB := n1_; have HK := n2_; have HO272 := n3_; clear n0_ n1_ n2_ n3_; clear ho hb hg hat))
         go_roundg k1
         case measure => have := HK1.out; omega
         case rel => exact ⟨(y270), (wrap64 (x40_1 + 1)), (t268), (t269), z6_, H', ⟨by have := HK1.out; omega⟩, ⟨by (with_reducible repeat (first | apply Kd.R_alloc | apply Kd.R_drewN | apply Kd.R_drew)); exact HO272.out⟩, ⟨z2_⟩, ⟨z1_⟩, ⟨z3_⟩⟩
        ·rw [if_neg c24] at H
         exact absurd H (by simp)
       ·rw [if_neg c22] at H
        have c22b0 : decide (x40_1 < (wrap64 (Int.tdiv (wrap64 ((wrap64 (a1 * t255)) + 7)) 8))) = false := decide_eq_false c22
        clear c22
        replace H := Option.bind_eq_some_iff.mp H
        obtain ⟨⟨t273, t274⟩, A270, H⟩ := H
        replace H : (if t274 = 0 then (ints_readPacked.l1 k1 t252 t255 t273 ([] : List Int) t273 (t273.length : Int) 0 x1000_1 x1001_1) else (some (([] : List Int), t274, x1000_1, x1001_1))) = some (r1, r2, r3, r4) := H
        have A27 := Aside0.mk A270
        clear A270
        by_cases c28 : t274 = 0
        ·rw [if_pos c28] at H
         have c28b0 : (t274 == 0) = true := beq_iff_eq.mpr c28
         have c28b1 : (t274 != 0) = false := bne_eq_false_iff_eq.mpr c28
         clear c28
         have H' := Aside0.mk H
         clear H
         have hcv29 := own_string (P := Try.prog) Try.underlying38 Try.underlying5 Try.underlying9 (Kd.own_of_R HO_9.out)
         go_wp2_with (first | ((with_reducible refine gate_callee (f := 63) rfl ?_); refine goesL_ (some 54) rfl rfl Try.func63 (by kernel_rfl) rfl #[.string (strOfNums x9_1), .int .i64 a1, .int .i64 t255] rfl (by (try simp only [List.map_toArray, List.map_cons, List.map_nil]); first | done | rfl | (simp only [List.length_drop, List.length_take]; rfl) | (go_simp; simp [IntKind.wrap, IntKind.bits, IntKind.signed]; omega)) ?_; (with_reducible refine (bits_Unpack.calls (strOfNums x9_1) a1 t255 t273 t274 _ A27.out).mono ?_); rintro e w30 ⟨v275, rfl, ho0, hb⟩; refine ⟨_, rfl, ?_⟩; have n0_ := Aside0.mk (Kd.R_below (by (with_reducible repeat (first | apply Kd.R_alloc | apply Kd.R_drewN | apply Kd.R_drew)); exact HO_9.out) hb); have n1_ := Aside0.mk (Kd.R_lower ho0 (keep_size (w := w) (g := g) (row := none) z1_)); have n2_ := Aside0.mk (IsS66.below z2_ hb); have n3_ := Aside0.mk (KeepBut.trans z1_ (KeepBut.of_below hb g none) (.inl rfl)); have n4_ := Aside0.mk (below_step z3_ hb); clear HO_9; clear HI0; clear HK; clear HB; have HO_9 := n0_; have HO276 := n1_; have HI0 := n2_; have HK := n3_; have HB := n4_; clear n0_ n1_ n2_ n3_ n4_; (try clear hb); (try clear hb2); (try clear hk); (try clear hi); (try clear ho0); obtain ⟨Ao31, co31, eo31⟩ := Kd.R_slice HO276.out; subst eo31))
         go_loopg [12, 62] k1 (fun kq v12 v62 w' => ∃ (x12_2 : List Int) (x62_2 : Int), v62 = .int .i64 x62_2 ∧ Aside0 (ints_readPacked.l1 kq t252 t255 t273 x12_2 t273 (t273.length : Int) x62_2 x1000_1 x1001_1 = some (r1, r2, r3, r4)) ∧ Aside0 (kq ≤ k1) ∧ Aside0 (Kd.R (Kd.int .u64) 44 w' w.heap.size (fun _ => True) (.slice Ao31 t273.length co31) t273) ∧ Aside0 (Kd.R (Kd.int .i64) 2 w' w.heap.size (fun _ => True) v12 x12_2) ∧ Aside0 (Kd.R (Kd.int .u64) 44 w' w.heap.size (fun _ => True) (.slice Ao31 t273.length co31) t273) ∧ Aside0 (IsS66 w0 w' g x1000_1 x1001_1) ∧ Aside0 (KeepBut w w' g none) ∧ Aside0 (Below w0.heap.size w0 w'))
         case atStart => exact ⟨(([] : List Int)), (0), z6_, H', ⟨Nat.le_refl _⟩, ⟨by (with_reducible repeat (first | apply Kd.R_alloc | apply Kd.R_drewN | apply Kd.R_drew)); exact HO276.out⟩, ⟨z8_⟩, ⟨by (with_reducible repeat (first | apply Kd.R_alloc | apply Kd.R_drewN | apply Kd.R_drew)); exact HO276.out⟩, ⟨z2_⟩, ⟨z1_⟩, ⟨z3_⟩⟩
         case round =>
          clear H'
          try clear c1
          try clear c2
          try clear p2
          try clear hcv2
          try clear c3
          try clear c3b0
          try clear c3b1
          try clear c4
          try clear c5
          try clear c6
          try clear p6
          try clear c7
          try clear c7b0
          try clear c7b1
          try clear c8
          try clear c8b0
          try clear c13
          try clear c13b0
          try clear c22
          try clear c22b0
          try clear c24
          try clear c25
          try clear c28
          try clear c28b0
          try clear c28b1
          try clear hcv29
          try clear p2
          try clear p6
          obtain ⟨x12_2, x62_2, rfl, HA, HK2, HO_10, HO_12, HO_60, HI0, HK, HB⟩ := hrel
          cases gk with
          | zero => exact absurd HA.out (by simp [ints_readPacked.l1])
          | succ k2 =>
           have H := HA.out
           clear HA
           simp only [ints_readPacked.l1] at H
           by_cases c32 : x62_2 < (t273.length : Int)
           ·rw [if_pos c32] at H
            have c32b0 : decide (x62_2 < (t273.length : Int)) = true := decide_eq_true c32
            clear c32
            by_cases c33 : 0 ≤ x62_2
            ·rw [if_pos c33] at H
             have c33b0 : decide (0 ≤ x62_2) = true := decide_eq_true c33
             clear c33
             by_cases c34 : x62_2 < (t273.length : Int)
             ·rw [if_pos c34] at H
              have c34b0 : decide (x62_2 < (t273.length : Int)) = true := decide_eq_true c34
              clear c34
              by_cases c35 : x12_2.length < 17592186044416
              ·rw [if_pos c35] at H
               have LMc35 := Aside0.mk c35
               clear c35
               obtain ⟨y278, hy278⟩ : ∃ y_ : List Int, y_ = (x12_2 ++ [wrap64 (t252 + (wrap64 (rd t273 x62_2)))]) := ⟨_, rfl⟩
               replace H : (ints_readPacked.l1 k2 t252 t255 t273 y278 t273 (t273.length : Int) (wrap64 (x62_2 + 1)) x1000_1 x1001_1) = some (r1, r2, r3, r4) := by first | (rw [hy278]; with_reducible exact H) | (have H2_ := (Option.bind_some _ _).symm.trans H; rw [hy278]; with_reducible exact H2_) | (have H2_ := (Option.bind_some _ _).symm.trans H; with_reducible exact H2_) | with_reducible exact H | (rw [hy278]; exact H) | exact H
               have Ny278 := Aside0.mk hy278
               clear hy278
               have H' := Aside0.mk H
               clear H
               have p277 : 0 ≤ (x62_2 : Int) := of_decide_eq_true z7_
               have q277 : x62_2 < (t273.length : Int) := of_decide_eq_true z7_
               obtain ⟨ad277, e277, hx277_0⟩ := Kd.at_int (Kd.R_reads' HO_60.out).2.2 x62_2 p277 q277
               cases e277
               replace p277 := eq_true p277
               replace q277 := eq_true q277
               go_wp2_with (first | ((with_reducible refine gate_builtin (b := .append) (xs := #[.tmp 66, .tmp 71]) rfl ?_); at_builtin; refine Kd.R_append (Kd.int .i64) w.heap.size rfl (.tmp 66) (.tmp 71) 22 2 (.int .i64 0) 8 rfl Try.underlying22 info2 rfl (by decide) (by omega) u12 x12_2 (wrap64 (t252 + (wrap64 (rd t273 x62_2)))) [.int .i64 (wrap64 (t252 + (wrap64 (rd t273 x62_2))))] (fun _ => True) (fun _ => False) rfl rfl ?aP (fun _ hk => hk.elim) ?aF ?aO (Below.refl _ _) ?aS ?aL ?_; (case aP => exact rfl); (case aF => exact (fun _ _ => trivial)); (case aO => exact (by (with_reducible repeat (first | apply Kd.R_alloc | apply Kd.R_drewN | apply Kd.R_drew)); exact HO_12.out)); (case aS => exact (keep_size (w := w) (g := g) (row := none) z1_)); (case aL => have := LMc35.out; omega); intro v279 w36 ho hb hg hat; rw [← Ny278.out] at ho; have n0_ := Aside0.mk (Kd.R_over' (by (with_reducible repeat (first | apply Kd.R_alloc | apply Kd.R_drewN | apply Kd.R_drew)); exact HO_10.out) (Kd.R_typed (by (with_reducible repeat (first | apply Kd.R_alloc | apply Kd.R_drewN | apply Kd.R_drew)); exact HO_12.out)) (by decide) hg); have n1_ := Aside0.mk (Kd.R_over' (by (with_reducible repeat (first | apply Kd.R_alloc | apply Kd.R_drewN | apply Kd.R_drew)); exact HO_60.out) (Kd.R_typed (by (with_reducible repeat (first | apply Kd.R_alloc | apply Kd.R_drewN | apply Kd.R_drew)); exact HO_12.out)) (by decide) hg); have n2_ := Aside0.mk (IsS66.grown z2_ hg (IsS66.own_ne HI0.out HO_12.out (by decide))); have n3_ := Aside0.mk (below_weaken z3_ HL.out hb); have n4_ := Aside0.mk (KeepBut.trans z1_ (KeepBut.of_grown hg g) (Kd.R_base2 HO_12.out)); have n5_ := Aside0.mk (ho); clear HO_10; clear HO_60; clear HI0; clear HB; clear HK; clear HO_12; have HO_10 := n0_; have HO_60 := n1_; have HI0 := n2_; have HB := n3_; have HK := n4_; have HO280 := n5_; clear n0_ n1_ n2_ n3_ n4_ n5_; clear ho hb hg hat))
               go_roundg k2
               case measure => have := HK1.out; have := HK2.out; omega
               case rel => exact ⟨(y278), (wrap64 (x62_2 + 1)), z6_, H', ⟨by have := HK1.out; have := HK2.out; omega⟩, ⟨by (with_reducible repeat (first | apply Kd.R_alloc | apply Kd.R_drewN | apply Kd.R_drew)); exact HO_10.out⟩, ⟨by (with_reducible repeat (first | apply Kd.R_alloc | apply Kd.R_drewN | apply Kd.R_drew)); exact HO280.out⟩, ⟨by (with_reducible repeat (first | apply Kd.R_alloc | apply Kd.R_drewN | apply Kd.R_drew)); exact HO_60.out⟩, ⟨z2_⟩, ⟨z1_⟩, ⟨z3_⟩⟩
              ·rw [if_neg c35] at H
               exact absurd H (by simp)
             ·rw [if_neg c34] at H
              exact absurd H (by simp)
            ·rw [if_neg c33] at H
             exact absurd H (by simp)
           ·rw [if_neg c32] at H
            have c32b0 : decide (x62_2 < (t273.length : Int)) = false := decide_eq_false c32
            clear c32
            replace H := Option.bind_eq_some_iff.mp H
            obtain ⟨t281, A370, H⟩ := H
            replace H : (if t281 = t252 then ((bits_Width.f k2 t273).bind fun t282 => (if t282 = t255 then (some (x12_2, 0, x1000_1, x1001_1)) else (some (([] : List Int), 4, x1000_1, x1001_1)))) else (some (([] : List Int), 4, x1000_1, x1001_1))) = some (r1, r2, r3, r4) := H
            have A37 := Aside0.mk A370
            clear A370
            by_cases c38 : t281 = t252
            ·rw [if_pos c38] at H
             have c38b0 : (t281 == t252) = true := beq_iff_eq.mpr c38
             have c38b1 : (t281 != t252) = false := bne_eq_false_iff_eq.mpr c38
             clear c38
             replace H := Option.bind_eq_some_iff.mp H
             obtain ⟨t282, A390, H⟩ := H
             replace H : (if t282 = t255 then (some (x12_2, 0, x1000_1, x1001_1)) else (some (([] : List Int), 4, x1000_1, x1001_1))) = some (r1, r2, r3, r4) := H
             have A39 := Aside0.mk A390
             clear A390
             by_cases c40 : t282 = t255
             ·rw [if_pos c40] at H
              have c40b0 : (t282 == t255) = true := beq_iff_eq.mpr c40
              have c40b1 : (t282 != t255) = false := bne_eq_false_iff_eq.mpr c40
              clear c40
              simp only [Option.some.injEq, Prod.mk.injEq] at H
              obtain ⟨rfl, rfl, rfl, rfl⟩ := H
              obtain ⟨Ao41, co41, eo41⟩ := Kd.R_slice HO_12.out
              subst eo41
              go_wp2_with (first | ((with_reducible refine gate_callee (f := 58) rfl ?_); refine goesL_ (some 75) rfl rfl Try.func58 (by kernel_rfl) rfl #[.slice Ao41 x12_2.length co41] rfl (by (try simp only [List.map_toArray, List.map_cons, List.map_nil]); first | done | rfl | (simp only [List.length_drop, List.length_take]; rfl) | (go_simp; simp [IntKind.wrap, IntKind.bits, IntKind.signed]; omega)) ?_; (with_reducible refine (slices_Min_int64_int64.calls k2 _ _ x12_2 t281 _ ?side1 ?side2 A37.out).mono ?_); (case side1 => repeat (first | exact (Kd.R_reads' HO_12.out).2.2 | (with_reducible refine Kd.C_alloc ?_ _) | (with_reducible refine Kd.C_drewN ?_ _) | (with_reducible refine Kd.C_drew ?_))); (case side2 => exact (Kd.R_reads' HO_12.out).2.1); rintro e w42 ⟨rfl, hb⟩; refine ⟨_, rfl, ?_⟩; have n0_ := Aside0.mk (Kd.R_below (by (with_reducible repeat (first | apply Kd.R_alloc | apply Kd.R_drewN | apply Kd.R_drew)); exact HO_10.out) hb); have n1_ := Aside0.mk (Kd.R_below (by (with_reducible repeat (first | apply Kd.R_alloc | apply Kd.R_drewN | apply Kd.R_drew)); exact HO_12.out) hb); have n2_ := Aside0.mk (Kd.R_below (by (with_reducible repeat (first | apply Kd.R_alloc | apply Kd.R_drewN | apply Kd.R_drew)); exact HO_60.out) hb); have n3_ := Aside0.mk (IsS66.below z2_ hb); have n4_ := Aside0.mk (KeepBut.trans z1_ (KeepBut.of_below hb g none) (.inl rfl)); have n5_ := Aside0.mk (below_step z3_ hb); clear HO_10; clear HO_12; clear HO_60; clear HI0; clear HK; clear HB; have HO_10 := n0_; have HO_12 := n1_; have HO_60 := n2_; have HI0 := n3_; have HK := n4_; have HB := n5_; clear n0_ n1_ n2_ n3_ n4_ n5_; (try clear hb); (try clear hb2); (try clear hk); (try clear hi)) | (go_at_call 60; (with_reducible refine (bits_Width.calls k2 _ _ t273 t282 _ ?side1 ?side2 A39.out).mono ?_); (case side1 => repeat (first | exact (Kd.R_reads' HO_10.out).2.2 | (with_reducible refine Kd.C_alloc ?_ _) | (with_reducible refine Kd.C_drewN ?_ _) | (with_reducible refine Kd.C_drew ?_))); (case side2 => exact (Kd.R_reads' HO_10.out).2.1); rintro e w' ⟨rfl, ⟨nd, rfl⟩⟩))
              go_ret2
              exact ⟨_, z5_, by (with_reducible repeat (first | apply Kd.R_alloc | apply Kd.R_drewN | apply Kd.R_drew)); exact HO_12.out, z2_, z3_, z1_⟩
             ·rw [if_neg c40] at H
              have c40b0 : (t282 == t255) = false := beq_eq_false_iff_ne.mpr c40
              have c40b1 : (t282 != t255) = true := bne_iff_ne.mpr c40
              simp only [Option.some.injEq, Prod.mk.injEq] at H
              obtain ⟨rfl, rfl, rfl, rfl⟩ := H
              obtain ⟨Ao43, co43, eo43⟩ := Kd.R_slice HO_12.out
              subst eo43
              go_wp2_with (first | ((with_reducible refine gate_callee (f := 58) rfl ?_); refine goesL_ (some 75) rfl rfl Try.func58 (by kernel_rfl) rfl #[.slice Ao43 x12_2.length co43] rfl (by (try simp only [List.map_toArray, List.map_cons, List.map_nil]); first | done | rfl | (simp only [List.length_drop, List.length_take]; rfl) | (go_simp; simp [IntKind.wrap, IntKind.bits, IntKind.signed]; omega)) ?_; (with_reducible refine (slices_Min_int64_int64.calls k2 _ _ x12_2 t281 _ ?side1 ?side2 A37.out).mono ?_); (case side1 => repeat (first | exact (Kd.R_reads' HO_12.out).2.2 | (with_reducible refine Kd.C_alloc ?_ _) | (with_reducible refine Kd.C_drewN ?_ _) | (with_reducible refine Kd.C_drew ?_))); (case side2 => exact (Kd.R_reads' HO_12.out).2.1); rintro e w44 ⟨rfl, hb⟩; refine ⟨_, rfl, ?_⟩; have n0_ := Aside0.mk (Kd.R_below (by (with_reducible repeat (first | apply Kd.R_alloc | apply Kd.R_drewN | apply Kd.R_drew)); exact HO_10.out) hb); have n1_ := Aside0.mk (Kd.R_below (by (with_reducible repeat (first | apply Kd.R_alloc | apply Kd.R_drewN | apply Kd.R_drew)); exact HO_12.out) hb); have n2_ := Aside0.mk (Kd.R_below (by (with_reducible repeat (first | apply Kd.R_alloc | apply Kd.R_drewN | apply Kd.R_drew)); exact HO_60.out) hb); have n3_ := Aside0.mk (IsS66.below z2_ hb); have n4_ := Aside0.mk (KeepBut.trans z1_ (KeepBut.of_below hb g none) (.inl rfl)); have n5_ := Aside0.mk (below_step z3_ hb); clear HO_10; clear HO_12; clear HO_60; clear HI0; clear HK; clear HB; have HO_10 := n0_; have HO_12 := n1_; have HO_60 := n2_; have HI0 := n3_; have HK := n4_; have HB := n5_; clear n0_ n1_ n2_ n3_ n4_ n5_; (try clear hb); (try clear hb2); (try clear hk); (try clear hi)) | (go_at_call 60; (with_reducible refine (bits_Width.calls k2 _ _ t273 t282 _ ?side1 ?side2 A39.out).mono ?_); (case side1 => repeat (first | exact (Kd.R_reads' HO_10.out).2.2 | (with_reducible refine Kd.C_alloc ?_ _) | (with_reducible refine Kd.C_drewN ?_ _) | (with_reducible refine Kd.C_drew ?_))); (case side2 => exact (Kd.R_reads' HO_10.out).2.1); rintro e w' ⟨rfl, ⟨nd, rfl⟩⟩))
              go_ret2
              exact ⟨_, z5_, z8_, z2_, z3_, z1_⟩
            ·rw [if_neg c38] at H
             have c38b0 : (t281 == t252) = false := beq_eq_false_iff_ne.mpr c38
             have c38b1 : (t281 != t252) = true := bne_iff_ne.mpr c38
             simp only [Option.some.injEq, Prod.mk.injEq] at H
             obtain ⟨rfl, rfl, rfl, rfl⟩ := H
             obtain ⟨Ao45, co45, eo45⟩ := Kd.R_slice HO_12.out
             subst eo45
             go_wp2_with (first | ((with_reducible refine gate_callee (f := 58) rfl ?_); refine goesL_ (some 75) rfl rfl Try.func58 (by kernel_rfl) rfl #[.slice Ao45 x12_2.length co45] rfl (by (try simp only [List.map_toArray, List.map_cons, List.map_nil]); first | done | rfl | (simp only [List.length_drop, List.length_take]; rfl) | (go_simp; simp [IntKind.wrap, IntKind.bits, IntKind.signed]; omega)) ?_; (with_reducible refine (slices_Min_int64_int64.calls k2 _ _ x12_2 t281 _ ?side1 ?side2 A37.out).mono ?_); (case side1 => repeat (first | exact (Kd.R_reads' HO_12.out).2.2 | (with_reducible refine Kd.C_alloc ?_ _) | (with_reducible refine Kd.C_drewN ?_ _) | (with_reducible refine Kd.C_drew ?_))); (case side2 => exact (Kd.R_reads' HO_12.out).2.1); rintro e w46 ⟨rfl, hb⟩; refine ⟨_, rfl, ?_⟩; have n0_ := Aside0.mk (Kd.R_below (by (with_reducible repeat (first | apply Kd.R_alloc | apply Kd.R_drewN | apply Kd.R_drew)); exact HO_10.out) hb); have n1_ := Aside0.mk (Kd.R_below (by (with_reducible repeat (first | apply Kd.R_alloc | apply Kd.R_drewN | apply Kd.R_drew)); exact HO_12.out) hb); have n2_ := Aside0.mk (Kd.R_below (by (with_reducible repeat (first | apply Kd.R_alloc | apply Kd.R_drewN | apply Kd.R_drew)); exact HO_60.out) hb); have n3_ := Aside0.mk (IsS66.below z2_ hb); have n4_ := Aside0.mk (KeepBut.trans z1_ (KeepBut.of_below hb g none) (.inl rfl)); have n5_ := Aside0.mk (below_step z3_ hb); clear HO_10; clear HO_12; clear HO_60; clear HI0; clear HK; clear HB; have HO_10 := n0_; have HO_12 := n1_; have HO_60 := n2_; have HI0 := n3_; have HK := n4_; have HB := n5_; clear n0_ n1_ n2_ n3_ n4_ n5_; (try clear hb); (try clear hb2); (try clear hk); (try clear hi)))
             go_ret2
             exact ⟨_, z5_, z8_, z2_, z3_, z1_⟩
        ·rw [if_neg c28] at H
         have c28b0 : (t274 == 0) = false := beq_eq_false_iff_ne.mpr c28
         have c28b1 : (t274 != 0) = true := bne_iff_ne.mpr c28
         simp only [Option.some.injEq, Prod.mk.injEq] at H
         obtain ⟨rfl, rfl, rfl, rfl⟩ := H
         have hcv47 := own_string (P := Try.prog) Try.underlying38 Try.underlying5 Try.underlying9 (Kd.own_of_R HO_9.out)
         go_wp2_with (first | ((with_reducible refine gate_callee (f := 63) rfl ?_); refine goesL_ (some 54) rfl rfl Try.func63 (by kernel_rfl) rfl #[.string (strOfNums x9_1), .int .i64 a1, .int .i64 t255] rfl (by (try simp only [List.map_toArray, List.map_cons, List.map_nil]); first | done | rfl | (simp only [List.length_drop, List.length_take]; rfl) | (go_simp; simp [IntKind.wrap, IntKind.bits, IntKind.signed]; omega)) ?_; (with_reducible refine (bits_Unpack.calls (strOfNums x9_1) a1 t255 t273 t274 _ A27.out).mono ?_); rintro e w48 ⟨v275, rfl, ho0, hb⟩; refine ⟨_, rfl, ?_⟩; have n0_ := Aside0.mk (Kd.R_below (by (with_reducible repeat (first | apply Kd.R_alloc | apply Kd.R_drewN | apply Kd.R_drew)); exact HO_9.out) hb); have n1_ := Aside0.mk (Kd.R_lower ho0 (keep_size (w := w) (g := g) (row := none) z1_)); have n2_ := Aside0.mk (IsS66.below z2_ hb); have n3_ := Aside0.mk (KeepBut.trans z1_ (KeepBut.of_below hb g none) (.inl rfl)); have n4_ := Aside0.mk (below_step z3_ hb); clear HO_9; clear HI0; clear HK; clear HB; have HO_9 := n0_; have HO276 := n1_; have HI0 := n2_; have HK := n3_; have HB := n4_; clear n0_ n1_ n2_ n3_ n4_; (try clear hb); (try clear hb2); (try clear hk); (try clear hi); (try clear ho0)))
         go_ret2
         exact ⟨_, z5_, z8_, z2_, z3_, z1_⟩
  ·rw [if_neg c7] at H
   have c7b0 : (t258 == 0) = false := beq_eq_false_iff_ne.mpr c7
   have c7b1 : (t258 != 0) = true := bne_iff_ne.mpr c7
   replace H := Option.bind_eq_some_iff.mp H
   obtain ⟨⟨t261, t262, t263⟩, A490, H⟩ := H
   replace H : (some (([] : List Int), t261, t262, t263)) = some (r1, r2, r3, r4) := H
   have A49 := Aside0.mk A490
   clear A490
   simp only [Option.some.injEq, Prod.mk.injEq] at H
   obtain ⟨rfl, rfl, rfl, rfl⟩ := H
   go_enter Try.func41, Try.ntmps41
   go_wp2_with (first | ((with_reducible refine gate_callee (f := 56) rfl ?_); refine goesL_ (some 18) rfl rfl Try.func56 (by kernel_rfl) rfl #[.pointer (some ⟨g, 0, none⟩)] rfl (by (try simp only [List.map_toArray, List.map_cons, List.map_nil]); first | done | rfl | (simp only [List.length_drop, List.length_take]; rfl) | (go_simp; simp [IntKind.wrap, IntKind.bits, IntKind.signed]; omega)) ?_; (with_reducible refine (tally_Cursor_Int.calls g s0_0 s0_1 t252 t253 t254 w0 _ ?side1 ?side2 A4.out).mono ?_); (case side1 => repeat (first | (with_reducible first | exact HI0.out | apply IsS66.alloc | apply IsS66.drewN | apply IsS66.drew | apply IsS66.set_0 | apply IsS66.set_1) | exact HI0.out)); (case side2 => repeat (first | (with_reducible first | exact HB.out | apply below_alloc | apply pw_below_drewN | apply below_drew1 | refine below_set ?_ (IsS66.ge HI0.out)) | exact HB.out)); rintro e w50 ⟨rfl, hi, hb, hk⟩; refine ⟨_, rfl, ?_⟩; have n0_ := Aside0.mk (KeepBut.trans z1_ hk (.inl rfl)); have n1_ := Aside0.mk (hb); have n2_ := Aside0.mk (hi); clear HK; clear HB; clear HI0; have HK := n0_; have HB := n1_; have HI0 := n2_; clear n0_ n1_ n2_; (try clear hb); (try clear hb2); (try clear hk); (try clear hi)) | ((with_reducible refine gate_callee (f := 24) rfl ?_); refine goesL_ (some 20) rfl rfl Try.func24 (by kernel_rfl) rfl #[.pointer (some ⟨g, 0, none⟩)] rfl (by (try simp only [List.map_toArray, List.map_cons, List.map_nil]); first | done | rfl | (simp only [List.length_drop, List.length_take]; rfl) | (go_simp; simp [IntKind.wrap, IntKind.bits, IntKind.signed]; omega)) ?_; (with_reducible refine (tally_Cursor_Byte.calls g t253 t254 t255 t256 t257 w0 _ ?side1 ?side2 A5.out).mono ?_); (case side1 => repeat (first | (with_reducible first | exact HI0.out | apply IsS66.alloc | apply IsS66.drewN | apply IsS66.drew | apply IsS66.set_0 | apply IsS66.set_1) | exact HI0.out)); (case side2 => repeat (first | (with_reducible first | exact HB.out | apply below_alloc | apply pw_below_drewN | apply below_drew1 | refine below_set ?_ (IsS66.ge HI0.out)) | exact HB.out)); rintro e w51 ⟨rfl, hi, hb, hk⟩; refine ⟨_, rfl, ?_⟩; have n0_ := Aside0.mk (KeepBut.trans z1_ hk (.inl rfl)); have n1_ := Aside0.mk (hb); have n2_ := Aside0.mk (hi); clear HK; clear HB; clear HI0; have HK := n0_; have HB := n1_; have HI0 := n2_; clear n0_ n1_ n2_; (try clear hb); (try clear hb2); (try clear hk); (try clear hi)) | ((with_reducible refine gate_callee (f := 25) rfl ?_); refine goesL_ (some 23) rfl rfl Try.func25 (by kernel_rfl) rfl #[.pointer (some ⟨g, 0, none⟩)] rfl (by (try simp only [List.map_toArray, List.map_cons, List.map_nil]); first | done | rfl | (simp only [List.length_drop, List.length_take]; rfl) | (go_simp; simp [IntKind.wrap, IntKind.bits, IntKind.signed]; omega)) ?_; (with_reducible refine (tally_Cursor_Err.calls g t256 t257 t258 t259 t260 w0 _ ?side1 ?side2 A6.out).mono ?_); (case side1 => repeat (first | (with_reducible first | exact HI0.out | apply IsS66.alloc | apply IsS66.drewN | apply IsS66.drew | apply IsS66.set_0 | apply IsS66.set_1) | exact HI0.out)); (case side2 => repeat (first | (with_reducible first | exact HB.out | apply below_alloc | apply pw_below_drewN | apply below_drew1 | refine below_set ?_ (IsS66.ge HI0.out)) | exact HB.out)); rintro e w52 ⟨rfl, hi, hb, hk⟩; refine ⟨_, rfl, ?_⟩; have n0_ := Aside0.mk (KeepBut.trans z1_ hk (.inl rfl)); have n1_ := Aside0.mk (hb); have n2_ := Aside0.mk (hi); clear HK; clear HB; clear HI0; have HK := n0_; have HB := n1_; have HI0 := n2_; clear n0_ n1_ n2_; (try clear hb); (try clear hb2); (try clear hk); (try clear hi)) | ((with_reducible refine gate_callee (f := 25) rfl ?_); refine goesL_ (some 26) rfl rfl Try.func25 (by kernel_rfl) rfl #[.pointer (some ⟨g, 0, none⟩)] rfl (by (try simp only [List.map_toArray, List.map_cons, List.map_nil]); first | done | rfl | (simp only [List.length_drop, List.length_take]; rfl) | (go_simp; simp [IntKind.wrap, IntKind.bits, IntKind.signed]; omega)) ?_; (with_reducible refine (tally_Cursor_Err.calls g t259 t260 t261 t262 t263 w0 _ ?side1 ?side2 A49.out).mono ?_); (case side1 => repeat (first | (with_reducible first | exact HI0.out | apply IsS66.alloc | apply IsS66.drewN | apply IsS66.drew | apply IsS66.set_0 | apply IsS66.set_1) | exact HI0.out)); (case side2 => repeat (first | (with_reducible first | exact HB.out | apply below_alloc | apply pw_below_drewN | apply below_drew1 | refine below_set ?_ (IsS66.ge HI0.out)) | exact HB.out)); rintro e w53 ⟨rfl, hi, hb, hk⟩; refine ⟨_, rfl, ?_⟩; have n0_ := Aside0.mk (KeepBut.trans z1_ hk (.inl rfl)); have n1_ := Aside0.mk (hb); have n2_ := Aside0.mk (hi); clear HK; clear HB; clear HI0; have HK := n0_; have HB := n1_; have HI0 := n2_; clear n0_ n1_ n2_; (try clear hb); (try clear hb2); (try clear hk); (try clear hi)))
   go_ret2
   exact ⟨_, z5_, z8_, z2_, z3_, z1_⟩
end Go.Proofs.Ytgeddoklmcjdcaa.G
namespace Go.Proofs.Ytgeddoklmcjdcaa.G
open Go.RowKit Go.Proofs.YtgeddoklmcjdcaaQ Go.Proofs.YtgeddoklmcjdcaaW.PrintWords Go.Proofs.YtgeddoklmcjdcaaW.PrintLast Go.Proofs.YtgeddoklmcjdcaaW.PrintMore
attribute [local go_sem] max2_int min2_int max_two min_two max_three min_three max_four min_four   -- for this text's walks alone
set_option linter.unusedVariables false
set_option linter.unusedSimpArgs false
def tally_From.f (a0 : ByteArray) : Option (ByteArray × Int) := some (a0, 0)
set_option maxHeartbeats 8000000 in
set_option maxRecDepth 100000 in
theorem tally_From.calls (a0 : ByteArray) (r1 : ByteArray) (r2 : Int) (w0 w : World) (hB : Below w0.heap.size w0 w) (h : tally_From.f a0 = some (r1, r2)) :
  Calls Try.prog 23 #[.string a0] w fun e w' => ∃ g_ : Nat, e = .returned (.pointer (some ⟨g_, 0, none⟩)) ∧ IsS66 w0 w' g_ r1 r2 ∧ Below w0.heap.size w0 w' ∧ Below w.heap.size w w' := by
 have hu66 := Try.underlying66
 have HBW := Aside0.mk (Below.refl w.heap.size w)
 have HW0 := Aside0.mk hB.size
 have HB := Aside0.mk hB
 clear hB
 have H : (some (a0, 0)) = some (r1, r2) := h
 clear h
 simp only [Option.some.injEq, Prod.mk.injEq] at H
 obtain ⟨rfl, rfl⟩ := H
 go_enter Try.func23, Try.ntmps23
 go_wp2_with (first | ((with_reducible refine gate_dst (N := 5) rfl ?_); refine box_event ?hg (N := 5) ?hd (cs := #[.string a0, .int .i64 0]) (t := 66) ?hr ?_; (case hd => rfl); (case hg => rfl); (case hr => first | (go_simp; done) | (go_simp; rfl)); intro gb283 hg w2 hbox hb; have n0_ := Aside0.mk (below_step HBW.out hb); have n1_ := Aside0.mk (below_step z0_ hb); have n2_ := Aside0.mk (hbox); have n3_ := Aside0.mk ((by rw [hg]; exact (below_size (by repeat (first | (with_reducible first | exact HBW.out | apply below_alloc | apply pw_below_drewN | apply below_drew1) | exact HBW.out))) : w.heap.size ≤ gb283)); have n4_ := Aside0.mk ((Nat.le_trans HW0.out (by rw [hg]; exact (below_size (by repeat (first | (with_reducible first | exact HBW.out | apply below_alloc | apply pw_below_drewN | apply below_drew1) | exact HBW.out))) : w.heap.size ≤ gb283) : w0.heap.size ≤ gb283)); clear HBW; clear HB; have HBW := n0_; have HB := n1_; have BK283 := n2_; have GW283 := n3_; have GE283 := n4_; clear n0_ n1_ n2_ n3_ n4_; clear hb hbox hg))
 go_ret
 exact ⟨_, rfl, (show IsS66 w0 _ gb283 a0 0 from ⟨by (with_reducible repeat (first | refine blk_drewN ?_ _ | refine blk_drew ?_ | refine blk_alloc ?_ _)); exact BK283.out, GE283.out⟩), by repeat (first | (with_reducible first | exact HB.out | apply below_alloc | apply pw_below_drewN | apply below_drew1 | refine below_set ?_ GE283.out) | exact HB.out), by repeat (first | (with_reducible first | exact HBW.out | apply below_alloc | apply pw_below_drewN | apply below_drew1 | refine below_set ?_ GW283.out) | exact HBW.out)⟩
def tally_Cursor_Done.f (s0_0 : ByteArray) (s0_1 : Int) : Option (Int × ByteArray × Int) := (tally_Cursor_ok.f s0_0 s0_1).bind fun bt284 => (if bt284.1 = true then (if bt284.2.1.toList = ([] : List UInt8) then ((tally_Cursor_Err.f bt284.2.1 bt284.2.2).bind fun bt287 => (some (bt287.1, bt287.2.1, bt287.2.2))) else (some (5, bt284.2.1, bt284.2.2))) else ((tally_Cursor_Err.f bt284.2.1 bt284.2.2).bind fun bt290 => (some (bt290.1, bt290.2.1, bt290.2.2))))
set_option maxHeartbeats 8000000 in
set_option maxRecDepth 100000 in
theorem tally_Cursor_Done.calls (g : Nat) (s0_0 : ByteArray) (s0_1 : Int) (r1 : Int) (r2 : ByteArray) (r3 : Int) (w0 w : World) (hI : IsS66 w0 w g s0_0 s0_1) (hB : Below w0.heap.size w0 w) (h : tally_Cursor_Done.f s0_0 s0_1 = some (r1, r2, r3)) :
  Calls Try.prog 27 #[.pointer (some ⟨g, 0, none⟩)] w fun e w' => e = .returned (.int .i64 r1) ∧ IsS66 w0 w' g r2 r3 ∧ Below w0.heap.size w0 w' ∧ KeepBut w w' g none := by
 have HI0 := Aside0.mk hI
 have HK := Aside0.mk (KeepBut.refl w g none)
 have HL := Aside0.mk hB.size
 clear hI
 have HW0 := Aside0.mk hB.size
 have HB := Aside0.mk hB
 clear hB
 have H : ((tally_Cursor_ok.f s0_0 s0_1).bind fun bt284 => (if bt284.1 = true then (if bt284.2.1.toList = ([] : List UInt8) then ((tally_Cursor_Err.f bt284.2.1 bt284.2.2).bind fun bt287 => (some (bt287.1, bt287.2.1, bt287.2.2))) else (some (5, bt284.2.1, bt284.2.2))) else ((tally_Cursor_Err.f bt284.2.1 bt284.2.2).bind fun bt290 => (some (bt290.1, bt290.2.1, bt290.2.2))))) = some (r1, r2, r3) := h
 clear h
 replace H := Option.bind_eq_some_iff.mp H
 obtain ⟨⟨t284, t285, t286⟩, A20, H⟩ := H
 replace H : (if t284 = true then (if t285.toList = ([] : List UInt8) then ((tally_Cursor_Err.f t285 t286).bind fun bt287 => (some (bt287.1, bt287.2.1, bt287.2.2))) else (some (5, t285, t286))) else ((tally_Cursor_Err.f t285 t286).bind fun bt290 => (some (bt290.1, bt290.2.1, bt290.2.2)))) = some (r1, r2, r3) := H
 have A2 := Aside0.mk A20
 clear A20
 by_cases c3 : t284 = true
 ·subst c3
  have H1 : (if t285.toList = ([] : List UInt8) then ((tally_Cursor_Err.f t285 t286).bind fun bt287 => (some (bt287.1, bt287.2.1, bt287.2.2))) else (some (5, t285, t286))) = some (r1, r2, r3) := by rw [if_pos rfl] at H; exact H
  clear H
  have H := H1
  clear H1
  by_cases c4 : t285.toList = ([] : List UInt8)
  ·rw [if_pos c4] at H
   have c4b0 : (t285.toList == ([] : List UInt8)) = true := beq_iff_eq.mpr c4
   have c4b1 : (t285.toList != ([] : List UInt8)) = false := bne_eq_false_iff_eq.mpr c4
   clear c4
   replace H := Option.bind_eq_some_iff.mp H
   obtain ⟨⟨t287, t288, t289⟩, A50, H⟩ := H
   replace H : (some (t287, t288, t289)) = some (r1, r2, r3) := H
   have A5 := Aside0.mk A50
   clear A50
   simp only [Option.some.injEq, Prod.mk.injEq] at H
   obtain ⟨rfl, rfl, rfl⟩ := H
   go_enter Try.func27, Try.ntmps27
   go_wp2_with (first | ((with_reducible refine gate_callee (f := 47) rfl ?_); refine goesL_ (some 4) rfl rfl Try.func47 (by kernel_rfl) rfl #[.pointer (some ⟨g, 0, none⟩)] rfl (by (try simp only [List.map_toArray, List.map_cons, List.map_nil]); first | done | rfl | (simp only [List.length_drop, List.length_take]; rfl) | (go_simp; simp [IntKind.wrap, IntKind.bits, IntKind.signed]; omega)) ?_; (with_reducible refine (tally_Cursor_ok.calls g s0_0 s0_1 true t285 t286 w0 _ ?side1 ?side2 A2.out).mono ?_); (case side1 => repeat (first | (with_reducible first | exact HI0.out | apply IsS66.alloc | apply IsS66.drewN | apply IsS66.drew | apply IsS66.set_0 | apply IsS66.set_1) | exact HI0.out)); (case side2 => repeat (first | (with_reducible first | exact HB.out | apply below_alloc | apply pw_below_drewN | apply below_drew1 | refine below_set ?_ (IsS66.ge HI0.out)) | exact HB.out)); rintro e w6 ⟨rfl, hi, hb, hk⟩; refine ⟨_, rfl, ?_⟩; have n0_ := Aside0.mk (KeepBut.trans z1_ hk (.inl rfl)); have n1_ := Aside0.mk (hb); have n2_ := Aside0.mk (hi); clear HK; clear HB; clear HI0; have HK := n0_; have HB := n1_; have HI0 := n2_; clear n0_ n1_ n2_; (try clear hb); (try clear hb2); (try clear hk); (try clear hi); obtain ⟨HGz7, hgz7⟩ := HI0.out; have hcz7_0 := cellS66_0 HGz7; have hcz7_1 := cellS66_1 HGz7; have hfz7_0 := blk_frozen HGz7 0; have hfz7_1 := blk_frozen HGz7 1; clear HGz7 hgz7) | ((with_reducible refine gate_callee (f := 25) rfl ?_); refine goesL_ (some 13) rfl rfl Try.func25 (by kernel_rfl) rfl #[.pointer (some ⟨g, 0, none⟩)] rfl (by (try simp only [List.map_toArray, List.map_cons, List.map_nil]); first | done | rfl | (simp only [List.length_drop, List.length_take]; rfl) | (go_simp; simp [IntKind.wrap, IntKind.bits, IntKind.signed]; omega)) ?_; (with_reducible refine (tally_Cursor_Err.calls g t285 t286 t287 t288 t289 w0 _ ?side1 ?side2 A5.out).mono ?_); (case side1 => repeat (first | (with_reducible first | exact HI0.out | apply IsS66.alloc | apply IsS66.drewN | apply IsS66.drew | apply IsS66.set_0 | apply IsS66.set_1) | exact HI0.out)); (case side2 => repeat (first | (with_reducible first | exact HB.out | apply below_alloc | apply pw_below_drewN | apply below_drew1 | refine below_set ?_ (IsS66.ge HI0.out)) | exact HB.out)); rintro e w8 ⟨rfl, hi, hb, hk⟩; refine ⟨_, rfl, ?_⟩; have n0_ := Aside0.mk (KeepBut.trans z1_ hk (.inl rfl)); have n1_ := Aside0.mk (hb); have n2_ := Aside0.mk (hi); clear HK; clear HB; clear HI0; have HK := n0_; have HB := n1_; have HI0 := n2_; clear n0_ n1_ n2_; (try clear hb); (try clear hb2); (try clear hk); (try clear hi)))
   go_ret
   exact ⟨z5_, z2_, z3_, z1_⟩
  ·rw [if_neg c4] at H
   have c4b0 : (t285.toList == ([] : List UInt8)) = false := beq_eq_false_iff_ne.mpr c4
   have c4b1 : (t285.toList != ([] : List UInt8)) = true := bne_iff_ne.mpr c4
   simp only [Option.some.injEq, Prod.mk.injEq] at H
   obtain ⟨rfl, rfl, rfl⟩ := H
   go_enter Try.func27, Try.ntmps27
   go_wp2_with (first | ((with_reducible refine gate_callee (f := 47) rfl ?_); refine goesL_ (some 4) rfl rfl Try.func47 (by kernel_rfl) rfl #[.pointer (some ⟨g, 0, none⟩)] rfl (by (try simp only [List.map_toArray, List.map_cons, List.map_nil]); first | done | rfl | (simp only [List.length_drop, List.length_take]; rfl) | (go_simp; simp [IntKind.wrap, IntKind.bits, IntKind.signed]; omega)) ?_; (with_reducible refine (tally_Cursor_ok.calls g s0_0 s0_1 true t285 t286 w0 _ ?side1 ?side2 A2.out).mono ?_); (case side1 => repeat (first | (with_reducible first | exact HI0.out | apply IsS66.alloc | apply IsS66.drewN | apply IsS66.drew | apply IsS66.set_0 | apply IsS66.set_1) | exact HI0.out)); (case side2 => repeat (first | (with_reducible first | exact HB.out | apply below_alloc | apply pw_below_drewN | apply below_drew1 | refine below_set ?_ (IsS66.ge HI0.out)) | exact HB.out)); rintro e w9 ⟨rfl, hi, hb, hk⟩; refine ⟨_, rfl, ?_⟩; have n0_ := Aside0.mk (KeepBut.trans z1_ hk (.inl rfl)); have n1_ := Aside0.mk (hb); have n2_ := Aside0.mk (hi); clear HK; clear HB; clear HI0; have HK := n0_; have HB := n1_; have HI0 := n2_; clear n0_ n1_ n2_; (try clear hb); (try clear hb2); (try clear hk); (try clear hi); obtain ⟨HGz10, hgz10⟩ := HI0.out; have hcz10_0 := cellS66_0 HGz10; have hcz10_1 := cellS66_1 HGz10; have hfz10_0 := blk_frozen HGz10 0; have hfz10_1 := blk_frozen HGz10 1; clear HGz10 hgz10))
   go_ret
   exact ⟨z5_, z2_, z3_, z1_⟩
 ·replace c3 := Bool.eq_false_iff.mpr c3
  subst c3
  have H1 : ((tally_Cursor_Err.f t285 t286).bind fun bt290 => (some (bt290.1, bt290.2.1, bt290.2.2))) = some (r1, r2, r3) := by rw [if_neg (show ¬ (false = true) by decide)] at H; exact H
  clear H
  have H := H1
  clear H1
  replace H := Option.bind_eq_some_iff.mp H
  obtain ⟨⟨t290, t291, t292⟩, A110, H⟩ := H
  replace H : (some (t290, t291, t292)) = some (r1, r2, r3) := H
  have A11 := Aside0.mk A110
  clear A110
  simp only [Option.some.injEq, Prod.mk.injEq] at H
  obtain ⟨rfl, rfl, rfl⟩ := H
  go_enter Try.func27, Try.ntmps27
  go_wp2_with (first | ((with_reducible refine gate_callee (f := 47) rfl ?_); refine goesL_ (some 4) rfl rfl Try.func47 (by kernel_rfl) rfl #[.pointer (some ⟨g, 0, none⟩)] rfl (by (try simp only [List.map_toArray, List.map_cons, List.map_nil]); first | done | rfl | (simp only [List.length_drop, List.length_take]; rfl) | (go_simp; simp [IntKind.wrap, IntKind.bits, IntKind.signed]; omega)) ?_; (with_reducible refine (tally_Cursor_ok.calls g s0_0 s0_1 false t285 t286 w0 _ ?side1 ?side2 A2.out).mono ?_); (case side1 => repeat (first | (with_reducible first | exact HI0.out | apply IsS66.alloc | apply IsS66.drewN | apply IsS66.drew | apply IsS66.set_0 | apply IsS66.set_1) | exact HI0.out)); (case side2 => repeat (first | (with_reducible first | exact HB.out | apply below_alloc | apply pw_below_drewN | apply below_drew1 | refine below_set ?_ (IsS66.ge HI0.out)) | exact HB.out)); rintro e w12 ⟨rfl, hi, hb, hk⟩; refine ⟨_, rfl, ?_⟩; have n0_ := Aside0.mk (KeepBut.trans z1_ hk (.inl rfl)); have n1_ := Aside0.mk (hb); have n2_ := Aside0.mk (hi); clear HK; clear HB; clear HI0; have HK := n0_; have HB := n1_; have HI0 := n2_; clear n0_ n1_ n2_; (try clear hb); (try clear hb2); (try clear hk); (try clear hi)) | ((with_reducible refine gate_callee (f := 25) rfl ?_); refine goesL_ (some 13) rfl rfl Try.func25 (by kernel_rfl) rfl #[.pointer (some ⟨g, 0, none⟩)] rfl (by (try simp only [List.map_toArray, List.map_cons, List.map_nil]); first | done | rfl | (simp only [List.length_drop, List.length_take]; rfl) | (go_simp; simp [IntKind.wrap, IntKind.bits, IntKind.signed]; omega)) ?_; (with_reducible refine (tally_Cursor_Err.calls g t285 t286 t290 t291 t292 w0 _ ?side1 ?side2 A11.out).mono ?_); (case side1 => repeat (first | (with_reducible first | exact HI0.out | apply IsS66.alloc | apply IsS66.drewN | apply IsS66.drew | apply IsS66.set_0 | apply IsS66.set_1) | exact HI0.out)); (case side2 => repeat (first | (with_reducible first | exact HB.out | apply below_alloc | apply pw_below_drewN | apply below_drew1 | refine below_set ?_ (IsS66.ge HI0.out)) | exact HB.out)); rintro e w13 ⟨rfl, hi, hb, hk⟩; refine ⟨_, rfl, ?_⟩; have n0_ := Aside0.mk (KeepBut.trans z1_ hk (.inl rfl)); have n1_ := Aside0.mk (hb); have n2_ := Aside0.mk (hi); clear HK; clear HB; clear HI0; have HK := n0_; have HB := n1_; have HI0 := n2_; clear n0_ n1_ n2_; (try clear hb); (try clear hb2); (try clear hk); (try clear hi)))
  go_ret
  exact ⟨z5_, z2_, z3_, z1_⟩
end Go.Proofs.Ytgeddoklmcjdcaa.G
namespace Go.Proofs.Ytgeddoklmcjdcaa.G
open Go.RowKit Go.Proofs.YtgeddoklmcjdcaaQ Go.Proofs.YtgeddoklmcjdcaaW.PrintWords Go.Proofs.YtgeddoklmcjdcaaW.PrintLast Go.Proofs.YtgeddoklmcjdcaaW.PrintMore
attribute [local go_sem] max2_int min2_int max_two min_two max_three min_three max_four min_four   -- for this text's walks alone
set_option linter.unusedVariables false
set_option linter.unusedSimpArgs false
section
variable {P : Program} {ops : Array Oper} {Q : Exit → Act → World → Prop}
theorem goesLV_ {rest : List Oper} {oi : Oper} {a : Act} {w : World} (N : Option Tmp) (hd : oi.dst = N) (hg : oi.guard = none) {f : FuncId} {fn : Func} {o : Operand} {ao : Array Operand} {ts : Array TypeId} (hf : P.funcs[f]? = some fn) (hname : (fn.name == "runtime.NumGoroutine") = false) (hb : fn.body.isSome = true) (args : Array Value)
  (hop : oi.op = .call { callee := .value o, args := ao, argTypes := ts }) (ho : a.eval o = .func (.func f) #[] #[]) (hargs : ao.map a.eval = args)
  (h : Calls P f args w fun e w' => ∃ v, e = .returned v ∧ wpList P ops Q rest (a.put N v) w') : wpList P ops Q (oi :: rest) a w := by
 refine wpList_plain hg fun K hK => ?_
 have he := enters_ hf hname hb args w
 have hrun : (execOp a.eval oi).run P w = .ok (.enter f args) w := by
  unfold execOp
  simp [hop, resolve, Deferred.ofValue, invoke, ho, hargs, he]
 unfold Oper.wp
 rw [hrun, Oper.upon_enter]
 refine h.mono fun e w'' hh => ?_
 obtain ⟨v, rfl, hk⟩ := hh
 subst hd
 exact hK _ _ hk
end
theorem ints_Read.err (s : ByteArray) (e : Int) : tally_Cursor_Err.f s e = some (e, s, e) := rfl
def ints_Read.rd (k : Nat) (a : Int) (s : ByteArray) (e n : Int) : Option (List Int × Int × ByteArray × Int) := if a = 0 then ints_readPlain.f k s e n else if a = 1 then ints_readDelta.f k s e n else if a = 2 then ints_readRuns.f k s e n else ints_readPacked.f k s e n
def ints_Read.fin (t : List Int × Int × ByteArray × Int) : Option (List Int × Int) := if t.2.1 = 0 then (tally_Cursor_Done.f t.2.2.1 t.2.2.2).bind fun d => if d.1 = 0 then some (t.1, 0) else some ([], d.1) else some ([], t.2.1)
def ints_Read.go (k : Nat) (a eb : Int) (s : ByteArray) : Option (List Int × Int) := (tally_Cursor_Uint.f s eb).bind fun n => if n.2.2 ≠ 0 then some ([], n.2.2) else if 65536 < n.1 then some ([], 3) else if eb = 0 ∧ 0 ≤ a ∧ 0 ≤ n.1 then (ints_Read.rd k a n.2.1 n.2.2 n.1).bind ints_Read.fin else none
def ints_Read.f (k : Nat) (a0 : ByteArray) : Option (List Int × Int) := (tally_From.f a0).bind fun c => (tally_Cursor_Byte.f c.1 c.2).bind fun b => if b.2.2 = 0 ∧ 4 ≤ b.1 then some ([], 4) else ints_Read.go k b.1 b.2.2 b.2.1
theorem ints_Read.mono : ∀ a0 k, LeO (ints_Read.f k a0) (ints_Read.f (k + 1) a0) := by
 intro a0 k
 unfold ints_Read.f ints_Read.go ints_Read.rd
 refine LeO.bind (LeO.refl _) (fun _ => LeO.bind (LeO.refl _) (fun _ => LeO.ite (LeO.refl _) (LeO.bind (LeO.refl _) (fun _ => LeO.ite (LeO.refl _) (LeO.ite (LeO.refl _) (LeO.ite (LeO.bind ?_ (fun _ => LeO.refl _)) (LeO.refl _)))))))
 exact LeO.ite (ints_readPlain.mono _ _ _ k) (LeO.ite (ints_readDelta.mono _ _ _ k) (LeO.ite (ints_readRuns.mono _ _ _ k) (ints_readPacked.mono _ _ _ k)))
def ints_Read.St (w W : World) (b g : Nat) (s : ByteArray) (e : Int) : Prop := ints_With.Tab W b ∧ IsS66 w W g s e ∧ Below w.heap.size w W
theorem ints_Read.St.ne {w W : World} {b g : Nat} {s : ByteArray} {e : Int} (h : ints_Read.St w W b g s e) : b ≠ g := blk_ne h.1 h.2.1.1 (by decide)
theorem ints_Read.St.on {w W W' : World} {b g : Nat} {s s' : ByteArray} {e e' : Int} (h : ints_Read.St w W b g s e) (hi : IsS66 w W' g s' e') (hb : Below w.heap.size w W') (hk : KeepBut W W' g none) : ints_Read.St w W' b g s' e' :=
 ⟨(hk.2 b (blk_lt h.1) h.ne (by simp)).trans h.1, hi, hb⟩
set_option maxHeartbeats 4000000 in
set_option maxRecDepth 100000 in
theorem ints_Read.far (k : Nat) (a0 s0 s1 : ByteArray) (e0 e1 a : Int) (w : World) (hf : tally_From.f a0 = some (s0, e0)) (hy : tally_Cursor_Byte.f s0 e0 = some (a, s1, e1)) (he : e1 = 0) (ha : 4 ≤ a) :
  Calls Try.prog 12 #[.string a0] w fun e w' => ∃ v0_ : Value, e = .returned (.tuple #[v0_, .int .i64 4]) ∧ Kd.R (Kd.int .i64) 2 w' w.heap.size (fun _ => True) v0_ [] ∧ Below w.heap.size w w' := by
 subst he
 have d1 : decide (4 ≤ a) = true := decide_eq_true ha
 have HF := Aside0.mk hf; have HY := Aside0.mk hy; clear hf hy
 clear ha
 go_enter Try.func12, Try.ntmps12
 go_wp2_with fail
 refine (ints_With.codecs _).mono ?_; rintro e w1 ⟨b, rfl, ht, hle, hb⟩
 have HT := Aside0.mk ht; have HB := Aside0.mk hb; clear ht hb hle
 go_wp2_with fail
 refine (tally_From.calls a0 s0 e0 w _ HB.out HF.out).mono ?_; rintro e w2 ⟨g, rfl, hi, hb, hb2⟩
 have HS : Aside0 (ints_Read.St w w2 b g s0 e0) := ⟨(hb2.block _ (blk_lt HT.out)).trans HT.out, hi, hb⟩
 clear hi hb hb2 HT HB
 go_wp2_with fail
 refine (tally_Cursor_Byte.calls g s0 e0 a s1 0 w _ HS.out.2.1 HS.out.2.2 HY.out).mono ?_; rintro en w3 ⟨rfl, hi, hb, hk⟩
 replace HS := Aside0.mk (HS.out.on hi hb hk); clear hi hb hk
 go_wp2_with fail
 refine (tally_Cursor_Err.calls g s1 0 0 s1 0 w _ HS.out.2.1 HS.out.2.2 (ints_Read.err _ _)).mono ?_; rintro en w4 ⟨rfl, hi, hb, hk⟩
 replace HS := Aside0.mk (HS.out.on hi hb hk); clear hi hb hk
 go_wp2
 go_ret2
 exact ⟨_, rfl, Kd.R_nil _ _ _ _ _, HS.out.2.2⟩
set_option maxHeartbeats 4000000 in
set_option maxRecDepth 100000 in
theorem ints_Read.bad (k : Nat) (a0 s0 s1 : ByteArray) (e0 e1 a : Int) (w : World) (hf : tally_From.f a0 = some (s0, e0)) (hy : tally_Cursor_Byte.f s0 e0 = some (a, s1, e1)) (s2 : ByteArray) (n e2 : Int) (hu : tally_Cursor_Uint.f s1 e1 = some (n, s2, e2)) (hk : e1 ≠ 0 ∨ a < 4) (he : e2 ≠ 0) :
  Calls Try.prog 12 #[.string a0] w fun e w' => ∃ v0_ : Value, e = .returned (.tuple #[v0_, .int .i64 e2]) ∧ Kd.R (Kd.int .i64) 2 w' w.heap.size (fun _ => True) v0_ [] ∧ Below w.heap.size w w' := by
 have z1 : (e2 != 0) = true := bne_iff_ne.mpr he
 have z2 : (e2 == 0) = false := beq_eq_false_iff_ne.mpr he
 have HF := Aside0.mk hf; have HY := Aside0.mk hy; clear hf hy
 have HU := Aside0.mk hu; clear hu
 have HE := Aside0.mk he; clear he
 by_cases c : e1 = 0
 ·subst c
  have d1 : decide (4 ≤ a) = false := decide_eq_false (by omega)
  clear hk
  go_enter Try.func12, Try.ntmps12
  go_wp2_with fail
  refine (ints_With.codecs _).mono ?_; rintro e w1 ⟨b, rfl, ht, hle, hb⟩
  have HT := Aside0.mk ht; have HB := Aside0.mk hb; clear ht hb hle
  go_wp2_with fail
  refine (tally_From.calls a0 s0 e0 w _ HB.out HF.out).mono ?_; rintro e w2 ⟨g, rfl, hi, hb, hb2⟩
  have HS : Aside0 (ints_Read.St w w2 b g s0 e0) := ⟨(hb2.block _ (blk_lt HT.out)).trans HT.out, hi, hb⟩
  clear hi hb hb2 HT HB
  go_wp2_with fail
  refine (tally_Cursor_Byte.calls g s0 e0 a s1 0 w _ HS.out.2.1 HS.out.2.2 HY.out).mono ?_; rintro en w3 ⟨rfl, hi, hb, hk⟩
  replace HS := Aside0.mk (HS.out.on hi hb hk); clear hi hb hk
  go_wp2_with fail
  refine (tally_Cursor_Err.calls g s1 0 0 s1 0 w _ HS.out.2.1 HS.out.2.2 (ints_Read.err _ _)).mono ?_; rintro en w4 ⟨rfl, hi, hb, hk⟩
  replace HS := Aside0.mk (HS.out.on hi hb hk); clear hi hb hk
  go_wp2_with fail
  refine (tally_Cursor_Uint.calls g s1 0 n s2 e2 w _ HS.out.2.1 HS.out.2.2 HU.out).mono ?_; rintro en w5 ⟨rfl, hi, hb, hk⟩
  replace HS := Aside0.mk (HS.out.on hi hb hk); clear hi hb hk
  go_wp2_with fail
  refine (tally_Cursor_Err.calls g s2 e2 e2 s2 e2 w _ HS.out.2.1 HS.out.2.2 (ints_Read.err _ _)).mono ?_; rintro en w6 ⟨rfl, hi, hb, hk⟩
  replace HS := Aside0.mk (HS.out.on hi hb hk); clear hi hb hk
  go_wp2_with fail
  refine (tally_Cursor_Err.calls g s2 e2 e2 s2 e2 w _ HS.out.2.1 HS.out.2.2 (ints_Read.err _ _)).mono ?_; rintro en w7 ⟨rfl, hi, hb, hk⟩
  replace HS := Aside0.mk (HS.out.on hi hb hk); clear hi hb hk
  go_wp2
  go_ret2
  exact ⟨_, rfl, Kd.R_nil _ _ _ _ _, HS.out.2.2⟩
 ·have y1 : (e1 == 0) = false := beq_eq_false_iff_ne.mpr c
  have C1 := Aside0.mk c; clear hk c
  go_enter Try.func12, Try.ntmps12
  go_wp2_with fail
  refine (ints_With.codecs _).mono ?_; rintro e w1 ⟨b, rfl, ht, hle, hb⟩
  have HT := Aside0.mk ht; have HB := Aside0.mk hb; clear ht hb hle
  go_wp2_with fail
  refine (tally_From.calls a0 s0 e0 w _ HB.out HF.out).mono ?_; rintro e w2 ⟨g, rfl, hi, hb, hb2⟩
  have HS : Aside0 (ints_Read.St w w2 b g s0 e0) := ⟨(hb2.block _ (blk_lt HT.out)).trans HT.out, hi, hb⟩
  clear hi hb hb2 HT HB
  go_wp2_with fail
  refine (tally_Cursor_Byte.calls g s0 e0 a s1 e1 w _ HS.out.2.1 HS.out.2.2 HY.out).mono ?_; rintro en w3 ⟨rfl, hi, hb, hk⟩
  replace HS := Aside0.mk (HS.out.on hi hb hk); clear hi hb hk
  go_wp2_with fail
  refine (tally_Cursor_Err.calls g s1 e1 e1 s1 e1 w _ HS.out.2.1 HS.out.2.2 (ints_Read.err _ _)).mono ?_; rintro en w4 ⟨rfl, hi, hb, hk⟩
  replace HS := Aside0.mk (HS.out.on hi hb hk); clear hi hb hk
  go_wp2_with fail
  refine (tally_Cursor_Uint.calls g s1 e1 n s2 e2 w _ HS.out.2.1 HS.out.2.2 HU.out).mono ?_; rintro en w5 ⟨rfl, hi, hb, hk⟩
  replace HS := Aside0.mk (HS.out.on hi hb hk); clear hi hb hk
  go_wp2_with fail
  refine (tally_Cursor_Err.calls g s2 e2 e2 s2 e2 w _ HS.out.2.1 HS.out.2.2 (ints_Read.err _ _)).mono ?_; rintro en w6 ⟨rfl, hi, hb, hk⟩
  replace HS := Aside0.mk (HS.out.on hi hb hk); clear hi hb hk
  go_wp2_with fail
  refine (tally_Cursor_Err.calls g s2 e2 e2 s2 e2 w _ HS.out.2.1 HS.out.2.2 (ints_Read.err _ _)).mono ?_; rintro en w7 ⟨rfl, hi, hb, hk⟩
  replace HS := Aside0.mk (HS.out.on hi hb hk); clear hi hb hk
  go_wp2
  go_ret2
  exact ⟨_, rfl, Kd.R_nil _ _ _ _ _, HS.out.2.2⟩
set_option maxHeartbeats 4000000 in
set_option maxRecDepth 100000 in
theorem ints_Read.long (k : Nat) (a0 s0 s1 : ByteArray) (e0 e1 a : Int) (w : World) (hf : tally_From.f a0 = some (s0, e0)) (hy : tally_Cursor_Byte.f s0 e0 = some (a, s1, e1)) (s2 : ByteArray) (n e2 : Int) (hu : tally_Cursor_Uint.f s1 e1 = some (n, s2, e2)) (hk : e1 ≠ 0 ∨ a < 4) (he : e2 = 0) (hn : 65536 < n) :
  Calls Try.prog 12 #[.string a0] w fun e w' => ∃ v0_ : Value, e = .returned (.tuple #[v0_, .int .i64 3]) ∧ Kd.R (Kd.int .i64) 2 w' w.heap.size (fun _ => True) v0_ [] ∧ Below w.heap.size w w' := by
 subst he
 have z3 : decide (65536 < n) = true := decide_eq_true hn
 have HF := Aside0.mk hf; have HY := Aside0.mk hy; clear hf hy
 have HU := Aside0.mk hu; clear hu
 clear hn
 by_cases c : e1 = 0
 ·subst c
  have d1 : decide (4 ≤ a) = false := decide_eq_false (by omega)
  clear hk
  go_enter Try.func12, Try.ntmps12
  go_wp2_with fail
  refine (ints_With.codecs _).mono ?_; rintro e w1 ⟨b, rfl, ht, hle, hb⟩
  have HT := Aside0.mk ht; have HB := Aside0.mk hb; clear ht hb hle
  go_wp2_with fail
  refine (tally_From.calls a0 s0 e0 w _ HB.out HF.out).mono ?_; rintro e w2 ⟨g, rfl, hi, hb, hb2⟩
  have HS : Aside0 (ints_Read.St w w2 b g s0 e0) := ⟨(hb2.block _ (blk_lt HT.out)).trans HT.out, hi, hb⟩
  clear hi hb hb2 HT HB
  go_wp2_with fail
  refine (tally_Cursor_Byte.calls g s0 e0 a s1 0 w _ HS.out.2.1 HS.out.2.2 HY.out).mono ?_; rintro en w3 ⟨rfl, hi, hb, hk⟩
  replace HS := Aside0.mk (HS.out.on hi hb hk); clear hi hb hk
  go_wp2_with fail
  refine (tally_Cursor_Err.calls g s1 0 0 s1 0 w _ HS.out.2.1 HS.out.2.2 (ints_Read.err _ _)).mono ?_; rintro en w4 ⟨rfl, hi, hb, hk⟩
  replace HS := Aside0.mk (HS.out.on hi hb hk); clear hi hb hk
  go_wp2_with fail
  refine (tally_Cursor_Uint.calls g s1 0 n s2 0 w _ HS.out.2.1 HS.out.2.2 HU.out).mono ?_; rintro en w5 ⟨rfl, hi, hb, hk⟩
  replace HS := Aside0.mk (HS.out.on hi hb hk); clear hi hb hk
  go_wp2_with fail
  refine (tally_Cursor_Err.calls g s2 0 0 s2 0 w _ HS.out.2.1 HS.out.2.2 (ints_Read.err _ _)).mono ?_; rintro en w6 ⟨rfl, hi, hb, hk⟩
  replace HS := Aside0.mk (HS.out.on hi hb hk); clear hi hb hk
  go_wp2
  go_ret2
  exact ⟨_, rfl, Kd.R_nil _ _ _ _ _, HS.out.2.2⟩
 ·have y1 : (e1 == 0) = false := beq_eq_false_iff_ne.mpr c
  have C1 := Aside0.mk c; clear hk c
  go_enter Try.func12, Try.ntmps12
  go_wp2_with fail
  refine (ints_With.codecs _).mono ?_; rintro e w1 ⟨b, rfl, ht, hle, hb⟩
  have HT := Aside0.mk ht; have HB := Aside0.mk hb; clear ht hb hle
  go_wp2_with fail
  refine (tally_From.calls a0 s0 e0 w _ HB.out HF.out).mono ?_; rintro e w2 ⟨g, rfl, hi, hb, hb2⟩
  have HS : Aside0 (ints_Read.St w w2 b g s0 e0) := ⟨(hb2.block _ (blk_lt HT.out)).trans HT.out, hi, hb⟩
  clear hi hb hb2 HT HB
  go_wp2_with fail
  refine (tally_Cursor_Byte.calls g s0 e0 a s1 e1 w _ HS.out.2.1 HS.out.2.2 HY.out).mono ?_; rintro en w3 ⟨rfl, hi, hb, hk⟩
  replace HS := Aside0.mk (HS.out.on hi hb hk); clear hi hb hk
  go_wp2_with fail
  refine (tally_Cursor_Err.calls g s1 e1 e1 s1 e1 w _ HS.out.2.1 HS.out.2.2 (ints_Read.err _ _)).mono ?_; rintro en w4 ⟨rfl, hi, hb, hk⟩
  replace HS := Aside0.mk (HS.out.on hi hb hk); clear hi hb hk
  go_wp2_with fail
  refine (tally_Cursor_Uint.calls g s1 e1 n s2 0 w _ HS.out.2.1 HS.out.2.2 HU.out).mono ?_; rintro en w5 ⟨rfl, hi, hb, hk⟩
  replace HS := Aside0.mk (HS.out.on hi hb hk); clear hi hb hk
  go_wp2_with fail
  refine (tally_Cursor_Err.calls g s2 0 0 s2 0 w _ HS.out.2.1 HS.out.2.2 (ints_Read.err _ _)).mono ?_; rintro en w6 ⟨rfl, hi, hb, hk⟩
  replace HS := Aside0.mk (HS.out.on hi hb hk); clear hi hb hk
  go_wp2
  go_ret2
  exact ⟨_, rfl, Kd.R_nil _ _ _ _ _, HS.out.2.2⟩
set_option maxHeartbeats 4000000 in
set_option maxRecDepth 100000 in
theorem ints_Read.wrong (a0 s0 s1 : ByteArray) (e0 : Int) (j : Nat) (w : World) (hj : j < 4) (hf : tally_From.f a0 = some (s0, e0)) (hy : tally_Cursor_Byte.f s0 e0 = some ((j : Int), s1, 0)) (s2 : ByteArray) (n : Int) (hu : tally_Cursor_Uint.f s1 0 = some (n, s2, 0)) (hn0 : 0 ≤ n) (hn : n ≤ 65536)
  (F : FuncId) (fn : Func) (hf_ : Try.prog.funcs[F]? = some fn) (hname : (fn.name == "runtime.NumGoroutine") = false) (hbody : fn.body.isSome = true) (hF : ints_With.tab[j * 2 + 1]? = some (.func (.func F) #[] #[])) (l : List Int) (e3 e4 : Int) (s3 s4 : ByteArray)
  (hh : ∀ (W : World) (g : Nat), IsS66 w W g s2 0 → Below w.heap.size w W → Calls Try.prog F #[.pointer (some ⟨g, 0, none⟩), .int .i64 n] W fun e w' => ∃ v0_ : Value, e = .returned (.tuple #[v0_, .int .i64 e3]) ∧ Kd.R (Kd.int .i64) 2 w' W.heap.size (fun _ => True) v0_ l ∧ IsS66 w w' g s3 e4 ∧ Below w.heap.size w w' ∧ KeepBut W w' g none) (he : e3 ≠ 0) :
  Calls Try.prog 12 #[.string a0] w fun e w' => ∃ v0_ : Value, e = .returned (.tuple #[v0_, .int .i64 e3]) ∧ Kd.R (Kd.int .i64) 2 w' w.heap.size (fun _ => True) v0_ [] ∧ Below w.heap.size w w' := by
 have z1 : (e3 != 0) = true := bne_iff_ne.mpr he
 have z2 : (e3 == 0) = false := beq_eq_false_iff_ne.mpr he
 have HE := Aside0.mk he; clear he
 have d1 : decide ((4 : Int) ≤ (j : Int)) = false := decide_eq_false (by omega)
 have d2 : decide (4 ≤ j) = false := decide_eq_false (by omega)
 have b0 : (0 : Int) ≤ (j : Int) := by omega
 have b1 : (j : Int) < 4 := by omega
 have z3 : decide (65536 < n) = false := decide_eq_false (by omega)
 have hw : wrap64 n = n := w64 (by omega) (by omega)
 have hw2 : IntKind.i64.wrap n = n := by rw [i64_w]; exact hw
 have HU := Aside0.mk hu; have HF_ := Aside0.mk hF; have HH := Aside0.mk hh; clear hu hF hh hj
 have HF := Aside0.mk hf; have HY := Aside0.mk hy; clear hf hy
 go_enter Try.func12, Try.ntmps12
 go_wp2_with fail
 refine (ints_With.codecs _).mono ?_; rintro e w1 ⟨b, rfl, ht, hle, hb⟩
 have HT := Aside0.mk ht; have HB := Aside0.mk hb; clear ht hb hle
 go_wp2_with fail
 refine (tally_From.calls a0 s0 e0 w _ HB.out HF.out).mono ?_; rintro e w2 ⟨g, rfl, hi, hb, hb2⟩
 have HS : Aside0 (ints_Read.St w w2 b g s0 e0) := ⟨(hb2.block _ (blk_lt HT.out)).trans HT.out, hi, hb⟩
 clear hi hb hb2 HT HB
 go_wp2_with fail
 refine (tally_Cursor_Byte.calls g s0 e0 (j : Int) s1 0 w _ HS.out.2.1 HS.out.2.2 HY.out).mono ?_; rintro en w3 ⟨rfl, hi, hb, hk⟩
 replace HS := Aside0.mk (HS.out.on hi hb hk); clear hi hb hk
 go_wp2_with fail
 refine (tally_Cursor_Err.calls g s1 0 0 s1 0 w _ HS.out.2.1 HS.out.2.2 (ints_Read.err _ _)).mono ?_; rintro en w4 ⟨rfl, hi, hb, hk⟩
 replace HS := Aside0.mk (HS.out.on hi hb hk); clear hi hb hk
 go_wp2_with fail
 refine (tally_Cursor_Uint.calls g s1 0 n s2 0 w _ HS.out.2.1 HS.out.2.2 HU.out).mono ?_; rintro en w5 ⟨rfl, hi, hb, hk⟩
 replace HS := Aside0.mk (HS.out.on hi hb hk); clear hi hb hk
 go_wp2_with fail
 refine (tally_Cursor_Err.calls g s2 0 0 s2 0 w _ HS.out.2.1 HS.out.2.2 (ints_Read.err _ _)).mono ?_; rintro en w6 ⟨rfl, hi, hb, hk⟩
 replace HS := Aside0.mk (HS.out.on hi hb hk); clear hi hb hk
 have q0 : w6.cell? ⟨b, j * 2 + 1, none⟩ = some (.func (.func F) #[] #[]) := (blk_cell HS.out.1 (j * 2 + 1)).trans HF_.out
 go_wp2_with ((with_reducible refine gate_dst (N := 44) rfl ?_); refine goesLV_ (some 44) rfl rfl hf_ hname hbody #[.pointer (some ⟨g, 0, none⟩), .int .i64 n] rfl (by rfl) (by first | rfl | (simp only [List.map_toArray, List.map_cons, List.map_nil]; rfl)) ?_; refine (HH.out _ g HS.out.2.1 HS.out.2.2).mono ?_; rintro en w7 ⟨v0, rfl, ho, hi, hb, hk⟩; refine ⟨_, rfl, ?_⟩; (have HO := Aside0.mk (Kd.R_lower ho HS.out.2.2.size)); (replace HS := Aside0.mk (HS.out.on hi hb hk)); clear ho hi hb hk q0)
 go_wp2
 go_ret2
 exact ⟨_, rfl, Kd.R_nil _ _ _ _ _, HS.out.2.2⟩
set_option maxHeartbeats 4000000 in
set_option maxRecDepth 100000 in
theorem ints_Read.after (a0 s0 s1 : ByteArray) (e0 : Int) (j : Nat) (w : World) (hj : j < 4) (hf : tally_From.f a0 = some (s0, e0)) (hy : tally_Cursor_Byte.f s0 e0 = some ((j : Int), s1, 0)) (s2 : ByteArray) (n : Int) (hu : tally_Cursor_Uint.f s1 0 = some (n, s2, 0)) (hn0 : 0 ≤ n) (hn : n ≤ 65536)
  (F : FuncId) (fn : Func) (hf_ : Try.prog.funcs[F]? = some fn) (hname : (fn.name == "runtime.NumGoroutine") = false) (hbody : fn.body.isSome = true) (hF : ints_With.tab[j * 2 + 1]? = some (.func (.func F) #[] #[])) (l : List Int) (e3 e4 : Int) (s3 s4 : ByteArray)
  (hh : ∀ (W : World) (g : Nat), IsS66 w W g s2 0 → Below w.heap.size w W → Calls Try.prog F #[.pointer (some ⟨g, 0, none⟩), .int .i64 n] W fun e w' => ∃ v0_ : Value, e = .returned (.tuple #[v0_, .int .i64 e3]) ∧ Kd.R (Kd.int .i64) 2 w' W.heap.size (fun _ => True) v0_ l ∧ IsS66 w w' g s3 e4 ∧ Below w.heap.size w w' ∧ KeepBut W w' g none) (he : e3 = 0) (s5 : ByteArray) (dn e5 : Int) (hd : tally_Cursor_Done.f s3 e4 = some (dn, s5, e5)) (hdn : dn ≠ 0) :
  Calls Try.prog 12 #[.string a0] w fun e w' => ∃ v0_ : Value, e = .returned (.tuple #[v0_, .int .i64 dn]) ∧ Kd.R (Kd.int .i64) 2 w' w.heap.size (fun _ => True) v0_ [] ∧ Below w.heap.size w w' := by
 subst he
 have z1 : (dn != 0) = true := bne_iff_ne.mpr hdn
 have z2 : (dn == 0) = false := beq_eq_false_iff_ne.mpr hdn
 have HE := Aside0.mk hdn; have HD := Aside0.mk hd; clear hdn hd
 have d1 : decide ((4 : Int) ≤ (j : Int)) = false := decide_eq_false (by omega)
 have d2 : decide (4 ≤ j) = false := decide_eq_false (by omega)
 have b0 : (0 : Int) ≤ (j : Int) := by omega
 have b1 : (j : Int) < 4 := by omega
 have z3 : decide (65536 < n) = false := decide_eq_false (by omega)
 have hw : wrap64 n = n := w64 (by omega) (by omega)
 have hw2 : IntKind.i64.wrap n = n := by rw [i64_w]; exact hw
 have HU := Aside0.mk hu; have HF_ := Aside0.mk hF; have HH := Aside0.mk hh; clear hu hF hh hj
 have HF := Aside0.mk hf; have HY := Aside0.mk hy; clear hf hy
 go_enter Try.func12, Try.ntmps12
 go_wp2_with fail
 refine (ints_With.codecs _).mono ?_; rintro e w1 ⟨b, rfl, ht, hle, hb⟩
 have HT := Aside0.mk ht; have HB := Aside0.mk hb; clear ht hb hle
 go_wp2_with fail
 refine (tally_From.calls a0 s0 e0 w _ HB.out HF.out).mono ?_; rintro e w2 ⟨g, rfl, hi, hb, hb2⟩
 have HS : Aside0 (ints_Read.St w w2 b g s0 e0) := ⟨(hb2.block _ (blk_lt HT.out)).trans HT.out, hi, hb⟩
 clear hi hb hb2 HT HB
 go_wp2_with fail
 refine (tally_Cursor_Byte.calls g s0 e0 (j : Int) s1 0 w _ HS.out.2.1 HS.out.2.2 HY.out).mono ?_; rintro en w3 ⟨rfl, hi, hb, hk⟩
 replace HS := Aside0.mk (HS.out.on hi hb hk); clear hi hb hk
 go_wp2_with fail
 refine (tally_Cursor_Err.calls g s1 0 0 s1 0 w _ HS.out.2.1 HS.out.2.2 (ints_Read.err _ _)).mono ?_; rintro en w4 ⟨rfl, hi, hb, hk⟩
 replace HS := Aside0.mk (HS.out.on hi hb hk); clear hi hb hk
 go_wp2_with fail
 refine (tally_Cursor_Uint.calls g s1 0 n s2 0 w _ HS.out.2.1 HS.out.2.2 HU.out).mono ?_; rintro en w5 ⟨rfl, hi, hb, hk⟩
 replace HS := Aside0.mk (HS.out.on hi hb hk); clear hi hb hk
 go_wp2_with fail
 refine (tally_Cursor_Err.calls g s2 0 0 s2 0 w _ HS.out.2.1 HS.out.2.2 (ints_Read.err _ _)).mono ?_; rintro en w6 ⟨rfl, hi, hb, hk⟩
 replace HS := Aside0.mk (HS.out.on hi hb hk); clear hi hb hk
 have q0 : w6.cell? ⟨b, j * 2 + 1, none⟩ = some (.func (.func F) #[] #[]) := (blk_cell HS.out.1 (j * 2 + 1)).trans HF_.out
 go_wp2_with ((with_reducible refine gate_dst (N := 44) rfl ?_); refine goesLV_ (some 44) rfl rfl hf_ hname hbody #[.pointer (some ⟨g, 0, none⟩), .int .i64 n] rfl (by rfl) (by first | rfl | (simp only [List.map_toArray, List.map_cons, List.map_nil]; rfl)) ?_; refine (HH.out _ g HS.out.2.1 HS.out.2.2).mono ?_; rintro en w7 ⟨v0, rfl, ho, hi, hb, hk⟩; refine ⟨_, rfl, ?_⟩; (have HO := Aside0.mk (Kd.R_lower ho HS.out.2.2.size)); (replace HS := Aside0.mk (HS.out.on hi hb hk)); clear ho hi hb hk q0)
 go_wp2_with fail
 refine (tally_Cursor_Done.calls g s3 e4 dn s5 e5 w _ HS.out.2.1 HS.out.2.2 HD.out).mono ?_; rintro en w8 ⟨rfl, hi, hb, hk⟩
 have HO2 := Aside0.mk (Kd.R_mono (Kd.R_keep (IsS66.apart HS.out.2.1 HO.out (by decide)) hk (fun _ h => h.2)) (fun _ h => h.1)); replace HS := Aside0.mk (HS.out.on hi hb hk); clear hi hb hk
 go_wp2
 go_ret2
 exact ⟨_, rfl, Kd.R_nil _ _ _ _ _, HS.out.2.2⟩
set_option maxHeartbeats 4000000 in
set_option maxRecDepth 100000 in
theorem ints_Read.good (a0 s0 s1 : ByteArray) (e0 : Int) (j : Nat) (w : World) (hj : j < 4) (hf : tally_From.f a0 = some (s0, e0)) (hy : tally_Cursor_Byte.f s0 e0 = some ((j : Int), s1, 0)) (s2 : ByteArray) (n : Int) (hu : tally_Cursor_Uint.f s1 0 = some (n, s2, 0)) (hn0 : 0 ≤ n) (hn : n ≤ 65536)
  (F : FuncId) (fn : Func) (hf_ : Try.prog.funcs[F]? = some fn) (hname : (fn.name == "runtime.NumGoroutine") = false) (hbody : fn.body.isSome = true) (hF : ints_With.tab[j * 2 + 1]? = some (.func (.func F) #[] #[])) (l : List Int) (e3 e4 : Int) (s3 s4 : ByteArray)
  (hh : ∀ (W : World) (g : Nat), IsS66 w W g s2 0 → Below w.heap.size w W → Calls Try.prog F #[.pointer (some ⟨g, 0, none⟩), .int .i64 n] W fun e w' => ∃ v0_ : Value, e = .returned (.tuple #[v0_, .int .i64 e3]) ∧ Kd.R (Kd.int .i64) 2 w' W.heap.size (fun _ => True) v0_ l ∧ IsS66 w w' g s3 e4 ∧ Below w.heap.size w w' ∧ KeepBut W w' g none) (he : e3 = 0) (s5 : ByteArray) (e5 : Int) (hd : tally_Cursor_Done.f s3 e4 = some (0, s5, e5)) :
  Calls Try.prog 12 #[.string a0] w fun e w' => ∃ v0_ : Value, e = .returned (.tuple #[v0_, .int .i64 0]) ∧ Kd.R (Kd.int .i64) 2 w' w.heap.size (fun _ => True) v0_ l ∧ Below w.heap.size w w' := by
 subst he
 have HD := Aside0.mk hd; clear hd
 have d1 : decide ((4 : Int) ≤ (j : Int)) = false := decide_eq_false (by omega)
 have d2 : decide (4 ≤ j) = false := decide_eq_false (by omega)
 have b0 : (0 : Int) ≤ (j : Int) := by omega
 have b1 : (j : Int) < 4 := by omega
 have z3 : decide (65536 < n) = false := decide_eq_false (by omega)
 have hw : wrap64 n = n := w64 (by omega) (by omega)
 have hw2 : IntKind.i64.wrap n = n := by rw [i64_w]; exact hw
 have HU := Aside0.mk hu; have HF_ := Aside0.mk hF; have HH := Aside0.mk hh; clear hu hF hh hj
 have HF := Aside0.mk hf; have HY := Aside0.mk hy; clear hf hy
 go_enter Try.func12, Try.ntmps12
 go_wp2_with fail
 refine (ints_With.codecs _).mono ?_; rintro e w1 ⟨b, rfl, ht, hle, hb⟩
 have HT := Aside0.mk ht; have HB := Aside0.mk hb; clear ht hb hle
 go_wp2_with fail
 refine (tally_From.calls a0 s0 e0 w _ HB.out HF.out).mono ?_; rintro e w2 ⟨g, rfl, hi, hb, hb2⟩
 have HS : Aside0 (ints_Read.St w w2 b g s0 e0) := ⟨(hb2.block _ (blk_lt HT.out)).trans HT.out, hi, hb⟩
 clear hi hb hb2 HT HB
 go_wp2_with fail
 refine (tally_Cursor_Byte.calls g s0 e0 (j : Int) s1 0 w _ HS.out.2.1 HS.out.2.2 HY.out).mono ?_; rintro en w3 ⟨rfl, hi, hb, hk⟩
 replace HS := Aside0.mk (HS.out.on hi hb hk); clear hi hb hk
 go_wp2_with fail
 refine (tally_Cursor_Err.calls g s1 0 0 s1 0 w _ HS.out.2.1 HS.out.2.2 (ints_Read.err _ _)).mono ?_; rintro en w4 ⟨rfl, hi, hb, hk⟩
 replace HS := Aside0.mk (HS.out.on hi hb hk); clear hi hb hk
 go_wp2_with fail
 refine (tally_Cursor_Uint.calls g s1 0 n s2 0 w _ HS.out.2.1 HS.out.2.2 HU.out).mono ?_; rintro en w5 ⟨rfl, hi, hb, hk⟩
 replace HS := Aside0.mk (HS.out.on hi hb hk); clear hi hb hk
 go_wp2_with fail
 refine (tally_Cursor_Err.calls g s2 0 0 s2 0 w _ HS.out.2.1 HS.out.2.2 (ints_Read.err _ _)).mono ?_; rintro en w6 ⟨rfl, hi, hb, hk⟩
 replace HS := Aside0.mk (HS.out.on hi hb hk); clear hi hb hk
 have q0 : w6.cell? ⟨b, j * 2 + 1, none⟩ = some (.func (.func F) #[] #[]) := (blk_cell HS.out.1 (j * 2 + 1)).trans HF_.out
 go_wp2_with ((with_reducible refine gate_dst (N := 44) rfl ?_); refine goesLV_ (some 44) rfl rfl hf_ hname hbody #[.pointer (some ⟨g, 0, none⟩), .int .i64 n] rfl (by rfl) (by first | rfl | (simp only [List.map_toArray, List.map_cons, List.map_nil]; rfl)) ?_; refine (HH.out _ g HS.out.2.1 HS.out.2.2).mono ?_; rintro en w7 ⟨v0, rfl, ho, hi, hb, hk⟩; refine ⟨_, rfl, ?_⟩; (have HO := Aside0.mk (Kd.R_lower ho HS.out.2.2.size)); (replace HS := Aside0.mk (HS.out.on hi hb hk)); clear ho hi hb hk q0)
 go_wp2_with fail
 refine (tally_Cursor_Done.calls g s3 e4 0 s5 e5 w _ HS.out.2.1 HS.out.2.2 HD.out).mono ?_; rintro en w8 ⟨rfl, hi, hb, hk⟩
 have HO2 := Aside0.mk (Kd.R_mono (Kd.R_keep (IsS66.apart HS.out.2.1 HO.out (by decide)) hk (fun _ h => h.2)) (fun _ h => h.1)); replace HS := Aside0.mk (HS.out.on hi hb hk); clear hi hb hk
 go_wp2
 go_ret2
 exact ⟨v0, rfl, HO2.out, HS.out.2.2⟩
theorem ints_Read.step (a0 s0 s1 : ByteArray) (e0 : Int) (j : Nat) (w : World) (hj : j < 4) (hf : tally_From.f a0 = some (s0, e0)) (hy : tally_Cursor_Byte.f s0 e0 = some ((j : Int), s1, 0)) (s2 : ByteArray) (n : Int) (hu : tally_Cursor_Uint.f s1 0 = some (n, s2, 0)) (hn0 : 0 ≤ n) (hn : n ≤ 65536)
  (F : FuncId) (fn : Func) (hf_ : Try.prog.funcs[F]? = some fn) (hname : (fn.name == "runtime.NumGoroutine") = false) (hbody : fn.body.isSome = true) (hF : ints_With.tab[j * 2 + 1]? = some (.func (.func F) #[] #[])) (l : List Int) (e3 e4 : Int) (s3 : ByteArray)
  (hh : ∀ (W : World) (g : Nat), IsS66 w W g s2 0 → Below w.heap.size w W → Calls Try.prog F #[.pointer (some ⟨g, 0, none⟩), .int .i64 n] W fun e w' => ∃ v0_ : Value, e = .returned (.tuple #[v0_, .int .i64 e3]) ∧ Kd.R (Kd.int .i64) 2 w' W.heap.size (fun _ => True) v0_ l ∧ IsS66 w w' g s3 e4 ∧ Below w.heap.size w w' ∧ KeepBut W w' g none) (r1 : List Int) (r2 : Int) (h : ints_Read.fin (l, e3, s3, e4) = some (r1, r2)) :
  Calls Try.prog 12 #[.string a0] w fun e w' => ∃ v0_ : Value, e = .returned (.tuple #[v0_, .int .i64 r2]) ∧ Kd.R (Kd.int .i64) 2 w' w.heap.size (fun _ => True) v0_ r1 ∧ Below w.heap.size w w' := by
 unfold ints_Read.fin at h
 simp only at h
 by_cases c : e3 = 0
 ·rw [if_pos c] at h
  obtain ⟨⟨dn, s5, e5⟩, hd, h⟩ := Option.bind_eq_some_iff.mp h
  simp only at h
  by_cases c2 : dn = 0
  ·rw [if_pos c2] at h
   injection h with h; injection h with h1 h2; subst h1 h2; subst c2
   exact ints_Read.good a0 s0 s1 e0 j w hj hf hy s2 n hu hn0 hn F fn hf_ hname hbody hF l e3 e4 s3 s3 hh c s5 e5 hd
  ·rw [if_neg c2] at h
   injection h with h; injection h with h1 h2; subst h1 h2
   exact ints_Read.after a0 s0 s1 e0 j w hj hf hy s2 n hu hn0 hn F fn hf_ hname hbody hF l e3 e4 s3 s3 hh c s5 dn e5 hd c2
 ·rw [if_neg c] at h
  injection h with h; injection h with h1 h2; subst h1 h2
  exact ints_Read.wrong a0 s0 s1 e0 j w hj hf hy s2 n hu hn0 hn F fn hf_ hname hbody hF l e3 e4 s3 s3 hh c
theorem ints_Read.calls (k : Nat) (a0 : ByteArray) (r1 : List Int) (r2 : Int) (w : World) (h : ints_Read.f k a0 = some (r1, r2)) :
  Calls Try.prog 12 #[.string a0] w fun e w' => ∃ v0_ : Value, e = .returned (.tuple #[v0_, .int .i64 r2]) ∧ Kd.R (Kd.int .i64) 2 w' w.heap.size (fun _ => True) v0_ r1 ∧ Below w.heap.size w w' := by
 unfold ints_Read.f at h
 obtain ⟨⟨s0, e0⟩, hf, h⟩ := Option.bind_eq_some_iff.mp h
 obtain ⟨⟨a, s1, e1⟩, hy, h⟩ := Option.bind_eq_some_iff.mp h
 simp only at h hy
 by_cases c : e1 = 0 ∧ 4 ≤ a
 ·rw [if_pos c] at h
  injection h with h; injection h with h1 h2; subst h1 h2
  exact ints_Read.far k a0 s0 s1 e0 e1 a w hf hy c.1 c.2
 ·rw [if_neg c] at h
  unfold ints_Read.go at h
  obtain ⟨⟨n, s2, e2⟩, hu, h⟩ := Option.bind_eq_some_iff.mp h
  simp only at h
  by_cases he : e2 = 0
  ·rw [if_neg (by simp [he])] at h
   by_cases hn : 65536 < n
   ·rw [if_pos hn] at h
    injection h with h; injection h with h1 h2; subst h1 h2
    exact ints_Read.long k a0 s0 s1 e0 e1 a w hf hy s2 n e2 hu (by omega) he hn
   ·rw [if_neg hn] at h
    by_cases c3 : e1 = 0 ∧ 0 ≤ a ∧ 0 ≤ n
    ·rw [if_pos c3] at h
     obtain ⟨⟨l, e3, s3, e4⟩, hr, hz⟩ := Option.bind_eq_some_iff.mp h
     obtain ⟨c4, c5, c6⟩ := c3
     subst he c4
     obtain ⟨j, rfl⟩ : ∃ j : Nat, a = (j : Int) := ⟨a.toNat, by omega⟩
     have hj : j < 4 := by omega
     unfold ints_Read.rd at hr
     rcases (by omega : j = 0 ∨ j = 1 ∨ j = 2 ∨ j = 3) with rfl | rfl | rfl | rfl
     ·replace hr : ints_readPlain.f k s2 0 n = some (l, e3, s3, e4) := hr
      exact ints_Read.step a0 s0 s1 e0 0 w hj hf hy s2 n hu c6 (by omega) 35 _ Try.func35 (by kernel_rfl) rfl rfl l e3 e4 s3 (fun W g hi hb => ints_readPlain.calls k g s2 0 n l e3 s3 e4 w W hi hb hr) r1 r2 hz
     ·replace hr : ints_readDelta.f k s2 0 n = some (l, e3, s3, e4) := hr
      exact ints_Read.step a0 s0 s1 e0 1 w hj hf hy s2 n hu c6 (by omega) 37 _ Try.func37 (by kernel_rfl) rfl rfl l e3 e4 s3 (fun W g hi hb => ints_readDelta.calls k g s2 0 n l e3 s3 e4 w W hi hb hr) r1 r2 hz
     ·replace hr : ints_readRuns.f k s2 0 n = some (l, e3, s3, e4) := hr
      exact ints_Read.step a0 s0 s1 e0 2 w hj hf hy s2 n hu c6 (by omega) 39 _ Try.func39 (by kernel_rfl) rfl rfl l e3 e4 s3 (fun W g hi hb => ints_readRuns.calls k g s2 0 n l e3 s3 e4 w W hi hb hr) r1 r2 hz
     ·replace hr : ints_readPacked.f k s2 0 n = some (l, e3, s3, e4) := hr
      exact ints_Read.step a0 s0 s1 e0 3 w hj hf hy s2 n hu c6 (by omega) 41 _ Try.func41 (by kernel_rfl) rfl rfl l e3 e4 s3 (fun W g hi hb => ints_readPacked.calls k g s2 0 n l e3 s3 e4 w W hi hb hr) r1 r2 hz
    ·rw [if_neg c3] at h; exact absurd h (by simp)
  ·rw [if_pos (by simpa using he)] at h
   injection h with h; injection h with h1 h2; subst h1 h2
   exact ints_Read.bad k a0 s0 s1 e0 e1 a w hf hy s2 n e2 hu (by omega) he
end Go.Proofs.Ytgeddoklmcjdcaa.G
