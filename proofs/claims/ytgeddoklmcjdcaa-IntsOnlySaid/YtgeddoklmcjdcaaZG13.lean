import Derived.Test.YtgeddoklmcjdcaaZQA
import Derived.Test.YtgeddoklmcjdcaaZG3
import Derived.Test.YtgeddoklmcjdcaaZG14
namespace Go.Proofs.Ytgeddoklmcjdcaa.G
open Go.RowKit Go.Proofs.YtgeddoklmcjdcaaQ Go.Proofs.YtgeddoklmcjdcaaW.PrintWords Go.Proofs.YtgeddoklmcjdcaaW.PrintLast Go.Proofs.YtgeddoklmcjdcaaW.PrintMore
attribute [local go_sem] max2_int min2_int max_two min_two max_three min_three max_four min_four   -- for this text's walks alone
set_option linter.unusedVariables false
set_option linter.unusedSimpArgs false
mutual
def ints_readPacked.l0 : Nat → Int → Int → Int → List Int → Int → Int → ByteArray → Int → Option (List Int × Int × ByteArray × Int)
 | 0, _, _, _, _, _, _, _, _ => none
 | k + 1, x1, x6, x7, x9, x39, x40, x1000, x1001 => if x40 < x39 then ((tally_Cursor_Byte.f x1000 x1001).bind fun bt267 => (if x9.length < 140737488355328 then (ints_readPacked.l0 k x1 x6 x7 (x9 ++ [(bt267.1) % 256]) x39 (wrap64 (x40 + 1)) bt267.2.1 bt267.2.2) else (none))) else ((bits_Unpack.f (strOfNums x9) x1 x7).bind fun bt273 => (if bt273.2 = 0 then (ints_readPacked.l1 k x6 x7 bt273.1 ([] : List Int) bt273.1 (bt273.1.length : Int) 0 x1000 x1001) else (some (([] : List Int), bt273.2, x1000, x1001))))
def ints_readPacked.l1 : Nat → Int → Int → List Int → List Int → List Int → Int → Int → ByteArray → Int → Option (List Int × Int × ByteArray × Int)
 | 0, _, _, _, _, _, _, _, _, _ => none
 | k + 1, x6, x7, x10, x12, x60, x61, x62, x1000, x1001 => if x62 < x61 then (if 0 ≤ x62 then (if x62 < (x60.length : Int) then (if x12.length < 17592186044416 then (ints_readPacked.l1 k x6 x7 x10 (x12 ++ [wrap64 (x6 + (wrap64 (rd x60 x62)))]) x60 x61 (wrap64 (x62 + 1)) x1000 x1001) else (none)) else (none)) else (none)) else ((slices_Min_int64_int64.f k x12).bind fun t281 => (if t281 = x6 then ((bits_Width.f k x10).bind fun t282 => (if t282 = x7 then (some (x12, 0, x1000, x1001)) else (some (([] : List Int), 4, x1000, x1001)))) else (some (([] : List Int), 4, x1000, x1001))))
end
def ints_readPacked.f (k : Nat) (s0_0 : ByteArray) (s0_1 : Int) (a1 : Int) : Option (List Int × Int × ByteArray × Int) := if a1 = 0 then (some (([] : List Int), 0, s0_0, s0_1)) else ((tally_Cursor_Int.f s0_0 s0_1).bind fun bt252 => ((tally_Cursor_Byte.f bt252.2.1 bt252.2.2).bind fun bt255 => ((tally_Cursor_Err.f bt255.2.1 bt255.2.2).bind fun bt258 => (if bt258.1 = 0 then (if bt255.1 > 64 then (some (([] : List Int), 4, bt258.2.1, bt258.2.2)) else ((tally_Cursor_Left.f bt258.2.1 bt258.2.2).bind fun bt264 => (if bt264.1 < (wrap64 (Int.tdiv (wrap64 ((wrap64 (a1 * bt255.1)) + 7)) 8)) then (some (([] : List Int), 2, bt264.2.1, bt264.2.2)) else (ints_readPacked.l0 k a1 bt252.1 bt255.1 ([] : List Int) (wrap64 (Int.tdiv (wrap64 ((wrap64 (a1 * bt255.1)) + 7)) 8)) 0 bt264.2.1 bt264.2.2)))) else ((tally_Cursor_Err.f bt258.2.1 bt258.2.2).bind fun bt261 => (some (([] : List Int), bt261.1, bt261.2.1, bt261.2.2)))))))
theorem ints_readPacked.mono_l : ∀ k, (∀ y0 y1 y2 y3 y4 y5 y6 y7, LeO (ints_readPacked.l0 k y0 y1 y2 y3 y4 y5 y6 y7) (ints_readPacked.l0 (k + 1) y0 y1 y2 y3 y4 y5 y6 y7)) ∧ (∀ y0 y1 y2 y3 y4 y5 y6 y7 y8, LeO (ints_readPacked.l1 k y0 y1 y2 y3 y4 y5 y6 y7 y8) (ints_readPacked.l1 (k + 1) y0 y1 y2 y3 y4 y5 y6 y7 y8))
 | 0 => ⟨fun _ _ _ _ _ _ _ _ r h => by simp [ints_readPacked.l0] at h, fun _ _ _ _ _ _ _ _ _ r h => by simp [ints_readPacked.l1] at h⟩
 | k + 1 => by
  obtain ⟨ih0, ih1⟩ := ints_readPacked.mono_l k
  refine ⟨?_, ?_⟩
  ·intro y0 y1 y2 y3 y4 y5 y6 y7
   unfold ints_readPacked.l0
   repeat' first
   | (with_reducible exact ih0 _ _ _ _ _ _ _ _)
   | (with_reducible exact ih1 _ _ _ _ _ _ _ _ _)
   | (with_reducible exact bits_Width.mono _ _)
   | (with_reducible exact slices_Min_int64_int64.mono _ _)
   | (with_reducible exact LeO.refl _)
   | (with_reducible exact LeO.none _)
   | (with_reducible refine LeO.ite ?_ ?_)
   | (with_reducible refine LeO.bind ?_ (fun _ => ?_))
   | exact ih0 _ _ _ _ _ _ _ _
   | exact ih1 _ _ _ _ _ _ _ _ _
   | exact bits_Width.mono _ _
   | exact slices_Min_int64_int64.mono _ _
   | exact LeO.none _
   | refine LeO.ite ?_ ?_
   | refine LeO.bind ?_ (fun _ => ?_)
  ·intro y0 y1 y2 y3 y4 y5 y6 y7 y8
   unfold ints_readPacked.l1
   repeat' first
   | (with_reducible exact ih0 _ _ _ _ _ _ _ _)
   | (with_reducible exact ih1 _ _ _ _ _ _ _ _ _)
   | (with_reducible exact bits_Width.mono _ _)
   | (with_reducible exact slices_Min_int64_int64.mono _ _)
   | (with_reducible exact LeO.refl _)
   | (with_reducible exact LeO.none _)
   | (with_reducible refine LeO.ite ?_ ?_)
   | (with_reducible refine LeO.bind ?_ (fun _ => ?_))
   | exact ih0 _ _ _ _ _ _ _ _
   | exact ih1 _ _ _ _ _ _ _ _ _
   | exact bits_Width.mono _ _
   | exact slices_Min_int64_int64.mono _ _
   | exact LeO.none _
   | refine LeO.ite ?_ ?_
   | refine LeO.bind ?_ (fun _ => ?_)
theorem ints_readPacked.mono : ∀ a0 a1 a2 k, LeO (ints_readPacked.f k a0 a1 a2) (ints_readPacked.f (k + 1) a0 a1 a2) := by
 intro a0 a1 a2 k
 obtain ⟨ih0, ih1⟩ := ints_readPacked.mono_l k
 unfold ints_readPacked.f
 repeat' first
   | (with_reducible exact ih0 _ _ _ _ _ _ _ _)
   | (with_reducible exact ih1 _ _ _ _ _ _ _ _ _)
   | (with_reducible exact bits_Width.mono _ _)
   | (with_reducible exact slices_Min_int64_int64.mono _ _)
   | (with_reducible exact LeO.refl _)
   | (with_reducible exact LeO.none _)
   | (with_reducible refine LeO.ite ?_ ?_)
   | (with_reducible refine LeO.bind ?_ (fun _ => ?_))
   | exact ih0 _ _ _ _ _ _ _ _
   | exact ih1 _ _ _ _ _ _ _ _ _
   | exact bits_Width.mono _ _
   | exact slices_Min_int64_int64.mono _ _
   | exact LeO.none _
   | refine LeO.ite ?_ ?_
   | refine LeO.bind ?_ (fun _ => ?_)
set_option maxHeartbeats 8000000 in
set_option maxRecDepth 100000 in
theorem ints_readPacked.calls (k : Nat) (g : Nat) (s0_0 : ByteArray) (s0_1 : Int) (a1 : Int) (r1 : List Int) (r2 : Int) (r3 : ByteArray) (r4 : Int) (w0 w : World) (hI : IsS66 w0 w g s0_0 s0_1) (hB : Below w0.heap.size w0 w) (h : ints_readPacked.f k s0_0 s0_1 a1 = some (r1, r2, r3, r4)) :
  Calls Try.prog 41 #[.pointer (some ⟨g, 0, none⟩), .int .i64 a1] w fun e w' => ∃ v0_ : Value, e = .returned (.tuple #[v0_, .int .i64 r2]) ∧ Kd.R (Kd.int .i64) 2 w' w.heap.size (fun _ => True) v0_ r1 ∧ IsS66 w0 w' g r3 r4 ∧ Below w0.heap.size w0 w' ∧ KeepBut w w' g none := by
 have HI0 := Aside0.mk hI
 have HK := Aside0.mk (KeepBut.refl w g none)
 have HL := Aside0.mk hB.size
 clear hI
 have HW0 := Aside0.mk hB.size
 have HB := Aside0.mk hB
 clear hB
 have H : (if a1 = 0 then (some (([] : List Int), 0, s0_0, s0_1)) else ((tally_Cursor_Int.f s0_0 s0_1).bind fun bt252 => ((tally_Cursor_Byte.f bt252.2.1 bt252.2.2).bind fun bt255 => ((tally_Cursor_Err.f bt255.2.1 bt255.2.2).bind fun bt258 => (if bt258.1 = 0 then (if bt255.1 > 64 then (some (([] : List Int), 4, bt258.2.1, bt258.2.2)) else ((tally_Cursor_Left.f bt258.2.1 bt258.2.2).bind fun bt264 => (if bt264.1 < (wrap64 (Int.tdiv (wrap64 ((wrap64 (a1 * bt255.1)) + 7)) 8)) then (some (([] : List Int), 2, bt264.2.1, bt264.2.2)) else (ints_readPacked.l0 k a1 bt252.1 bt255.1 ([] : List Int) (wrap64 (Int.tdiv (wrap64 ((wrap64 (a1 * bt255.1)) + 7)) 8)) 0 bt264.2.1 bt264.2.2)))) else ((tally_Cursor_Err.f bt258.2.1 bt258.2.2).bind fun bt261 => (some (([] : List Int), bt261.1, bt261.2.1, bt261.2.2)))))))) = some (r1, r2, r3, r4) := h
 clear h
 by_cases c3 : a1 = 0
 ·rw [if_pos c3] at H
  have c3b0 : (a1 == 0) = true := beq_iff_eq.mpr c3
  have c3b1 : (a1 != 0) = false := bne_eq_false_iff_eq.mpr c3
  clear c3
  simp only [Option.some.injEq, Prod.mk.injEq] at H
  obtain ⟨rfl, rfl, rfl, rfl⟩ := H
  go_enter Try.func41, Try.ntmps41
  go_wp2
  go_ret2
  exact ⟨_, by first | rfl | (simp [errW_none, errW_some] <;> rfl) | (simp [*, errW_none, errW_some] <;> rfl), by first | exact Kd.R_nil _ _ _ _ _ | exact Kd.N_nil _ _ _ _ _ | exact Kd.V_nil _ _ _ _ _ | exact Kd.Q_nil _ _ _ _ _ | exact Kd.S_nil _ _ _ _ _, by repeat (first | (with_reducible first | exact HI0.out | apply IsS66.alloc | apply IsS66.drewN | apply IsS66.drew | apply IsS66.set_0 | apply IsS66.set_1) | exact HI0.out), by repeat (first | (with_reducible first | exact HB.out | apply below_alloc | apply pw_below_drewN | apply below_drew1 | refine below_set ?_ (IsS66.ge HI0.out)) | exact HB.out), by repeat (first | (with_reducible first | exact HK.out | apply KeepBut.set_ | apply keep_drewN | apply keep_drew | apply keep_alloc) | exact HK.out)⟩
 ·rw [if_neg c3] at H
  have c3b0 : (a1 == 0) = false := beq_eq_false_iff_ne.mpr c3
  have c3b1 : (a1 != 0) = true := bne_iff_ne.mpr c3
  replace H := Option.bind_eq_some_iff.mp H
  obtain ⟨⟨t252, t253, t254⟩, A40, H⟩ := H
  replace H : ((tally_Cursor_Byte.f t253 t254).bind fun bt255 => ((tally_Cursor_Err.f bt255.2.1 bt255.2.2).bind fun bt258 => (if bt258.1 = 0 then (if bt255.1 > 64 then (some (([] : List Int), 4, bt258.2.1, bt258.2.2)) else ((tally_Cursor_Left.f bt258.2.1 bt258.2.2).bind fun bt264 => (if bt264.1 < (wrap64 (Int.tdiv (wrap64 ((wrap64 (a1 * bt255.1)) + 7)) 8)) then (some (([] : List Int), 2, bt264.2.1, bt264.2.2)) else (ints_readPacked.l0 k a1 t252 bt255.1 ([] : List Int) (wrap64 (Int.tdiv (wrap64 ((wrap64 (a1 * bt255.1)) + 7)) 8)) 0 bt264.2.1 bt264.2.2)))) else ((tally_Cursor_Err.f bt258.2.1 bt258.2.2).bind fun bt261 => (some (([] : List Int), bt261.1, bt261.2.1, bt261.2.2)))))) = some (r1, r2, r3, r4) := H
  have A4 := Aside0.mk A40
  clear A40
  replace H := Option.bind_eq_some_iff.mp H
  obtain ⟨⟨t255, t256, t257⟩, A50, H⟩ := H
  replace H : ((tally_Cursor_Err.f t256 t257).bind fun bt258 => (if bt258.1 = 0 then (if t255 > 64 then (some (([] : List Int), 4, bt258.2.1, bt258.2.2)) else ((tally_Cursor_Left.f bt258.2.1 bt258.2.2).bind fun bt264 => (if bt264.1 < (wrap64 (Int.tdiv (wrap64 ((wrap64 (a1 * t255)) + 7)) 8)) then (some (([] : List Int), 2, bt264.2.1, bt264.2.2)) else (ints_readPacked.l0 k a1 t252 t255 ([] : List Int) (wrap64 (Int.tdiv (wrap64 ((wrap64 (a1 * t255)) + 7)) 8)) 0 bt264.2.1 bt264.2.2)))) else ((tally_Cursor_Err.f bt258.2.1 bt258.2.2).bind fun bt261 => (some (([] : List Int), bt261.1, bt261.2.1, bt261.2.2))))) = some (r1, r2, r3, r4) := H
  have A5 := Aside0.mk A50
  clear A50
  replace H := Option.bind_eq_some_iff.mp H
  obtain ⟨⟨t258, t259, t260⟩, A60, H⟩ := H
  replace H : (if t258 = 0 then (if t255 > 64 then (some (([] : List Int), 4, t259, t260)) else ((tally_Cursor_Left.f t259 t260).bind fun bt264 => (if bt264.1 < (wrap64 (Int.tdiv (wrap64 ((wrap64 (a1 * t255)) + 7)) 8)) then (some (([] : List Int), 2, bt264.2.1, bt264.2.2)) else (ints_readPacked.l0 k a1 t252 t255 ([] : List Int) (wrap64 (Int.tdiv (wrap64 ((wrap64 (a1 * t255)) + 7)) 8)) 0 bt264.2.1 bt264.2.2)))) else ((tally_Cursor_Err.f t259 t260).bind fun bt261 => (some (([] : List Int), bt261.1, bt261.2.1, bt261.2.2)))) = some (r1, r2, r3, r4) := H
  have A6 := Aside0.mk A60
  clear A60
  by_cases c7 : t258 = 0
  ·rw [if_pos c7] at H
   have c7b0 : (t258 == 0) = true := beq_iff_eq.mpr c7
   have c7b1 : (t258 != 0) = false := bne_eq_false_iff_eq.mpr c7
   clear c7
   by_cases c8 : t255 > 64
   ·rw [if_pos c8] at H
    have c8b0 : decide (64 < t255) = true := decide_eq_true c8
    clear c8
    simp only [Option.some.injEq, Prod.mk.injEq] at H
    obtain ⟨rfl, rfl, rfl, rfl⟩ := H
    go_enter Try.func41, Try.ntmps41
    go_wp2_with (first | ((with_reducible refine gate_callee (f := 56) rfl ?_); refine goesL_ (some 18) rfl rfl Try.func56 (by kernel_rfl) rfl #[.pointer (some ⟨g, 0, none⟩)] rfl (by (try simp only [List.map_toArray, List.map_cons, List.map_nil]); first | done | rfl | (simp only [List.length_drop, List.length_take]; rfl) | (go_simp; simp [IntKind.wrap, IntKind.bits, IntKind.signed]; omega)) ?_; (with_reducible refine (tally_Cursor_Int.calls g s0_0 s0_1 t252 t253 t254 w0 _ ?side1 ?side2 A4.out).mono ?_); (case side1 => repeat (first | (with_reducible first | exact HI0.out | apply IsS66.alloc | apply IsS66.drewN | apply IsS66.drew | apply IsS66.set_0 | apply IsS66.set_1) | exact HI0.out)); (case side2 => repeat (first | (with_reducible first | exact HB.out | apply below_alloc | apply pw_below_drewN | apply below_drew1 | refine below_set ?_ (IsS66.ge HI0.out)) | exact HB.out)); rintro e w9 ⟨rfl, hi, hb, hk⟩; refine ⟨_, rfl, ?_⟩; have n0_ := Aside0.mk (KeepBut.trans (by repeat (first | (with_reducible first | exact HK.out | apply KeepBut.set_ | apply keep_drewN | apply keep_drew | apply keep_alloc) | exact HK.out)) hk (.inl rfl)); have n1_ := Aside0.mk (hb); have n2_ := Aside0.mk (hi); clear HK; clear HB; clear HI0; have HK := n0_; have HB := n1_; have HI0 := n2_; clear n0_ n1_ n2_; (try clear hb); (try clear hb2); (try clear hk); (try clear hi)) | ((with_reducible refine gate_callee (f := 24) rfl ?_); refine goesL_ (some 20) rfl rfl Try.func24 (by kernel_rfl) rfl #[.pointer (some ⟨g, 0, none⟩)] rfl (by (try simp only [List.map_toArray, List.map_cons, List.map_nil]); first | done | rfl | (simp only [List.length_drop, List.length_take]; rfl) | (go_simp; simp [IntKind.wrap, IntKind.bits, IntKind.signed]; omega)) ?_; (with_reducible refine (tally_Cursor_Byte.calls g t253 t254 t255 t256 t257 w0 _ ?side1 ?side2 A5.out).mono ?_); (case side1 => repeat (first | (with_reducible first | exact HI0.out | apply IsS66.alloc | apply IsS66.drewN | apply IsS66.drew | apply IsS66.set_0 | apply IsS66.set_1) | exact HI0.out)); (case side2 => repeat (first | (with_reducible first | exact HB.out | apply below_alloc | apply pw_below_drewN | apply below_drew1 | refine below_set ?_ (IsS66.ge HI0.out)) | exact HB.out)); rintro e w10 ⟨rfl, hi, hb, hk⟩; refine ⟨_, rfl, ?_⟩; have n0_ := Aside0.mk (KeepBut.trans (by repeat (first | (with_reducible first | exact HK.out | apply KeepBut.set_ | apply keep_drewN | apply keep_drew | apply keep_alloc) | exact HK.out)) hk (.inl rfl)); have n1_ := Aside0.mk (hb); have n2_ := Aside0.mk (hi); clear HK; clear HB; clear HI0; have HK := n0_; have HB := n1_; have HI0 := n2_; clear n0_ n1_ n2_; (try clear hb); (try clear hb2); (try clear hk); (try clear hi)) | ((with_reducible refine gate_callee (f := 25) rfl ?_); refine goesL_ (some 23) rfl rfl Try.func25 (by kernel_rfl) rfl #[.pointer (some ⟨g, 0, none⟩)] rfl (by (try simp only [List.map_toArray, List.map_cons, List.map_nil]); first | done | rfl | (simp only [List.length_drop, List.length_take]; rfl) | (go_simp; simp [IntKind.wrap, IntKind.bits, IntKind.signed]; omega)) ?_; (with_reducible refine (tally_Cursor_Err.calls g t256 t257 t258 t259 t260 w0 _ ?side1 ?side2 A6.out).mono ?_); (case side1 => repeat (first | (with_reducible first | exact HI0.out | apply IsS66.alloc | apply IsS66.drewN | apply IsS66.drew | apply IsS66.set_0 | apply IsS66.set_1) | exact HI0.out)); (case side2 => repeat (first | (with_reducible first | exact HB.out | apply below_alloc | apply pw_below_drewN | apply below_drew1 | refine below_set ?_ (IsS66.ge HI0.out)) | exact HB.out)); rintro e w11 ⟨rfl, hi, hb, hk⟩; refine ⟨_, rfl, ?_⟩; have n0_ := Aside0.mk (KeepBut.trans (by repeat (first | (with_reducible first | exact HK.out | apply KeepBut.set_ | apply keep_drewN | apply keep_drew | apply keep_alloc) | exact HK.out)) hk (.inl rfl)); have n1_ := Aside0.mk (hb); have n2_ := Aside0.mk (hi); clear HK; clear HB; clear HI0; have HK := n0_; have HB := n1_; have HI0 := n2_; clear n0_ n1_ n2_; (try clear hb); (try clear hb2); (try clear hk); (try clear hi)))
    go_ret2
    exact ⟨_, by first | rfl | (simp [errW_none, errW_some] <;> rfl) | (simp [*, errW_none, errW_some] <;> rfl), by first | exact Kd.R_nil _ _ _ _ _ | exact Kd.N_nil _ _ _ _ _ | exact Kd.V_nil _ _ _ _ _ | exact Kd.Q_nil _ _ _ _ _ | exact Kd.S_nil _ _ _ _ _, by repeat (first | (with_reducible first | exact HI0.out | apply IsS66.alloc | apply IsS66.drewN | apply IsS66.drew | apply IsS66.set_0 | apply IsS66.set_1) | exact HI0.out), by repeat (first | (with_reducible first | exact HB.out | apply below_alloc | apply pw_below_drewN | apply below_drew1 | refine below_set ?_ (IsS66.ge HI0.out)) | exact HB.out), by repeat (first | (with_reducible first | exact HK.out | apply KeepBut.set_ | apply keep_drewN | apply keep_drew | apply keep_alloc) | exact HK.out)⟩
   ·rw [if_neg c8] at H
    have c8b0 : decide (64 < t255) = false := decide_eq_false c8
    clear c8
    replace H := Option.bind_eq_some_iff.mp H
    obtain ⟨⟨t264, t265, t266⟩, A120, H⟩ := H
    replace H : (if t264 < (wrap64 (Int.tdiv (wrap64 ((wrap64 (a1 * t255)) + 7)) 8)) then (some (([] : List Int), 2, t265, t266)) else (ints_readPacked.l0 k a1 t252 t255 ([] : List Int) (wrap64 (Int.tdiv (wrap64 ((wrap64 (a1 * t255)) + 7)) 8)) 0 t265 t266)) = some (r1, r2, r3, r4) := H
    have A12 := Aside0.mk A120
    clear A120
    by_cases c13 : t264 < (wrap64 (Int.tdiv (wrap64 ((wrap64 (a1 * t255)) + 7)) 8))
    ·rw [if_pos c13] at H
     have c13b0 : decide (t264 < (wrap64 (Int.tdiv (wrap64 ((wrap64 (a1 * t255)) + 7)) 8))) = true := decide_eq_true c13
     clear c13
     simp only [Option.some.injEq, Prod.mk.injEq] at H
     obtain ⟨rfl, rfl, rfl, rfl⟩ := H
     go_enter Try.func41, Try.ntmps41
     go_wp2_with (first | ((with_reducible refine gate_callee (f := 56) rfl ?_); refine goesL_ (some 18) rfl rfl Try.func56 (by kernel_rfl) rfl #[.pointer (some ⟨g, 0, none⟩)] rfl (by (try simp only [List.map_toArray, List.map_cons, List.map_nil]); first | done | rfl | (simp only [List.length_drop, List.length_take]; rfl) | (go_simp; simp [IntKind.wrap, IntKind.bits, IntKind.signed]; omega)) ?_; (with_reducible refine (tally_Cursor_Int.calls g s0_0 s0_1 t252 t253 t254 w0 _ ?side1 ?side2 A4.out).mono ?_); (case side1 => repeat (first | (with_reducible first | exact HI0.out | apply IsS66.alloc | apply IsS66.drewN | apply IsS66.drew | apply IsS66.set_0 | apply IsS66.set_1) | exact HI0.out)); (case side2 => repeat (first | (with_reducible first | exact HB.out | apply below_alloc | apply pw_below_drewN | apply below_drew1 | refine below_set ?_ (IsS66.ge HI0.out)) | exact HB.out)); rintro e w14 ⟨rfl, hi, hb, hk⟩; refine ⟨_, rfl, ?_⟩; have n0_ := Aside0.mk (KeepBut.trans (by repeat (first | (with_reducible first | exact HK.out | apply KeepBut.set_ | apply keep_drewN | apply keep_drew | apply keep_alloc) | exact HK.out)) hk (.inl rfl)); have n1_ := Aside0.mk (hb); have n2_ := Aside0.mk (hi); clear HK; clear HB; clear HI0; have HK := n0_; have HB := n1_; have HI0 := n2_; clear n0_ n1_ n2_; (try clear hb); (try clear hb2); (try clear hk); (try clear hi)) | ((with_reducible refine gate_callee (f := 24) rfl ?_); refine goesL_ (some 20) rfl rfl Try.func24 (by kernel_rfl) rfl #[.pointer (some ⟨g, 0, none⟩)] rfl (by (try simp only [List.map_toArray, List.map_cons, List.map_nil]); first | done | rfl | (simp only [List.length_drop, List.length_take]; rfl) | (go_simp; simp [IntKind.wrap, IntKind.bits, IntKind.signed]; omega)) ?_; (with_reducible refine (tally_Cursor_Byte.calls g t253 t254 t255 t256 t257 w0 _ ?side1 ?side2 A5.out).mono ?_); (case side1 => repeat (first | (with_reducible first | exact HI0.out | apply IsS66.alloc | apply IsS66.drewN | apply IsS66.drew | apply IsS66.set_0 | apply IsS66.set_1) | exact HI0.out)); (case side2 => repeat (first | (with_reducible first | exact HB.out | apply below_alloc | apply pw_below_drewN | apply below_drew1 | refine below_set ?_ (IsS66.ge HI0.out)) | exact HB.out)); rintro e w15 ⟨rfl, hi, hb, hk⟩; refine ⟨_, rfl, ?_⟩; have n0_ := Aside0.mk (KeepBut.trans (by repeat (first | (with_reducible first | exact HK.out | apply KeepBut.set_ | apply keep_drewN | apply keep_drew | apply keep_alloc) | exact HK.out)) hk (.inl rfl)); have n1_ := Aside0.mk (hb); have n2_ := Aside0.mk (hi); clear HK; clear HB; clear HI0; have HK := n0_; have HB := n1_; have HI0 := n2_; clear n0_ n1_ n2_; (try clear hb); (try clear hb2); (try clear hk); (try clear hi)) | ((with_reducible refine gate_callee (f := 25) rfl ?_); refine goesL_ (some 23) rfl rfl Try.func25 (by kernel_rfl) rfl #[.pointer (some ⟨g, 0, none⟩)] rfl (by (try simp only [List.map_toArray, List.map_cons, List.map_nil]); first | done | rfl | (simp only [List.length_drop, List.length_take]; rfl) | (go_simp; simp [IntKind.wrap, IntKind.bits, IntKind.signed]; omega)) ?_; (with_reducible refine (tally_Cursor_Err.calls g t256 t257 t258 t259 t260 w0 _ ?side1 ?side2 A6.out).mono ?_); (case side1 => repeat (first | (with_reducible first | exact HI0.out | apply IsS66.alloc | apply IsS66.drewN | apply IsS66.drew | apply IsS66.set_0 | apply IsS66.set_1) | exact HI0.out)); (case side2 => repeat (first | (with_reducible first | exact HB.out | apply below_alloc | apply pw_below_drewN | apply below_drew1 | refine below_set ?_ (IsS66.ge HI0.out)) | exact HB.out)); rintro e w16 ⟨rfl, hi, hb, hk⟩; refine ⟨_, rfl, ?_⟩; have n0_ := Aside0.mk (KeepBut.trans (by repeat (first | (with_reducible first | exact HK.out | apply KeepBut.set_ | apply keep_drewN | apply keep_drew | apply keep_alloc) | exact HK.out)) hk (.inl rfl)); have n1_ := Aside0.mk (hb); have n2_ := Aside0.mk (hi); clear HK; clear HB; clear HI0; have HK := n0_; have HB := n1_; have HI0 := n2_; clear n0_ n1_ n2_; (try clear hb); (try clear hb2); (try clear hk); (try clear hi)) | ((with_reducible refine gate_callee (f := 62) rfl ?_); refine goesL_ (some 36) rfl rfl Try.func62 (by kernel_rfl) rfl #[.pointer (some ⟨g, 0, none⟩)] rfl (by (try simp only [List.map_toArray, List.map_cons, List.map_nil]); first | done | rfl | (simp only [List.length_drop, List.length_take]; rfl) | (go_simp; simp [IntKind.wrap, IntKind.bits, IntKind.signed]; omega)) ?_; (with_reducible refine (tally_Cursor_Left.calls g t259 t260 t264 t265 t266 w0 _ ?side1 ?side2 A12.out).mono ?_); (case side1 => repeat (first | (with_reducible first | exact HI0.out | apply IsS66.alloc | apply IsS66.drewN | apply IsS66.drew | apply IsS66.set_0 | apply IsS66.set_1) | exact HI0.out)); (case side2 => repeat (first | (with_reducible first | exact HB.out | apply below_alloc | apply pw_below_drewN | apply below_drew1 | refine below_set ?_ (IsS66.ge HI0.out)) | exact HB.out)); rintro e w17 ⟨rfl, hi, hb, hk⟩; refine ⟨_, rfl, ?_⟩; have n0_ := Aside0.mk (KeepBut.trans (by repeat (first | (with_reducible first | exact HK.out | apply KeepBut.set_ | apply keep_drewN | apply keep_drew | apply keep_alloc) | exact HK.out)) hk (.inl rfl)); have n1_ := Aside0.mk (hb); have n2_ := Aside0.mk (hi); clear HK; clear HB; clear HI0; have HK := n0_; have HB := n1_; have HI0 := n2_; clear n0_ n1_ n2_; (try clear hb); (try clear hb2); (try clear hk); (try clear hi)))
     go_ret2
     exact ⟨_, by first | rfl | (simp [errW_none, errW_some] <;> rfl) | (simp [*, errW_none, errW_some] <;> rfl), by first | exact Kd.R_nil _ _ _ _ _ | exact Kd.N_nil _ _ _ _ _ | exact Kd.V_nil _ _ _ _ _ | exact Kd.Q_nil _ _ _ _ _ | exact Kd.S_nil _ _ _ _ _, by repeat (first | (with_reducible first | exact HI0.out | apply IsS66.alloc | apply IsS66.drewN | apply IsS66.drew | apply IsS66.set_0 | apply IsS66.set_1) | exact HI0.out), by repeat (first | (with_reducible first | exact HB.out | apply below_alloc | apply pw_below_drewN | apply below_drew1 | refine below_set ?_ (IsS66.ge HI0.out)) | exact HB.out), by repeat (first | (with_reducible first | exact HK.out | apply KeepBut.set_ | apply keep_drewN | apply keep_drew | apply keep_alloc) | exact HK.out)⟩
    ·rw [if_neg c13] at H
     have c13b0 : decide (t264 < (wrap64 (Int.tdiv (wrap64 ((wrap64 (a1 * t255)) + 7)) 8))) = false := decide_eq_false c13
     clear c13
     have H' := Aside0.mk H
     clear H
     go_enter Try.func41, Try.ntmps41
     go_wp2_with (first | ((with_reducible refine gate_callee (f := 56) rfl ?_); refine goesL_ (some 18) rfl rfl Try.func56 (by kernel_rfl) rfl #[.pointer (some ⟨g, 0, none⟩)] rfl (by (try simp only [List.map_toArray, List.map_cons, List.map_nil]); first | done | rfl | (simp only [List.length_drop, List.length_take]; rfl) | (go_simp; simp [IntKind.wrap, IntKind.bits, IntKind.signed]; omega)) ?_; (with_reducible refine (tally_Cursor_Int.calls g s0_0 s0_1 t252 t253 t254 w0 _ ?side1 ?side2 A4.out).mono ?_); (case side1 => repeat (first | (with_reducible first | exact HI0.out | apply IsS66.alloc | apply IsS66.drewN | apply IsS66.drew | apply IsS66.set_0 | apply IsS66.set_1) | exact HI0.out)); (case side2 => repeat (first | (with_reducible first | exact HB.out | apply below_alloc | apply pw_below_drewN | apply below_drew1 | refine below_set ?_ (IsS66.ge HI0.out)) | exact HB.out)); rintro e w18 ⟨rfl, hi, hb, hk⟩; refine ⟨_, rfl, ?_⟩; have n0_ := Aside0.mk (KeepBut.trans (by repeat (first | (with_reducible first | exact HK.out | apply KeepBut.set_ | apply keep_drewN | apply keep_drew | apply keep_alloc) | exact HK.out)) hk (.inl rfl)); have n1_ := Aside0.mk (hb); have n2_ := Aside0.mk (hi); clear HK; clear HB; clear HI0; have HK := n0_; have HB := n1_; have HI0 := n2_; clear n0_ n1_ n2_; (try clear hb); (try clear hb2); (try clear hk); (try clear hi)) | ((with_reducible refine gate_callee (f := 24) rfl ?_); refine goesL_ (some 20) rfl rfl Try.func24 (by kernel_rfl) rfl #[.pointer (some ⟨g, 0, none⟩)] rfl (by (try simp only [List.map_toArray, List.map_cons, List.map_nil]); first | done | rfl | (simp only [List.length_drop, List.length_take]; rfl) | (go_simp; simp [IntKind.wrap, IntKind.bits, IntKind.signed]; omega)) ?_; (with_reducible refine (tally_Cursor_Byte.calls g t253 t254 t255 t256 t257 w0 _ ?side1 ?side2 A5.out).mono ?_); (case side1 => repeat (first | (with_reducible first | exact HI0.out | apply IsS66.alloc | apply IsS66.drewN | apply IsS66.drew | apply IsS66.set_0 | apply IsS66.set_1) | exact HI0.out)); (case side2 => repeat (first | (with_reducible first | exact HB.out | apply below_alloc | apply pw_below_drewN | apply below_drew1 | refine below_set ?_ (IsS66.ge HI0.out)) | exact HB.out)); rintro e w19 ⟨rfl, hi, hb, hk⟩; refine ⟨_, rfl, ?_⟩; have n0_ := Aside0.mk (KeepBut.trans (by repeat (first | (with_reducible first | exact HK.out | apply KeepBut.set_ | apply keep_drewN | apply keep_drew | apply keep_alloc) | exact HK.out)) hk (.inl rfl)); have n1_ := Aside0.mk (hb); have n2_ := Aside0.mk (hi); clear HK; clear HB; clear HI0; have HK := n0_; have HB := n1_; have HI0 := n2_; clear n0_ n1_ n2_; (try clear hb); (try clear hb2); (try clear hk); (try clear hi)) | ((with_reducible refine gate_callee (f := 25) rfl ?_); refine goesL_ (some 23) rfl rfl Try.func25 (by kernel_rfl) rfl #[.pointer (some ⟨g, 0, none⟩)] rfl (by (try simp only [List.map_toArray, List.map_cons, List.map_nil]); first | done | rfl | (simp only [List.length_drop, List.length_take]; rfl) | (go_simp; simp [IntKind.wrap, IntKind.bits, IntKind.signed]; omega)) ?_; (with_reducible refine (tally_Cursor_Err.calls g t256 t257 t258 t259 t260 w0 _ ?side1 ?side2 A6.out).mono ?_); (case side1 => repeat (first | (with_reducible first | exact HI0.out | apply IsS66.alloc | apply IsS66.drewN | apply IsS66.drew | apply IsS66.set_0 | apply IsS66.set_1) | exact HI0.out)); (case side2 => repeat (first | (with_reducible first | exact HB.out | apply below_alloc | apply pw_below_drewN | apply below_drew1 | refine below_set ?_ (IsS66.ge HI0.out)) | exact HB.out)); rintro e w20 ⟨rfl, hi, hb, hk⟩; refine ⟨_, rfl, ?_⟩; have n0_ := Aside0.mk (KeepBut.trans (by repeat (first | (with_reducible first | exact HK.out | apply KeepBut.set_ | apply keep_drewN | apply keep_drew | apply keep_alloc) | exact HK.out)) hk (.inl rfl)); have n1_ := Aside0.mk (hb); have n2_ := Aside0.mk (hi); clear HK; clear HB; clear HI0; have HK := n0_; have HB := n1_; have HI0 := n2_; clear n0_ n1_ n2_; (try clear hb); (try clear hb2); (try clear hk); (try clear hi)) | ((with_reducible refine gate_callee (f := 62) rfl ?_); refine goesL_ (some 36) rfl rfl Try.func62 (by kernel_rfl) rfl #[.pointer (some ⟨g, 0, none⟩)] rfl (by (try simp only [List.map_toArray, List.map_cons, List.map_nil]); first | done | rfl | (simp only [List.length_drop, List.length_take]; rfl) | (go_simp; simp [IntKind.wrap, IntKind.bits, IntKind.signed]; omega)) ?_; (with_reducible refine (tally_Cursor_Left.calls g t259 t260 t264 t265 t266 w0 _ ?side1 ?side2 A12.out).mono ?_); (case side1 => repeat (first | (with_reducible first | exact HI0.out | apply IsS66.alloc | apply IsS66.drewN | apply IsS66.drew | apply IsS66.set_0 | apply IsS66.set_1) | exact HI0.out)); (case side2 => repeat (first | (with_reducible first | exact HB.out | apply below_alloc | apply pw_below_drewN | apply below_drew1 | refine below_set ?_ (IsS66.ge HI0.out)) | exact HB.out)); rintro e w21 ⟨rfl, hi, hb, hk⟩; refine ⟨_, rfl, ?_⟩; have n0_ := Aside0.mk (KeepBut.trans (by repeat (first | (with_reducible first | exact HK.out | apply KeepBut.set_ | apply keep_drewN | apply keep_drew | apply keep_alloc) | exact HK.out)) hk (.inl rfl)); have n1_ := Aside0.mk (hb); have n2_ := Aside0.mk (hi); clear HK; clear HB; clear HI0; have HK := n0_; have HB := n1_; have HI0 := n2_; clear n0_ n1_ n2_; (try clear hb); (try clear hb2); (try clear hk); (try clear hi)))
     go_loopg [9, 40] k (fun kq v9 v40 w' => ∃ (x9_1 : List Int) (x40_1 : Int) (x1000_1 : ByteArray) (x1001_1 : Int), v40 = .int .i64 x40_1 ∧ Aside0 (ints_readPacked.l0 kq a1 t252 t255 x9_1 (wrap64 (Int.tdiv (wrap64 ((wrap64 (a1 * t255)) + 7)) 8)) x40_1 x1000_1 x1001_1 = some (r1, r2, r3, r4)) ∧ Aside0 (kq ≤ k) ∧ Aside0 (Kd.R (Kd.int .u8) 5 w' w.heap.size (fun _ => True) v9 x9_1) ∧ Aside0 (IsS66 w0 w' g x1000_1 x1001_1) ∧ Aside0 (KeepBut w w' g none) ∧ Aside0 (Below w0.heap.size w0 w'))
     case atStart => exact ⟨(([] : List Int)), (0), (t265), (t266), (by first | rfl | (simp; done) | (simp [*]; done)), H', ⟨Nat.le_refl _⟩, ⟨by first | exact Kd.R_nil _ _ _ _ _ | exact Kd.N_nil _ _ _ _ _ | exact Kd.V_nil _ _ _ _ _ | exact Kd.Q_nil _ _ _ _ _ | exact Kd.S_nil _ _ _ _ _⟩, ⟨by repeat (first | (with_reducible first | exact HI0.out | apply IsS66.alloc | apply IsS66.drewN | apply IsS66.drew | apply IsS66.set_0 | apply IsS66.set_1) | exact HI0.out)⟩, ⟨by repeat (first | (with_reducible first | exact HK.out | apply KeepBut.set_ | apply keep_drewN | apply keep_drew | apply keep_alloc) | exact HK.out)⟩, ⟨by repeat (first | (with_reducible first | exact HB.out | apply below_alloc | apply pw_below_drewN | apply below_drew1 | refine below_set ?_ (IsS66.ge HI0.out)) | exact HB.out)⟩⟩
     case round =>
      clear H'
      try clear c1
      try clear c2
      try clear p2
      try clear c3
      try clear c3b0
      try clear c3b1
      try clear c4
      try clear c5
      try clear c6
      try clear p6
      try clear c7
      try clear c7b0
      try clear c7b1
      try clear c8
      try clear c8b0
      try clear c13
      try clear c13b0
      obtain ⟨x9_1, x40_1, x1000_1, x1001_1, rfl, HA, HK1, HO_9, HI0, HK, HB⟩ := hrel
      cases gk with
      | zero => exact absurd HA.out (by simp [ints_readPacked.l0])
      | succ k1 =>
       have H := HA.out
       clear HA
       simp only [ints_readPacked.l0] at H
       by_cases c22 : x40_1 < (wrap64 (Int.tdiv (wrap64 ((wrap64 (a1 * t255)) + 7)) 8))
       ·rw [if_pos c22] at H
        have c22b0 : decide (x40_1 < (wrap64 (Int.tdiv (wrap64 ((wrap64 (a1 * t255)) + 7)) 8))) = true := decide_eq_true c22
        clear c22
        replace H := Option.bind_eq_some_iff.mp H
        obtain ⟨⟨t267, t268, t269⟩, A230, H⟩ := H
        replace H : (if x9_1.length < 140737488355328 then (ints_readPacked.l0 k1 a1 t252 t255 (x9_1 ++ [(t267) % 256]) (wrap64 (Int.tdiv (wrap64 ((wrap64 (a1 * t255)) + 7)) 8)) (wrap64 (x40_1 + 1)) t268 t269) else (none)) = some (r1, r2, r3, r4) := H
        have A23 := Aside0.mk A230
        clear A230
        by_cases c24 : x9_1.length < 140737488355328
        ·rw [if_pos c24] at H
         have LMc24 := Aside0.mk c24
         clear c24
         obtain ⟨y270, hy270⟩ : ∃ y_ : List Int, y_ = (x9_1 ++ [(t267) % 256]) := ⟨_, rfl⟩
         replace H : (ints_readPacked.l0 k1 a1 t252 t255 y270 (wrap64 (Int.tdiv (wrap64 ((wrap64 (a1 * t255)) + 7)) 8)) (wrap64 (x40_1 + 1)) t268 t269) = some (r1, r2, r3, r4) := by first | (rw [hy270]; with_reducible exact H) | (have H2_ := (Option.bind_some _ _).symm.trans H; rw [hy270]; with_reducible exact H2_) | (have H2_ := (Option.bind_some _ _).symm.trans H; with_reducible exact H2_) | with_reducible exact H | (rw [hy270]; exact H) | exact H
         have Ny270 := Aside0.mk hy270
         clear hy270
         have H' := Aside0.mk H
         clear H
         go_wp2_with (first | ((with_reducible refine gate_callee (f := 24) rfl ?_); refine goesL_ (some 44) rfl rfl Try.func24 (by kernel_rfl) rfl #[.pointer (some ⟨g, 0, none⟩)] rfl (by (try simp only [List.map_toArray, List.map_cons, List.map_nil]); first | done | rfl | (simp only [List.length_drop, List.length_take]; rfl) | (go_simp; simp [IntKind.wrap, IntKind.bits, IntKind.signed]; omega)) ?_; (with_reducible refine (tally_Cursor_Byte.calls g x1000_1 x1001_1 t267 t268 t269 w0 _ ?side1 ?side2 A23.out).mono ?_); (case side1 => repeat (first | (with_reducible first | exact HI0.out | apply IsS66.alloc | apply IsS66.drewN | apply IsS66.drew | apply IsS66.set_0 | apply IsS66.set_1) | exact HI0.out)); (case side2 => repeat (first | (with_reducible first | exact HB.out | apply below_alloc | apply pw_below_drewN | apply below_drew1 | refine below_set ?_ (IsS66.ge HI0.out)) | exact HB.out)); rintro e w25 ⟨rfl, hi, hb, hk⟩; refine ⟨_, rfl, ?_⟩; have n0_ := Aside0.mk (Kd.R_mono (Kd.R_keep (IsS66.apart (show IsS66 w0 _ g x1000_1 x1001_1 from by repeat (first | (with_reducible first | exact HI0.out | apply IsS66.alloc | apply IsS66.drewN | apply IsS66.drew | apply IsS66.set_0 | apply IsS66.set_1) | exact HI0.out)) (by (with_reducible repeat (first | apply Kd.R_alloc | apply Kd.R_drewN | apply Kd.R_drew)); exact HO_9.out) (by decide)) hk (fun _ h => h.2)) (fun _ h => h.1)); have n1_ := Aside0.mk (KeepBut.trans (by repeat (first | (with_reducible first | exact HK.out | apply KeepBut.set_ | apply keep_drewN | apply keep_drew | apply keep_alloc) | exact HK.out)) hk (.inl rfl)); have n2_ := Aside0.mk (hb); have n3_ := Aside0.mk (hi); clear HO_9; clear HK; clear HB; clear HI0; have HO_9 := n0_; have HK := n1_; have HB := n2_; have HI0 := n3_; clear n0_ n1_ n2_ n3_; (try clear hb); (try clear hb2); (try clear hk); (try clear hi)) | ((with_reducible refine gate_builtin (b := .append) (xs := #[.tmp 42, .tmp 46]) rfl ?_); at_builtin; refine Kd.R_append (Kd.int .u8) w.heap.size rfl (.tmp 42) (.tmp 46) 38 5 (.int .u8 0) 1 rfl Try.underlying38 info5 rfl (by decide) (by omega) u9 x9_1 ((t267) % 256) [.int .u8 ((t267) % 256)] (fun _ => True) (fun _ => False) rfl rfl ?aP (fun _ hk => hk.elim) ?aF ?aO (Below.refl _ _) ?aS ?aL ?_; (case aP => exact rfl); (case aF => exact (fun _ _ => trivial)); (case aO => exact (by (with_reducible repeat (first | apply Kd.R_alloc | apply Kd.R_drewN | apply Kd.R_drew)); exact HO_9.out)); (case aS => exact (keep_size (w := w) (g := g) (row := none) (by repeat (first | (with_reducible first | exact HK.out | apply KeepBut.set_ | apply keep_drewN | apply keep_drew | apply keep_alloc) | exact HK.out)))); (case aL => have := LMc24.out; omega); intro v271 w26 ho hb hg hat; rw [← Ny270.out] at ho; have n0_ := Aside0.mk (IsS66.grown (by repeat (first | (with_reducible first | exact HI0.out | apply IsS66.alloc | apply IsS66.drewN | apply IsS66.drew | apply IsS66.set_0 | apply IsS66.set_1) | exact HI0.out)) hg (IsS66.own_ne HI0.out HO_9.out (by decide))); have n1_ := Aside0.mk (below_weaken (by repeat (first | (with_reducible first | exact HB.out | apply below_alloc | apply pw_below_drewN | apply below_drew1 | refine below_set ?_ (IsS66.ge HI0.out)) | exact HB.out)) HL.out hb); have n2_ := Aside0.mk (KeepBut.trans (by repeat (first | (with_reducible first | exact HK.out | apply KeepBut.set_ | apply keep_drewN | apply keep_drew | apply keep_alloc) | exact HK.out)) (KeepBut.of_grown hg g) (Kd.R_base2 HO_9.out)); have n3_ := Aside0.mk (ho); clear HI0; clear HB; clear HK; clear HO_9; have HI0 := n0_; have HB := n1_; have HK := n2_; have HO272 := n3_; clear n0_ n1_ n2_ n3_; clear ho hb hg hat))
         go_roundg k1
         case measure => have := HK1.out; omega
         case rel => exact ⟨(y270), (wrap64 (x40_1 + 1)), (t268), (t269), (by first | rfl | (simp; done) | (simp [*]; done)), H', ⟨by have := HK1.out; omega⟩, ⟨by (with_reducible repeat (first | apply Kd.R_alloc | apply Kd.R_drewN | apply Kd.R_drew)); exact HO272.out⟩, ⟨by repeat (first | (with_reducible first | exact HI0.out | apply IsS66.alloc | apply IsS66.drewN | apply IsS66.drew | apply IsS66.set_0 | apply IsS66.set_1) | exact HI0.out)⟩, ⟨by repeat (first | (with_reducible first | exact HK.out | apply KeepBut.set_ | apply keep_drewN | apply keep_drew | apply keep_alloc) | exact HK.out)⟩, ⟨by repeat (first | (with_reducible first | exact HB.out | apply below_alloc | apply pw_below_drewN | apply below_drew1 | refine below_set ?_ (IsS66.ge HI0.out)) | exact HB.out)⟩⟩
        ·rw [if_neg c24] at H
         exact absurd H (by simp)
       ·rw [if_neg c22] at H
        have c22b0 : decide (x40_1 < (wrap64 (Int.tdiv (wrap64 ((wrap64 (a1 * t255)) + 7)) 8))) = false := decide_eq_false c22
        clear c22
        replace H := Option.bind_eq_some_iff.mp H
        obtain ⟨⟨t273, t274⟩, A270, H⟩ := H
        replace H : (if t274 = 0 then (ints_readPacked.l1 k1 t252 t255 t273 ([] : List Int) t273 (t273.length : Int) 0 x1000_1 x1001_1) else (some (([] : List Int), t274, x1000_1, x1001_1))) = some (r1, r2, r3, r4) := H
        have A27 := Aside0.mk A270
        clear A270
        by_cases c28 : t274 = 0
        ·rw [if_pos c28] at H
         have c28b0 : (t274 == 0) = true := beq_iff_eq.mpr c28
         have c28b1 : (t274 != 0) = false := bne_eq_false_iff_eq.mpr c28
         clear c28
         have H' := Aside0.mk H
         clear H
         have hcv29 := own_string (P := Try.prog) Try.underlying38 Try.underlying5 Try.underlying9 (Kd.own_of_R HO_9.out)
         go_wp2_with (first | ((with_reducible refine gate_callee (f := 63) rfl ?_); refine goesL_ (some 54) rfl rfl Try.func63 (by kernel_rfl) rfl #[.string (strOfNums x9_1), .int .i64 a1, .int .i64 t255] rfl (by (try simp only [List.map_toArray, List.map_cons, List.map_nil]); first | done | rfl | (simp only [List.length_drop, List.length_take]; rfl) | (go_simp; simp [IntKind.wrap, IntKind.bits, IntKind.signed]; omega)) ?_; (with_reducible refine (bits_Unpack.calls (strOfNums x9_1) a1 t255 t273 t274 _ A27.out).mono ?_); rintro e w30 ⟨v275, rfl, ho0, hb⟩; refine ⟨_, rfl, ?_⟩; have n0_ := Aside0.mk (Kd.R_below (by (with_reducible repeat (first | apply Kd.R_alloc | apply Kd.R_drewN | apply Kd.R_drew)); exact HO_9.out) hb); have n1_ := Aside0.mk (Kd.R_lower ho0 (keep_size (w := w) (g := g) (row := none) (by repeat (first | (with_reducible first | exact HK.out | apply KeepBut.set_ | apply keep_drewN | apply keep_drew | apply keep_alloc) | exact HK.out)))); have n2_ := Aside0.mk (IsS66.below (by repeat (first | (with_reducible first | exact HI0.out | apply IsS66.alloc | apply IsS66.drewN | apply IsS66.drew | apply IsS66.set_0 | apply IsS66.set_1) | exact HI0.out)) hb); have n3_ := Aside0.mk (KeepBut.trans (by repeat (first | (with_reducible first | exact HK.out | apply KeepBut.set_ | apply keep_drewN | apply keep_drew | apply keep_alloc) | exact HK.out)) (KeepBut.of_below hb g none) (.inl rfl)); have n4_ := Aside0.mk (below_step (by repeat (first | (with_reducible first | exact HB.out | apply below_alloc | apply pw_below_drewN | apply below_drew1 | refine below_set ?_ (IsS66.ge HI0.out)) | exact HB.out)) hb); clear HO_9; clear HI0; clear HK; clear HB; have HO_9 := n0_; have HO276 := n1_; have HI0 := n2_; have HK := n3_; have HB := n4_; clear n0_ n1_ n2_ n3_ n4_; (try clear hb); (try clear hb2); (try clear hk); (try clear hi); (try clear ho0); obtain ⟨Ao31, co31, eo31⟩ := Kd.R_slice HO276.out; subst eo31))
         go_loopg [12, 62] k1 (fun kq v12 v62 w' => ∃ (x12_2 : List Int) (x62_2 : Int), v62 = .int .i64 x62_2 ∧ Aside0 (ints_readPacked.l1 kq t252 t255 t273 x12_2 t273 (t273.length : Int) x62_2 x1000_1 x1001_1 = some (r1, r2, r3, r4)) ∧ Aside0 (kq ≤ k1) ∧ Aside0 (Kd.R (Kd.int .u64) 44 w' w.heap.size (fun _ => True) (.slice Ao31 t273.length co31) t273) ∧ Aside0 (Kd.R (Kd.int .i64) 2 w' w.heap.size (fun _ => True) v12 x12_2) ∧ Aside0 (Kd.R (Kd.int .u64) 44 w' w.heap.size (fun _ => True) (.slice Ao31 t273.length co31) t273) ∧ Aside0 (IsS66 w0 w' g x1000_1 x1001_1) ∧ Aside0 (KeepBut w w' g none) ∧ Aside0 (Below w0.heap.size w0 w'))
         case atStart => exact ⟨(([] : List Int)), (0), (by first | rfl | (simp; done) | (simp [*]; done)), H', ⟨Nat.le_refl _⟩, ⟨by (with_reducible repeat (first | apply Kd.R_alloc | apply Kd.R_drewN | apply Kd.R_drew)); exact HO276.out⟩, ⟨by first | exact Kd.R_nil _ _ _ _ _ | exact Kd.N_nil _ _ _ _ _ | exact Kd.V_nil _ _ _ _ _ | exact Kd.Q_nil _ _ _ _ _ | exact Kd.S_nil _ _ _ _ _⟩, ⟨by (with_reducible repeat (first | apply Kd.R_alloc | apply Kd.R_drewN | apply Kd.R_drew)); exact HO276.out⟩, ⟨by repeat (first | (with_reducible first | exact HI0.out | apply IsS66.alloc | apply IsS66.drewN | apply IsS66.drew | apply IsS66.set_0 | apply IsS66.set_1) | exact HI0.out)⟩, ⟨by repeat (first | (with_reducible first | exact HK.out | apply KeepBut.set_ | apply keep_drewN | apply keep_drew | apply keep_alloc) | exact HK.out)⟩, ⟨by repeat (first | (with_reducible first | exact HB.out | apply below_alloc | apply pw_below_drewN | apply below_drew1 | refine below_set ?_ (IsS66.ge HI0.out)) | exact HB.out)⟩⟩
         case round =>
          clear H'
          try clear c1
          try clear c2
          try clear p2
          try clear hcv2
          try clear c3
          try clear c3b0
          try clear c3b1
          try clear c4
          try clear c5
          try clear c6
          try clear p6
          try clear c7
          try clear c7b0
          try clear c7b1
          try clear c8
          try clear c8b0
          try clear c13
          try clear c13b0
          try clear c22
          try clear c22b0
          try clear c24
          try clear c25
          try clear c28
          try clear c28b0
          try clear c28b1
          try clear hcv29
          try clear p2
          try clear p6
          obtain ⟨x12_2, x62_2, rfl, HA, HK2, HO_10, HO_12, HO_60, HI0, HK, HB⟩ := hrel
          cases gk with
          | zero => exact absurd HA.out (by simp [ints_readPacked.l1])
          | succ k2 =>
           have H := HA.out
           clear HA
           simp only [ints_readPacked.l1] at H
           by_cases c32 : x62_2 < (t273.length : Int)
           ·rw [if_pos c32] at H
            have c32b0 : decide (x62_2 < (t273.length : Int)) = true := decide_eq_true c32
            clear c32
            by_cases c33 : 0 ≤ x62_2
            ·rw [if_pos c33] at H
             have c33b0 : decide (0 ≤ x62_2) = true := decide_eq_true c33
             clear c33
             by_cases c34 : x62_2 < (t273.length : Int)
             ·rw [if_pos c34] at H
              have c34b0 : decide (x62_2 < (t273.length : Int)) = true := decide_eq_true c34
              clear c34
              by_cases c35 : x12_2.length < 17592186044416
              ·rw [if_pos c35] at H
               have LMc35 := Aside0.mk c35
               clear c35
               obtain ⟨y278, hy278⟩ : ∃ y_ : List Int, y_ = (x12_2 ++ [wrap64 (t252 + (wrap64 (rd t273 x62_2)))]) := ⟨_, rfl⟩
               replace H : (ints_readPacked.l1 k2 t252 t255 t273 y278 t273 (t273.length : Int) (wrap64 (x62_2 + 1)) x1000_1 x1001_1) = some (r1, r2, r3, r4) := by first | (rw [hy278]; with_reducible exact H) | (have H2_ := (Option.bind_some _ _).symm.trans H; rw [hy278]; with_reducible exact H2_) | (have H2_ := (Option.bind_some _ _).symm.trans H; with_reducible exact H2_) | with_reducible exact H | (rw [hy278]; exact H) | exact H
               have Ny278 := Aside0.mk hy278
               clear hy278
               have H' := Aside0.mk H
               clear H
               have p277 : 0 ≤ (x62_2 : Int) := of_decide_eq_true (by first | (with_reducible assumption) | assumption)
               have q277 : x62_2 < (t273.length : Int) := of_decide_eq_true (by first | (with_reducible assumption) | assumption)
               obtain ⟨ad277, e277, hx277_0⟩ := Kd.at_int (Kd.R_reads' HO_60.out).2.2 x62_2 p277 q277
               cases e277
               replace p277 := eq_true p277
               replace q277 := eq_true q277
               go_wp2_with (first | ((with_reducible refine gate_builtin (b := .append) (xs := #[.tmp 66, .tmp 71]) rfl ?_); at_builtin; refine Kd.R_append (Kd.int .i64) w.heap.size rfl (.tmp 66) (.tmp 71) 22 2 (.int .i64 0) 8 rfl Try.underlying22 info2 rfl (by decide) (by omega) u12 x12_2 (wrap64 (t252 + (wrap64 (rd t273 x62_2)))) [.int .i64 (wrap64 (t252 + (wrap64 (rd t273 x62_2))))] (fun _ => True) (fun _ => False) rfl rfl ?aP (fun _ hk => hk.elim) ?aF ?aO (Below.refl _ _) ?aS ?aL ?_; (case aP => exact rfl); (case aF => exact (fun _ _ => trivial)); (case aO => exact (by (with_reducible repeat (first | apply Kd.R_alloc | apply Kd.R_drewN | apply Kd.R_drew)); exact HO_12.out)); (case aS => exact (keep_size (w := w) (g := g) (row := none) (by repeat (first | (with_reducible first | exact HK.out | apply KeepBut.set_ | apply keep_drewN | apply keep_drew | apply keep_alloc) | exact HK.out)))); (case aL => have := LMc35.out; omega); intro v279 w36 ho hb hg hat; rw [← Ny278.out] at ho; have n0_ := Aside0.mk (Kd.R_over' (by (with_reducible repeat (first | apply Kd.R_alloc | apply Kd.R_drewN | apply Kd.R_drew)); exact HO_10.out) (Kd.R_typed (by (with_reducible repeat (first | apply Kd.R_alloc | apply Kd.R_drewN | apply Kd.R_drew)); exact HO_12.out)) (by decide) hg); have n1_ := Aside0.mk (Kd.R_over' (by (with_reducible repeat (first | apply Kd.R_alloc | apply Kd.R_drewN | apply Kd.R_drew)); exact HO_60.out) (Kd.R_typed (by (with_reducible repeat (first | apply Kd.R_alloc | apply Kd.R_drewN | apply Kd.R_drew)); exact HO_12.out)) (by decide) hg); have n2_ := Aside0.mk (IsS66.grown (by repeat (first | (with_reducible first | exact HI0.out | apply IsS66.alloc | apply IsS66.drewN | apply IsS66.drew | apply IsS66.set_0 | apply IsS66.set_1) | exact HI0.out)) hg (IsS66.own_ne HI0.out HO_12.out (by decide))); have n3_ := Aside0.mk (below_weaken (by repeat (first | (with_reducible first | exact HB.out | apply below_alloc | apply pw_below_drewN | apply below_drew1 | refine below_set ?_ (IsS66.ge HI0.out)) | exact HB.out)) HL.out hb); have n4_ := Aside0.mk (KeepBut.trans (by repeat (first | (with_reducible first | exact HK.out | apply KeepBut.set_ | apply keep_drewN | apply keep_drew | apply keep_alloc) | exact HK.out)) (KeepBut.of_grown hg g) (Kd.R_base2 HO_12.out)); have n5_ := Aside0.mk (ho); clear HO_10; clear HO_60; clear HI0; clear HB; clear HK; clear HO_12; have HO_10 := n0_; have HO_60 := n1_; have HI0 := n2_; have HB := n3_; have HK := n4_; have HO280 := n5_; clear n0_ n1_ n2_ n3_ n4_ n5_; clear ho hb hg hat))
               go_roundg k2
               case measure => have := HK1.out; have := HK2.out; omega
               case rel => exact ⟨(y278), (wrap64 (x62_2 + 1)), (by first | rfl | (simp; done) | (simp [*]; done)), H', ⟨by have := HK1.out; have := HK2.out; omega⟩, ⟨by (with_reducible repeat (first | apply Kd.R_alloc | apply Kd.R_drewN | apply Kd.R_drew)); exact HO_10.out⟩, ⟨by (with_reducible repeat (first | apply Kd.R_alloc | apply Kd.R_drewN | apply Kd.R_drew)); exact HO280.out⟩, ⟨by (with_reducible repeat (first | apply Kd.R_alloc | apply Kd.R_drewN | apply Kd.R_drew)); exact HO_60.out⟩, ⟨by repeat (first | (with_reducible first | exact HI0.out | apply IsS66.alloc | apply IsS66.drewN | apply IsS66.drew | apply IsS66.set_0 | apply IsS66.set_1) | exact HI0.out)⟩, ⟨by repeat (first | (with_reducible first | exact HK.out | apply KeepBut.set_ | apply keep_drewN | apply keep_drew | apply keep_alloc) | exact HK.out)⟩, ⟨by repeat (first | (with_reducible first | exact HB.out | apply below_alloc | apply pw_below_drewN | apply below_drew1 | refine below_set ?_ (IsS66.ge HI0.out)) | exact HB.out)⟩⟩
              ·rw [if_neg c35] at H
               exact absurd H (by simp)
             ·rw [if_neg c34] at H
              exact absurd H (by simp)
            ·rw [if_neg c33] at H
             exact absurd H (by simp)
           ·rw [if_neg c32] at H
            have c32b0 : decide (x62_2 < (t273.length : Int)) = false := decide_eq_false c32
            clear c32
            replace H := Option.bind_eq_some_iff.mp H
            obtain ⟨t281, A370, H⟩ := H
            replace H : (if t281 = t252 then ((bits_Width.f k2 t273).bind fun t282 => (if t282 = t255 then (some (x12_2, 0, x1000_1, x1001_1)) else (some (([] : List Int), 4, x1000_1, x1001_1)))) else (some (([] : List Int), 4, x1000_1, x1001_1))) = some (r1, r2, r3, r4) := H
            have A37 := Aside0.mk A370
            clear A370
            by_cases c38 : t281 = t252
            ·rw [if_pos c38] at H
             have c38b0 : (t281 == t252) = true := beq_iff_eq.mpr c38
             have c38b1 : (t281 != t252) = false := bne_eq_false_iff_eq.mpr c38
             clear c38
             replace H := Option.bind_eq_some_iff.mp H
             obtain ⟨t282, A390, H⟩ := H
             replace H : (if t282 = t255 then (some (x12_2, 0, x1000_1, x1001_1)) else (some (([] : List Int), 4, x1000_1, x1001_1))) = some (r1, r2, r3, r4) := H
             have A39 := Aside0.mk A390
             clear A390
             by_cases c40 : t282 = t255
             ·rw [if_pos c40] at H
              have c40b0 : (t282 == t255) = true := beq_iff_eq.mpr c40
              have c40b1 : (t282 != t255) = false := bne_eq_false_iff_eq.mpr c40
              clear c40
              simp only [Option.some.injEq, Prod.mk.injEq] at H
              obtain ⟨rfl, rfl, rfl, rfl⟩ := H
              obtain ⟨Ao41, co41, eo41⟩ := Kd.R_slice HO_12.out
              subst eo41
              go_wp2_with (first | ((with_reducible refine gate_callee (f := 58) rfl ?_); refine goesL_ (some 75) rfl rfl Try.func58 (by kernel_rfl) rfl #[.slice Ao41 x12_2.length co41] rfl (by (try simp only [List.map_toArray, List.map_cons, List.map_nil]); first | done | rfl | (simp only [List.length_drop, List.length_take]; rfl) | (go_simp; simp [IntKind.wrap, IntKind.bits, IntKind.signed]; omega)) ?_; (with_reducible refine (slices_Min_int64_int64.calls k2 _ _ x12_2 t281 _ ?side1 ?side2 A37.out).mono ?_); (case side1 => repeat (first | exact (Kd.R_reads' HO_12.out).2.2 | (with_reducible refine Kd.C_alloc ?_ _) | (with_reducible refine Kd.C_drewN ?_ _) | (with_reducible refine Kd.C_drew ?_))); (case side2 => exact (Kd.R_reads' HO_12.out).2.1); rintro e w42 ⟨rfl, hb⟩; refine ⟨_, rfl, ?_⟩; have n0_ := Aside0.mk (Kd.R_below (by (with_reducible repeat (first | apply Kd.R_alloc | apply Kd.R_drewN | apply Kd.R_drew)); exact HO_10.out) hb); have n1_ := Aside0.mk (Kd.R_below (by (with_reducible repeat (first | apply Kd.R_alloc | apply Kd.R_drewN | apply Kd.R_drew)); exact HO_12.out) hb); have n2_ := Aside0.mk (Kd.R_below (by (with_reducible repeat (first | apply Kd.R_alloc | apply Kd.R_drewN | apply Kd.R_drew)); exact HO_60.out) hb); have n3_ := Aside0.mk (IsS66.below (by repeat (first | (with_reducible first | exact HI0.out | apply IsS66.alloc | apply IsS66.drewN | apply IsS66.drew | apply IsS66.set_0 | apply IsS66.set_1) | exact HI0.out)) hb); have n4_ := Aside0.mk (KeepBut.trans (by repeat (first | (with_reducible first | exact HK.out | apply KeepBut.set_ | apply keep_drewN | apply keep_drew | apply keep_alloc) | exact HK.out)) (KeepBut.of_below hb g none) (.inl rfl)); have n5_ := Aside0.mk (below_step (by repeat (first | (with_reducible first | exact HB.out | apply below_alloc | apply pw_below_drewN | apply below_drew1 | refine below_set ?_ (IsS66.ge HI0.out)) | exact HB.out)) hb); clear HO_10; clear HO_12; clear HO_60; clear HI0; clear HK; clear HB; have HO_10 := n0_; have HO_12 := n1_; have HO_60 := n2_; have HI0 := n3_; have HK := n4_; have HB := n5_; clear n0_ n1_ n2_ n3_ n4_ n5_; (try clear hb); (try clear hb2); (try clear hk); (try clear hi)) | (go_at_call 60; (with_reducible refine (bits_Width.calls k2 _ _ t273 t282 _ ?side1 ?side2 A39.out).mono ?_); (case side1 => repeat (first | exact (Kd.R_reads' HO_10.out).2.2 | (with_reducible refine Kd.C_alloc ?_ _) | (with_reducible refine Kd.C_drewN ?_ _) | (with_reducible refine Kd.C_drew ?_))); (case side2 => exact (Kd.R_reads' HO_10.out).2.1); rintro e w' ⟨rfl, ⟨nd, rfl⟩⟩))
              go_ret2
              exact ⟨_, by first | rfl | (simp [errW_none, errW_some] <;> rfl) | (simp [*, errW_none, errW_some] <;> rfl), by (with_reducible repeat (first | apply Kd.R_alloc | apply Kd.R_drewN | apply Kd.R_drew)); exact HO_12.out, by repeat (first | (with_reducible first | exact HI0.out | apply IsS66.alloc | apply IsS66.drewN | apply IsS66.drew | apply IsS66.set_0 | apply IsS66.set_1) | exact HI0.out), by repeat (first | (with_reducible first | exact HB.out | apply below_alloc | apply pw_below_drewN | apply below_drew1 | refine below_set ?_ (IsS66.ge HI0.out)) | exact HB.out), by repeat (first | (with_reducible first | exact HK.out | apply KeepBut.set_ | apply keep_drewN | apply keep_drew | apply keep_alloc) | exact HK.out)⟩
             ·rw [if_neg c40] at H
              have c40b0 : (t282 == t255) = false := beq_eq_false_iff_ne.mpr c40
              have c40b1 : (t282 != t255) = true := bne_iff_ne.mpr c40
              simp only [Option.some.injEq, Prod.mk.injEq] at H
              obtain ⟨rfl, rfl, rfl, rfl⟩ := H
              obtain ⟨Ao43, co43, eo43⟩ := Kd.R_slice HO_12.out
              subst eo43
              go_wp2_with (first | ((with_reducible refine gate_callee (f := 58) rfl ?_); refine goesL_ (some 75) rfl rfl Try.func58 (by kernel_rfl) rfl #[.slice Ao43 x12_2.length co43] rfl (by (try simp only [List.map_toArray, List.map_cons, List.map_nil]); first | done | rfl | (simp only [List.length_drop, List.length_take]; rfl) | (go_simp; simp [IntKind.wrap, IntKind.bits, IntKind.signed]; omega)) ?_; (with_reducible refine (slices_Min_int64_int64.calls k2 _ _ x12_2 t281 _ ?side1 ?side2 A37.out).mono ?_); (case side1 => repeat (first | exact (Kd.R_reads' HO_12.out).2.2 | (with_reducible refine Kd.C_alloc ?_ _) | (with_reducible refine Kd.C_drewN ?_ _) | (with_reducible refine Kd.C_drew ?_))); (case side2 => exact (Kd.R_reads' HO_12.out).2.1); rintro e w44 ⟨rfl, hb⟩; refine ⟨_, rfl, ?_⟩; have n0_ := Aside0.mk (Kd.R_below (by (with_reducible repeat (first | apply Kd.R_alloc | apply Kd.R_drewN | apply Kd.R_drew)); exact HO_10.out) hb); have n1_ := Aside0.mk (Kd.R_below (by (with_reducible repeat (first | apply Kd.R_alloc | apply Kd.R_drewN | apply Kd.R_drew)); exact HO_12.out) hb); have n2_ := Aside0.mk (Kd.R_below (by (with_reducible repeat (first | apply Kd.R_alloc | apply Kd.R_drewN | apply Kd.R_drew)); exact HO_60.out) hb); have n3_ := Aside0.mk (IsS66.below (by repeat (first | (with_reducible first | exact HI0.out | apply IsS66.alloc | apply IsS66.drewN | apply IsS66.drew | apply IsS66.set_0 | apply IsS66.set_1) | exact HI0.out)) hb); have n4_ := Aside0.mk (KeepBut.trans (by repeat (first | (with_reducible first | exact HK.out | apply KeepBut.set_ | apply keep_drewN | apply keep_drew | apply keep_alloc) | exact HK.out)) (KeepBut.of_below hb g none) (.inl rfl)); have n5_ := Aside0.mk (below_step (by repeat (first | (with_reducible first | exact HB.out | apply below_alloc | apply pw_below_drewN | apply below_drew1 | refine below_set ?_ (IsS66.ge HI0.out)) | exact HB.out)) hb); clear HO_10; clear HO_12; clear HO_60; clear HI0; clear HK; clear HB; have HO_10 := n0_; have HO_12 := n1_; have HO_60 := n2_; have HI0 := n3_; have HK := n4_; have HB := n5_; clear n0_ n1_ n2_ n3_ n4_ n5_; (try clear hb); (try clear hb2); (try clear hk); (try clear hi)) | (go_at_call 60; (with_reducible refine (bits_Width.calls k2 _ _ t273 t282 _ ?side1 ?side2 A39.out).mono ?_); (case side1 => repeat (first | exact (Kd.R_reads' HO_10.out).2.2 | (with_reducible refine Kd.C_alloc ?_ _) | (with_reducible refine Kd.C_drewN ?_ _) | (with_reducible refine Kd.C_drew ?_))); (case side2 => exact (Kd.R_reads' HO_10.out).2.1); rintro e w' ⟨rfl, ⟨nd, rfl⟩⟩))
              go_ret2
              exact ⟨_, by first | rfl | (simp [errW_none, errW_some] <;> rfl) | (simp [*, errW_none, errW_some] <;> rfl), by first | exact Kd.R_nil _ _ _ _ _ | exact Kd.N_nil _ _ _ _ _ | exact Kd.V_nil _ _ _ _ _ | exact Kd.Q_nil _ _ _ _ _ | exact Kd.S_nil _ _ _ _ _, by repeat (first | (with_reducible first | exact HI0.out | apply IsS66.alloc | apply IsS66.drewN | apply IsS66.drew | apply IsS66.set_0 | apply IsS66.set_1) | exact HI0.out), by repeat (first | (with_reducible first | exact HB.out | apply below_alloc | apply pw_below_drewN | apply below_drew1 | refine below_set ?_ (IsS66.ge HI0.out)) | exact HB.out), by repeat (first | (with_reducible first | exact HK.out | apply KeepBut.set_ | apply keep_drewN | apply keep_drew | apply keep_alloc) | exact HK.out)⟩
            ·rw [if_neg c38] at H
             have c38b0 : (t281 == t252) = false := beq_eq_false_iff_ne.mpr c38
             have c38b1 : (t281 != t252) = true := bne_iff_ne.mpr c38
             simp only [Option.some.injEq, Prod.mk.injEq] at H
             obtain ⟨rfl, rfl, rfl, rfl⟩ := H
             obtain ⟨Ao45, co45, eo45⟩ := Kd.R_slice HO_12.out
             subst eo45
             go_wp2_with (first | ((with_reducible refine gate_callee (f := 58) rfl ?_); refine goesL_ (some 75) rfl rfl Try.func58 (by kernel_rfl) rfl #[.slice Ao45 x12_2.length co45] rfl (by (try simp only [List.map_toArray, List.map_cons, List.map_nil]); first | done | rfl | (simp only [List.length_drop, List.length_take]; rfl) | (go_simp; simp [IntKind.wrap, IntKind.bits, IntKind.signed]; omega)) ?_; (with_reducible refine (slices_Min_int64_int64.calls k2 _ _ x12_2 t281 _ ?side1 ?side2 A37.out).mono ?_); (case side1 => repeat (first | exact (Kd.R_reads' HO_12.out).2.2 | (with_reducible refine Kd.C_alloc ?_ _) | (with_reducible refine Kd.C_drewN ?_ _) | (with_reducible refine Kd.C_drew ?_))); (case side2 => exact (Kd.R_reads' HO_12.out).2.1); rintro e w46 ⟨rfl, hb⟩; refine ⟨_, rfl, ?_⟩; have n0_ := Aside0.mk (Kd.R_below (by (with_reducible repeat (first | apply Kd.R_alloc | apply Kd.R_drewN | apply Kd.R_drew)); exact HO_10.out) hb); have n1_ := Aside0.mk (Kd.R_below (by (with_reducible repeat (first | apply Kd.R_alloc | apply Kd.R_drewN | apply Kd.R_drew)); exact HO_12.out) hb); have n2_ := Aside0.mk (Kd.R_below (by (with_reducible repeat (first | apply Kd.R_alloc | apply Kd.R_drewN | apply Kd.R_drew)); exact HO_60.out) hb); have n3_ := Aside0.mk (IsS66.below (by repeat (first | (with_reducible first | exact HI0.out | apply IsS66.alloc | apply IsS66.drewN | apply IsS66.drew | apply IsS66.set_0 | apply IsS66.set_1) | exact HI0.out)) hb); have n4_ := Aside0.mk (KeepBut.trans (by repeat (first | (with_reducible first | exact HK.out | apply KeepBut.set_ | apply keep_drewN | apply keep_drew | apply keep_alloc) | exact HK.out)) (KeepBut.of_below hb g none) (.inl rfl)); have n5_ := Aside0.mk (below_step (by repeat (first | (with_reducible first | exact HB.out | apply below_alloc | apply pw_below_drewN | apply below_drew1 | refine below_set ?_ (IsS66.ge HI0.out)) | exact HB.out)) hb); clear HO_10; clear HO_12; clear HO_60; clear HI0; clear HK; clear HB; have HO_10 := n0_; have HO_12 := n1_; have HO_60 := n2_; have HI0 := n3_; have HK := n4_; have HB := n5_; clear n0_ n1_ n2_ n3_ n4_ n5_; (try clear hb); (try clear hb2); (try clear hk); (try clear hi)))
             go_ret2
             exact ⟨_, by first | rfl | (simp [errW_none, errW_some] <;> rfl) | (simp [*, errW_none, errW_some] <;> rfl), by first | exact Kd.R_nil _ _ _ _ _ | exact Kd.N_nil _ _ _ _ _ | exact Kd.V_nil _ _ _ _ _ | exact Kd.Q_nil _ _ _ _ _ | exact Kd.S_nil _ _ _ _ _, by repeat (first | (with_reducible first | exact HI0.out | apply IsS66.alloc | apply IsS66.drewN | apply IsS66.drew | apply IsS66.set_0 | apply IsS66.set_1) | exact HI0.out), by repeat (first | (with_reducible first | exact HB.out | apply below_alloc | apply pw_below_drewN | apply below_drew1 | refine below_set ?_ (IsS66.ge HI0.out)) | exact HB.out), by repeat (first | (with_reducible first | exact HK.out | apply KeepBut.set_ | apply keep_drewN | apply keep_drew | apply keep_alloc) | exact HK.out)⟩
        ·rw [if_neg c28] at H
         have c28b0 : (t274 == 0) = false := beq_eq_false_iff_ne.mpr c28
         have c28b1 : (t274 != 0) = true := bne_iff_ne.mpr c28
         simp only [Option.some.injEq, Prod.mk.injEq] at H
         obtain ⟨rfl, rfl, rfl, rfl⟩ := H
         have hcv47 := own_string (P := Try.prog) Try.underlying38 Try.underlying5 Try.underlying9 (Kd.own_of_R HO_9.out)
         go_wp2_with (first | ((with_reducible refine gate_callee (f := 63) rfl ?_); refine goesL_ (some 54) rfl rfl Try.func63 (by kernel_rfl) rfl #[.string (strOfNums x9_1), .int .i64 a1, .int .i64 t255] rfl (by (try simp only [List.map_toArray, List.map_cons, List.map_nil]); first | done | rfl | (simp only [List.length_drop, List.length_take]; rfl) | (go_simp; simp [IntKind.wrap, IntKind.bits, IntKind.signed]; omega)) ?_; (with_reducible refine (bits_Unpack.calls (strOfNums x9_1) a1 t255 t273 t274 _ A27.out).mono ?_); rintro e w48 ⟨v275, rfl, ho0, hb⟩; refine ⟨_, rfl, ?_⟩; have n0_ := Aside0.mk (Kd.R_below (by (with_reducible repeat (first | apply Kd.R_alloc | apply Kd.R_drewN | apply Kd.R_drew)); exact HO_9.out) hb); have n1_ := Aside0.mk (Kd.R_lower ho0 (keep_size (w := w) (g := g) (row := none) (by repeat (first | (with_reducible first | exact HK.out | apply KeepBut.set_ | apply keep_drewN | apply keep_drew | apply keep_alloc) | exact HK.out)))); have n2_ := Aside0.mk (IsS66.below (by repeat (first | (with_reducible first | exact HI0.out | apply IsS66.alloc | apply IsS66.drewN | apply IsS66.drew | apply IsS66.set_0 | apply IsS66.set_1) | exact HI0.out)) hb); have n3_ := Aside0.mk (KeepBut.trans (by repeat (first | (with_reducible first | exact HK.out | apply KeepBut.set_ | apply keep_drewN | apply keep_drew | apply keep_alloc) | exact HK.out)) (KeepBut.of_below hb g none) (.inl rfl)); have n4_ := Aside0.mk (below_step (by repeat (first | (with_reducible first | exact HB.out | apply below_alloc | apply pw_below_drewN | apply below_drew1 | refine below_set ?_ (IsS66.ge HI0.out)) | exact HB.out)) hb); clear HO_9; clear HI0; clear HK; clear HB; have HO_9 := n0_; have HO276 := n1_; have HI0 := n2_; have HK := n3_; have HB := n4_; clear n0_ n1_ n2_ n3_ n4_; (try clear hb); (try clear hb2); (try clear hk); (try clear hi); (try clear ho0)))
         go_ret2
         exact ⟨_, by first | rfl | (simp [errW_none, errW_some] <;> rfl) | (simp [*, errW_none, errW_some] <;> rfl), by first | exact Kd.R_nil _ _ _ _ _ | exact Kd.N_nil _ _ _ _ _ | exact Kd.V_nil _ _ _ _ _ | exact Kd.Q_nil _ _ _ _ _ | exact Kd.S_nil _ _ _ _ _, by repeat (first | (with_reducible first | exact HI0.out | apply IsS66.alloc | apply IsS66.drewN | apply IsS66.drew | apply IsS66.set_0 | apply IsS66.set_1) | exact HI0.out), by repeat (first | (with_reducible first | exact HB.out | apply below_alloc | apply pw_below_drewN | apply below_drew1 | refine below_set ?_ (IsS66.ge HI0.out)) | exact HB.out), by repeat (first | (with_reducible first | exact HK.out | apply KeepBut.set_ | apply keep_drewN | apply keep_drew | apply keep_alloc) | exact HK.out)⟩
  ·rw [if_neg c7] at H
   have c7b0 : (t258 == 0) = false := beq_eq_false_iff_ne.mpr c7
   have c7b1 : (t258 != 0) = true := bne_iff_ne.mpr c7
   replace H := Option.bind_eq_some_iff.mp H
   obtain ⟨⟨t261, t262, t263⟩, A490, H⟩ := H
   replace H : (some (([] : List Int), t261, t262, t263)) = some (r1, r2, r3, r4) := H
   have A49 := Aside0.mk A490
   clear A490
   simp only [Option.some.injEq, Prod.mk.injEq] at H
   obtain ⟨rfl, rfl, rfl, rfl⟩ := H
   go_enter Try.func41, Try.ntmps41
   go_wp2_with (first | ((with_reducible refine gate_callee (f := 56) rfl ?_); refine goesL_ (some 18) rfl rfl Try.func56 (by kernel_rfl) rfl #[.pointer (some ⟨g, 0, none⟩)] rfl (by (try simp only [List.map_toArray, List.map_cons, List.map_nil]); first | done | rfl | (simp only [List.length_drop, List.length_take]; rfl) | (go_simp; simp [IntKind.wrap, IntKind.bits, IntKind.signed]; omega)) ?_; (with_reducible refine (tally_Cursor_Int.calls g s0_0 s0_1 t252 t253 t254 w0 _ ?side1 ?side2 A4.out).mono ?_); (case side1 => repeat (first | (with_reducible first | exact HI0.out | apply IsS66.alloc | apply IsS66.drewN | apply IsS66.drew | apply IsS66.set_0 | apply IsS66.set_1) | exact HI0.out)); (case side2 => repeat (first | (with_reducible first | exact HB.out | apply below_alloc | apply pw_below_drewN | apply below_drew1 | refine below_set ?_ (IsS66.ge HI0.out)) | exact HB.out)); rintro e w50 ⟨rfl, hi, hb, hk⟩; refine ⟨_, rfl, ?_⟩; have n0_ := Aside0.mk (KeepBut.trans (by repeat (first | (with_reducible first | exact HK.out | apply KeepBut.set_ | apply keep_drewN | apply keep_drew | apply keep_alloc) | exact HK.out)) hk (.inl rfl)); have n1_ := Aside0.mk (hb); have n2_ := Aside0.mk (hi); clear HK; clear HB; clear HI0; have HK := n0_; have HB := n1_; have HI0 := n2_; clear n0_ n1_ n2_; (try clear hb); (try clear hb2); (try clear hk); (try clear hi)) | ((with_reducible refine gate_callee (f := 24) rfl ?_); refine goesL_ (some 20) rfl rfl Try.func24 (by kernel_rfl) rfl #[.pointer (some ⟨g, 0, none⟩)] rfl (by (try simp only [List.map_toArray, List.map_cons, List.map_nil]); first | done | rfl | (simp only [List.length_drop, List.length_take]; rfl) | (go_simp; simp [IntKind.wrap, IntKind.bits, IntKind.signed]; omega)) ?_; (with_reducible refine (tally_Cursor_Byte.calls g t253 t254 t255 t256 t257 w0 _ ?side1 ?side2 A5.out).mono ?_); (case side1 => repeat (first | (with_reducible first | exact HI0.out | apply IsS66.alloc | apply IsS66.drewN | apply IsS66.drew | apply IsS66.set_0 | apply IsS66.set_1) | exact HI0.out)); (case side2 => repeat (first | (with_reducible first | exact HB.out | apply below_alloc | apply pw_below_drewN | apply below_drew1 | refine below_set ?_ (IsS66.ge HI0.out)) | exact HB.out)); rintro e w51 ⟨rfl, hi, hb, hk⟩; refine ⟨_, rfl, ?_⟩; have n0_ := Aside0.mk (KeepBut.trans (by repeat (first | (with_reducible first | exact HK.out | apply KeepBut.set_ | apply keep_drewN | apply keep_drew | apply keep_alloc) | exact HK.out)) hk (.inl rfl)); have n1_ := Aside0.mk (hb); have n2_ := Aside0.mk (hi); clear HK; clear HB; clear HI0; have HK := n0_; have HB := n1_; have HI0 := n2_; clear n0_ n1_ n2_; (try clear hb); (try clear hb2); (try clear hk); (try clear hi)) | ((with_reducible refine gate_callee (f := 25) rfl ?_); refine goesL_ (some 23) rfl rfl Try.func25 (by kernel_rfl) rfl #[.pointer (some ⟨g, 0, none⟩)] rfl (by (try simp only [List.map_toArray, List.map_cons, List.map_nil]); first | done | rfl | (simp only [List.length_drop, List.length_take]; rfl) | (go_simp; simp [IntKind.wrap, IntKind.bits, IntKind.signed]; omega)) ?_; (with_reducible refine (tally_Cursor_Err.calls g t256 t257 t258 t259 t260 w0 _ ?side1 ?side2 A6.out).mono ?_); (case side1 => repeat (first | (with_reducible first | exact HI0.out | apply IsS66.alloc | apply IsS66.drewN | apply IsS66.drew | apply IsS66.set_0 | apply IsS66.set_1) | exact HI0.out)); (case side2 => repeat (first | (with_reducible first | exact HB.out | apply below_alloc | apply pw_below_drewN | apply below_drew1 | refine below_set ?_ (IsS66.ge HI0.out)) | exact HB.out)); rintro e w52 ⟨rfl, hi, hb, hk⟩; refine ⟨_, rfl, ?_⟩; have n0_ := Aside0.mk (KeepBut.trans (by repeat (first | (with_reducible first | exact HK.out | apply KeepBut.set_ | apply keep_drewN | apply keep_drew | apply keep_alloc) | exact HK.out)) hk (.inl rfl)); have n1_ := Aside0.mk (hb); have n2_ := Aside0.mk (hi); clear HK; clear HB; clear HI0; have HK := n0_; have HB := n1_; have HI0 := n2_; clear n0_ n1_ n2_; (try clear hb); (try clear hb2); (try clear hk); (try clear hi)) | ((with_reducible refine gate_callee (f := 25) rfl ?_); refine goesL_ (some 26) rfl rfl Try.func25 (by kernel_rfl) rfl #[.pointer (some ⟨g, 0, none⟩)] rfl (by (try simp only [List.map_toArray, List.map_cons, List.map_nil]); first | done | rfl | (simp only [List.length_drop, List.length_take]; rfl) | (go_simp; simp [IntKind.wrap, IntKind.bits, IntKind.signed]; omega)) ?_; (with_reducible refine (tally_Cursor_Err.calls g t259 t260 t261 t262 t263 w0 _ ?side1 ?side2 A49.out).mono ?_); (case side1 => repeat (first | (with_reducible first | exact HI0.out | apply IsS66.alloc | apply IsS66.drewN | apply IsS66.drew | apply IsS66.set_0 | apply IsS66.set_1) | exact HI0.out)); (case side2 => repeat (first | (with_reducible first | exact HB.out | apply below_alloc | apply pw_below_drewN | apply below_drew1 | refine below_set ?_ (IsS66.ge HI0.out)) | exact HB.out)); rintro e w53 ⟨rfl, hi, hb, hk⟩; refine ⟨_, rfl, ?_⟩; have n0_ := Aside0.mk (KeepBut.trans (by repeat (first | (with_reducible first | exact HK.out | apply KeepBut.set_ | apply keep_drewN | apply keep_drew | apply keep_alloc) | exact HK.out)) hk (.inl rfl)); have n1_ := Aside0.mk (hb); have n2_ := Aside0.mk (hi); clear HK; clear HB; clear HI0; have HK := n0_; have HB := n1_; have HI0 := n2_; clear n0_ n1_ n2_; (try clear hb); (try clear hb2); (try clear hk); (try clear hi)))
   go_ret2
   exact ⟨_, by first | rfl | (simp [errW_none, errW_some] <;> rfl) | (simp [*, errW_none, errW_some] <;> rfl), by first | exact Kd.R_nil _ _ _ _ _ | exact Kd.N_nil _ _ _ _ _ | exact Kd.V_nil _ _ _ _ _ | exact Kd.Q_nil _ _ _ _ _ | exact Kd.S_nil _ _ _ _ _, by repeat (first | (with_reducible first | exact HI0.out | apply IsS66.alloc | apply IsS66.drewN | apply IsS66.drew | apply IsS66.set_0 | apply IsS66.set_1) | exact HI0.out), by repeat (first | (with_reducible first | exact HB.out | apply below_alloc | apply pw_below_drewN | apply below_drew1 | refine below_set ?_ (IsS66.ge HI0.out)) | exact HB.out), by repeat (first | (with_reducible first | exact HK.out | apply KeepBut.set_ | apply keep_drewN | apply keep_drew | apply keep_alloc) | exact HK.out)⟩
end Go.Proofs.Ytgeddoklmcjdcaa.G
namespace Go.Proofs.Ytgeddoklmcjdcaa.G
open Go.RowKit Go.Proofs.YtgeddoklmcjdcaaQ Go.Proofs.YtgeddoklmcjdcaaW.PrintWords Go.Proofs.YtgeddoklmcjdcaaW.PrintLast Go.Proofs.YtgeddoklmcjdcaaW.PrintMore
attribute [local go_sem] max2_int min2_int max_two min_two max_three min_three max_four min_four   -- for this text's walks alone
set_option linter.unusedVariables false
set_option linter.unusedSimpArgs false
def tally_From.f (a0 : ByteArray) : Option (ByteArray × Int) := some (a0, 0)
set_option maxHeartbeats 8000000 in
set_option maxRecDepth 100000 in
theorem tally_From.calls (a0 : ByteArray) (r1 : ByteArray) (r2 : Int) (w0 w : World) (hB : Below w0.heap.size w0 w) (h : tally_From.f a0 = some (r1, r2)) :
  Calls Try.prog 23 #[.string a0] w fun e w' => ∃ g_ : Nat, e = .returned (.pointer (some ⟨g_, 0, none⟩)) ∧ IsS66 w0 w' g_ r1 r2 ∧ Below w0.heap.size w0 w' ∧ Below w.heap.size w w' := by
 have hu66 := Try.underlying66
 have HBW := Aside0.mk (Below.refl w.heap.size w)
 have HW0 := Aside0.mk hB.size
 have HB := Aside0.mk hB
 clear hB
 have H : (some (a0, 0)) = some (r1, r2) := h
 clear h
 simp only [Option.some.injEq, Prod.mk.injEq] at H
 obtain ⟨rfl, rfl⟩ := H
 go_enter Try.func23, Try.ntmps23
 go_wp2_with (first | ((with_reducible refine gate_dst (N := 5) rfl ?_); refine box_event ?hg (N := 5) ?hd (cs := #[.string a0, .int .i64 0]) (t := 66) ?hr ?_; (case hd => rfl); (case hg => rfl); (case hr => first | (go_simp; done) | (go_simp; rfl)); intro gb283 hg w2 hbox hb; have n0_ := Aside0.mk (below_step HBW.out hb); have n1_ := Aside0.mk (below_step (by repeat (first | (with_reducible first | exact HB.out | apply below_alloc | apply pw_below_drewN | apply below_drew1) | exact HB.out)) hb); have n2_ := Aside0.mk (hbox); have n3_ := Aside0.mk ((by rw [hg]; exact (below_size (by repeat (first | (with_reducible first | exact HBW.out | apply below_alloc | apply pw_below_drewN | apply below_drew1) | exact HBW.out))) : w.heap.size ≤ gb283)); have n4_ := Aside0.mk ((Nat.le_trans HW0.out (by rw [hg]; exact (below_size (by repeat (first | (with_reducible first | exact HBW.out | apply below_alloc | apply pw_below_drewN | apply below_drew1) | exact HBW.out))) : w.heap.size ≤ gb283) : w0.heap.size ≤ gb283)); clear HBW; clear HB; have HBW := n0_; have HB := n1_; have BK283 := n2_; have GW283 := n3_; have GE283 := n4_; clear n0_ n1_ n2_ n3_ n4_; clear hb hbox hg))
 go_ret
 exact ⟨_, rfl, (show IsS66 w0 _ gb283 a0 0 from ⟨by (with_reducible repeat (first | refine blk_drewN ?_ _ | refine blk_drew ?_ | refine blk_alloc ?_ _)); exact BK283.out, GE283.out⟩), by repeat (first | (with_reducible first | exact HB.out | apply below_alloc | apply pw_below_drewN | apply below_drew1 | refine below_set ?_ GE283.out) | exact HB.out), by repeat (first | (with_reducible first | exact HBW.out | apply below_alloc | apply pw_below_drewN | apply below_drew1 | refine below_set ?_ GW283.out) | exact HBW.out)⟩
def tally_Cursor_Done.f (s0_0 : ByteArray) (s0_1 : Int) : Option (Int × ByteArray × Int) := (tally_Cursor_ok.f s0_0 s0_1).bind fun bt284 => (if bt284.1 = true then (if bt284.2.1.toList = ([] : List UInt8) then ((tally_Cursor_Err.f bt284.2.1 bt284.2.2).bind fun bt287 => (some (bt287.1, bt287.2.1, bt287.2.2))) else (some (5, bt284.2.1, bt284.2.2))) else ((tally_Cursor_Err.f bt284.2.1 bt284.2.2).bind fun bt290 => (some (bt290.1, bt290.2.1, bt290.2.2))))
set_option maxHeartbeats 8000000 in
set_option maxRecDepth 100000 in
theorem tally_Cursor_Done.calls (g : Nat) (s0_0 : ByteArray) (s0_1 : Int) (r1 : Int) (r2 : ByteArray) (r3 : Int) (w0 w : World) (hI : IsS66 w0 w g s0_0 s0_1) (hB : Below w0.heap.size w0 w) (h : tally_Cursor_Done.f s0_0 s0_1 = some (r1, r2, r3)) :
  Calls Try.prog 27 #[.pointer (some ⟨g, 0, none⟩)] w fun e w' => e = .returned (.int .i64 r1) ∧ IsS66 w0 w' g r2 r3 ∧ Below w0.heap.size w0 w' ∧ KeepBut w w' g none := by
 have HI0 := Aside0.mk hI
 have HK := Aside0.mk (KeepBut.refl w g none)
 have HL := Aside0.mk hB.size
 clear hI
 have HW0 := Aside0.mk hB.size
 have HB := Aside0.mk hB
 clear hB
 have H : ((tally_Cursor_ok.f s0_0 s0_1).bind fun bt284 => (if bt284.1 = true then (if bt284.2.1.toList = ([] : List UInt8) then ((tally_Cursor_Err.f bt284.2.1 bt284.2.2).bind fun bt287 => (some (bt287.1, bt287.2.1, bt287.2.2))) else (some (5, bt284.2.1, bt284.2.2))) else ((tally_Cursor_Err.f bt284.2.1 bt284.2.2).bind fun bt290 => (some (bt290.1, bt290.2.1, bt290.2.2))))) = some (r1, r2, r3) := h
 clear h
 replace H := Option.bind_eq_some_iff.mp H
 obtain ⟨⟨t284, t285, t286⟩, A20, H⟩ := H
 replace H : (if t284 = true then (if t285.toList = ([] : List UInt8) then ((tally_Cursor_Err.f t285 t286).bind fun bt287 => (some (bt287.1, bt287.2.1, bt287.2.2))) else (some (5, t285, t286))) else ((tally_Cursor_Err.f t285 t286).bind fun bt290 => (some (bt290.1, bt290.2.1, bt290.2.2)))) = some (r1, r2, r3) := H
 have A2 := Aside0.mk A20
 clear A20
 by_cases c3 : t284 = true
 ·subst c3
  have H1 : (if t285.toList = ([] : List UInt8) then ((tally_Cursor_Err.f t285 t286).bind fun bt287 => (some (bt287.1, bt287.2.1, bt287.2.2))) else (some (5, t285, t286))) = some (r1, r2, r3) := by rw [if_pos rfl] at H; exact H
  clear H
  have H := H1
  clear H1
  by_cases c4 : t285.toList = ([] : List UInt8)
  ·rw [if_pos c4] at H
   have c4b0 : (t285.toList == ([] : List UInt8)) = true := beq_iff_eq.mpr c4
   have c4b1 : (t285.toList != ([] : List UInt8)) = false := bne_eq_false_iff_eq.mpr c4
   clear c4
   replace H := Option.bind_eq_some_iff.mp H
   obtain ⟨⟨t287, t288, t289⟩, A50, H⟩ := H
   replace H : (some (t287, t288, t289)) = some (r1, r2, r3) := H
   have A5 := Aside0.mk A50
   clear A50
   simp only [Option.some.injEq, Prod.mk.injEq] at H
   obtain ⟨rfl, rfl, rfl⟩ := H
   go_enter Try.func27, Try.ntmps27
   go_wp2_with (first | ((with_reducible refine gate_callee (f := 47) rfl ?_); refine goesL_ (some 4) rfl rfl Try.func47 (by kernel_rfl) rfl #[.pointer (some ⟨g, 0, none⟩)] rfl (by (try simp only [List.map_toArray, List.map_cons, List.map_nil]); first | done | rfl | (simp only [List.length_drop, List.length_take]; rfl) | (go_simp; simp [IntKind.wrap, IntKind.bits, IntKind.signed]; omega)) ?_; (with_reducible refine (tally_Cursor_ok.calls g s0_0 s0_1 true t285 t286 w0 _ ?side1 ?side2 A2.out).mono ?_); (case side1 => repeat (first | (with_reducible first | exact HI0.out | apply IsS66.alloc | apply IsS66.drewN | apply IsS66.drew | apply IsS66.set_0 | apply IsS66.set_1) | exact HI0.out)); (case side2 => repeat (first | (with_reducible first | exact HB.out | apply below_alloc | apply pw_below_drewN | apply below_drew1 | refine below_set ?_ (IsS66.ge HI0.out)) | exact HB.out)); rintro e w6 ⟨rfl, hi, hb, hk⟩; refine ⟨_, rfl, ?_⟩; have n0_ := Aside0.mk (KeepBut.trans (by repeat (first | (with_reducible first | exact HK.out | apply KeepBut.set_ | apply keep_drewN | apply keep_drew | apply keep_alloc) | exact HK.out)) hk (.inl rfl)); have n1_ := Aside0.mk (hb); have n2_ := Aside0.mk (hi); clear HK; clear HB; clear HI0; have HK := n0_; have HB := n1_; have HI0 := n2_; clear n0_ n1_ n2_; (try clear hb); (try clear hb2); (try clear hk); (try clear hi); obtain ⟨HGz7, hgz7⟩ := HI0.out; have hcz7_0 := cellS66_0 HGz7; have hcz7_1 := cellS66_1 HGz7; have hfz7_0 := blk_frozen HGz7 0; have hfz7_1 := blk_frozen HGz7 1; clear HGz7 hgz7) | ((with_reducible refine gate_callee (f := 25) rfl ?_); refine goesL_ (some 13) rfl rfl Try.func25 (by kernel_rfl) rfl #[.pointer (some ⟨g, 0, none⟩)] rfl (by (try simp only [List.map_toArray, List.map_cons, List.map_nil]); first | done | rfl | (simp only [List.length_drop, List.length_take]; rfl) | (go_simp; simp [IntKind.wrap, IntKind.bits, IntKind.signed]; omega)) ?_; (with_reducible refine (tally_Cursor_Err.calls g t285 t286 t287 t288 t289 w0 _ ?side1 ?side2 A5.out).mono ?_); (case side1 => repeat (first | (with_reducible first | exact HI0.out | apply IsS66.alloc | apply IsS66.drewN | apply IsS66.drew | apply IsS66.set_0 | apply IsS66.set_1) | exact HI0.out)); (case side2 => repeat (first | (with_reducible first | exact HB.out | apply below_alloc | apply pw_below_drewN | apply below_drew1 | refine below_set ?_ (IsS66.ge HI0.out)) | exact HB.out)); rintro e w8 ⟨rfl, hi, hb, hk⟩; refine ⟨_, rfl, ?_⟩; have n0_ := Aside0.mk (KeepBut.trans (by repeat (first | (with_reducible first | exact HK.out | apply KeepBut.set_ | apply keep_drewN | apply keep_drew | apply keep_alloc) | exact HK.out)) hk (.inl rfl)); have n1_ := Aside0.mk (hb); have n2_ := Aside0.mk (hi); clear HK; clear HB; clear HI0; have HK := n0_; have HB := n1_; have HI0 := n2_; clear n0_ n1_ n2_; (try clear hb); (try clear hb2); (try clear hk); (try clear hi)))
   go_ret
   exact ⟨by first | rfl | (simp [errW_none, errW_some] <;> rfl) | (simp [*, errW_none, errW_some] <;> rfl), by repeat (first | (with_reducible first | exact HI0.out | apply IsS66.alloc | apply IsS66.drewN | apply IsS66.drew | apply IsS66.set_0 | apply IsS66.set_1) | exact HI0.out), by repeat (first | (with_reducible first | exact HB.out | apply below_alloc | apply pw_below_drewN | apply below_drew1 | refine below_set ?_ (IsS66.ge HI0.out)) | exact HB.out), by repeat (first | (with_reducible first | exact HK.out | apply KeepBut.set_ | apply keep_drewN | apply keep_drew | apply keep_alloc) | exact HK.out)⟩
  ·rw [if_neg c4] at H
   have c4b0 : (t285.toList == ([] : List UInt8)) = false := beq_eq_false_iff_ne.mpr c4
   have c4b1 : (t285.toList != ([] : List UInt8)) = true := bne_iff_ne.mpr c4
   simp only [Option.some.injEq, Prod.mk.injEq] at H
   obtain ⟨rfl, rfl, rfl⟩ := H
   go_enter Try.func27, Try.ntmps27
   go_wp2_with (first | ((with_reducible refine gate_callee (f := 47) rfl ?_); refine goesL_ (some 4) rfl rfl Try.func47 (by kernel_rfl) rfl #[.pointer (some ⟨g, 0, none⟩)] rfl (by (try simp only [List.map_toArray, List.map_cons, List.map_nil]); first | done | rfl | (simp only [List.length_drop, List.length_take]; rfl) | (go_simp; simp [IntKind.wrap, IntKind.bits, IntKind.signed]; omega)) ?_; (with_reducible refine (tally_Cursor_ok.calls g s0_0 s0_1 true t285 t286 w0 _ ?side1 ?side2 A2.out).mono ?_); (case side1 => repeat (first | (with_reducible first | exact HI0.out | apply IsS66.alloc | apply IsS66.drewN | apply IsS66.drew | apply IsS66.set_0 | apply IsS66.set_1) | exact HI0.out)); (case side2 => repeat (first | (with_reducible first | exact HB.out | apply below_alloc | apply pw_below_drewN | apply below_drew1 | refine below_set ?_ (IsS66.ge HI0.out)) | exact HB.out)); rintro e w9 ⟨rfl, hi, hb, hk⟩; refine ⟨_, rfl, ?_⟩; have n0_ := Aside0.mk (KeepBut.trans (by repeat (first | (with_reducible first | exact HK.out | apply KeepBut.set_ | apply keep_drewN | apply keep_drew | apply keep_alloc) | exact HK.out)) hk (.inl rfl)); have n1_ := Aside0.mk (hb); have n2_ := Aside0.mk (hi); clear HK; clear HB; clear HI0; have HK := n0_; have HB := n1_; have HI0 := n2_; clear n0_ n1_ n2_; (try clear hb); (try clear hb2); (try clear hk); (try clear hi); obtain ⟨HGz10, hgz10⟩ := HI0.out; have hcz10_0 := cellS66_0 HGz10; have hcz10_1 := cellS66_1 HGz10; have hfz10_0 := blk_frozen HGz10 0; have hfz10_1 := blk_frozen HGz10 1; clear HGz10 hgz10))
   go_ret
   exact ⟨by first | rfl | (simp [errW_none, errW_some] <;> rfl) | (simp [*, errW_none, errW_some] <;> rfl), by repeat (first | (with_reducible first | exact HI0.out | apply IsS66.alloc | apply IsS66.drewN | apply IsS66.drew | apply IsS66.set_0 | apply IsS66.set_1) | exact HI0.out), by repeat (first | (with_reducible first | exact HB.out | apply below_alloc | apply pw_below_drewN | apply below_drew1 | refine below_set ?_ (IsS66.ge HI0.out)) | exact HB.out), by repeat (first | (with_reducible first | exact HK.out | apply KeepBut.set_ | apply keep_drewN | apply keep_drew | apply keep_alloc) | exact HK.out)⟩
 ·replace c3 := Bool.eq_false_iff.mpr c3
  subst c3
  have H1 : ((tally_Cursor_Err.f t285 t286).bind fun bt290 => (some (bt290.1, bt290.2.1, bt290.2.2))) = some (r1, r2, r3) := by rw [if_neg (show ¬ (false = true) by decide)] at H; exact H
  clear H
  have H := H1
  clear H1
  replace H := Option.bind_eq_some_iff.mp H
  obtain ⟨⟨t290, t291, t292⟩, A110, H⟩ := H
  replace H : (some (t290, t291, t292)) = some (r1, r2, r3) := H
  have A11 := Aside0.mk A110
  clear A110
  simp only [Option.some.injEq, Prod.mk.injEq] at H
  obtain ⟨rfl, rfl, rfl⟩ := H
  go_enter Try.func27, Try.ntmps27
  go_wp2_with (first | ((with_reducible refine gate_callee (f := 47) rfl ?_); refine goesL_ (some 4) rfl rfl Try.func47 (by kernel_rfl) rfl #[.pointer (some ⟨g, 0, none⟩)] rfl (by (try simp only [List.map_toArray, List.map_cons, List.map_nil]); first | done | rfl | (simp only [List.length_drop, List.length_take]; rfl) | (go_simp; simp [IntKind.wrap, IntKind.bits, IntKind.signed]; omega)) ?_; (with_reducible refine (tally_Cursor_ok.calls g s0_0 s0_1 false t285 t286 w0 _ ?side1 ?side2 A2.out).mono ?_); (case side1 => repeat (first | (with_reducible first | exact HI0.out | apply IsS66.alloc | apply IsS66.drewN | apply IsS66.drew | apply IsS66.set_0 | apply IsS66.set_1) | exact HI0.out)); (case side2 => repeat (first | (with_reducible first | exact HB.out | apply below_alloc | apply pw_below_drewN | apply below_drew1 | refine below_set ?_ (IsS66.ge HI0.out)) | exact HB.out)); rintro e w12 ⟨rfl, hi, hb, hk⟩; refine ⟨_, rfl, ?_⟩; have n0_ := Aside0.mk (KeepBut.trans (by repeat (first | (with_reducible first | exact HK.out | apply KeepBut.set_ | apply keep_drewN | apply keep_drew | apply keep_alloc) | exact HK.out)) hk (.inl rfl)); have n1_ := Aside0.mk (hb); have n2_ := Aside0.mk (hi); clear HK; clear HB; clear HI0; have HK := n0_; have HB := n1_; have HI0 := n2_; clear n0_ n1_ n2_; (try clear hb); (try clear hb2); (try clear hk); (try clear hi)) | ((with_reducible refine gate_callee (f := 25) rfl ?_); refine goesL_ (some 13) rfl rfl Try.func25 (by kernel_rfl) rfl #[.pointer (some ⟨g, 0, none⟩)] rfl (by (try simp only [List.map_toArray, List.map_cons, List.map_nil]); first | done | rfl | (simp only [List.length_drop, List.length_take]; rfl) | (go_simp; simp [IntKind.wrap, IntKind.bits, IntKind.signed]; omega)) ?_; (with_reducible refine (tally_Cursor_Err.calls g t285 t286 t290 t291 t292 w0 _ ?side1 ?side2 A11.out).mono ?_); (case side1 => repeat (first | (with_reducible first | exact HI0.out | apply IsS66.alloc | apply IsS66.drewN | apply IsS66.drew | apply IsS66.set_0 | apply IsS66.set_1) | exact HI0.out)); (case side2 => repeat (first | (with_reducible first | exact HB.out | apply below_alloc | apply pw_below_drewN | apply below_drew1 | refine below_set ?_ (IsS66.ge HI0.out)) | exact HB.out)); rintro e w13 ⟨rfl, hi, hb, hk⟩; refine ⟨_, rfl, ?_⟩; have n0_ := Aside0.mk (KeepBut.trans (by repeat (first | (with_reducible first | exact HK.out | apply KeepBut.set_ | apply keep_drewN | apply keep_drew | apply keep_alloc) | exact HK.out)) hk (.inl rfl)); have n1_ := Aside0.mk (hb); have n2_ := Aside0.mk (hi); clear HK; clear HB; clear HI0; have HK := n0_; have HB := n1_; have HI0 := n2_; clear n0_ n1_ n2_; (try clear hb); (try clear hb2); (try clear hk); (try clear hi)))
  go_ret
  exact ⟨by first | rfl | (simp [errW_none, errW_some] <;> rfl) | (simp [*, errW_none, errW_some] <;> rfl), by repeat (first | (with_reducible first | exact HI0.out | apply IsS66.alloc | apply IsS66.drewN | apply IsS66.drew | apply IsS66.set_0 | apply IsS66.set_1) | exact HI0.out), by repeat (first | (with_reducible first | exact HB.out | apply below_alloc | apply pw_below_drewN | apply below_drew1 | refine below_set ?_ (IsS66.ge HI0.out)) | exact HB.out), by repeat (first | (with_reducible first | exact HK.out | apply KeepBut.set_ | apply keep_drewN | apply keep_drew | apply keep_alloc) | exact HK.out)⟩
end Go.Proofs.Ytgeddoklmcjdcaa.G
namespace Go.Proofs.Ytgeddoklmcjdcaa.G
open Go.RowKit Go.Proofs.YtgeddoklmcjdcaaQ Go.Proofs.YtgeddoklmcjdcaaW.PrintWords Go.Proofs.YtgeddoklmcjdcaaW.PrintLast Go.Proofs.YtgeddoklmcjdcaaW.PrintMore
attribute [local go_sem] max2_int min2_int max_two min_two max_three min_three max_four min_four   -- for this text's walks alone
set_option linter.unusedVariables false
set_option linter.unusedSimpArgs false
section
variable {P : Program} {ops : Array Oper} {Q : Exit → Act → World → Prop}
theorem goesLV_ {rest : List Oper} {oi : Oper} {a : Act} {w : World} (N : Option Tmp) (hd : oi.dst = N) (hg : oi.guard = none) {f : FuncId} {fn : Func} {o : Operand} {ao : Array Operand} {ts : Array TypeId} (hf : P.funcs[f]? = some fn) (hname : (fn.name == "runtime.NumGoroutine") = false) (hb : fn.body.isSome = true) (args : Array Value)
  (hop : oi.op = .call { callee := .value o, args := ao, argTypes := ts }) (ho : a.eval o = .func (.func f) #[] #[]) (hargs : ao.map a.eval = args)
  (h : Calls P f args w fun e w' => ∃ v, e = .returned v ∧ wpList P ops Q rest (a.put N v) w') : wpList P ops Q (oi :: rest) a w := by
 refine wpList_plain hg fun K hK => ?_
 have he := enters_ hf hname hb args w
 have hrun : (execOp a.eval oi).run P w = .ok (.enter f args) w := by
  unfold execOp
  simp [hop, resolve, Deferred.ofValue, invoke, ho, hargs, he]
 unfold Oper.wp
 rw [hrun, Oper.upon_enter]
 refine h.mono fun e w'' hh => ?_
 obtain ⟨v, rfl, hk⟩ := hh
 subst hd
 exact hK _ _ hk
end
theorem ints_Read.err (s : ByteArray) (e : Int) : tally_Cursor_Err.f s e = some (e, s, e) := rfl
def ints_Read.rd (k : Nat) (a : Int) (s : ByteArray) (e n : Int) : Option (List Int × Int × ByteArray × Int) := if a = 0 then ints_readPlain.f k s e n else if a = 1 then ints_readDelta.f k s e n else if a = 2 then ints_readRuns.f k s e n else ints_readPacked.f k s e n
def ints_Read.fin (t : List Int × Int × ByteArray × Int) : Option (List Int × Int) := if t.2.1 = 0 then (tally_Cursor_Done.f t.2.2.1 t.2.2.2).bind fun d => if d.1 = 0 then some (t.1, 0) else some ([], d.1) else some ([], t.2.1)
def ints_Read.go (k : Nat) (a eb : Int) (s : ByteArray) : Option (List Int × Int) := (tally_Cursor_Uint.f s eb).bind fun n => if n.2.2 ≠ 0 then some ([], n.2.2) else if 65536 < n.1 then some ([], 3) else if eb = 0 ∧ 0 ≤ a ∧ 0 ≤ n.1 then (ints_Read.rd k a n.2.1 n.2.2 n.1).bind ints_Read.fin else none
def ints_Read.f (k : Nat) (a0 : ByteArray) : Option (List Int × Int) := (tally_From.f a0).bind fun c => (tally_Cursor_Byte.f c.1 c.2).bind fun b => if b.2.2 = 0 ∧ 4 ≤ b.1 then some ([], 4) else ints_Read.go k b.1 b.2.2 b.2.1
theorem ints_Read.mono : ∀ a0 k, LeO (ints_Read.f k a0) (ints_Read.f (k + 1) a0) := by
 intro a0 k
 unfold ints_Read.f ints_Read.go ints_Read.rd
 refine LeO.bind (LeO.refl _) (fun _ => LeO.bind (LeO.refl _) (fun _ => LeO.ite (LeO.refl _) (LeO.bind (LeO.refl _) (fun _ => LeO.ite (LeO.refl _) (LeO.ite (LeO.refl _) (LeO.ite (LeO.bind ?_ (fun _ => LeO.refl _)) (LeO.refl _)))))))
 exact LeO.ite (ints_readPlain.mono _ _ _ k) (LeO.ite (ints_readDelta.mono _ _ _ k) (LeO.ite (ints_readRuns.mono _ _ _ k) (ints_readPacked.mono _ _ _ k)))
def ints_Read.St (w W : World) (b g : Nat) (s : ByteArray) (e : Int) : Prop := ints_With.Tab W b ∧ IsS66 w W g s e ∧ Below w.heap.size w W
theorem ints_Read.St.ne {w W : World} {b g : Nat} {s : ByteArray} {e : Int} (h : ints_Read.St w W b g s e) : b ≠ g := blk_ne h.1 h.2.1.1 (by decide)
theorem ints_Read.St.on {w W W' : World} {b g : Nat} {s s' : ByteArray} {e e' : Int} (h : ints_Read.St w W b g s e) (hi : IsS66 w W' g s' e') (hb : Below w.heap.size w W') (hk : KeepBut W W' g none) : ints_Read.St w W' b g s' e' :=
 ⟨(hk.2 b (blk_lt h.1) h.ne (by simp)).trans h.1, hi, hb⟩
set_option maxHeartbeats 4000000 in
set_option maxRecDepth 100000 in
theorem ints_Read.far (k : Nat) (a0 s0 s1 : ByteArray) (e0 e1 a : Int) (w : World) (hf : tally_From.f a0 = some (s0, e0)) (hy : tally_Cursor_Byte.f s0 e0 = some (a, s1, e1)) (he : e1 = 0) (ha : 4 ≤ a) :
  Calls Try.prog 12 #[.string a0] w fun e w' => ∃ v0_ : Value, e = .returned (.tuple #[v0_, .int .i64 4]) ∧ Kd.R (Kd.int .i64) 2 w' w.heap.size (fun _ => True) v0_ [] ∧ Below w.heap.size w w' := by
 subst he
 have d1 : decide (4 ≤ a) = true := decide_eq_true ha
 have HF := Aside0.mk hf; have HY := Aside0.mk hy; clear hf hy
 clear ha
 go_enter Try.func12, Try.ntmps12
 go_wp2_with fail
 refine (ints_With.codecs _).mono ?_; rintro e w1 ⟨b, rfl, ht, hle, hb⟩
 have HT := Aside0.mk ht; have HB := Aside0.mk hb; clear ht hb hle
 go_wp2_with fail
 refine (tally_From.calls a0 s0 e0 w _ HB.out HF.out).mono ?_; rintro e w2 ⟨g, rfl, hi, hb, hb2⟩
 have HS : Aside0 (ints_Read.St w w2 b g s0 e0) := ⟨(hb2.block _ (blk_lt HT.out)).trans HT.out, hi, hb⟩
 clear hi hb hb2 HT HB
 go_wp2_with fail
 refine (tally_Cursor_Byte.calls g s0 e0 a s1 0 w _ HS.out.2.1 HS.out.2.2 HY.out).mono ?_; rintro en w3 ⟨rfl, hi, hb, hk⟩
 replace HS := Aside0.mk (HS.out.on hi hb hk); clear hi hb hk
 go_wp2_with fail
 refine (tally_Cursor_Err.calls g s1 0 0 s1 0 w _ HS.out.2.1 HS.out.2.2 (ints_Read.err _ _)).mono ?_; rintro en w4 ⟨rfl, hi, hb, hk⟩
 replace HS := Aside0.mk (HS.out.on hi hb hk); clear hi hb hk
 go_wp2
 go_ret2
 exact ⟨_, rfl, Kd.R_nil _ _ _ _ _, HS.out.2.2⟩
set_option maxHeartbeats 4000000 in
set_option maxRecDepth 100000 in
theorem ints_Read.bad (k : Nat) (a0 s0 s1 : ByteArray) (e0 e1 a : Int) (w : World) (hf : tally_From.f a0 = some (s0, e0)) (hy : tally_Cursor_Byte.f s0 e0 = some (a, s1, e1)) (s2 : ByteArray) (n e2 : Int) (hu : tally_Cursor_Uint.f s1 e1 = some (n, s2, e2)) (hk : e1 ≠ 0 ∨ a < 4) (he : e2 ≠ 0) :
  Calls Try.prog 12 #[.string a0] w fun e w' => ∃ v0_ : Value, e = .returned (.tuple #[v0_, .int .i64 e2]) ∧ Kd.R (Kd.int .i64) 2 w' w.heap.size (fun _ => True) v0_ [] ∧ Below w.heap.size w w' := by
 have z1 : (e2 != 0) = true := bne_iff_ne.mpr he
 have z2 : (e2 == 0) = false := beq_eq_false_iff_ne.mpr he
 have HF := Aside0.mk hf; have HY := Aside0.mk hy; clear hf hy
 have HU := Aside0.mk hu; clear hu
 have HE := Aside0.mk he; clear he
 by_cases c : e1 = 0
 ·subst c
  have d1 : decide (4 ≤ a) = false := decide_eq_false (by omega)
  clear hk
  go_enter Try.func12, Try.ntmps12
  go_wp2_with fail
  refine (ints_With.codecs _).mono ?_; rintro e w1 ⟨b, rfl, ht, hle, hb⟩
  have HT := Aside0.mk ht; have HB := Aside0.mk hb; clear ht hb hle
  go_wp2_with fail
  refine (tally_From.calls a0 s0 e0 w _ HB.out HF.out).mono ?_; rintro e w2 ⟨g, rfl, hi, hb, hb2⟩
  have HS : Aside0 (ints_Read.St w w2 b g s0 e0) := ⟨(hb2.block _ (blk_lt HT.out)).trans HT.out, hi, hb⟩
  clear hi hb hb2 HT HB
  go_wp2_with fail
  refine (tally_Cursor_Byte.calls g s0 e0 a s1 0 w _ HS.out.2.1 HS.out.2.2 HY.out).mono ?_; rintro en w3 ⟨rfl, hi, hb, hk⟩
  replace HS := Aside0.mk (HS.out.on hi hb hk); clear hi hb hk
  go_wp2_with fail
  refine (tally_Cursor_Err.calls g s1 0 0 s1 0 w _ HS.out.2.1 HS.out.2.2 (ints_Read.err _ _)).mono ?_; rintro en w4 ⟨rfl, hi, hb, hk⟩
  replace HS := Aside0.mk (HS.out.on hi hb hk); clear hi hb hk
  go_wp2_with fail
  refine (tally_Cursor_Uint.calls g s1 0 n s2 e2 w _ HS.out.2.1 HS.out.2.2 HU.out).mono ?_; rintro en w5 ⟨rfl, hi, hb, hk⟩
  replace HS := Aside0.mk (HS.out.on hi hb hk); clear hi hb hk
  go_wp2_with fail
  refine (tally_Cursor_Err.calls g s2 e2 e2 s2 e2 w _ HS.out.2.1 HS.out.2.2 (ints_Read.err _ _)).mono ?_; rintro en w6 ⟨rfl, hi, hb, hk⟩
  replace HS := Aside0.mk (HS.out.on hi hb hk); clear hi hb hk
  go_wp2_with fail
  refine (tally_Cursor_Err.calls g s2 e2 e2 s2 e2 w _ HS.out.2.1 HS.out.2.2 (ints_Read.err _ _)).mono ?_; rintro en w7 ⟨rfl, hi, hb, hk⟩
  replace HS := Aside0.mk (HS.out.on hi hb hk); clear hi hb hk
  go_wp2
  go_ret2
  exact ⟨_, rfl, Kd.R_nil _ _ _ _ _, HS.out.2.2⟩
 ·have y1 : (e1 == 0) = false := beq_eq_false_iff_ne.mpr c
  have C1 := Aside0.mk c; clear hk c
  go_enter Try.func12, Try.ntmps12
  go_wp2_with fail
  refine (ints_With.codecs _).mono ?_; rintro e w1 ⟨b, rfl, ht, hle, hb⟩
  have HT := Aside0.mk ht; have HB := Aside0.mk hb; clear ht hb hle
  go_wp2_with fail
  refine (tally_From.calls a0 s0 e0 w _ HB.out HF.out).mono ?_; rintro e w2 ⟨g, rfl, hi, hb, hb2⟩
  have HS : Aside0 (ints_Read.St w w2 b g s0 e0) := ⟨(hb2.block _ (blk_lt HT.out)).trans HT.out, hi, hb⟩
  clear hi hb hb2 HT HB
  go_wp2_with fail
  refine (tally_Cursor_Byte.calls g s0 e0 a s1 e1 w _ HS.out.2.1 HS.out.2.2 HY.out).mono ?_; rintro en w3 ⟨rfl, hi, hb, hk⟩
  replace HS := Aside0.mk (HS.out.on hi hb hk); clear hi hb hk
  go_wp2_with fail
  refine (tally_Cursor_Err.calls g s1 e1 e1 s1 e1 w _ HS.out.2.1 HS.out.2.2 (ints_Read.err _ _)).mono ?_; rintro en w4 ⟨rfl, hi, hb, hk⟩
  replace HS := Aside0.mk (HS.out.on hi hb hk); clear hi hb hk
  go_wp2_with fail
  refine (tally_Cursor_Uint.calls g s1 e1 n s2 e2 w _ HS.out.2.1 HS.out.2.2 HU.out).mono ?_; rintro en w5 ⟨rfl, hi, hb, hk⟩
  replace HS := Aside0.mk (HS.out.on hi hb hk); clear hi hb hk
  go_wp2_with fail
  refine (tally_Cursor_Err.calls g s2 e2 e2 s2 e2 w _ HS.out.2.1 HS.out.2.2 (ints_Read.err _ _)).mono ?_; rintro en w6 ⟨rfl, hi, hb, hk⟩
  replace HS := Aside0.mk (HS.out.on hi hb hk); clear hi hb hk
  go_wp2_with fail
  refine (tally_Cursor_Err.calls g s2 e2 e2 s2 e2 w _ HS.out.2.1 HS.out.2.2 (ints_Read.err _ _)).mono ?_; rintro en w7 ⟨rfl, hi, hb, hk⟩
  replace HS := Aside0.mk (HS.out.on hi hb hk); clear hi hb hk
  go_wp2
  go_ret2
  exact ⟨_, rfl, Kd.R_nil _ _ _ _ _, HS.out.2.2⟩
set_option maxHeartbeats 4000000 in
set_option maxRecDepth 100000 in
theorem ints_Read.long (k : Nat) (a0 s0 s1 : ByteArray) (e0 e1 a : Int) (w : World) (hf : tally_From.f a0 = some (s0, e0)) (hy : tally_Cursor_Byte.f s0 e0 = some (a, s1, e1)) (s2 : ByteArray) (n e2 : Int) (hu : tally_Cursor_Uint.f s1 e1 = some (n, s2, e2)) (hk : e1 ≠ 0 ∨ a < 4) (he : e2 = 0) (hn : 65536 < n) :
  Calls Try.prog 12 #[.string a0] w fun e w' => ∃ v0_ : Value, e = .returned (.tuple #[v0_, .int .i64 3]) ∧ Kd.R (Kd.int .i64) 2 w' w.heap.size (fun _ => True) v0_ [] ∧ Below w.heap.size w w' := by
 subst he
 have z3 : decide (65536 < n) = true := decide_eq_true hn
 have HF := Aside0.mk hf; have HY := Aside0.mk hy; clear hf hy
 have HU := Aside0.mk hu; clear hu
 clear hn
 by_cases c : e1 = 0
 ·subst c
  have d1 : decide (4 ≤ a) = false := decide_eq_false (by omega)
  clear hk
  go_enter Try.func12, Try.ntmps12
  go_wp2_with fail
  refine (ints_With.codecs _).mono ?_; rintro e w1 ⟨b, rfl, ht, hle, hb⟩
  have HT := Aside0.mk ht; have HB := Aside0.mk hb; clear ht hb hle
  go_wp2_with fail
  refine (tally_From.calls a0 s0 e0 w _ HB.out HF.out).mono ?_; rintro e w2 ⟨g, rfl, hi, hb, hb2⟩
  have HS : Aside0 (ints_Read.St w w2 b g s0 e0) := ⟨(hb2.block _ (blk_lt HT.out)).trans HT.out, hi, hb⟩
  clear hi hb hb2 HT HB
  go_wp2_with fail
  refine (tally_Cursor_Byte.calls g s0 e0 a s1 0 w _ HS.out.2.1 HS.out.2.2 HY.out).mono ?_; rintro en w3 ⟨rfl, hi, hb, hk⟩
  replace HS := Aside0.mk (HS.out.on hi hb hk); clear hi hb hk
  go_wp2_with fail
  refine (tally_Cursor_Err.calls g s1 0 0 s1 0 w _ HS.out.2.1 HS.out.2.2 (ints_Read.err _ _)).mono ?_; rintro en w4 ⟨rfl, hi, hb, hk⟩
  replace HS := Aside0.mk (HS.out.on hi hb hk); clear hi hb hk
  go_wp2_with fail
  refine (tally_Cursor_Uint.calls g s1 0 n s2 0 w _ HS.out.2.1 HS.out.2.2 HU.out).mono ?_; rintro en w5 ⟨rfl, hi, hb, hk⟩
  replace HS := Aside0.mk (HS.out.on hi hb hk); clear hi hb hk
  go_wp2_with fail
  refine (tally_Cursor_Err.calls g s2 0 0 s2 0 w _ HS.out.2.1 HS.out.2.2 (ints_Read.err _ _)).mono ?_; rintro en w6 ⟨rfl, hi, hb, hk⟩
  replace HS := Aside0.mk (HS.out.on hi hb hk); clear hi hb hk
  go_wp2
  go_ret2
  exact ⟨_, rfl, Kd.R_nil _ _ _ _ _, HS.out.2.2⟩
 ·have y1 : (e1 == 0) = false := beq_eq_false_iff_ne.mpr c
  have C1 := Aside0.mk c; clear hk c
  go_enter Try.func12, Try.ntmps12
  go_wp2_with fail
  refine (ints_With.codecs _).mono ?_; rintro e w1 ⟨b, rfl, ht, hle, hb⟩
  have HT := Aside0.mk ht; have HB := Aside0.mk hb; clear ht hb hle
  go_wp2_with fail
  refine (tally_From.calls a0 s0 e0 w _ HB.out HF.out).mono ?_; rintro e w2 ⟨g, rfl, hi, hb, hb2⟩
  have HS : Aside0 (ints_Read.St w w2 b g s0 e0) := ⟨(hb2.block _ (blk_lt HT.out)).trans HT.out, hi, hb⟩
  clear hi hb hb2 HT HB
  go_wp2_with fail
  refine (tally_Cursor_Byte.calls g s0 e0 a s1 e1 w _ HS.out.2.1 HS.out.2.2 HY.out).mono ?_; rintro en w3 ⟨rfl, hi, hb, hk⟩
  replace HS := Aside0.mk (HS.out.on hi hb hk); clear hi hb hk
  go_wp2_with fail
  refine (tally_Cursor_Err.calls g s1 e1 e1 s1 e1 w _ HS.out.2.1 HS.out.2.2 (ints_Read.err _ _)).mono ?_; rintro en w4 ⟨rfl, hi, hb, hk⟩
  replace HS := Aside0.mk (HS.out.on hi hb hk); clear hi hb hk
  go_wp2_with fail
  refine (tally_Cursor_Uint.calls g s1 e1 n s2 0 w _ HS.out.2.1 HS.out.2.2 HU.out).mono ?_; rintro en w5 ⟨rfl, hi, hb, hk⟩
  replace HS := Aside0.mk (HS.out.on hi hb hk); clear hi hb hk
  go_wp2_with fail
  refine (tally_Cursor_Err.calls g s2 0 0 s2 0 w _ HS.out.2.1 HS.out.2.2 (ints_Read.err _ _)).mono ?_; rintro en w6 ⟨rfl, hi, hb, hk⟩
  replace HS := Aside0.mk (HS.out.on hi hb hk); clear hi hb hk
  go_wp2
  go_ret2
  exact ⟨_, rfl, Kd.R_nil _ _ _ _ _, HS.out.2.2⟩
set_option maxHeartbeats 4000000 in
set_option maxRecDepth 100000 in
theorem ints_Read.wrong (a0 s0 s1 : ByteArray) (e0 : Int) (j : Nat) (w : World) (hj : j < 4) (hf : tally_From.f a0 = some (s0, e0)) (hy : tally_Cursor_Byte.f s0 e0 = some ((j : Int), s1, 0)) (s2 : ByteArray) (n : Int) (hu : tally_Cursor_Uint.f s1 0 = some (n, s2, 0)) (hn0 : 0 ≤ n) (hn : n ≤ 65536)
  (F : FuncId) (fn : Func) (hf_ : Try.prog.funcs[F]? = some fn) (hname : (fn.name == "runtime.NumGoroutine") = false) (hbody : fn.body.isSome = true) (hF : ints_With.tab[j * 2 + 1]? = some (.func (.func F) #[] #[])) (l : List Int) (e3 e4 : Int) (s3 s4 : ByteArray)
  (hh : ∀ (W : World) (g : Nat), IsS66 w W g s2 0 → Below w.heap.size w W → Calls Try.prog F #[.pointer (some ⟨g, 0, none⟩), .int .i64 n] W fun e w' => ∃ v0_ : Value, e = .returned (.tuple #[v0_, .int .i64 e3]) ∧ Kd.R (Kd.int .i64) 2 w' W.heap.size (fun _ => True) v0_ l ∧ IsS66 w w' g s3 e4 ∧ Below w.heap.size w w' ∧ KeepBut W w' g none) (he : e3 ≠ 0) :
  Calls Try.prog 12 #[.string a0] w fun e w' => ∃ v0_ : Value, e = .returned (.tuple #[v0_, .int .i64 e3]) ∧ Kd.R (Kd.int .i64) 2 w' w.heap.size (fun _ => True) v0_ [] ∧ Below w.heap.size w w' := by
 have z1 : (e3 != 0) = true := bne_iff_ne.mpr he
 have z2 : (e3 == 0) = false := beq_eq_false_iff_ne.mpr he
 have HE := Aside0.mk he; clear he
 have d1 : decide ((4 : Int) ≤ (j : Int)) = false := decide_eq_false (by omega)
 have d2 : decide (4 ≤ j) = false := decide_eq_false (by omega)
 have b0 : (0 : Int) ≤ (j : Int) := by omega
 have b1 : (j : Int) < 4 := by omega
 have z3 : decide (65536 < n) = false := decide_eq_false (by omega)
 have hw : wrap64 n = n := w64 (by omega) (by omega)
 have hw2 : IntKind.i64.wrap n = n := by rw [i64_w]; exact hw
 have HU := Aside0.mk hu; have HF_ := Aside0.mk hF; have HH := Aside0.mk hh; clear hu hF hh hj
 have HF := Aside0.mk hf; have HY := Aside0.mk hy; clear hf hy
 go_enter Try.func12, Try.ntmps12
 go_wp2_with fail
 refine (ints_With.codecs _).mono ?_; rintro e w1 ⟨b, rfl, ht, hle, hb⟩
 have HT := Aside0.mk ht; have HB := Aside0.mk hb; clear ht hb hle
 go_wp2_with fail
 refine (tally_From.calls a0 s0 e0 w _ HB.out HF.out).mono ?_; rintro e w2 ⟨g, rfl, hi, hb, hb2⟩
 have HS : Aside0 (ints_Read.St w w2 b g s0 e0) := ⟨(hb2.block _ (blk_lt HT.out)).trans HT.out, hi, hb⟩
 clear hi hb hb2 HT HB
 go_wp2_with fail
 refine (tally_Cursor_Byte.calls g s0 e0 (j : Int) s1 0 w _ HS.out.2.1 HS.out.2.2 HY.out).mono ?_; rintro en w3 ⟨rfl, hi, hb, hk⟩
 replace HS := Aside0.mk (HS.out.on hi hb hk); clear hi hb hk
 go_wp2_with fail
 refine (tally_Cursor_Err.calls g s1 0 0 s1 0 w _ HS.out.2.1 HS.out.2.2 (ints_Read.err _ _)).mono ?_; rintro en w4 ⟨rfl, hi, hb, hk⟩
 replace HS := Aside0.mk (HS.out.on hi hb hk); clear hi hb hk
 go_wp2_with fail
 refine (tally_Cursor_Uint.calls g s1 0 n s2 0 w _ HS.out.2.1 HS.out.2.2 HU.out).mono ?_; rintro en w5 ⟨rfl, hi, hb, hk⟩
 replace HS := Aside0.mk (HS.out.on hi hb hk); clear hi hb hk
 go_wp2_with fail
 refine (tally_Cursor_Err.calls g s2 0 0 s2 0 w _ HS.out.2.1 HS.out.2.2 (ints_Read.err _ _)).mono ?_; rintro en w6 ⟨rfl, hi, hb, hk⟩
 replace HS := Aside0.mk (HS.out.on hi hb hk); clear hi hb hk
 have q0 : w6.cell? ⟨b, j * 2 + 1, none⟩ = some (.func (.func F) #[] #[]) := (blk_cell HS.out.1 (j * 2 + 1)).trans HF_.out
 go_wp2_with ((with_reducible refine gate_dst (N := 44) rfl ?_); refine goesLV_ (some 44) rfl rfl hf_ hname hbody #[.pointer (some ⟨g, 0, none⟩), .int .i64 n] rfl (by rfl) (by first | rfl | (simp only [List.map_toArray, List.map_cons, List.map_nil]; rfl)) ?_; refine (HH.out _ g HS.out.2.1 HS.out.2.2).mono ?_; rintro en w7 ⟨v0, rfl, ho, hi, hb, hk⟩; refine ⟨_, rfl, ?_⟩; (have HO := Aside0.mk (Kd.R_lower ho HS.out.2.2.size)); (replace HS := Aside0.mk (HS.out.on hi hb hk)); clear ho hi hb hk q0)
 go_wp2
 go_ret2
 exact ⟨_, rfl, Kd.R_nil _ _ _ _ _, HS.out.2.2⟩
set_option maxHeartbeats 4000000 in
set_option maxRecDepth 100000 in
theorem ints_Read.after (a0 s0 s1 : ByteArray) (e0 : Int) (j : Nat) (w : World) (hj : j < 4) (hf : tally_From.f a0 = some (s0, e0)) (hy : tally_Cursor_Byte.f s0 e0 = some ((j : Int), s1, 0)) (s2 : ByteArray) (n : Int) (hu : tally_Cursor_Uint.f s1 0 = some (n, s2, 0)) (hn0 : 0 ≤ n) (hn : n ≤ 65536)
  (F : FuncId) (fn : Func) (hf_ : Try.prog.funcs[F]? = some fn) (hname : (fn.name == "runtime.NumGoroutine") = false) (hbody : fn.body.isSome = true) (hF : ints_With.tab[j * 2 + 1]? = some (.func (.func F) #[] #[])) (l : List Int) (e3 e4 : Int) (s3 s4 : ByteArray)
  (hh : ∀ (W : World) (g : Nat), IsS66 w W g s2 0 → Below w.heap.size w W → Calls Try.prog F #[.pointer (some ⟨g, 0, none⟩), .int .i64 n] W fun e w' => ∃ v0_ : Value, e = .returned (.tuple #[v0_, .int .i64 e3]) ∧ Kd.R (Kd.int .i64) 2 w' W.heap.size (fun _ => True) v0_ l ∧ IsS66 w w' g s3 e4 ∧ Below w.heap.size w w' ∧ KeepBut W w' g none) (he : e3 = 0) (s5 : ByteArray) (dn e5 : Int) (hd : tally_Cursor_Done.f s3 e4 = some (dn, s5, e5)) (hdn : dn ≠ 0) :
  Calls Try.prog 12 #[.string a0] w fun e w' => ∃ v0_ : Value, e = .returned (.tuple #[v0_, .int .i64 dn]) ∧ Kd.R (Kd.int .i64) 2 w' w.heap.size (fun _ => True) v0_ [] ∧ Below w.heap.size w w' := by
 subst he
 have z1 : (dn != 0) = true := bne_iff_ne.mpr hdn
 have z2 : (dn == 0) = false := beq_eq_false_iff_ne.mpr hdn
 have HE := Aside0.mk hdn; have HD := Aside0.mk hd; clear hdn hd
 have d1 : decide ((4 : Int) ≤ (j : Int)) = false := decide_eq_false (by omega)
 have d2 : decide (4 ≤ j) = false := decide_eq_false (by omega)
 have b0 : (0 : Int) ≤ (j : Int) := by omega
 have b1 : (j : Int) < 4 := by omega
 have z3 : decide (65536 < n) = false := decide_eq_false (by omega)
 have hw : wrap64 n = n := w64 (by omega) (by omega)
 have hw2 : IntKind.i64.wrap n = n := by rw [i64_w]; exact hw
 have HU := Aside0.mk hu; have HF_ := Aside0.mk hF; have HH := Aside0.mk hh; clear hu hF hh hj
 have HF := Aside0.mk hf; have HY := Aside0.mk hy; clear hf hy
 go_enter Try.func12, Try.ntmps12
 go_wp2_with fail
 refine (ints_With.codecs _).mono ?_; rintro e w1 ⟨b, rfl, ht, hle, hb⟩
 have HT := Aside0.mk ht; have HB := Aside0.mk hb; clear ht hb hle
 go_wp2_with fail
 refine (tally_From.calls a0 s0 e0 w _ HB.out HF.out).mono ?_; rintro e w2 ⟨g, rfl, hi, hb, hb2⟩
 have HS : Aside0 (ints_Read.St w w2 b g s0 e0) := ⟨(hb2.block _ (blk_lt HT.out)).trans HT.out, hi, hb⟩
 clear hi hb hb2 HT HB
 go_wp2_with fail
 refine (tally_Cursor_Byte.calls g s0 e0 (j : Int) s1 0 w _ HS.out.2.1 HS.out.2.2 HY.out).mono ?_; rintro en w3 ⟨rfl, hi, hb, hk⟩
 replace HS := Aside0.mk (HS.out.on hi hb hk); clear hi hb hk
 go_wp2_with fail
 refine (tally_Cursor_Err.calls g s1 0 0 s1 0 w _ HS.out.2.1 HS.out.2.2 (ints_Read.err _ _)).mono ?_; rintro en w4 ⟨rfl, hi, hb, hk⟩
 replace HS := Aside0.mk (HS.out.on hi hb hk); clear hi hb hk
 go_wp2_with fail
 refine (tally_Cursor_Uint.calls g s1 0 n s2 0 w _ HS.out.2.1 HS.out.2.2 HU.out).mono ?_; rintro en w5 ⟨rfl, hi, hb, hk⟩
 replace HS := Aside0.mk (HS.out.on hi hb hk); clear hi hb hk
 go_wp2_with fail
 refine (tally_Cursor_Err.calls g s2 0 0 s2 0 w _ HS.out.2.1 HS.out.2.2 (ints_Read.err _ _)).mono ?_; rintro en w6 ⟨rfl, hi, hb, hk⟩
 replace HS := Aside0.mk (HS.out.on hi hb hk); clear hi hb hk
 have q0 : w6.cell? ⟨b, j * 2 + 1, none⟩ = some (.func (.func F) #[] #[]) := (blk_cell HS.out.1 (j * 2 + 1)).trans HF_.out
 go_wp2_with ((with_reducible refine gate_dst (N := 44) rfl ?_); refine goesLV_ (some 44) rfl rfl hf_ hname hbody #[.pointer (some ⟨g, 0, none⟩), .int .i64 n] rfl (by rfl) (by first | rfl | (simp only [List.map_toArray, List.map_cons, List.map_nil]; rfl)) ?_; refine (HH.out _ g HS.out.2.1 HS.out.2.2).mono ?_; rintro en w7 ⟨v0, rfl, ho, hi, hb, hk⟩; refine ⟨_, rfl, ?_⟩; (have HO := Aside0.mk (Kd.R_lower ho HS.out.2.2.size)); (replace HS := Aside0.mk (HS.out.on hi hb hk)); clear ho hi hb hk q0)
 go_wp2_with fail
 refine (tally_Cursor_Done.calls g s3 e4 dn s5 e5 w _ HS.out.2.1 HS.out.2.2 HD.out).mono ?_; rintro en w8 ⟨rfl, hi, hb, hk⟩
 have HO2 := Aside0.mk (Kd.R_mono (Kd.R_keep (IsS66.apart HS.out.2.1 HO.out (by decide)) hk (fun _ h => h.2)) (fun _ h => h.1)); replace HS := Aside0.mk (HS.out.on hi hb hk); clear hi hb hk
 go_wp2
 go_ret2
 exact ⟨_, rfl, Kd.R_nil _ _ _ _ _, HS.out.2.2⟩
set_option maxHeartbeats 4000000 in
set_option maxRecDepth 100000 in
theorem ints_Read.good (a0 s0 s1 : ByteArray) (e0 : Int) (j : Nat) (w : World) (hj : j < 4) (hf : tally_From.f a0 = some (s0, e0)) (hy : tally_Cursor_Byte.f s0 e0 = some ((j : Int), s1, 0)) (s2 : ByteArray) (n : Int) (hu : tally_Cursor_Uint.f s1 0 = some (n, s2, 0)) (hn0 : 0 ≤ n) (hn : n ≤ 65536)
  (F : FuncId) (fn : Func) (hf_ : Try.prog.funcs[F]? = some fn) (hname : (fn.name == "runtime.NumGoroutine") = false) (hbody : fn.body.isSome = true) (hF : ints_With.tab[j * 2 + 1]? = some (.func (.func F) #[] #[])) (l : List Int) (e3 e4 : Int) (s3 s4 : ByteArray)
  (hh : ∀ (W : World) (g : Nat), IsS66 w W g s2 0 → Below w.heap.size w W → Calls Try.prog F #[.pointer (some ⟨g, 0, none⟩), .int .i64 n] W fun e w' => ∃ v0_ : Value, e = .returned (.tuple #[v0_, .int .i64 e3]) ∧ Kd.R (Kd.int .i64) 2 w' W.heap.size (fun _ => True) v0_ l ∧ IsS66 w w' g s3 e4 ∧ Below w.heap.size w w' ∧ KeepBut W w' g none) (he : e3 = 0) (s5 : ByteArray) (e5 : Int) (hd : tally_Cursor_Done.f s3 e4 = some (0, s5, e5)) :
  Calls Try.prog 12 #[.string a0] w fun e w' => ∃ v0_ : Value, e = .returned (.tuple #[v0_, .int .i64 0]) ∧ Kd.R (Kd.int .i64) 2 w' w.heap.size (fun _ => True) v0_ l ∧ Below w.heap.size w w' := by
 subst he
 have HD := Aside0.mk hd; clear hd
 have d1 : decide ((4 : Int) ≤ (j : Int)) = false := decide_eq_false (by omega)
 have d2 : decide (4 ≤ j) = false := decide_eq_false (by omega)
 have b0 : (0 : Int) ≤ (j : Int) := by omega
 have b1 : (j : Int) < 4 := by omega
 have z3 : decide (65536 < n) = false := decide_eq_false (by omega)
 have hw : wrap64 n = n := w64 (by omega) (by omega)
 have hw2 : IntKind.i64.wrap n = n := by rw [i64_w]; exact hw
 have HU := Aside0.mk hu; have HF_ := Aside0.mk hF; have HH := Aside0.mk hh; clear hu hF hh hj
 have HF := Aside0.mk hf; have HY := Aside0.mk hy; clear hf hy
 go_enter Try.func12, Try.ntmps12
 go_wp2_with fail
 refine (ints_With.codecs _).mono ?_; rintro e w1 ⟨b, rfl, ht, hle, hb⟩
 have HT := Aside0.mk ht; have HB := Aside0.mk hb; clear ht hb hle
 go_wp2_with fail
 refine (tally_From.calls a0 s0 e0 w _ HB.out HF.out).mono ?_; rintro e w2 ⟨g, rfl, hi, hb, hb2⟩
 have HS : Aside0 (ints_Read.St w w2 b g s0 e0) := ⟨(hb2.block _ (blk_lt HT.out)).trans HT.out, hi, hb⟩
 clear hi hb hb2 HT HB
 go_wp2_with fail
 refine (tally_Cursor_Byte.calls g s0 e0 (j : Int) s1 0 w _ HS.out.2.1 HS.out.2.2 HY.out).mono ?_; rintro en w3 ⟨rfl, hi, hb, hk⟩
 replace HS := Aside0.mk (HS.out.on hi hb hk); clear hi hb hk
 go_wp2_with fail
 refine (tally_Cursor_Err.calls g s1 0 0 s1 0 w _ HS.out.2.1 HS.out.2.2 (ints_Read.err _ _)).mono ?_; rintro en w4 ⟨rfl, hi, hb, hk⟩
 replace HS := Aside0.mk (HS.out.on hi hb hk); clear hi hb hk
 go_wp2_with fail
 refine (tally_Cursor_Uint.calls g s1 0 n s2 0 w _ HS.out.2.1 HS.out.2.2 HU.out).mono ?_; rintro en w5 ⟨rfl, hi, hb, hk⟩
 replace HS := Aside0.mk (HS.out.on hi hb hk); clear hi hb hk
 go_wp2_with fail
 refine (tally_Cursor_Err.calls g s2 0 0 s2 0 w _ HS.out.2.1 HS.out.2.2 (ints_Read.err _ _)).mono ?_; rintro en w6 ⟨rfl, hi, hb, hk⟩
 replace HS := Aside0.mk (HS.out.on hi hb hk); clear hi hb hk
 have q0 : w6.cell? ⟨b, j * 2 + 1, none⟩ = some (.func (.func F) #[] #[]) := (blk_cell HS.out.1 (j * 2 + 1)).trans HF_.out
 go_wp2_with ((with_reducible refine gate_dst (N := 44) rfl ?_); refine goesLV_ (some 44) rfl rfl hf_ hname hbody #[.pointer (some ⟨g, 0, none⟩), .int .i64 n] rfl (by rfl) (by first | rfl | (simp only [List.map_toArray, List.map_cons, List.map_nil]; rfl)) ?_; refine (HH.out _ g HS.out.2.1 HS.out.2.2).mono ?_; rintro en w7 ⟨v0, rfl, ho, hi, hb, hk⟩; refine ⟨_, rfl, ?_⟩; (have HO := Aside0.mk (Kd.R_lower ho HS.out.2.2.size)); (replace HS := Aside0.mk (HS.out.on hi hb hk)); clear ho hi hb hk q0)
 go_wp2_with fail
 refine (tally_Cursor_Done.calls g s3 e4 0 s5 e5 w _ HS.out.2.1 HS.out.2.2 HD.out).mono ?_; rintro en w8 ⟨rfl, hi, hb, hk⟩
 have HO2 := Aside0.mk (Kd.R_mono (Kd.R_keep (IsS66.apart HS.out.2.1 HO.out (by decide)) hk (fun _ h => h.2)) (fun _ h => h.1)); replace HS := Aside0.mk (HS.out.on hi hb hk); clear hi hb hk
 go_wp2
 go_ret2
 exact ⟨v0, rfl, HO2.out, HS.out.2.2⟩
theorem ints_Read.step (a0 s0 s1 : ByteArray) (e0 : Int) (j : Nat) (w : World) (hj : j < 4) (hf : tally_From.f a0 = some (s0, e0)) (hy : tally_Cursor_Byte.f s0 e0 = some ((j : Int), s1, 0)) (s2 : ByteArray) (n : Int) (hu : tally_Cursor_Uint.f s1 0 = some (n, s2, 0)) (hn0 : 0 ≤ n) (hn : n ≤ 65536)
  (F : FuncId) (fn : Func) (hf_ : Try.prog.funcs[F]? = some fn) (hname : (fn.name == "runtime.NumGoroutine") = false) (hbody : fn.body.isSome = true) (hF : ints_With.tab[j * 2 + 1]? = some (.func (.func F) #[] #[])) (l : List Int) (e3 e4 : Int) (s3 : ByteArray)
  (hh : ∀ (W : World) (g : Nat), IsS66 w W g s2 0 → Below w.heap.size w W → Calls Try.prog F #[.pointer (some ⟨g, 0, none⟩), .int .i64 n] W fun e w' => ∃ v0_ : Value, e = .returned (.tuple #[v0_, .int .i64 e3]) ∧ Kd.R (Kd.int .i64) 2 w' W.heap.size (fun _ => True) v0_ l ∧ IsS66 w w' g s3 e4 ∧ Below w.heap.size w w' ∧ KeepBut W w' g none) (r1 : List Int) (r2 : Int) (h : ints_Read.fin (l, e3, s3, e4) = some (r1, r2)) :
  Calls Try.prog 12 #[.string a0] w fun e w' => ∃ v0_ : Value, e = .returned (.tuple #[v0_, .int .i64 r2]) ∧ Kd.R (Kd.int .i64) 2 w' w.heap.size (fun _ => True) v0_ r1 ∧ Below w.heap.size w w' := by
 unfold ints_Read.fin at h
 simp only at h
 by_cases c : e3 = 0
 ·rw [if_pos c] at h
  obtain ⟨⟨dn, s5, e5⟩, hd, h⟩ := Option.bind_eq_some_iff.mp h
  simp only at h
  by_cases c2 : dn = 0
  ·rw [if_pos c2] at h
   injection h with h; injection h with h1 h2; subst h1 h2; subst c2
   exact ints_Read.good a0 s0 s1 e0 j w hj hf hy s2 n hu hn0 hn F fn hf_ hname hbody hF l e3 e4 s3 s3 hh c s5 e5 hd
  ·rw [if_neg c2] at h
   injection h with h; injection h with h1 h2; subst h1 h2
   exact ints_Read.after a0 s0 s1 e0 j w hj hf hy s2 n hu hn0 hn F fn hf_ hname hbody hF l e3 e4 s3 s3 hh c s5 dn e5 hd c2
 ·rw [if_neg c] at h
  injection h with h; injection h with h1 h2; subst h1 h2
  exact ints_Read.wrong a0 s0 s1 e0 j w hj hf hy s2 n hu hn0 hn F fn hf_ hname hbody hF l e3 e4 s3 s3 hh c
theorem ints_Read.calls (k : Nat) (a0 : ByteArray) (r1 : List Int) (r2 : Int) (w : World) (h : ints_Read.f k a0 = some (r1, r2)) :
  Calls Try.prog 12 #[.string a0] w fun e w' => ∃ v0_ : Value, e = .returned (.tuple #[v0_, .int .i64 r2]) ∧ Kd.R (Kd.int .i64) 2 w' w.heap.size (fun _ => True) v0_ r1 ∧ Below w.heap.size w w' := by
 unfold ints_Read.f at h
 obtain ⟨⟨s0, e0⟩, hf, h⟩ := Option.bind_eq_some_iff.mp h
 obtain ⟨⟨a, s1, e1⟩, hy, h⟩ := Option.bind_eq_some_iff.mp h
 simp only at h hy
 by_cases c : e1 = 0 ∧ 4 ≤ a
 ·rw [if_pos c] at h
  injection h with h; injection h with h1 h2; subst h1 h2
  exact ints_Read.far k a0 s0 s1 e0 e1 a w hf hy c.1 c.2
 ·rw [if_neg c] at h
  unfold ints_Read.go at h
  obtain ⟨⟨n, s2, e2⟩, hu, h⟩ := Option.bind_eq_some_iff.mp h
  simp only at h
  by_cases he : e2 = 0
  ·rw [if_neg (by simp [he])] at h
   by_cases hn : 65536 < n
   ·rw [if_pos hn] at h
    injection h with h; injection h with h1 h2; subst h1 h2
    exact ints_Read.long k a0 s0 s1 e0 e1 a w hf hy s2 n e2 hu (by omega) he hn
   ·rw [if_neg hn] at h
    by_cases c3 : e1 = 0 ∧ 0 ≤ a ∧ 0 ≤ n
    ·rw [if_pos c3] at h
     obtain ⟨⟨l, e3, s3, e4⟩, hr, hz⟩ := Option.bind_eq_some_iff.mp h
     obtain ⟨c4, c5, c6⟩ := c3
     subst he c4
     obtain ⟨j, rfl⟩ : ∃ j : Nat, a = (j : Int) := ⟨a.toNat, by omega⟩
     have hj : j < 4 := by omega
     unfold ints_Read.rd at hr
     rcases (by omega : j = 0 ∨ j = 1 ∨ j = 2 ∨ j = 3) with rfl | rfl | rfl | rfl
     ·replace hr : ints_readPlain.f k s2 0 n = some (l, e3, s3, e4) := hr
      exact ints_Read.step a0 s0 s1 e0 0 w hj hf hy s2 n hu c6 (by omega) 35 _ Try.func35 (by kernel_rfl) rfl rfl l e3 e4 s3 (fun W g hi hb => ints_readPlain.calls k g s2 0 n l e3 s3 e4 w W hi hb hr) r1 r2 hz
     ·replace hr : ints_readDelta.f k s2 0 n = some (l, e3, s3, e4) := hr
      exact ints_Read.step a0 s0 s1 e0 1 w hj hf hy s2 n hu c6 (by omega) 37 _ Try.func37 (by kernel_rfl) rfl rfl l e3 e4 s3 (fun W g hi hb => ints_readDelta.calls k g s2 0 n l e3 s3 e4 w W hi hb hr) r1 r2 hz
     ·replace hr : ints_readRuns.f k s2 0 n = some (l, e3, s3, e4) := hr
      exact ints_Read.step a0 s0 s1 e0 2 w hj hf hy s2 n hu c6 (by omega) 39 _ Try.func39 (by kernel_rfl) rfl rfl l e3 e4 s3 (fun W g hi hb => ints_readRuns.calls k g s2 0 n l e3 s3 e4 w W hi hb hr) r1 r2 hz
     ·replace hr : ints_readPacked.f k s2 0 n = some (l, e3, s3, e4) := hr
      exact ints_Read.step a0 s0 s1 e0 3 w hj hf hy s2 n hu c6 (by omega) 41 _ Try.func41 (by kernel_rfl) rfl rfl l e3 e4 s3 (fun W g hi hb => ints_readPacked.calls k g s2 0 n l e3 s3 e4 w W hi hb hr) r1 r2 hz
    ·rw [if_neg c3] at h; exact absurd h (by simp)
  ·rw [if_pos (by simpa using he)] at h
   injection h with h; injection h with h1 h2; subst h1 h2
   exact ints_Read.bad k a0 s0 s1 e0 e1 a w hf hy s2 n e2 hu (by omega) he
end Go.Proofs.Ytgeddoklmcjdcaa.G
namespace Go.Proofs.Ytgeddoklmcjdcaa.G
open Go.RowKit Go.Proofs.YtgeddoklmcjdcaaQ Go.Proofs.YtgeddoklmcjdcaaW.PrintWords Go.Proofs.YtgeddoklmcjdcaaW.PrintLast Go.Proofs.YtgeddoklmcjdcaaW.PrintMore
attribute [local go_sem] max2_int min2_int max_two min_two max_three min_three max_four min_four   -- for this text's walks alone
set_option linter.unusedVariables false
set_option linter.unusedSimpArgs false
def tithebarnlaw04_lives.f (k : Nat)  : Option (Bool) := (ints_With.f k (([7, 7, 7] : List Int)) 2).bind fun bt296 => ((ints_Read.f k (⟨#[2, 3, 3, 14]⟩ : ByteArray)).bind fun bt298 => (if bt296.2 = 0 then (if bt296.1.toList = ([2, 3, 3, 14] : List UInt8) then (if bt298.2 = 0 then (if (bt298.1.length : Int) = 3 then (if 2 < (bt298.1.length : Int) then (some ((rd bt298.1 2) == 7)) else (none)) else (some false)) else (some false)) else (some false)) else (some false)))
theorem tithebarnlaw04_lives.mono : ∀ k, LeO (tithebarnlaw04_lives.f k ) (tithebarnlaw04_lives.f (k + 1) ) := by
 intro  k
 unfold tithebarnlaw04_lives.f
 repeat' first
   | (with_reducible exact ints_Read.mono _ _)
   | (with_reducible exact ints_With.mono _ _ _)
   | (with_reducible exact LeO.refl _)
   | (with_reducible exact LeO.none _)
   | (with_reducible refine LeO.ite ?_ ?_)
   | (with_reducible refine LeO.bind ?_ (fun _ => ?_))
   | exact ints_Read.mono _ _
   | exact ints_With.mono _ _ _
   | exact LeO.none _
   | refine LeO.ite ?_ ?_
   | refine LeO.bind ?_ (fun _ => ?_)
set_option maxHeartbeats 8000000 in
set_option maxRecDepth 100000 in
theorem tithebarnlaw04_lives.calls (k : Nat)  (r : Bool) (w : World) (h : tithebarnlaw04_lives.f k  = some r) :
  Calls Try.prog 9 #[] w fun e w' => e = .returned (.bool r) ∧ Below w.heap.size w w' := by
 have HB := Aside0.mk (Below.refl w.heap.size w)
 have H : ((ints_With.f k (([7, 7, 7] : List Int)) 2).bind fun bt296 => ((ints_Read.f k (⟨#[2, 3, 3, 14]⟩ : ByteArray)).bind fun bt298 => (if bt296.2 = 0 then (if bt296.1.toList = ([2, 3, 3, 14] : List UInt8) then (if bt298.2 = 0 then (if (bt298.1.length : Int) = 3 then (if 2 < (bt298.1.length : Int) then (some ((rd bt298.1 2) == 7)) else (none)) else (some false)) else (some false)) else (some false)) else (some false)))) = some r := h
 clear h
 obtain ⟨y293, hy293⟩ : ∃ y_ : List Int, y_ = (([7, 7, 7] : List Int)) := ⟨_, rfl⟩
 replace H : ((ints_With.f k y293 2).bind fun bt296 => ((ints_Read.f k (⟨#[2, 3, 3, 14]⟩ : ByteArray)).bind fun bt298 => (if bt296.2 = 0 then (if bt296.1.toList = ([2, 3, 3, 14] : List UInt8) then (if bt298.2 = 0 then (if (bt298.1.length : Int) = 3 then (if 2 < (bt298.1.length : Int) then (some ((rd bt298.1 2) == 7)) else (none)) else (some false)) else (some false)) else (some false)) else (some false)))) = some r := by first | (rw [hy293]; with_reducible exact H) | (have H2_ := (Option.bind_some _ _).symm.trans H; rw [hy293]; with_reducible exact H2_) | (have H2_ := (Option.bind_some _ _).symm.trans H; with_reducible exact H2_) | with_reducible exact H | (rw [hy293]; exact H) | exact H
 have Ny293 := Aside0.mk hy293
 clear hy293
 replace H := Option.bind_eq_some_iff.mp H
 obtain ⟨⟨t296, t297⟩, A10, H⟩ := H
 replace H : ((ints_Read.f k (⟨#[2, 3, 3, 14]⟩ : ByteArray)).bind fun bt298 => (if t297 = 0 then (if t296.toList = ([2, 3, 3, 14] : List UInt8) then (if bt298.2 = 0 then (if (bt298.1.length : Int) = 3 then (if 2 < (bt298.1.length : Int) then (some ((rd bt298.1 2) == 7)) else (none)) else (some false)) else (some false)) else (some false)) else (some false))) = some r := H
 have A1 := Aside0.mk A10
 clear A10
 replace H := Option.bind_eq_some_iff.mp H
 obtain ⟨⟨t298, t299⟩, A20, H⟩ := H
 replace H : (if t297 = 0 then (if t296.toList = ([2, 3, 3, 14] : List UInt8) then (if t299 = 0 then (if (t298.length : Int) = 3 then (if 2 < (t298.length : Int) then (some ((rd t298 2) == 7)) else (none)) else (some false)) else (some false)) else (some false)) else (some false)) = some r := H
 have A2 := Aside0.mk A20
 clear A20
 by_cases c3 : t297 = 0
 ·rw [if_pos c3] at H
  have c3b0 : (t297 == 0) = true := beq_iff_eq.mpr c3
  have c3b1 : (t297 != 0) = false := bne_eq_false_iff_eq.mpr c3
  clear c3
  by_cases c4 : t296.toList = ([2, 3, 3, 14] : List UInt8)
  ·rw [if_pos c4] at H
   have c4b0 : (t296.toList == ([2, 3, 3, 14] : List UInt8)) = true := beq_iff_eq.mpr c4
   have c4b1 : (t296.toList != ([2, 3, 3, 14] : List UInt8)) = false := bne_eq_false_iff_eq.mpr c4
   clear c4
   by_cases c5 : t299 = 0
   ·rw [if_pos c5] at H
    have c5b0 : (t299 == 0) = true := beq_iff_eq.mpr c5
    have c5b1 : (t299 != 0) = false := bne_eq_false_iff_eq.mpr c5
    clear c5
    by_cases c6 : (t298.length : Int) = 3
    ·rw [if_pos c6] at H
     have c6b0 : ((t298.length : Int) == 3) = true := beq_iff_eq.mpr c6
     have c6b1 : ((t298.length : Int) != 3) = false := bne_eq_false_iff_eq.mpr c6
     clear c6
     by_cases c7 : 2 < (t298.length : Int)
     ·rw [if_pos c7] at H
      have c7b0 : decide (2 < (t298.length : Int)) = true := decide_eq_true c7
      have c7b1 : decide (2 < t298.length) = true := decide_eq_true (by omega)
      clear c7
      obtain rfl := Option.some.inj H
      go_enter Try.func9, Try.ntmps9
      go_wp2_with (first | ((with_reducible refine gate_dst (N := 6) rfl ?_); (try (refine gate_guard (by rfl) ?_; dsimp only)); refine Kd.R_lit (Kd.int .i64) _ 2 ?hg (N := 6) ?hd (xs := ([7, 7, 7] : List Int)) (inner := [.int .i64 7, .int .i64 7, .int .i64 7]) (ok := fun _ => True) (okp := fun _ => True) ?hr ?hp (fun _ hk => hk) trivial (Below.refl _ _) (Nat.le_refl _) (by simp) ?_; (case hd => rfl); (case hg => rfl); (case hr => first | (go_simp; done) | (go_simp; rfl)); (case hp => exact (Reps.one (show Kd.M (Kd.int .i64) _ _ _ 7 [.int .i64 7] from rfl) (Reps.one (show Kd.M (Kd.int .i64) _ _ _ 7 [.int .i64 7] from rfl) (Reps.one (show Kd.M (Kd.int .i64) _ _ _ 7 [.int .i64 7] from rfl) (Reps.none _ _))))); intro v294 w8 ho9 hb hg_ hnew_; clear hg_ hnew_; (first | rw [← Ny293.out] at ho9 | (simp only [Int.reduceToNat] at ho9; rw [← Ny293.out] at ho9)); have n0_ := Aside0.mk (Kd.R_lower ho9 (below_size (by repeat (first | (with_reducible first | exact HB.out | apply below_alloc | apply pw_below_drewN | apply below_drew1) | exact HB.out)))); have n1_ := Aside0.mk (below_step (by repeat (first | (with_reducible first | exact HB.out | apply below_alloc | apply pw_below_drewN | apply below_drew1) | exact HB.out)) hb); clear HB; have HO295 := n0_; have HB := n1_; clear n0_ n1_; clear hb ho9; obtain ⟨Ao10, co10, eo10⟩ := Kd.R_slice HO295.out; subst eo10) | ((with_reducible refine gate_callee (f := 10) rfl ?_); refine goesL_ (some 7) rfl rfl Try.func10 (by kernel_rfl) rfl #[.slice Ao10 y293.length co10, .int .i64 2] rfl (by (try simp only [List.map_toArray, List.map_cons, List.map_nil]); first | done | rfl | (simp only [List.length_drop, List.length_take]; rfl) | (go_simp; simp [IntKind.wrap, IntKind.bits, IntKind.signed]; omega)) ?_; (with_reducible refine (ints_With.calls k _ _ y293 2 t296 t297 _ ?side1 ?side2 A1.out).mono ?_); (case side1 => repeat (first | exact (Kd.R_reads' HO295.out).2.2 | (with_reducible refine Kd.C_alloc ?_ _) | (with_reducible refine Kd.C_drewN ?_ _) | (with_reducible refine Kd.C_drew ?_))); (case side2 => exact (Kd.R_reads' HO295.out).2.1); rintro e w11 ⟨rfl, hb⟩; refine ⟨_, rfl, ?_⟩; have n0_ := Aside0.mk (Kd.R_below (by (with_reducible repeat (first | apply Kd.R_alloc | apply Kd.R_drewN | apply Kd.R_drew)); exact HO295.out) hb); have n1_ := Aside0.mk (below_step (by repeat (first | (with_reducible first | exact HB.out | apply below_alloc | apply pw_below_drewN | apply below_drew1) | exact HB.out)) hb); clear HO295; clear HB; have HO295 := n0_; have HB := n1_; clear n0_ n1_; (try clear hb); (try clear hb2); (try clear hk); (try clear hi)) | ((with_reducible refine gate_callee (f := 12) rfl ?_); refine goesL_ (some 11) rfl rfl Try.func12 (by kernel_rfl) rfl #[.string (⟨#[2, 3, 3, 14]⟩ : ByteArray)] rfl (by (try simp only [List.map_toArray, List.map_cons, List.map_nil]); first | done | rfl | (simp only [List.length_drop, List.length_take]; rfl) | (go_simp; simp [IntKind.wrap, IntKind.bits, IntKind.signed]; omega)) ?_; (with_reducible refine (ints_Read.calls k (⟨#[2, 3, 3, 14]⟩ : ByteArray) t298 t299 _ A2.out).mono ?_); rintro e w12 ⟨v300, rfl, ho0, hb⟩; refine ⟨_, rfl, ?_⟩; have n0_ := Aside0.mk (Kd.R_elder' (by (with_reducible repeat (first | apply Kd.R_alloc | apply Kd.R_drewN | apply Kd.R_drew)); exact HO295.out) (Kd.R_base ho0) hb); have n1_ := Aside0.mk (Kd.R_lower (Kd.R_new' ho0 (Kd.R_lt (by (with_reducible repeat (first | apply Kd.R_alloc | apply Kd.R_drewN | apply Kd.R_drew)); exact HO295.out))) (below_size (by repeat (first | (with_reducible first | exact HB.out | apply below_alloc | apply pw_below_drewN | apply below_drew1) | exact HB.out)))); have n2_ := Aside0.mk (below_step (by repeat (first | (with_reducible first | exact HB.out | apply below_alloc | apply pw_below_drewN | apply below_drew1) | exact HB.out)) hb); clear HO295; clear HB; have HO295 := n0_; have HO301 := n1_; have HB := n2_; clear n0_ n1_ n2_; (try clear hb); (try clear hb2); (try clear hk); (try clear hi); (try clear ho0); obtain ⟨Ao13, co13, eo13⟩ := Kd.R_slice HO301.out; subst eo13; have p302 : 0 ≤ (2 : Int) := (by omega); have q302 : 2 < (t298.length : Int) := of_decide_eq_true (by first | (with_reducible assumption) | assumption); obtain ⟨ad302, e302, hx302_0⟩ := Kd.at_int (Kd.R_reads' HO301.out).2.2 2 p302 q302; cases e302; (try simp only [show (2 : Int).toNat = 2 from rfl, Nat.reduceMul, Nat.reduceEqDiff, Go.Addr.add, ↓reduceIte] at hx302_0); have qi302 : (2 < t298.length) = True := eq_true (by omega); (try rw [show ((2 : Int)).toNat = 2 from rfl] at hx302_0); replace p302 := eq_true p302; replace q302 := eq_true q302))
      go_ret
      exact ⟨by first | rfl | (simp [errW_none, errW_some] <;> rfl) | (simp [*, errW_none, errW_some] <;> rfl), by repeat (first | (with_reducible first | exact HB.out | apply below_alloc | apply pw_below_drewN | apply below_drew1) | exact HB.out)⟩
     ·rw [if_neg c7] at H
      exact absurd H (by simp)
    ·rw [if_neg c6] at H
     have c6b0 : ((t298.length : Int) == 3) = false := beq_eq_false_iff_ne.mpr c6
     have c6b1 : ((t298.length : Int) != 3) = true := bne_iff_ne.mpr c6
     obtain rfl := Option.some.inj H
     go_enter Try.func9, Try.ntmps9
     go_wp2_with (first | ((with_reducible refine gate_dst (N := 6) rfl ?_); (try (refine gate_guard (by rfl) ?_; dsimp only)); refine Kd.R_lit (Kd.int .i64) _ 2 ?hg (N := 6) ?hd (xs := ([7, 7, 7] : List Int)) (inner := [.int .i64 7, .int .i64 7, .int .i64 7]) (ok := fun _ => True) (okp := fun _ => True) ?hr ?hp (fun _ hk => hk) trivial (Below.refl _ _) (Nat.le_refl _) (by simp) ?_; (case hd => rfl); (case hg => rfl); (case hr => first | (go_simp; done) | (go_simp; rfl)); (case hp => exact (Reps.one (show Kd.M (Kd.int .i64) _ _ _ 7 [.int .i64 7] from rfl) (Reps.one (show Kd.M (Kd.int .i64) _ _ _ 7 [.int .i64 7] from rfl) (Reps.one (show Kd.M (Kd.int .i64) _ _ _ 7 [.int .i64 7] from rfl) (Reps.none _ _))))); intro v294 w14 ho15 hb hg_ hnew_; clear hg_ hnew_; (first | rw [← Ny293.out] at ho15 | (simp only [Int.reduceToNat] at ho15; rw [← Ny293.out] at ho15)); have n0_ := Aside0.mk (Kd.R_lower ho15 (below_size (by repeat (first | (with_reducible first | exact HB.out | apply below_alloc | apply pw_below_drewN | apply below_drew1) | exact HB.out)))); have n1_ := Aside0.mk (below_step (by repeat (first | (with_reducible first | exact HB.out | apply below_alloc | apply pw_below_drewN | apply below_drew1) | exact HB.out)) hb); clear HB; have HO295 := n0_; have HB := n1_; clear n0_ n1_; clear hb ho15; obtain ⟨Ao16, co16, eo16⟩ := Kd.R_slice HO295.out; subst eo16) | ((with_reducible refine gate_callee (f := 10) rfl ?_); refine goesL_ (some 7) rfl rfl Try.func10 (by kernel_rfl) rfl #[.slice Ao16 y293.length co16, .int .i64 2] rfl (by (try simp only [List.map_toArray, List.map_cons, List.map_nil]); first | done | rfl | (simp only [List.length_drop, List.length_take]; rfl) | (go_simp; simp [IntKind.wrap, IntKind.bits, IntKind.signed]; omega)) ?_; (with_reducible refine (ints_With.calls k _ _ y293 2 t296 t297 _ ?side1 ?side2 A1.out).mono ?_); (case side1 => repeat (first | exact (Kd.R_reads' HO295.out).2.2 | (with_reducible refine Kd.C_alloc ?_ _) | (with_reducible refine Kd.C_drewN ?_ _) | (with_reducible refine Kd.C_drew ?_))); (case side2 => exact (Kd.R_reads' HO295.out).2.1); rintro e w17 ⟨rfl, hb⟩; refine ⟨_, rfl, ?_⟩; have n0_ := Aside0.mk (Kd.R_below (by (with_reducible repeat (first | apply Kd.R_alloc | apply Kd.R_drewN | apply Kd.R_drew)); exact HO295.out) hb); have n1_ := Aside0.mk (below_step (by repeat (first | (with_reducible first | exact HB.out | apply below_alloc | apply pw_below_drewN | apply below_drew1) | exact HB.out)) hb); clear HO295; clear HB; have HO295 := n0_; have HB := n1_; clear n0_ n1_; (try clear hb); (try clear hb2); (try clear hk); (try clear hi)) | ((with_reducible refine gate_callee (f := 12) rfl ?_); refine goesL_ (some 11) rfl rfl Try.func12 (by kernel_rfl) rfl #[.string (⟨#[2, 3, 3, 14]⟩ : ByteArray)] rfl (by (try simp only [List.map_toArray, List.map_cons, List.map_nil]); first | done | rfl | (simp only [List.length_drop, List.length_take]; rfl) | (go_simp; simp [IntKind.wrap, IntKind.bits, IntKind.signed]; omega)) ?_; (with_reducible refine (ints_Read.calls k (⟨#[2, 3, 3, 14]⟩ : ByteArray) t298 t299 _ A2.out).mono ?_); rintro e w18 ⟨v300, rfl, ho0, hb⟩; refine ⟨_, rfl, ?_⟩; have n0_ := Aside0.mk (Kd.R_elder' (by (with_reducible repeat (first | apply Kd.R_alloc | apply Kd.R_drewN | apply Kd.R_drew)); exact HO295.out) (Kd.R_base ho0) hb); have n1_ := Aside0.mk (Kd.R_lower (Kd.R_new' ho0 (Kd.R_lt (by (with_reducible repeat (first | apply Kd.R_alloc | apply Kd.R_drewN | apply Kd.R_drew)); exact HO295.out))) (below_size (by repeat (first | (with_reducible first | exact HB.out | apply below_alloc | apply pw_below_drewN | apply below_drew1) | exact HB.out)))); have n2_ := Aside0.mk (below_step (by repeat (first | (with_reducible first | exact HB.out | apply below_alloc | apply pw_below_drewN | apply below_drew1) | exact HB.out)) hb); clear HO295; clear HB; have HO295 := n0_; have HO301 := n1_; have HB := n2_; clear n0_ n1_ n2_; (try clear hb); (try clear hb2); (try clear hk); (try clear hi); (try clear ho0); obtain ⟨Ao19, co19, eo19⟩ := Kd.R_slice HO301.out; subst eo19))
     go_ret
     exact ⟨by first | rfl | (simp [errW_none, errW_some] <;> rfl) | (simp [*, errW_none, errW_some] <;> rfl), by repeat (first | (with_reducible first | exact HB.out | apply below_alloc | apply pw_below_drewN | apply below_drew1) | exact HB.out)⟩
   ·rw [if_neg c5] at H
    have c5b0 : (t299 == 0) = false := beq_eq_false_iff_ne.mpr c5
    have c5b1 : (t299 != 0) = true := bne_iff_ne.mpr c5
    obtain rfl := Option.some.inj H
    go_enter Try.func9, Try.ntmps9
    go_wp2_with (first | ((with_reducible refine gate_dst (N := 6) rfl ?_); (try (refine gate_guard (by rfl) ?_; dsimp only)); refine Kd.R_lit (Kd.int .i64) _ 2 ?hg (N := 6) ?hd (xs := ([7, 7, 7] : List Int)) (inner := [.int .i64 7, .int .i64 7, .int .i64 7]) (ok := fun _ => True) (okp := fun _ => True) ?hr ?hp (fun _ hk => hk) trivial (Below.refl _ _) (Nat.le_refl _) (by simp) ?_; (case hd => rfl); (case hg => rfl); (case hr => first | (go_simp; done) | (go_simp; rfl)); (case hp => exact (Reps.one (show Kd.M (Kd.int .i64) _ _ _ 7 [.int .i64 7] from rfl) (Reps.one (show Kd.M (Kd.int .i64) _ _ _ 7 [.int .i64 7] from rfl) (Reps.one (show Kd.M (Kd.int .i64) _ _ _ 7 [.int .i64 7] from rfl) (Reps.none _ _))))); intro v294 w20 ho21 hb hg_ hnew_; clear hg_ hnew_; (first | rw [← Ny293.out] at ho21 | (simp only [Int.reduceToNat] at ho21; rw [← Ny293.out] at ho21)); have n0_ := Aside0.mk (Kd.R_lower ho21 (below_size (by repeat (first | (with_reducible first | exact HB.out | apply below_alloc | apply pw_below_drewN | apply below_drew1) | exact HB.out)))); have n1_ := Aside0.mk (below_step (by repeat (first | (with_reducible first | exact HB.out | apply below_alloc | apply pw_below_drewN | apply below_drew1) | exact HB.out)) hb); clear HB; have HO295 := n0_; have HB := n1_; clear n0_ n1_; clear hb ho21; obtain ⟨Ao22, co22, eo22⟩ := Kd.R_slice HO295.out; subst eo22) | ((with_reducible refine gate_callee (f := 10) rfl ?_); refine goesL_ (some 7) rfl rfl Try.func10 (by kernel_rfl) rfl #[.slice Ao22 y293.length co22, .int .i64 2] rfl (by (try simp only [List.map_toArray, List.map_cons, List.map_nil]); first | done | rfl | (simp only [List.length_drop, List.length_take]; rfl) | (go_simp; simp [IntKind.wrap, IntKind.bits, IntKind.signed]; omega)) ?_; (with_reducible refine (ints_With.calls k _ _ y293 2 t296 t297 _ ?side1 ?side2 A1.out).mono ?_); (case side1 => repeat (first | exact (Kd.R_reads' HO295.out).2.2 | (with_reducible refine Kd.C_alloc ?_ _) | (with_reducible refine Kd.C_drewN ?_ _) | (with_reducible refine Kd.C_drew ?_))); (case side2 => exact (Kd.R_reads' HO295.out).2.1); rintro e w23 ⟨rfl, hb⟩; refine ⟨_, rfl, ?_⟩; have n0_ := Aside0.mk (Kd.R_below (by (with_reducible repeat (first | apply Kd.R_alloc | apply Kd.R_drewN | apply Kd.R_drew)); exact HO295.out) hb); have n1_ := Aside0.mk (below_step (by repeat (first | (with_reducible first | exact HB.out | apply below_alloc | apply pw_below_drewN | apply below_drew1) | exact HB.out)) hb); clear HO295; clear HB; have HO295 := n0_; have HB := n1_; clear n0_ n1_; (try clear hb); (try clear hb2); (try clear hk); (try clear hi)) | ((with_reducible refine gate_callee (f := 12) rfl ?_); refine goesL_ (some 11) rfl rfl Try.func12 (by kernel_rfl) rfl #[.string (⟨#[2, 3, 3, 14]⟩ : ByteArray)] rfl (by (try simp only [List.map_toArray, List.map_cons, List.map_nil]); first | done | rfl | (simp only [List.length_drop, List.length_take]; rfl) | (go_simp; simp [IntKind.wrap, IntKind.bits, IntKind.signed]; omega)) ?_; (with_reducible refine (ints_Read.calls k (⟨#[2, 3, 3, 14]⟩ : ByteArray) t298 t299 _ A2.out).mono ?_); rintro e w24 ⟨v300, rfl, ho0, hb⟩; refine ⟨_, rfl, ?_⟩; have n0_ := Aside0.mk (Kd.R_elder' (by (with_reducible repeat (first | apply Kd.R_alloc | apply Kd.R_drewN | apply Kd.R_drew)); exact HO295.out) (Kd.R_base ho0) hb); have n1_ := Aside0.mk (Kd.R_lower (Kd.R_new' ho0 (Kd.R_lt (by (with_reducible repeat (first | apply Kd.R_alloc | apply Kd.R_drewN | apply Kd.R_drew)); exact HO295.out))) (below_size (by repeat (first | (with_reducible first | exact HB.out | apply below_alloc | apply pw_below_drewN | apply below_drew1) | exact HB.out)))); have n2_ := Aside0.mk (below_step (by repeat (first | (with_reducible first | exact HB.out | apply below_alloc | apply pw_below_drewN | apply below_drew1) | exact HB.out)) hb); clear HO295; clear HB; have HO295 := n0_; have HO301 := n1_; have HB := n2_; clear n0_ n1_ n2_; (try clear hb); (try clear hb2); (try clear hk); (try clear hi); (try clear ho0)))
    go_ret
    exact ⟨by first | rfl | (simp [errW_none, errW_some] <;> rfl) | (simp [*, errW_none, errW_some] <;> rfl), by repeat (first | (with_reducible first | exact HB.out | apply below_alloc | apply pw_below_drewN | apply below_drew1) | exact HB.out)⟩
  ·rw [if_neg c4] at H
   have c4b0 : (t296.toList == ([2, 3, 3, 14] : List UInt8)) = false := beq_eq_false_iff_ne.mpr c4
   have c4b1 : (t296.toList != ([2, 3, 3, 14] : List UInt8)) = true := bne_iff_ne.mpr c4
   obtain rfl := Option.some.inj H
   go_enter Try.func9, Try.ntmps9
   go_wp2_with (first | ((with_reducible refine gate_dst (N := 6) rfl ?_); (try (refine gate_guard (by rfl) ?_; dsimp only)); refine Kd.R_lit (Kd.int .i64) _ 2 ?hg (N := 6) ?hd (xs := ([7, 7, 7] : List Int)) (inner := [.int .i64 7, .int .i64 7, .int .i64 7]) (ok := fun _ => True) (okp := fun _ => True) ?hr ?hp (fun _ hk => hk) trivial (Below.refl _ _) (Nat.le_refl _) (by simp) ?_; (case hd => rfl); (case hg => rfl); (case hr => first | (go_simp; done) | (go_simp; rfl)); (case hp => exact (Reps.one (show Kd.M (Kd.int .i64) _ _ _ 7 [.int .i64 7] from rfl) (Reps.one (show Kd.M (Kd.int .i64) _ _ _ 7 [.int .i64 7] from rfl) (Reps.one (show Kd.M (Kd.int .i64) _ _ _ 7 [.int .i64 7] from rfl) (Reps.none _ _))))); intro v294 w25 ho26 hb hg_ hnew_; clear hg_ hnew_; (first | rw [← Ny293.out] at ho26 | (simp only [Int.reduceToNat] at ho26; rw [← Ny293.out] at ho26)); have n0_ := Aside0.mk (Kd.R_lower ho26 (below_size (by repeat (first | (with_reducible first | exact HB.out | apply below_alloc | apply pw_below_drewN | apply below_drew1) | exact HB.out)))); have n1_ := Aside0.mk (below_step (by repeat (first | (with_reducible first | exact HB.out | apply below_alloc | apply pw_below_drewN | apply below_drew1) | exact HB.out)) hb); clear HB; have HO295 := n0_; have HB := n1_; clear n0_ n1_; clear hb ho26; obtain ⟨Ao27, co27, eo27⟩ := Kd.R_slice HO295.out; subst eo27) | ((with_reducible refine gate_callee (f := 10) rfl ?_); refine goesL_ (some 7) rfl rfl Try.func10 (by kernel_rfl) rfl #[.slice Ao27 y293.length co27, .int .i64 2] rfl (by (try simp only [List.map_toArray, List.map_cons, List.map_nil]); first | done | rfl | (simp only [List.length_drop, List.length_take]; rfl) | (go_simp; simp [IntKind.wrap, IntKind.bits, IntKind.signed]; omega)) ?_; (with_reducible refine (ints_With.calls k _ _ y293 2 t296 t297 _ ?side1 ?side2 A1.out).mono ?_); (case side1 => repeat (first | exact (Kd.R_reads' HO295.out).2.2 | (with_reducible refine Kd.C_alloc ?_ _) | (with_reducible refine Kd.C_drewN ?_ _) | (with_reducible refine Kd.C_drew ?_))); (case side2 => exact (Kd.R_reads' HO295.out).2.1); rintro e w28 ⟨rfl, hb⟩; refine ⟨_, rfl, ?_⟩; have n0_ := Aside0.mk (Kd.R_below (by (with_reducible repeat (first | apply Kd.R_alloc | apply Kd.R_drewN | apply Kd.R_drew)); exact HO295.out) hb); have n1_ := Aside0.mk (below_step (by repeat (first | (with_reducible first | exact HB.out | apply below_alloc | apply pw_below_drewN | apply below_drew1) | exact HB.out)) hb); clear HO295; clear HB; have HO295 := n0_; have HB := n1_; clear n0_ n1_; (try clear hb); (try clear hb2); (try clear hk); (try clear hi)) | ((with_reducible refine gate_callee (f := 12) rfl ?_); refine goesL_ (some 11) rfl rfl Try.func12 (by kernel_rfl) rfl #[.string (⟨#[2, 3, 3, 14]⟩ : ByteArray)] rfl (by (try simp only [List.map_toArray, List.map_cons, List.map_nil]); first | done | rfl | (simp only [List.length_drop, List.length_take]; rfl) | (go_simp; simp [IntKind.wrap, IntKind.bits, IntKind.signed]; omega)) ?_; (with_reducible refine (ints_Read.calls k (⟨#[2, 3, 3, 14]⟩ : ByteArray) t298 t299 _ A2.out).mono ?_); rintro e w29 ⟨v300, rfl, ho0, hb⟩; refine ⟨_, rfl, ?_⟩; have n0_ := Aside0.mk (Kd.R_elder' (by (with_reducible repeat (first | apply Kd.R_alloc | apply Kd.R_drewN | apply Kd.R_drew)); exact HO295.out) (Kd.R_base ho0) hb); have n1_ := Aside0.mk (Kd.R_lower (Kd.R_new' ho0 (Kd.R_lt (by (with_reducible repeat (first | apply Kd.R_alloc | apply Kd.R_drewN | apply Kd.R_drew)); exact HO295.out))) (below_size (by repeat (first | (with_reducible first | exact HB.out | apply below_alloc | apply pw_below_drewN | apply below_drew1) | exact HB.out)))); have n2_ := Aside0.mk (below_step (by repeat (first | (with_reducible first | exact HB.out | apply below_alloc | apply pw_below_drewN | apply below_drew1) | exact HB.out)) hb); clear HO295; clear HB; have HO295 := n0_; have HO301 := n1_; have HB := n2_; clear n0_ n1_ n2_; (try clear hb); (try clear hb2); (try clear hk); (try clear hi); (try clear ho0)))
   go_ret
   exact ⟨by first | rfl | (simp [errW_none, errW_some] <;> rfl) | (simp [*, errW_none, errW_some] <;> rfl), by repeat (first | (with_reducible first | exact HB.out | apply below_alloc | apply pw_below_drewN | apply below_drew1) | exact HB.out)⟩
 ·rw [if_neg c3] at H
  have c3b0 : (t297 == 0) = false := beq_eq_false_iff_ne.mpr c3
  have c3b1 : (t297 != 0) = true := bne_iff_ne.mpr c3
  obtain rfl := Option.some.inj H
  go_enter Try.func9, Try.ntmps9
  go_wp2_with (first | ((with_reducible refine gate_dst (N := 6) rfl ?_); (try (refine gate_guard (by rfl) ?_; dsimp only)); refine Kd.R_lit (Kd.int .i64) _ 2 ?hg (N := 6) ?hd (xs := ([7, 7, 7] : List Int)) (inner := [.int .i64 7, .int .i64 7, .int .i64 7]) (ok := fun _ => True) (okp := fun _ => True) ?hr ?hp (fun _ hk => hk) trivial (Below.refl _ _) (Nat.le_refl _) (by simp) ?_; (case hd => rfl); (case hg => rfl); (case hr => first | (go_simp; done) | (go_simp; rfl)); (case hp => exact (Reps.one (show Kd.M (Kd.int .i64) _ _ _ 7 [.int .i64 7] from rfl) (Reps.one (show Kd.M (Kd.int .i64) _ _ _ 7 [.int .i64 7] from rfl) (Reps.one (show Kd.M (Kd.int .i64) _ _ _ 7 [.int .i64 7] from rfl) (Reps.none _ _))))); intro v294 w30 ho31 hb hg_ hnew_; clear hg_ hnew_; (first | rw [← Ny293.out] at ho31 | (simp only [Int.reduceToNat] at ho31; rw [← Ny293.out] at ho31)); have n0_ := Aside0.mk (Kd.R_lower ho31 (below_size (by repeat (first | (with_reducible first | exact HB.out | apply below_alloc | apply pw_below_drewN | apply below_drew1) | exact HB.out)))); have n1_ := Aside0.mk (below_step (by repeat (first | (with_reducible first | exact HB.out | apply below_alloc | apply pw_below_drewN | apply below_drew1) | exact HB.out)) hb); clear HB; have HO295 := n0_; have HB := n1_; clear n0_ n1_; clear hb ho31; obtain ⟨Ao32, co32, eo32⟩ := Kd.R_slice HO295.out; subst eo32) | ((with_reducible refine gate_callee (f := 10) rfl ?_); refine goesL_ (some 7) rfl rfl Try.func10 (by kernel_rfl) rfl #[.slice Ao32 y293.length co32, .int .i64 2] rfl (by (try simp only [List.map_toArray, List.map_cons, List.map_nil]); first | done | rfl | (simp only [List.length_drop, List.length_take]; rfl) | (go_simp; simp [IntKind.wrap, IntKind.bits, IntKind.signed]; omega)) ?_; (with_reducible refine (ints_With.calls k _ _ y293 2 t296 t297 _ ?side1 ?side2 A1.out).mono ?_); (case side1 => repeat (first | exact (Kd.R_reads' HO295.out).2.2 | (with_reducible refine Kd.C_alloc ?_ _) | (with_reducible refine Kd.C_drewN ?_ _) | (with_reducible refine Kd.C_drew ?_))); (case side2 => exact (Kd.R_reads' HO295.out).2.1); rintro e w33 ⟨rfl, hb⟩; refine ⟨_, rfl, ?_⟩; have n0_ := Aside0.mk (Kd.R_below (by (with_reducible repeat (first | apply Kd.R_alloc | apply Kd.R_drewN | apply Kd.R_drew)); exact HO295.out) hb); have n1_ := Aside0.mk (below_step (by repeat (first | (with_reducible first | exact HB.out | apply below_alloc | apply pw_below_drewN | apply below_drew1) | exact HB.out)) hb); clear HO295; clear HB; have HO295 := n0_; have HB := n1_; clear n0_ n1_; (try clear hb); (try clear hb2); (try clear hk); (try clear hi)) | ((with_reducible refine gate_callee (f := 12) rfl ?_); refine goesL_ (some 11) rfl rfl Try.func12 (by kernel_rfl) rfl #[.string (⟨#[2, 3, 3, 14]⟩ : ByteArray)] rfl (by (try simp only [List.map_toArray, List.map_cons, List.map_nil]); first | done | rfl | (simp only [List.length_drop, List.length_take]; rfl) | (go_simp; simp [IntKind.wrap, IntKind.bits, IntKind.signed]; omega)) ?_; (with_reducible refine (ints_Read.calls k (⟨#[2, 3, 3, 14]⟩ : ByteArray) t298 t299 _ A2.out).mono ?_); rintro e w34 ⟨v300, rfl, ho0, hb⟩; refine ⟨_, rfl, ?_⟩; have n0_ := Aside0.mk (Kd.R_elder' (by (with_reducible repeat (first | apply Kd.R_alloc | apply Kd.R_drewN | apply Kd.R_drew)); exact HO295.out) (Kd.R_base ho0) hb); have n1_ := Aside0.mk (Kd.R_lower (Kd.R_new' ho0 (Kd.R_lt (by (with_reducible repeat (first | apply Kd.R_alloc | apply Kd.R_drewN | apply Kd.R_drew)); exact HO295.out))) (below_size (by repeat (first | (with_reducible first | exact HB.out | apply below_alloc | apply pw_below_drewN | apply below_drew1) | exact HB.out)))); have n2_ := Aside0.mk (below_step (by repeat (first | (with_reducible first | exact HB.out | apply below_alloc | apply pw_below_drewN | apply below_drew1) | exact HB.out)) hb); clear HO295; clear HB; have HO295 := n0_; have HO301 := n1_; have HB := n2_; clear n0_ n1_ n2_; (try clear hb); (try clear hb2); (try clear hk); (try clear hi); (try clear ho0)))
  go_ret
  exact ⟨by first | rfl | (simp [errW_none, errW_some] <;> rfl) | (simp [*, errW_none, errW_some] <;> rfl), by repeat (first | (with_reducible first | exact HB.out | apply below_alloc | apply pw_below_drewN | apply below_drew1) | exact HB.out)⟩
end Go.Proofs.Ytgeddoklmcjdcaa.G
namespace Go.Proofs.Ytgeddoklmcjdcaa.G
open Go.RowKit Go.Proofs.YtgeddoklmcjdcaaQ Go.Proofs.YtgeddoklmcjdcaaW.PrintWords Go.Proofs.YtgeddoklmcjdcaaW.PrintLast Go.Proofs.YtgeddoklmcjdcaaW.PrintMore
attribute [local go_sem] max2_int min2_int max_two min_two max_three min_three max_four min_four   -- for this text's walks alone
set_option linter.unusedVariables false
set_option linter.unusedSimpArgs false
def tithebarnlaw04_IntsOnly.f (k : Nat) (a0 : ByteArray) : Option (Bool) := (tithebarnlaw04_lives.f k).bind fun t523 => (if t523 = true then ((ints_Read.f k a0).bind fun bt524 => (if bt524.2 = 0 then (if 0 < (a0.size : Int) then ((ints_With.f k bt524.1 (wrap64 (bt a0 0))).bind fun bt528 => (if bt528.2 = 0 then (some (bt528.1.toList == a0.toList)) else (some false))) else (none)) else (some ((bt524.1.length : Int) == 0)))) else (some false))
theorem tithebarnlaw04_IntsOnly.mono : ∀ a0 k, LeO (tithebarnlaw04_IntsOnly.f k a0) (tithebarnlaw04_IntsOnly.f (k + 1) a0) := by
 intro a0 k
 unfold tithebarnlaw04_IntsOnly.f
 repeat' first
   | (with_reducible exact ints_Read.mono _ _)
   | (with_reducible exact ints_With.mono _ _ _)
   | (with_reducible exact tithebarnlaw04_lives.mono _)
   | (with_reducible exact LeO.refl _)
   | (with_reducible exact LeO.none _)
   | (with_reducible refine LeO.ite ?_ ?_)
   | (with_reducible refine LeO.bind ?_ (fun _ => ?_))
   | exact ints_Read.mono _ _
   | exact ints_With.mono _ _ _
   | exact tithebarnlaw04_lives.mono _
   | exact LeO.none _
   | refine LeO.ite ?_ ?_
   | refine LeO.bind ?_ (fun _ => ?_)
set_option maxHeartbeats 8000000 in
set_option maxRecDepth 100000 in
theorem tithebarnlaw04_IntsOnly.calls (k : Nat) (a0 : ByteArray) (r : Bool) (w : World) (h : tithebarnlaw04_IntsOnly.f k a0 = some r) :
  Calls Try.prog 5 #[.string a0] w fun e w' => e = .returned (.bool r) ∧ Below w.heap.size w w' := by
 have HB := Aside0.mk (Below.refl w.heap.size w)
 have H : ((tithebarnlaw04_lives.f k).bind fun t523 => (if t523 = true then ((ints_Read.f k a0).bind fun bt524 => (if bt524.2 = 0 then (if 0 < (a0.size : Int) then ((ints_With.f k bt524.1 (wrap64 (bt a0 0))).bind fun bt528 => (if bt528.2 = 0 then (some (bt528.1.toList == a0.toList)) else (some false))) else (none)) else (some ((bt524.1.length : Int) == 0)))) else (some false))) = some r := h
 clear h
 replace H := Option.bind_eq_some_iff.mp H
 obtain ⟨t523, A20, H⟩ := H
 replace H : (if t523 = true then ((ints_Read.f k a0).bind fun bt524 => (if bt524.2 = 0 then (if 0 < (a0.size : Int) then ((ints_With.f k bt524.1 (wrap64 (bt a0 0))).bind fun bt528 => (if bt528.2 = 0 then (some (bt528.1.toList == a0.toList)) else (some false))) else (none)) else (some ((bt524.1.length : Int) == 0)))) else (some false)) = some r := H
 have A2 := Aside0.mk A20
 clear A20
 by_cases c3 : t523 = true
 ·subst c3
  have H1 : ((ints_Read.f k a0).bind fun bt524 => (if bt524.2 = 0 then (if 0 < (a0.size : Int) then ((ints_With.f k bt524.1 (wrap64 (bt a0 0))).bind fun bt528 => (if bt528.2 = 0 then (some (bt528.1.toList == a0.toList)) else (some false))) else (none)) else (some ((bt524.1.length : Int) == 0)))) = some r := by rw [if_pos rfl] at H; exact H
  clear H
  have H := H1
  clear H1
  replace H := Option.bind_eq_some_iff.mp H
  obtain ⟨⟨t524, t525⟩, A40, H⟩ := H
  replace H : (if t525 = 0 then (if 0 < (a0.size : Int) then ((ints_With.f k t524 (wrap64 (bt a0 0))).bind fun bt528 => (if bt528.2 = 0 then (some (bt528.1.toList == a0.toList)) else (some false))) else (none)) else (some ((t524.length : Int) == 0))) = some r := H
  have A4 := Aside0.mk A40
  clear A40
  by_cases c5 : t525 = 0
  ·rw [if_pos c5] at H
   have c5b0 : (t525 == 0) = true := beq_iff_eq.mpr c5
   have c5b1 : (t525 != 0) = false := bne_eq_false_iff_eq.mpr c5
   clear c5
   by_cases c6 : 0 < (a0.size : Int)
   ·rw [if_pos c6] at H
    have c6b0 : decide (0 < (a0.size : Int)) = true := decide_eq_true c6
    have c6b1 : decide (0 < a0.size) = true := decide_eq_true (by omega)
    clear c6
    replace H := Option.bind_eq_some_iff.mp H
    obtain ⟨⟨t528, t529⟩, A80, H⟩ := H
    replace H : (if t529 = 0 then (some (t528.toList == a0.toList)) else (some false)) = some r := H
    have A8 := Aside0.mk A80
    clear A80
    by_cases c9 : t529 = 0
    ·rw [if_pos c9] at H
     have c9b0 : (t529 == 0) = true := beq_iff_eq.mpr c9
     have c9b1 : (t529 != 0) = false := bne_eq_false_iff_eq.mpr c9
     clear c9
     obtain rfl := Option.some.inj H
     go_enter Try.func5, Try.ntmps5
     go_wp2_with (first | ((with_reducible refine gate_callee (f := 9) rfl ?_); refine goesL_ (some 7) rfl rfl Try.func9 (by kernel_rfl) rfl #[] rfl (by (try simp only [List.map_toArray, List.map_cons, List.map_nil]); first | done | rfl | (simp only [List.length_drop, List.length_take]; rfl) | (go_simp; simp [IntKind.wrap, IntKind.bits, IntKind.signed]; omega)) ?_; (with_reducible refine (tithebarnlaw04_lives.calls k  true _ A2.out).mono ?_); rintro e w10 ⟨rfl, hb⟩; refine ⟨_, rfl, ?_⟩; have n0_ := Aside0.mk (below_step (by repeat (first | (with_reducible first | exact HB.out | apply below_alloc | apply pw_below_drewN | apply below_drew1) | exact HB.out)) hb); clear HB; have HB := n0_; clear n0_; (try clear hb); (try clear hb2); (try clear hk); (try clear hi)) | ((with_reducible refine gate_callee (f := 12) rfl ?_); refine goesL_ (some 11) rfl rfl Try.func12 (by kernel_rfl) rfl #[.string a0] rfl (by (try simp only [List.map_toArray, List.map_cons, List.map_nil]); first | done | rfl | (simp only [List.length_drop, List.length_take]; rfl) | (go_simp; simp [IntKind.wrap, IntKind.bits, IntKind.signed]; omega)) ?_; (with_reducible refine (ints_Read.calls k a0 t524 t525 _ A4.out).mono ?_); rintro e w11 ⟨v526, rfl, ho0, hb⟩; refine ⟨_, rfl, ?_⟩; have n0_ := Aside0.mk (Kd.R_lower ho0 (below_size (by repeat (first | (with_reducible first | exact HB.out | apply below_alloc | apply pw_below_drewN | apply below_drew1) | exact HB.out)))); have n1_ := Aside0.mk (below_step (by repeat (first | (with_reducible first | exact HB.out | apply below_alloc | apply pw_below_drewN | apply below_drew1) | exact HB.out)) hb); clear HB; have HO527 := n0_; have HB := n1_; clear n0_ n1_; (try clear hb); (try clear hb2); (try clear hk); (try clear hi); (try clear ho0); have p7 : 0 ≤ (0 : Int) := (by omega); have q7 : 0 < a0.size := (by have : (0 : Int) < (a0.size : Int) := of_decide_eq_true (by first | (with_reducible assumption) | assumption); omega); have hx7 : ∀ h : 0 < a0.size, ((a0[0]'h).toNat : Int) = bt a0 0 := bt_at a0 0; clear p7; have qi7 : (0 < (a0.size : Int)) = True := eq_true (of_decide_eq_true (by first | (with_reducible assumption) | assumption)); replace q7 := eq_true q7; obtain ⟨Ao12, co12, eo12⟩ := Kd.R_slice HO527.out; subst eo12) | ((with_reducible refine gate_callee (f := 10) rfl ?_); refine goesL_ (some 24) rfl rfl Try.func10 (by kernel_rfl) rfl #[.slice Ao12 t524.length co12, .int .i64 (wrap64 (bt a0 0))] rfl (by (try simp only [List.map_toArray, List.map_cons, List.map_nil]); first | done | rfl | (simp only [List.length_drop, List.length_take]; rfl) | (go_simp; simp [IntKind.wrap, IntKind.bits, IntKind.signed]; omega)) ?_; (with_reducible refine (ints_With.calls k _ _ t524 (wrap64 (bt a0 0)) t528 t529 _ ?side1 ?side2 A8.out).mono ?_); (case side1 => repeat (first | exact (Kd.R_reads' HO527.out).2.2 | (with_reducible refine Kd.C_alloc ?_ _) | (with_reducible refine Kd.C_drewN ?_ _) | (with_reducible refine Kd.C_drew ?_))); (case side2 => exact (Kd.R_reads' HO527.out).2.1); rintro e w13 ⟨rfl, hb⟩; refine ⟨_, rfl, ?_⟩; have n0_ := Aside0.mk (Kd.R_below (by (with_reducible repeat (first | apply Kd.R_alloc | apply Kd.R_drewN | apply Kd.R_drew)); exact HO527.out) hb); have n1_ := Aside0.mk (below_step (by repeat (first | (with_reducible first | exact HB.out | apply below_alloc | apply pw_below_drewN | apply below_drew1) | exact HB.out)) hb); clear HO527; clear HB; have HO527 := n0_; have HB := n1_; clear n0_ n1_; (try clear hb); (try clear hb2); (try clear hk); (try clear hi)))
     go_ret
     exact ⟨by first | rfl | (simp [errW_none, errW_some] <;> rfl) | (simp [*, errW_none, errW_some] <;> rfl), by repeat (first | (with_reducible first | exact HB.out | apply below_alloc | apply pw_below_drewN | apply below_drew1) | exact HB.out)⟩
    ·rw [if_neg c9] at H
     have c9b0 : (t529 == 0) = false := beq_eq_false_iff_ne.mpr c9
     have c9b1 : (t529 != 0) = true := bne_iff_ne.mpr c9
     obtain rfl := Option.some.inj H
     go_enter Try.func5, Try.ntmps5
     go_wp2_with (first | ((with_reducible refine gate_callee (f := 9) rfl ?_); refine goesL_ (some 7) rfl rfl Try.func9 (by kernel_rfl) rfl #[] rfl (by (try simp only [List.map_toArray, List.map_cons, List.map_nil]); first | done | rfl | (simp only [List.length_drop, List.length_take]; rfl) | (go_simp; simp [IntKind.wrap, IntKind.bits, IntKind.signed]; omega)) ?_; (with_reducible refine (tithebarnlaw04_lives.calls k  true _ A2.out).mono ?_); rintro e w14 ⟨rfl, hb⟩; refine ⟨_, rfl, ?_⟩; have n0_ := Aside0.mk (below_step (by repeat (first | (with_reducible first | exact HB.out | apply below_alloc | apply pw_below_drewN | apply below_drew1) | exact HB.out)) hb); clear HB; have HB := n0_; clear n0_; (try clear hb); (try clear hb2); (try clear hk); (try clear hi)) | ((with_reducible refine gate_callee (f := 12) rfl ?_); refine goesL_ (some 11) rfl rfl Try.func12 (by kernel_rfl) rfl #[.string a0] rfl (by (try simp only [List.map_toArray, List.map_cons, List.map_nil]); first | done | rfl | (simp only [List.length_drop, List.length_take]; rfl) | (go_simp; simp [IntKind.wrap, IntKind.bits, IntKind.signed]; omega)) ?_; (with_reducible refine (ints_Read.calls k a0 t524 t525 _ A4.out).mono ?_); rintro e w15 ⟨v526, rfl, ho0, hb⟩; refine ⟨_, rfl, ?_⟩; have n0_ := Aside0.mk (Kd.R_lower ho0 (below_size (by repeat (first | (with_reducible first | exact HB.out | apply below_alloc | apply pw_below_drewN | apply below_drew1) | exact HB.out)))); have n1_ := Aside0.mk (below_step (by repeat (first | (with_reducible first | exact HB.out | apply below_alloc | apply pw_below_drewN | apply below_drew1) | exact HB.out)) hb); clear HB; have HO527 := n0_; have HB := n1_; clear n0_ n1_; (try clear hb); (try clear hb2); (try clear hk); (try clear hi); (try clear ho0); have p7 : 0 ≤ (0 : Int) := (by omega); have q7 : 0 < a0.size := (by have : (0 : Int) < (a0.size : Int) := of_decide_eq_true (by first | (with_reducible assumption) | assumption); omega); have hx7 : ∀ h : 0 < a0.size, ((a0[0]'h).toNat : Int) = bt a0 0 := bt_at a0 0; clear p7; have qi7 : (0 < (a0.size : Int)) = True := eq_true (of_decide_eq_true (by first | (with_reducible assumption) | assumption)); replace q7 := eq_true q7; obtain ⟨Ao16, co16, eo16⟩ := Kd.R_slice HO527.out; subst eo16) | ((with_reducible refine gate_callee (f := 10) rfl ?_); refine goesL_ (some 24) rfl rfl Try.func10 (by kernel_rfl) rfl #[.slice Ao16 t524.length co16, .int .i64 (wrap64 (bt a0 0))] rfl (by (try simp only [List.map_toArray, List.map_cons, List.map_nil]); first | done | rfl | (simp only [List.length_drop, List.length_take]; rfl) | (go_simp; simp [IntKind.wrap, IntKind.bits, IntKind.signed]; omega)) ?_; (with_reducible refine (ints_With.calls k _ _ t524 (wrap64 (bt a0 0)) t528 t529 _ ?side1 ?side2 A8.out).mono ?_); (case side1 => repeat (first | exact (Kd.R_reads' HO527.out).2.2 | (with_reducible refine Kd.C_alloc ?_ _) | (with_reducible refine Kd.C_drewN ?_ _) | (with_reducible refine Kd.C_drew ?_))); (case side2 => exact (Kd.R_reads' HO527.out).2.1); rintro e w17 ⟨rfl, hb⟩; refine ⟨_, rfl, ?_⟩; have n0_ := Aside0.mk (Kd.R_below (by (with_reducible repeat (first | apply Kd.R_alloc | apply Kd.R_drewN | apply Kd.R_drew)); exact HO527.out) hb); have n1_ := Aside0.mk (below_step (by repeat (first | (with_reducible first | exact HB.out | apply below_alloc | apply pw_below_drewN | apply below_drew1) | exact HB.out)) hb); clear HO527; clear HB; have HO527 := n0_; have HB := n1_; clear n0_ n1_; (try clear hb); (try clear hb2); (try clear hk); (try clear hi)))
     go_ret
     exact ⟨by first | rfl | (simp [errW_none, errW_some] <;> rfl) | (simp [*, errW_none, errW_some] <;> rfl), by repeat (first | (with_reducible first | exact HB.out | apply below_alloc | apply pw_below_drewN | apply below_drew1) | exact HB.out)⟩
   ·rw [if_neg c6] at H
    exact absurd H (by simp)
  ·rw [if_neg c5] at H
   have c5b0 : (t525 == 0) = false := beq_eq_false_iff_ne.mpr c5
   have c5b1 : (t525 != 0) = true := bne_iff_ne.mpr c5
   obtain rfl := Option.some.inj H
   go_enter Try.func5, Try.ntmps5
   go_wp2_with (first | ((with_reducible refine gate_callee (f := 9) rfl ?_); refine goesL_ (some 7) rfl rfl Try.func9 (by kernel_rfl) rfl #[] rfl (by (try simp only [List.map_toArray, List.map_cons, List.map_nil]); first | done | rfl | (simp only [List.length_drop, List.length_take]; rfl) | (go_simp; simp [IntKind.wrap, IntKind.bits, IntKind.signed]; omega)) ?_; (with_reducible refine (tithebarnlaw04_lives.calls k  true _ A2.out).mono ?_); rintro e w18 ⟨rfl, hb⟩; refine ⟨_, rfl, ?_⟩; have n0_ := Aside0.mk (below_step (by repeat (first | (with_reducible first | exact HB.out | apply below_alloc | apply pw_below_drewN | apply below_drew1) | exact HB.out)) hb); clear HB; have HB := n0_; clear n0_; (try clear hb); (try clear hb2); (try clear hk); (try clear hi)) | ((with_reducible refine gate_callee (f := 12) rfl ?_); refine goesL_ (some 11) rfl rfl Try.func12 (by kernel_rfl) rfl #[.string a0] rfl (by (try simp only [List.map_toArray, List.map_cons, List.map_nil]); first | done | rfl | (simp only [List.length_drop, List.length_take]; rfl) | (go_simp; simp [IntKind.wrap, IntKind.bits, IntKind.signed]; omega)) ?_; (with_reducible refine (ints_Read.calls k a0 t524 t525 _ A4.out).mono ?_); rintro e w19 ⟨v526, rfl, ho0, hb⟩; refine ⟨_, rfl, ?_⟩; have n0_ := Aside0.mk (Kd.R_lower ho0 (below_size (by repeat (first | (with_reducible first | exact HB.out | apply below_alloc | apply pw_below_drewN | apply below_drew1) | exact HB.out)))); have n1_ := Aside0.mk (below_step (by repeat (first | (with_reducible first | exact HB.out | apply below_alloc | apply pw_below_drewN | apply below_drew1) | exact HB.out)) hb); clear HB; have HO527 := n0_; have HB := n1_; clear n0_ n1_; (try clear hb); (try clear hb2); (try clear hk); (try clear hi); (try clear ho0); obtain ⟨Ao20, co20, eo20⟩ := Kd.R_slice HO527.out; subst eo20))
   go_ret
   exact ⟨by first | rfl | (simp [errW_none, errW_some] <;> rfl) | (simp [*, errW_none, errW_some] <;> rfl), by repeat (first | (with_reducible first | exact HB.out | apply below_alloc | apply pw_below_drewN | apply below_drew1) | exact HB.out)⟩
 ·replace c3 := Bool.eq_false_iff.mpr c3
  subst c3
  have H1 : (some false) = some r := by rw [if_neg (show ¬ (false = true) by decide)] at H; exact H
  clear H
  have H := H1
  clear H1
  obtain rfl := Option.some.inj H
  go_enter Try.func5, Try.ntmps5
  go_wp2_with (first | ((with_reducible refine gate_callee (f := 9) rfl ?_); refine goesL_ (some 7) rfl rfl Try.func9 (by kernel_rfl) rfl #[] rfl (by (try simp only [List.map_toArray, List.map_cons, List.map_nil]); first | done | rfl | (simp only [List.length_drop, List.length_take]; rfl) | (go_simp; simp [IntKind.wrap, IntKind.bits, IntKind.signed]; omega)) ?_; (with_reducible refine (tithebarnlaw04_lives.calls k  false _ A2.out).mono ?_); rintro e w21 ⟨rfl, hb⟩; refine ⟨_, rfl, ?_⟩; have n0_ := Aside0.mk (below_step (by repeat (first | (with_reducible first | exact HB.out | apply below_alloc | apply pw_below_drewN | apply below_drew1) | exact HB.out)) hb); clear HB; have HB := n0_; clear n0_; (try clear hb); (try clear hb2); (try clear hk); (try clear hi)))
  go_ret
  exact ⟨by first | rfl | (simp [errW_none, errW_some] <;> rfl) | (simp [*, errW_none, errW_some] <;> rfl), by repeat (first | (with_reducible first | exact HB.out | apply below_alloc | apply pw_below_drewN | apply below_drew1) | exact HB.out)⟩
def tithebarnlaw04_IntsOnly.Pure : Prop := ∀ (a0 : ByteArray), a0.size ≤ 140737488351232 → ∃ k, tithebarnlaw04_IntsOnly.f k a0 = some true
theorem tithebarnlaw04_IntsOnly.walk (P : tithebarnlaw04_IntsOnly.Pure) (a0 : ByteArray) (w : World) (w0 : a0.size ≤ 140737488351232) :
  Calls Try.prog 5 #[.string a0] w fun e w' => e = .returned (.bool true) ∧ Below w.heap.size w w' := by
 obtain ⟨k, h⟩ := P a0 w0
 refine (tithebarnlaw04_IntsOnly.calls k a0 true w h).mono ?_
 rintro e w' ⟨rfl, hd⟩
 exact ⟨rfl, hd⟩
end Go.Proofs.Ytgeddoklmcjdcaa.G
namespace Go.Proofs.Ytgeddoklmcjdcaa.G
open Go.RowKit Go.Proofs.YtgeddoklmcjdcaaQ Go.Proofs.YtgeddoklmcjdcaaW.PrintWords Go.Proofs.YtgeddoklmcjdcaaW.PrintLast Go.Proofs.YtgeddoklmcjdcaaW.PrintMore
attribute [local go_sem] max2_int min2_int max_two min_two max_three min_three max_four min_four   -- for this text's walks alone
set_option linter.unusedVariables false
set_option linter.unusedSimpArgs false
mutual
def tithebarnref01_Uint.j0 : Nat → Int → Int → Int → Option (ByteArray)
 | 0, _, _, _ => none
 | k + 1, x0, x3, x4 => tithebarnref01_Uint.l0 k x0 x3 x4 ([] : List Int) (wrap64 (x3 - 1))
def tithebarnref01_Uint.l0 : Nat → Int → Int → Int → List Int → Int → Option (ByteArray)
 | 0, _, _, _, _, _ => none
 | k + 1, x0, x3, x4, x5, x6 => if x6 ≥ 0 then (if x6 < 8 then (if 0 ≤ (IntKind.u64.wrap (wrap64 (8 * x6))) then (if x6 = (wrap64 (x3 - 1)) then (if x5.length < 140737488355328 then (tithebarnref01_Uint.l0 k x0 x3 x4 (x5 ++ [((shr .u64 x0 (IntKind.u64.wrap (wrap64 (8 * x6)))) + x4) % 256]) (wrap64 (x6 - 1))) else (none)) else (if x5.length < 140737488355328 then (tithebarnref01_Uint.l0 k x0 x3 x4 (x5 ++ [(shr .u64 x0 (IntKind.u64.wrap (wrap64 (8 * x6)))) % 256]) (wrap64 (x6 - 1))) else (none))) else (none)) else (if x6 = (wrap64 (x3 - 1)) then (if x5.length < 140737488355328 then (tithebarnref01_Uint.l0 k x0 x3 x4 (x5 ++ [(x4) % 256]) (wrap64 (x6 - 1))) else (none)) else (if x5.length < 140737488355328 then (tithebarnref01_Uint.l0 k x0 x3 x4 (x5 ++ [0]) (wrap64 (x6 - 1))) else (none)))) else (some (strOfNums x5))
end
def tithebarnref01_Uint.f (k : Nat) (a0 : Int) : Option (ByteArray) := if a0 < 64 then (tithebarnref01_Uint.j0 k a0 1 0) else (if a0 < 16384 then (tithebarnref01_Uint.j0 k a0 2 64) else (if a0 < 1073741824 then (tithebarnref01_Uint.j0 k a0 4 128) else (tithebarnref01_Uint.j0 k a0 9 192)))
end Go.Proofs.Ytgeddoklmcjdcaa.G
namespace Go.Proofs.Ytgeddoklmcjdcaa.G
open Go.RowKit Go.Proofs.YtgeddoklmcjdcaaQ Go.Proofs.YtgeddoklmcjdcaaW.PrintWords Go.Proofs.YtgeddoklmcjdcaaW.PrintLast Go.Proofs.YtgeddoklmcjdcaaW.PrintMore
attribute [local go_sem] max2_int min2_int max_two min_two max_three min_three max_four min_four   -- for this text's walks alone
set_option linter.unusedVariables false
set_option linter.unusedSimpArgs false
def IsS55 (w0 W : World) (g : Nat) (f0 : ByteArray) (f1 : Int) (f2 : Int) : Prop := W.heap[g]? = some (.cells #[.string f0, .int .i64 f1, .int .i64 f2] 55 (0, 0)) ∧ w0.heap.size ≤ g
theorem IsS55.grown {w0 W : World} {g : Nat} {f0 : ByteArray} {f1 : Int} {f2 : Int} {W1 : World} {row : Option Nat} (h : IsS55 w0 W g f0 f1 f2) (hw : W.grownBy W1 row) (hne : some g ≠ row) : IsS55 w0 W1 g f0 f1 f2 := by
 obtain ⟨hb, hg⟩ := h
 exact ⟨blk_grown hb hw hne, hg⟩
theorem IsS55.fresh {w0 W : World} {g : Nat} {f0 : ByteArray} {f1 : Int} {f2 : Int} (h : IsS55 w0 W g f0 f1 f2) : ∀ k, W.heap.size ≤ k → k ≠ g := by
 obtain ⟨hb, hg⟩ := h
 exact Kd.freshB hb
theorem IsS55.kept {w0 W : World} {g : Nat} {f0 : ByteArray} {f1 : Int} {f2 : Int} {W1 : World} {S : Nat → Prop} (h : IsS55 w0 W g f0 f1 f2) (hk : Kept W W1 S) (hne : ¬ S g) : IsS55 w0 W1 g f0 f1 f2 := by
 obtain ⟨hb, hg⟩ := h
 exact ⟨blk_kept hb hk hne, hg⟩
theorem IsS55.below {w0 W : World} {g : Nat} {f0 : ByteArray} {f1 : Int} {f2 : Int} {W1 : World} (h : IsS55 w0 W g f0 f1 f2) (hw : Below W.heap.size W W1) : IsS55 w0 W1 g f0 f1 f2 := h.grown (grown_of_below hw none) (by simp)
theorem IsS55.alloc {w0 W : World} {g : Nat} {f0 : ByteArray} {f1 : Int} {f2 : Int} (h : IsS55 w0 W g f0 f1 f2) (o : Obj) : IsS55 w0 (W.alloc o) g f0 f1 f2 := h.below (below_alloc (Below.refl _ _) o)
theorem IsS55.drewN {w0 W : World} {g : Nat} {f0 : ByteArray} {f1 : Int} {f2 : Int} (h : IsS55 w0 W g f0 f1 f2) (m : Nat) : IsS55 w0 (W.drewN m) g f0 f1 f2 := h
theorem IsS55.drew {w0 W : World} {g : Nat} {f0 : ByteArray} {f1 : Int} {f2 : Int} (h : IsS55 w0 W g f0 f1 f2) : IsS55 w0 W.drew g f0 f1 f2 := h
theorem IsS55.at_ {w0 W : World} {g : Nat} {f0 : ByteArray} {f1 : Int} {f2 : Int} {w' : World} {m : Nat} (hq : W.drewN m = w') (h : IsS55 w0 W g f0 f1 f2) : IsS55 w0 w' g f0 f1 f2 := by subst hq; exact IsS55.drewN h m
theorem IsS55.apart {w0 W : World} {g : Nat} {f0 : ByteArray} {f1 : Int} {f2 : Int} {α : Type} {d : Kd α} {e : Nat} {base : Nat} {ok : Nat → Prop} {v : Value} {xs : List α} (h : IsS55 w0 W g f0 f1 f2) (ho : d.R e W base ok v xs) (ht : ∀ q, q ∈ e :: d.E → q ≠ 55) : d.R e W base (fun k => ok k ∧ k ≠ g) v xs := by
 obtain ⟨hb, hg⟩ := h
 exact Kd.R_types ho hb ht
theorem IsS55.own_ne {w0 W : World} {g : Nat} {f0 : ByteArray} {f1 : Int} {f2 : Int} {α : Type} {d : Kd α} {e : Nat} {base : Nat} {ok : Nat → Prop} {v : Value} {xs : List α} (h : IsS55 w0 W g f0 f1 f2) (ho : d.R e W base ok v xs) (ht : e ≠ 55) : some g ≠ v.ownBlock := by
 obtain ⟨hb, hg⟩ := h
 exact Kd.R_ne ho hb ht
theorem IsS55.ge {w0 W : World} {g : Nat} {f0 : ByteArray} {f1 : Int} {f2 : Int} (h : IsS55 w0 W g f0 f1 f2) : w0.heap.size ≤ g := by
 obtain ⟨hb, hg⟩ := h
 exact hg
theorem IsS55.far {w0 W : World} {g : Nat} {f0 : ByteArray} {f1 : Int} {f2 : Int} {p : Addr} (h : IsS55 w0 W g f0 f1 f2) (hne : g ≠ p.block) (u : Value) : IsS55 w0 (W.setCell p u) g f0 f1 f2 := by
 obtain ⟨hb, hg⟩ := h
 exact ⟨blk_far hb hne u, hg⟩
theorem IsS55.set_0 {w0 W : World} {g : Nat} {f0 : ByteArray} {f1 : Int} {f2 : Int} (h : IsS55 w0 W g f0 f1 f2) (x : ByteArray) : IsS55 w0 (W.setCell ⟨g, 0, none⟩ (.string x)) g x f1 f2 := by
 obtain ⟨hb, hg⟩ := h
 exact ⟨by simpa using blk_set hb 0 (.string x), hg⟩
theorem IsS55.set_1 {w0 W : World} {g : Nat} {f0 : ByteArray} {f1 : Int} {f2 : Int} (h : IsS55 w0 W g f0 f1 f2) (x : Int) : IsS55 w0 (W.setCell ⟨g, 1, none⟩ (.int .i64 x)) g f0 x f2 := by
 obtain ⟨hb, hg⟩ := h
 exact ⟨by simpa using blk_set hb 1 (.int .i64 x), hg⟩
def tithebarnref01_Cursor_Left.f (s0_0 : ByteArray) (s0_1 : Int) (s0_2 : Int) : Option (Int × ByteArray × Int × Int) := some (wrap64 ((s0_0.size : Int) - s0_1), s0_0, s0_1, s0_2)
def tithebarnref01_size.f (a0 : Int) : Option (Int) := if a0 < 64 then (some 1) else (if a0 < 128 then (some 2) else (if a0 < 192 then (some 4) else (some 9)))
mutual
def tithebarnref01_Cursor_peek.j0 : Nat → Int → Bool → ByteArray → Int → Int → Option (Int × Int × Int × ByteArray × Int × Int)
 | 0, _, _, _, _, _ => none
 | k + 1, x5, x34, x1000, x1001, x1002 => if x34 = true then (some (0, 0, 5, x1000, x1001, x1002)) else ((tithebarnref01_Cursor_Left.f x1000 x1001 x1002).bind fun bt386 => (if bt386.1 < x5 then (some (0, 0, 2, bt386.2.1, bt386.2.2.1, bt386.2.2.2)) else (if 0 ≤ bt386.2.2.1 then (if bt386.2.2.1 < (bt386.2.1.size : Int) then (tithebarnref01_Cursor_peek.l0 k x5 (IntKind.u64.wrap (Int.tmod (bt bt386.2.1 bt386.2.2.1) 64)) 1 bt386.2.1 bt386.2.2.1 bt386.2.2.2) else (none)) else (none))))
def tithebarnref01_Cursor_peek.l0 : Nat → Int → Int → Int → ByteArray → Int → Int → Option (Int × Int × Int × ByteArray × Int × Int)
 | 0, _, _, _, _, _, _ => none
 | k + 1, x5, x6, x7, x1000, x1001, x1002 => if x7 < x5 then (if 0 ≤ (wrap64 (x1001 + x7)) then (if (wrap64 (x1001 + x7)) < (x1000.size : Int) then (tithebarnref01_Cursor_peek.l0 k x5 (IntKind.u64.wrap ((IntKind.u64.wrap (256 * x6)) + (IntKind.u64.wrap (bt x1000 (wrap64 (x1001 + x7)))))) (wrap64 (x7 + 1)) x1000 x1001 x1002) else (none)) else (none)) else ((tithebarnref01_Uint.f k x6).bind fun t390 => (if (t390.size : Int) = x5 then (some (x6, x5, 0, x1000, x1001, x1002)) else (some (0, 0, 5, x1000, x1001, x1002))))
end
def tithebarnref01_Cursor_peek.f (k : Nat) (s0_0 : ByteArray) (s0_1 : Int) (s0_2 : Int) : Option (Int × Int × Int × ByteArray × Int × Int) := (tithebarnref01_Cursor_Left.f s0_0 s0_1 s0_2).bind fun bt381 => (if bt381.1 < 1 then (some (0, 0, 2, bt381.2.1, bt381.2.2.1, bt381.2.2.2)) else (if 0 ≤ bt381.2.2.1 then (if bt381.2.2.1 < (bt381.2.1.size : Int) then ((tithebarnref01_size.f (bt bt381.2.1 bt381.2.2.1)).bind fun t385 => (if t385 = 9 then (tithebarnref01_Cursor_peek.j0 k t385 ((bt bt381.2.1 bt381.2.2.1) != 192) bt381.2.1 bt381.2.2.1 bt381.2.2.2) else (tithebarnref01_Cursor_peek.j0 k t385 false bt381.2.1 bt381.2.2.1 bt381.2.2.2))) else (none)) else (none)))
end Go.Proofs.Ytgeddoklmcjdcaa.G
namespace Go.Proofs.Ytgeddoklmcjdcaa.G
open Go.RowKit Go.Proofs.YtgeddoklmcjdcaaQ Go.Proofs.YtgeddoklmcjdcaaW.PrintWords Go.Proofs.YtgeddoklmcjdcaaW.PrintLast Go.Proofs.YtgeddoklmcjdcaaW.PrintMore
attribute [local go_sem] max2_int min2_int max_two min_two max_three min_three max_four min_four   -- for this text's walks alone
set_option linter.unusedVariables false
set_option linter.unusedSimpArgs false
mutual
def tithebarnref04_offsets.l0 : Nat → List Int → Int → Int → Option (Int × List Int)
 | 0, _, _, _ => none
 | k + 1, x0, x4, x5 => if x5 < (x0.length : Int) then (if 0 ≤ x5 then (tithebarnref04_offsets.l0 k x0 (mn x4 (rd x0 x5)) (wrap64 (x5 + 1))) else (none)) else (tithebarnref04_offsets.l1 k x0 x4 ([] : List Int) 0)
def tithebarnref04_offsets.l1 : Nat → List Int → Int → List Int → Int → Option (Int × List Int)
 | 0, _, _, _, _ => none
 | k + 1, x0, x4, x6, x7 => if x7 < (x0.length : Int) then (if 0 ≤ x7 then (if x6.length < 17592186044416 then (tithebarnref04_offsets.l1 k x0 x4 (x6 ++ [IntKind.u64.wrap ((IntKind.u64.wrap (rd x0 x7)) - (IntKind.u64.wrap (x4)))]) (wrap64 (x7 + 1))) else (none)) else (none)) else (some (x4, x6))
end
def tithebarnref04_offsets.f (k : Nat) (l0 : List Int) : Option (Int × List Int) := if 0 < (l0.length : Int) then (tithebarnref04_offsets.l0 k l0 (rd l0 0) 0) else (none)
end Go.Proofs.Ytgeddoklmcjdcaa.G
namespace Go.Proofs.Ytgeddoklmcjdcaa.G
open Go.RowKit Go.Proofs.YtgeddoklmcjdcaaQ Go.Proofs.YtgeddoklmcjdcaaW.PrintWords Go.Proofs.YtgeddoklmcjdcaaW.PrintLast Go.Proofs.YtgeddoklmcjdcaaW.PrintMore
attribute [local go_sem] max2_int min2_int max_two min_two max_three min_three max_four min_four   -- for this text's walks alone
set_option linter.unusedVariables false
set_option linter.unusedSimpArgs false
def tithebarnref03_fits.f (a0 : Int) (a1 : Int) : Option (Bool) := if a1 ≥ 64 then (some true) else (if 0 ≤ (IntKind.u64.wrap (a1)) then (some (decide (a0 < (shl .u64 1 (IntKind.u64.wrap (a1)))))) else (none))
mutual
def tithebarnref03_Width.l0 : Nat → List Int → Int → Int → Option (Int)
 | 0, _, _, _ => none
 | k + 1, x0, x3, x4 => if x4 < (x0.length : Int) then (tithebarnref03_Width.l1 k x0 x3 x4) else (some x3)
def tithebarnref03_Width.l1 : Nat → List Int → Int → Int → Option (Int)
 | 0, _, _, _ => none
 | k + 1, x0, x3, x4 => if 0 ≤ x4 then (if x4 < (x0.length : Int) then ((tithebarnref03_fits.f (rd x0 x4) x3).bind fun t332 => (if t332 = true then (tithebarnref03_Width.l0 k x0 x3 (wrap64 (x4 + 1))) else (tithebarnref03_Width.l1 k x0 (wrap64 (x3 + 1)) x4))) else (none)) else (none)
end
def tithebarnref03_Width.f (k : Nat) (l0 : List Int) : Option (Int) := tithebarnref03_Width.l0 k l0 0 0
def tithebarnref03_Bytes.l0 : Nat → List Bool → List Int → Int → Option (ByteArray)
 | 0, _, _, _ => none
 | k + 1, x0, x3, x4 => if x4 < (x0.length : Int) then (if 0 ≤ x4 then (if rdOf false x0 x4 = true then (if 0 ≤ (wrap64 (Int.tdiv x4 8)) then (if (wrap64 (Int.tdiv x4 8)) < (x3.length : Int) then (if 0 ≤ (IntKind.u64.wrap (Int.tmod x4 8)) then (tithebarnref03_Bytes.l0 k x0 (x3.set ((wrap64 (Int.tdiv x4 8)) : Int).toNat (((rd x3 (wrap64 (Int.tdiv x4 8))) + (shl .u8 1 (IntKind.u64.wrap (Int.tmod x4 8)))) % 256)) (wrap64 (x4 + 1))) else (none)) else (none)) else (none)) else (tithebarnref03_Bytes.l0 k x0 x3 (wrap64 (x4 + 1)))) else (none)) else (some (strOfNums x3))
def tithebarnref03_Bytes.f (k : Nat) (l0 : List Bool) : Option (ByteArray) := if 0 ≤ (wrap64 (Int.tdiv (wrap64 ((l0.length : Int) + 7)) 8)) then (if (wrap64 (Int.tdiv (wrap64 ((l0.length : Int) + 7)) 8) : Int).toNat ≤ 281474976710656 then (tithebarnref03_Bytes.l0 k l0 (List.replicate (wrap64 (Int.tdiv (wrap64 ((l0.length : Int) + 7)) 8) : Int).toNat 0) 0) else (none)) else (none)
end Go.Proofs.Ytgeddoklmcjdcaa.G
namespace Go.Proofs.Ytgeddoklmcjdcaa.G
open Go.RowKit Go.Proofs.YtgeddoklmcjdcaaQ Go.Proofs.YtgeddoklmcjdcaaW.PrintWords Go.Proofs.YtgeddoklmcjdcaaW.PrintLast Go.Proofs.YtgeddoklmcjdcaaW.PrintMore
attribute [local go_sem] max2_int min2_int max_two min_two max_three min_three max_four min_four   -- for this text's walks alone
set_option linter.unusedVariables false
set_option linter.unusedSimpArgs false
def tithebarnref03_Bit.f (a0 : ByteArray) (a1 : Int) : Option (Bool) := if 0 ≤ (wrap64 (Int.tdiv a1 8)) then (if (wrap64 (Int.tdiv a1 8)) < (a0.size : Int) then (if 0 ≤ (IntKind.u64.wrap (Int.tmod a1 8)) then (some ((Int.tmod (shr .u8 (bt a0 (wrap64 (Int.tdiv a1 8))) (IntKind.u64.wrap (Int.tmod a1 8))) 2) == 1)) else (none)) else (none)) else (none)
end Go.Proofs.Ytgeddoklmcjdcaa.G
namespace Go.Proofs.Ytgeddoklmcjdcaa.G
open Go.RowKit Go.Proofs.YtgeddoklmcjdcaaQ Go.Proofs.YtgeddoklmcjdcaaW.PrintWords Go.Proofs.YtgeddoklmcjdcaaW.PrintLast Go.Proofs.YtgeddoklmcjdcaaW.PrintMore
attribute [local go_sem] max2_int min2_int max_two min_two max_three min_three max_four min_four   -- for this text's walks alone
set_option linter.unusedVariables false
set_option linter.unusedSimpArgs false
mutual
def tithebarnref03_unbits.l0 : Nat → ByteArray → Int → Int → List Bool → Int → Option (List Bool × Int)
 | 0, _, _, _, _, _ => none
 | k + 1, x0, x1, x6, x7, x8 => if x8 < (wrap64 (8 * x6)) then ((tithebarnref03_Bit.f x0 x8).bind fun t424 => (if x8 ≥ x1 then (tithebarnref03_unbits.j1 k x0 x1 x6 x7 x8 t424 t424) else (tithebarnref03_unbits.j1 k x0 x1 x6 x7 x8 t424 false))) else (some (x7, 0))
def tithebarnref03_unbits.j1 : Nat → ByteArray → Int → Int → List Bool → Int → Bool → Bool → Option (List Bool × Int)
 | 0, _, _, _, _, _, _, _ => none
 | k + 1, x0, x1, x6, x7, x8, x9, x35 => if x35 = true then (some (([] : List Bool), 5)) else (if x8 < x1 then (if x7.length < 140737488355328 then (tithebarnref03_unbits.l0 k x0 x1 x6 (x7 ++ [x9]) (wrap64 (x8 + 1))) else (none)) else (tithebarnref03_unbits.l0 k x0 x1 x6 x7 (wrap64 (x8 + 1))))
end
def tithebarnref03_unbits.f (k : Nat) (a0 : ByteArray) (a1 : Int) : Option (List Bool × Int) := if (a0.size : Int) < (wrap64 (Int.tdiv (wrap64 (a1 + 7)) 8)) then (some (([] : List Bool), 2)) else (if (a0.size : Int) > (wrap64 (Int.tdiv (wrap64 (a1 + 7)) 8)) then (some (([] : List Bool), 3)) else (tithebarnref03_unbits.l0 k a0 a1 (wrap64 (Int.tdiv (wrap64 (a1 + 7)) 8)) ([] : List Bool) 0))
mutual
def tithebarnref03_Unpack.j0 : Nat → ByteArray → Int → Int → Bool → Option (List Int × Int)
 | 0, _, _, _, _ => none
 | k + 1, x0, x1, x2, x27 => if x27 = true then (some (([] : List Int), 1)) else ((tithebarnref03_unbits.f k x0 (wrap64 (x1 * x2))).bind fun bt428 => (if bt428.2 = 0 then (tithebarnref03_Unpack.l0 k x1 x2 bt428.1 ([] : List Int) 0) else (some (([] : List Int), bt428.2))))
def tithebarnref03_Unpack.l0 : Nat → Int → Int → List Bool → List Int → Int → Option (List Int × Int)
 | 0, _, _, _, _, _ => none
 | k + 1, x1, x2, x8, x10, x11 => if x11 < x1 then (tithebarnref03_Unpack.l1 k x1 x2 x8 x10 x11 0 0) else (some (x10, 0))
def tithebarnref03_Unpack.l1 : Nat → Int → Int → List Bool → List Int → Int → Int → Int → Option (List Int × Int)
 | 0, _, _, _, _, _, _, _ => none
 | k + 1, x1, x2, x8, x10, x11, x12, x13 => if x13 < x2 then (if 0 ≤ (wrap64 ((wrap64 (x11 * x2)) + x13)) then (if (wrap64 ((wrap64 (x11 * x2)) + x13)) < (x8.length : Int) then (if rdOf false x8 (wrap64 ((wrap64 (x11 * x2)) + x13)) = true then (if 0 ≤ (IntKind.u64.wrap (x13)) then (tithebarnref03_Unpack.l1 k x1 x2 x8 x10 x11 (IntKind.u64.wrap (x12 + (shl .u64 1 (IntKind.u64.wrap (x13))))) (wrap64 (x13 + 1))) else (none)) else (tithebarnref03_Unpack.l1 k x1 x2 x8 x10 x11 x12 (wrap64 (x13 + 1)))) else (none)) else (none)) else (if x10.length < 17592186044416 then (tithebarnref03_Unpack.l0 k x1 x2 x8 (x10 ++ [x12]) (wrap64 (x11 + 1))) else (none))
end
def tithebarnref03_Unpack.f (k : Nat) (a0 : ByteArray) (a1 : Int) (a2 : Int) : Option (List Int × Int) := if a2 < 0 then (tithebarnref03_Unpack.j0 k a0 a1 a2 true) else (if a2 > 64 then (tithebarnref03_Unpack.j0 k a0 a1 a2 true) else (if a1 < 0 then (tithebarnref03_Unpack.j0 k a0 a1 a2 true) else (tithebarnref03_Unpack.j0 k a0 a1 a2 (decide (a1 > 65536)))))
end Go.Proofs.Ytgeddoklmcjdcaa.G
namespace Go.Proofs.Ytgeddoklmcjdcaa.G
open Go.RowKit Go.Proofs.YtgeddoklmcjdcaaQ Go.Proofs.YtgeddoklmcjdcaaW.PrintWords Go.Proofs.YtgeddoklmcjdcaaW.PrintLast Go.Proofs.YtgeddoklmcjdcaaW.PrintMore
attribute [local go_sem] max2_int min2_int max_two min_two max_three min_three max_four min_four   -- for this text's walks alone
set_option linter.unusedVariables false
set_option linter.unusedSimpArgs false
def tithebarnref01_Cursor_Done.f (s0_0 : ByteArray) (s0_1 : Int) (s0_2 : Int) : Option (Int × ByteArray × Int × Int) := if s0_2 = 0 then ((tithebarnref01_Cursor_Left.f s0_0 s0_1 s0_2).bind fun bt466 => (if bt466.1 > 0 then (some (5, bt466.2.1, bt466.2.2.1, bt466.2.2.2)) else (some (bt466.2.2.2, bt466.2.1, bt466.2.2.1, bt466.2.2.2)))) else (some (s0_2, s0_0, s0_1, s0_2))
end Go.Proofs.Ytgeddoklmcjdcaa.G
namespace Go.Proofs.Ytgeddoklmcjdcaa.G
open Go.RowKit Go.Proofs.YtgeddoklmcjdcaaQ Go.Proofs.YtgeddoklmcjdcaaW.PrintWords Go.Proofs.YtgeddoklmcjdcaaW.PrintLast Go.Proofs.YtgeddoklmcjdcaaW.PrintMore
set_option linter.unusedVariables false
set_option linter.unusedSimpArgs false
theorem w64' (x : Int) (h0 : -9223372036854775808 ≤ x) (h1 : x < 9223372036854775808) : wrap64 x = x := w64 h0 h1
theorem big_step (k : Nat) (l : List Int) (x : Int) (i : Nat) (hi : i ≤ 7) (hl : l.length < 140737488355328) :
  tally_big.l0 (k + 1) l x i = tally_big.l0 k (l ++ [x / 256 ^ i % 256]) x ((i : Int) - 1) := by
 simp only [tally_big.l0]
 rw [if_pos (by omega), w64' (8 * (i : Int)) (by omega) (by omega), if_pos (by omega), if_pos hl, w64' ((i : Int) - 1) (by omega) (by omega)]
 have e : (8 * (i : Int)) = ((8 * i : Nat) : Int) := by omega
 rw [e, shr_u64_lit x (8 * i) (by omega)]
 have e2 : (256 : Int) ^ i = 2 ^ (8 * i) := by rw [Int.pow_mul]; rfl
 rw [e2]
theorem big_end (k : Nat) (l : List Int) (x : Int) : tally_big.l0 (k + 1) l x (-1) = some l := by
 simp only [tally_big.l0]; rw [if_neg (by omega)]
def bigs (x : Int) : Nat → List Int
 | 0 => []
 | n + 1 => x / 256 ^ n % 256 :: bigs x n
theorem big_f (n : Nat) (hn : n ≤ 8) : ∀ (k : Nat) (l : List Int) (x : Int), n < k → l.length + n ≤ 140737488355328 → tally_big.l0 k l x ((n : Int) - 1) = some (l ++ bigs x n) := by
 induction n with
 | zero =>
  intro k l x hk hl
  obtain ⟨k, rfl⟩ : ∃ m, k = m + 1 := ⟨k - 1, by omega⟩
  have e : ((0 : Nat) : Int) - 1 = -1 := by omega
  rw [e, big_end]; simp [bigs]
 | succ n ih =>
  intro k l x hk hl
  obtain ⟨k, rfl⟩ : ∃ m, k = m + 1 := ⟨k - 1, by omega⟩
  have e : ((n + 1 : Nat) : Int) - 1 = (n : Int) := by omega
  rw [e, big_step k l x n (by omega) (by omega), ih (by omega) k _ x (by omega) (by simp; omega)]
  simp [bigs]
theorem Uint_f {k : Nat} (hk : 10 ≤ k) {l : List Int} (hl : l.length + 9 ≤ 140737488355328) {x : Int} (hx : u64 x) : tally_Uint.f k l x = some (l ++ encU x) := by
 obtain ⟨h0, h1⟩ := hx
 unfold tally_Uint.f encU
 by_cases c1 : x < 64
 ·rw [if_pos (by omega), if_pos (by omega), if_pos c1]
  simp; omega
 ·rw [if_neg (by omega), if_neg c1]
  by_cases c2 : x < 16384
  ·rw [if_pos (by omega), if_pos c2, or_join' 16384 x 14 (by omega) (by omega) (by omega) (by omega) (by decide) (by simp; omega)]
   unfold tally_big.f
   have e : wrap64 (2 - 1) = ((2 : Nat) : Int) - 1 := by unfold wrap64; decide
   rw [e, big_f 2 (by omega) k l _ (by omega) (by omega)]
   simp [bigs]; omega
  ·rw [if_neg (by omega), if_neg c2]
   by_cases c3 : x < 1073741824
   ·rw [if_pos (by omega), if_pos c3, or_join' 2147483648 x 30 (by omega) (by omega) (by omega) (by omega) (by decide) (by simp; omega)]
    unfold tally_big.f
    have e : wrap64 (4 - 1) = ((4 : Nat) : Int) - 1 := by unfold wrap64; decide
    rw [e, big_f 4 (by omega) k l _ (by omega) (by omega)]
    simp [bigs]; omega
   ·rw [if_neg (by omega), if_neg c3, if_pos (by omega)]
    unfold tally_big.f
    have e : wrap64 (8 - 1) = ((8 : Nat) : Int) - 1 := by unfold wrap64; decide
    rw [e, big_f 8 (by omega) k _ _ (by omega) (by simp; omega)]
    simp [bigs]
theorem Int_f {k : Nat} (hk : 10 ≤ k) {l : List Int} (hl : l.length + 9 ≤ 140737488355328) {x : Int} (hx : i64 x) : tally_Int.f k l x = some (l ++ encI x) := by
 unfold tally_Int.f
 rw [zig x hx, Uint_f hk hl (fold_u64 hx)]; rfl
def aUint (r : List Int) (e : Int) : Int × List Int × Int := if e = 0 then ((decU r).1, r.drop (decU r).2.1, (decU r).2.2) else (0, r, e)
def aInt (r : List Int) (e : Int) : Int × List Int × Int := (unfold_ (aUint r e).1, (aUint r e).2)
def aByte (r : List Int) (e : Int) : Int × List Int × Int := if e = 0 then (match r with | [] => (0, [], 2) | b :: t => (b, t, 0)) else (0, r, e)
def aDone (r : List Int) (e : Int) : Int := if e = 0 then (if r = [] then 0 else 5) else e
theorem decU_u64 {r : List Int} (hr : Bs r) : u64 (decU r).1 := by
 rcases h : decU r with ⟨x, n, e⟩
 rcases decU_err h with ⟨rfl, _⟩ | ⟨_, rfl, _⟩
 ·exact (decU_bytes hr h).2.1
 ·unfold u64; simp
theorem aUint_u64 {r : List Int} (hr : Bs r) (e : Int) : u64 (aUint r e).1 := by
 unfold aUint; split
 ·exact decU_u64 hr
 ·unfold u64; simp
theorem aUint_Bs {r : List Int} (hr : Bs r) (e : Int) : Bs (aUint r e).2.1 := by
 unfold aUint; split
 ·exact hr.drop _
 ·exact hr
theorem aInt_Bs {r : List Int} (hr : Bs r) (e : Int) : Bs (aInt r e).2.1 := aUint_Bs hr e
theorem aByte_Bs {r : List Int} (hr : Bs r) (e : Int) : Bs (aByte r e).2.1 := by
 unfold aByte; split
 ·split
  ·exact Bs.nil
  ·exact hr.tail
 ·exact hr
theorem cUint_f (s : ByteArray) (e : Int) : tally_Cursor_Uint.f s e = some ((aUint (bytesOf s) e).1, strOfNums (aUint (bytesOf s) e).2.1, (aUint (bytesOf s) e).2.2) := by
 unfold tally_Cursor_Uint.f tally_Cursor_ok.f tally_next.f aUint
 simp only [Option.bind_some]
 by_cases c : e = 0
 ·rw [if_pos (by simpa using c), if_pos c]
  simp only
  rw [← bytesOf_tail, strOfNums_bytesOf]
 ·rw [if_neg (by simpa using c), if_neg c]
  simp only
  rw [strOfNums_bytesOf]
theorem cInt_f (s : ByteArray) (e : Int) : tally_Cursor_Int.f s e = some ((aInt (bytesOf s) e).1, strOfNums (aInt (bytesOf s) e).2.1, (aInt (bytesOf s) e).2.2) := by
 unfold tally_Cursor_Int.f
 rw [cUint_f]
 simp only [Option.bind_some]
 rw [zag _ (aUint_u64 (Bs.bytesOf s) e)]; rfl
theorem toList_nil (s : ByteArray) : s.toList = [] ↔ bytesOf s = [] := by rw [ByteArray.toList_eq]; unfold bytesOf; simp
theorem cByte_f (s : ByteArray) (e : Int) (hs : s.size ≤ 9223372036854775807) : tally_Cursor_Byte.f s e = some ((aByte (bytesOf s) e).1, strOfNums (aByte (bytesOf s) e).2.1, (aByte (bytesOf s) e).2.2) := by
 unfold tally_Cursor_Byte.f tally_Cursor_ok.f aByte
 simp only [Option.bind_some]
 by_cases c : e = 0
 ·rw [if_pos (by simpa using c), if_pos c]
  by_cases d : bytesOf s = []
  ·rw [if_pos ((toList_nil s).2 d), d, eq_nil_of_bytes d]; rfl
  ·rw [if_neg (fun h => d ((toList_nil s).1 h))]
   rcases hl : bytesOf s with _ | ⟨b, t⟩
   ·exact absurd hl d
   ·have hsz : s.size = t.length + 1 := by rw [size_eq, hl]; rfl
    rw [if_pos (by omega), if_pos (by omega)]
    have hb : bt s 0 = b := by rw [bt_rd, hl]; rfl
    have hr := bt_range s 0
    have ht : bytesOf (s.extract 1 s.size) = t := by rw [bytesOf_tail, hl]; rfl
    simp only
    rw [w64 (by omega) (by omega), hb, ← ht, strOfNums_bytesOf, c]
 ·rw [if_neg (by simpa using c), if_neg c]
  simp only
  rw [strOfNums_bytesOf]
theorem cDone_f (s : ByteArray) (e : Int) : tally_Cursor_Done.f s e = some (aDone (bytesOf s) e, s, e) := by
 unfold tally_Cursor_Done.f tally_Cursor_ok.f tally_Cursor_Err.f aDone
 simp only [Option.bind_some]
 by_cases c : e = 0
 ·rw [if_pos (by simpa using c), if_pos c]
  by_cases d : bytesOf s = []
  ·rw [if_pos ((toList_nil s).2 d), if_pos d, c]
  ·rw [if_neg (fun h => d ((toList_nil s).1 h)), if_neg d]
 ·rw [if_neg (by simpa using c), if_neg c]
end Go.Proofs.Ytgeddoklmcjdcaa.G
namespace Go.Proofs.Ytgeddoklmcjdcaa.G
open Go.RowKit Go.Proofs.YtgeddoklmcjdcaaQ Go.Proofs.YtgeddoklmcjdcaaW.PrintWords Go.Proofs.YtgeddoklmcjdcaaW.PrintLast Go.Proofs.YtgeddoklmcjdcaaW.PrintMore
attribute [local go_sem] max2_int min2_int max_two min_two max_three min_three max_four min_four   -- for this text's walks alone
set_option linter.unusedVariables false
set_option linter.unusedSimpArgs false
mutual
def tithebarnref03_Pack.j0 : Nat → List Int → Int → Bool → Option (ByteArray × Int)
 | 0, _, _, _ => none
 | k + 1, x0, x1, x14 => if x14 = true then (some ((⟨#[]⟩ : ByteArray), 1)) else (tithebarnref03_Pack.l0 k x0 x1 ([] : List Bool) 0)
def tithebarnref03_Pack.l0 : Nat → List Int → Int → List Bool → Int → Option (ByteArray × Int)
 | 0, _, _, _, _ => none
 | k + 1, x0, x1, x6, x7 => if x7 < (x0.length : Int) then (if 0 ≤ x7 then ((tithebarnref03_fits.f (rd x0 x7) x1).bind fun t341 => (if t341 = true then (tithebarnref03_Pack.l1 k x0 x1 x6 x7 0) else (some ((⟨#[]⟩ : ByteArray), 4)))) else (none)) else ((tithebarnref03_Bytes.f k x6).bind fun t339 => (some (t339, 0)))
def tithebarnref03_Pack.l1 : Nat → List Int → Int → List Bool → Int → Int → Option (ByteArray × Int)
 | 0, _, _, _, _, _ => none
 | k + 1, x0, x1, x6, x7, x8 => if x8 < x1 then (if 0 ≤ x7 then (if x7 < (x0.length : Int) then (if 0 ≤ (IntKind.u64.wrap (x8)) then (if x6.length < 140737488355328 then (tithebarnref03_Pack.l1 k x0 x1 (x6 ++ [((Int.tmod (shr .u64 (rd x0 x7) (IntKind.u64.wrap (x8))) 2) == 1)]) x7 (wrap64 (x8 + 1))) else (none)) else (none)) else (none)) else (none)) else (tithebarnref03_Pack.l0 k x0 x1 x6 (wrap64 (x7 + 1)))
end
def tithebarnref03_Pack.f (k : Nat) (l0 : List Int) (a1 : Int) : Option (ByteArray × Int) := if a1 < 0 then (tithebarnref03_Pack.j0 k l0 a1 true) else (tithebarnref03_Pack.j0 k l0 a1 (decide (a1 > 64)))
end Go.Proofs.Ytgeddoklmcjdcaa.G
namespace Go.Proofs.YtgeddoklmcjdcaaQ
open Go.Proofs.YtgeddoklmcjdcaaW.PrintWords
set_option linter.unusedVariables false
set_option linter.unusedSimpArgs false
theorem tb (N k : Nat) : N.testBit k = decide (N / 2 ^ k % 2 = 1) := Nat.testBit_eq_decide_div_mod_eq
end Go.Proofs.YtgeddoklmcjdcaaQ
namespace Go.Proofs.Ytgeddoklmcjdcaa.G
open Go.RowKit Go.Proofs.YtgeddoklmcjdcaaQ Go.Proofs.YtgeddoklmcjdcaaW.PrintWords Go.Proofs.YtgeddoklmcjdcaaW.PrintLast Go.Proofs.YtgeddoklmcjdcaaW.PrintMore
set_option linter.unusedVariables false
set_option linter.unusedSimpArgs false
theorem natsOf_str {l : List Nat} (h : ∀ x ∈ l, x < 256) : natsOf (strOfNums (ints l)) = l := by
 have h1 := ints_natsOf (strOfNums (ints l))
 rw [bytesOf_strOfNums (ints_Bs h)] at h1
 rw [← unats_ints (natsOf (strOfNums (ints l))), h1, unats_ints]
theorem num_str {l : List Nat} (h : ∀ x ∈ l, x < 256) : num (strOfNums (ints l)) = val 256 l := by unfold num; rw [natsOf_str h]
theorem size_ints (l : List Nat) : (strOfNums (ints l)).size = l.length := by rw [size_strOfNums, ints_len]
theorem ints_U64 {l : List Nat} {w : Nat} (hw : w ≤ 64) (h : ∀ x ∈ l, x < 2 ^ w) : U64 (ints l) := by
 intro y hy
 obtain ⟨x, hx, rfl⟩ := List.mem_map.1 hy
 have h1 := h x hx
 have h2 : 2 ^ w ≤ 2 ^ 64 := Nat.pow_le_pow_right (by omega) hw
 omega
theorem Pack_ok {l : List Int} {w : Nat} (hl : l.length ≤ 17592186043904) (hU : U64 l) (hw : w ≤ 64) (h : wd (unats l) ≤ w) : bits_Pack.f l (w : Int) = some (strOfNums (ints (pk w (unats l))), 0) := by
 unfold bits_Pack.f; rw [if_pos ⟨hl, hU⟩, if_neg (by omega), if_pos (by omega), Int.toNat_natCast]
theorem Unpack_ok {s : ByteArray} {n w : Nat} (hs : s.size ≤ 140737488355328) (hn : n ≤ 65536) (hw : w ≤ 64) (h : fitE s (n * w) = 0) : bits_Unpack.f s (n : Int) (w : Int) = some (ints (dig (2 ^ w) n (num s)), 0) := by
 unfold bits_Unpack.f; rw [if_pos hs, if_neg (by omega), Int.toNat_natCast, Int.toNat_natCast, if_pos h]
theorem Unpack_bad {s : ByteArray} {n w : Nat} (hs : s.size ≤ 140737488355328) (hn : n ≤ 65536) (hw : w ≤ 64) (h : fitE s (n * w) ≠ 0) : bits_Unpack.f s (n : Int) (w : Int) = some ([], fitE s (n * w)) := by
 unfold bits_Unpack.f; rw [if_pos hs, if_neg (by omega), Int.toNat_natCast, Int.toNat_natCast, if_neg h]
theorem fitE_zero {s : ByteArray} {m : Nat} : fitE s m = 0 ↔ s.size = need m ∧ num s < 2 ^ m := by
 unfold fitE
 by_cases c1 : s.size < need m
 ·rw [if_pos c1]; exact ⟨fun h => absurd h (by decide), fun h => by omega⟩
 ·rw [if_neg c1]
  by_cases c2 : need m < s.size
  ·rw [if_pos c2]; exact ⟨fun h => absurd h (by decide), fun h => by omega⟩
  ·rw [if_neg c2]
   by_cases c3 : num s < 2 ^ m
   ·rw [if_pos c3]; exact ⟨fun _ => ⟨by omega, c3⟩, fun _ => rfl⟩
   ·rw [if_neg c3]; exact ⟨fun h => absurd h (by decide), fun h => absurd h.2 c3⟩
theorem fit_pk {w : Nat} {l : List Nat} (h : ∀ x ∈ l, x < 2 ^ w) : fitE (strOfNums (ints (pk w l))) (l.length * w) = 0 := by
 rw [fitE_zero, size_ints, pk_len, num_str (pk_lt w l)]
 exact ⟨rfl, pk_small h⟩
theorem back_pk {w : Nat} {l : List Nat} (h : ∀ x ∈ l, x < 2 ^ w) : dig (2 ^ w) l.length (num (strOfNums (ints (pk w l)))) = l := by
 rw [num_str (pk_lt w l)]; exact unpk_pk h
theorem rd_ints {l : List Nat} {i : Nat} (h : i < l.length) : rd (ints l) (i : Int) = ((l[i] : Nat) : Int) := by
 unfold rd ints
 rw [Int.toNat_natCast, List.getD_eq_getElem?_getD, List.getElem?_map, List.getElem?_eq_getElem h]; rfl
end Go.Proofs.Ytgeddoklmcjdcaa.G
