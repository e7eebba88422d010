import Derived.Test.YtgeddoklmcjdcaaZQA
import Derived.Test.YtgeddoklmcjdcaaZG6
namespace Go.Proofs.Ytgeddoklmcjdcaa.G
open Go.RowKit Go.Proofs.YtgeddoklmcjdcaaQ Go.Proofs.YtgeddoklmcjdcaaW.PrintWords Go.Proofs.YtgeddoklmcjdcaaW.PrintLast Go.Proofs.YtgeddoklmcjdcaaW.PrintMore
attribute [local go_sem] max2_int min2_int max_two min_two max_three min_three max_four min_four   -- for this text's walks alone
set_option linter.unusedVariables false
set_option linter.unusedSimpArgs false
mutual
def ints_readPacked.l0 : Nat → Int → Int → Int → List Int → Int → Int → ByteArray → Int → Option (List Int × Int × ByteArray × Int)
 | 0, _, _, _, _, _, _, _, _ => none
 | k + 1, x1, x6, x7, x9, x39, x40, x1000, x1001 => if x40 < x39 then ((tally_Cursor_Byte.f x1000 x1001).bind fun bt267 => (if x9.length < 140737488355328 then (ints_readPacked.l0 k x1 x6 x7 (x9 ++ [(bt267.1) % 256]) x39 (wrap64 (x40 + 1)) bt267.2.1 bt267.2.2) else (none))) else ((bits_Unpack.f (strOfNums x9) x1 x7).bind fun bt273 => (if bt273.2 = 0 then (ints_readPacked.l1 k x6 x7 bt273.1 ([] : List Int) bt273.1 (bt273.1.length : Int) 0 x1000 x1001) else (some (([] : List Int), bt273.2, x1000, x1001))))
def ints_readPacked.l1 : Nat → Int → Int → List Int → List Int → List Int → Int → Int → ByteArray → Int → Option (List Int × Int × ByteArray × Int)
 | 0, _, _, _, _, _, _, _, _, _ => none
 | k + 1, x6, x7, x10, x12, x60, x61, x62, x1000, x1001 => if x62 < x61 then (if 0 ≤ x62 then (if x62 < (x60.length : Int) then (if x12.length < 17592186044416 then (ints_readPacked.l1 k x6 x7 x10 (x12 ++ [wrap64 (x6 + (wrap64 (rd x60 x62)))]) x60 x61 (wrap64 (x62 + 1)) x1000 x1001) else (none)) else (none)) else (none)) else ((slices_Min_int64_int64.f k x12).bind fun t281 => (if t281 = x6 then ((bits_Width.f k x10).bind fun t282 => (if t282 = x7 then (some (x12, 0, x1000, x1001)) else (some (([] : List Int), 4, x1000, x1001)))) else (some (([] : List Int), 4, x1000, x1001))))
end
def ints_readPacked.f (k : Nat) (s0_0 : ByteArray) (s0_1 : Int) (a1 : Int) : Option (List Int × Int × ByteArray × Int) := if a1 = 0 then (some (([] : List Int), 0, s0_0, s0_1)) else ((tally_Cursor_Int.f s0_0 s0_1).bind fun bt252 => ((tally_Cursor_Byte.f bt252.2.1 bt252.2.2).bind fun bt255 => ((tally_Cursor_Err.f bt255.2.1 bt255.2.2).bind fun bt258 => (if bt258.1 = 0 then (if bt255.1 > 64 then (some (([] : List Int), 4, bt258.2.1, bt258.2.2)) else ((tally_Cursor_Left.f bt258.2.1 bt258.2.2).bind fun bt264 => (if bt264.1 < (wrap64 (Int.tdiv (wrap64 ((wrap64 (a1 * bt255.1)) + 7)) 8)) then (some (([] : List Int), 2, bt264.2.1, bt264.2.2)) else (ints_readPacked.l0 k a1 bt252.1 bt255.1 ([] : List Int) (wrap64 (Int.tdiv (wrap64 ((wrap64 (a1 * bt255.1)) + 7)) 8)) 0 bt264.2.1 bt264.2.2)))) else ((tally_Cursor_Err.f bt258.2.1 bt258.2.2).bind fun bt261 => (some (([] : List Int), bt261.1, bt261.2.1, bt261.2.2)))))))
theorem ints_readPacked.mono_l : ∀ k, (∀ y0 y1 y2 y3 y4 y5 y6 y7, LeO (ints_readPacked.l0 k y0 y1 y2 y3 y4 y5 y6 y7) (ints_readPacked.l0 (k + 1) y0 y1 y2 y3 y4 y5 y6 y7)) ∧ (∀ y0 y1 y2 y3 y4 y5 y6 y7 y8, LeO (ints_readPacked.l1 k y0 y1 y2 y3 y4 y5 y6 y7 y8) (ints_readPacked.l1 (k + 1) y0 y1 y2 y3 y4 y5 y6 y7 y8))
 | 0 => ⟨fun _ _ _ _ _ _ _ _ r h => by simp [ints_readPacked.l0] at h, fun _ _ _ _ _ _ _ _ _ r h => by simp [ints_readPacked.l1] at h⟩
 | k + 1 => by
  obtain ⟨ih0, ih1⟩ := ints_readPacked.mono_l k
  refine ⟨?_, ?_⟩
  ·intro y0 y1 y2 y3 y4 y5 y6 y7
   unfold ints_readPacked.l0
   repeat' first
   | (with_reducible exact ih0 _ _ _ _ _ _ _ _)
   | (with_reducible exact ih1 _ _ _ _ _ _ _ _ _)
   | (with_reducible exact bits_Width.mono _ _)
   | (with_reducible exact slices_Min_int64_int64.mono _ _)
   | (with_reducible exact LeO.refl _)
   | (with_reducible exact LeO.none _)
   | (with_reducible refine LeO.ite ?_ ?_)
   | (with_reducible refine LeO.bind ?_ (fun _ => ?_))
   | exact ih0 _ _ _ _ _ _ _ _
   | exact ih1 _ _ _ _ _ _ _ _ _
   | exact bits_Width.mono _ _
   | exact slices_Min_int64_int64.mono _ _
   | exact LeO.none _
   | refine LeO.ite ?_ ?_
   | refine LeO.bind ?_ (fun _ => ?_)
  ·intro y0 y1 y2 y3 y4 y5 y6 y7 y8
   unfold ints_readPacked.l1
   repeat' first
   | (with_reducible exact ih0 _ _ _ _ _ _ _ _)
   | (with_reducible exact ih1 _ _ _ _ _ _ _ _ _)
   | (with_reducible exact bits_Width.mono _ _)
   | (with_reducible exact slices_Min_int64_int64.mono _ _)
   | (with_reducible exact LeO.refl _)
   | (with_reducible exact LeO.none _)
   | (with_reducible refine LeO.ite ?_ ?_)
   | (with_reducible refine LeO.bind ?_ (fun _ => ?_))
   | exact ih0 _ _ _ _ _ _ _ _
   | exact ih1 _ _ _ _ _ _ _ _ _
   | exact bits_Width.mono _ _
   | exact slices_Min_int64_int64.mono _ _
   | exact LeO.none _
   | refine LeO.ite ?_ ?_
   | refine LeO.bind ?_ (fun _ => ?_)
theorem ints_readPacked.mono : ∀ a0 a1 a2 k, LeO (ints_readPacked.f k a0 a1 a2) (ints_readPacked.f (k + 1) a0 a1 a2) := by
 intro a0 a1 a2 k
 obtain ⟨ih0, ih1⟩ := ints_readPacked.mono_l k
 unfold ints_readPacked.f
 repeat' first
   | (with_reducible exact ih0 _ _ _ _ _ _ _ _)
   | (with_reducible exact ih1 _ _ _ _ _ _ _ _ _)
   | (with_reducible exact bits_Width.mono _ _)
   | (with_reducible exact slices_Min_int64_int64.mono _ _)
   | (with_reducible exact LeO.refl _)
   | (with_reducible exact LeO.none _)
   | (with_reducible refine LeO.ite ?_ ?_)
   | (with_reducible refine LeO.bind ?_ (fun _ => ?_))
   | exact ih0 _ _ _ _ _ _ _ _
   | exact ih1 _ _ _ _ _ _ _ _ _
   | exact bits_Width.mono _ _
   | exact slices_Min_int64_int64.mono _ _
   | exact LeO.none _
   | refine LeO.ite ?_ ?_
   | refine LeO.bind ?_ (fun _ => ?_)
set_option maxHeartbeats 8000000 in
set_option maxRecDepth 100000 in
theorem ints_readPacked.calls (k : Nat) (g : Nat) (s0_0 : ByteArray) (s0_1 : Int) (a1 : Int) (r1 : List Int) (r2 : Int) (r3 : ByteArray) (r4 : Int) (w0 w : World) (hI : IsS66 w0 w g s0_0 s0_1) (hB : Below w0.heap.size w0 w) (h : ints_readPacked.f k s0_0 s0_1 a1 = some (r1, r2, r3, r4)) :
  Calls Try.prog 41 #[.pointer (some ⟨g, 0, none⟩), .int .i64 a1] w fun e w' => ∃ v0_ : Value, e = .returned (.tuple #[v0_, .int .i64 r2]) ∧ Kd.R (Kd.int .i64) 2 w' w.heap.size (fun _ => True) v0_ r1 ∧ IsS66 w0 w' g r3 r4 ∧ Below w0.heap.size w0 w' ∧ KeepBut w w' g none := by
 have HI0 := Aside0.mk hI
 have HK := Aside0.mk (KeepBut.refl w g none)
 have HL := Aside0.mk hB.size
 clear hI
 have HW0 := Aside0.mk hB.size
 have HB := Aside0.mk hB
 clear hB
 have H : (if a1 = 0 then (some (([] : List Int), 0, s0_0, s0_1)) else ((tally_Cursor_Int.f s0_0 s0_1).bind fun bt252 => ((tally_Cursor_Byte.f bt252.2.1 bt252.2.2).bind fun bt255 => ((tally_Cursor_Err.f bt255.2.1 bt255.2.2).bind fun bt258 => (if bt258.1 = 0 then (if bt255.1 > 64 then (some (([] : List Int), 4, bt258.2.1, bt258.2.2)) else ((tally_Cursor_Left.f bt258.2.1 bt258.2.2).bind fun bt264 => (if bt264.1 < (wrap64 (Int.tdiv (wrap64 ((wrap64 (a1 * bt255.1)) + 7)) 8)) then (some (([] : List Int), 2, bt264.2.1, bt264.2.2)) else (ints_readPacked.l0 k a1 bt252.1 bt255.1 ([] : List Int) (wrap64 (Int.tdiv (wrap64 ((wrap64 (a1 * bt255.1)) + 7)) 8)) 0 bt264.2.1 bt264.2.2)))) else ((tally_Cursor_Err.f bt258.2.1 bt258.2.2).bind fun bt261 => (some (([] : List Int), bt261.1, bt261.2.1, bt261.2.2)))))))) = some (r1, r2, r3, r4) := h
 clear h
 by_cases c3 : a1 = 0
 ·rw [if_pos c3] at H
  have c3b0 : (a1 == 0) = true := beq_iff_eq.mpr c3
  have c3b1 : (a1 != 0) = false := bne_eq_false_iff_eq.mpr c3
  clear c3
  simp only [Option.some.injEq, Prod.mk.injEq] at H
  obtain ⟨rfl, rfl, rfl, rfl⟩ := H
  go_enter Try.func41, Try.ntmps41
  go_wp2
  go_ret2
  exact ⟨_, z6_, z10_, z4_, z5_, z0_⟩
 ·rw [if_neg c3] at H
  have c3b0 : (a1 == 0) = false := beq_eq_false_iff_ne.mpr c3
  have c3b1 : (a1 != 0) = true := bne_iff_ne.mpr c3
  replace H := Option.bind_eq_some_iff.mp H
  obtain ⟨⟨t252, t253, t254⟩, A40, H⟩ := H
  replace H : ((tally_Cursor_Byte.f t253 t254).bind fun bt255 => ((tally_Cursor_Err.f bt255.2.1 bt255.2.2).bind fun bt258 => (if bt258.1 = 0 then (if bt255.1 > 64 then (some (([] : List Int), 4, bt258.2.1, bt258.2.2)) else ((tally_Cursor_Left.f bt258.2.1 bt258.2.2).bind fun bt264 => (if bt264.1 < (wrap64 (Int.tdiv (wrap64 ((wrap64 (a1 * bt255.1)) + 7)) 8)) then (some (([] : List Int), 2, bt264.2.1, bt264.2.2)) else (ints_readPacked.l0 k a1 t252 bt255.1 ([] : List Int) (wrap64 (Int.tdiv (wrap64 ((wrap64 (a1 * bt255.1)) + 7)) 8)) 0 bt264.2.1 bt264.2.2)))) else ((tally_Cursor_Err.f bt258.2.1 bt258.2.2).bind fun bt261 => (some (([] : List Int), bt261.1, bt261.2.1, bt261.2.2)))))) = some (r1, r2, r3, r4) := H
  have A4 := Aside0.mk A40
  clear A40
  replace H := Option.bind_eq_some_iff.mp H
  obtain ⟨⟨t255, t256, t257⟩, A50, H⟩ := H
  replace H : ((tally_Cursor_Err.f t256 t257).bind fun bt258 => (if bt258.1 = 0 then (if t255 > 64 then (some (([] : List Int), 4, bt258.2.1, bt258.2.2)) else ((tally_Cursor_Left.f bt258.2.1 bt258.2.2).bind fun bt264 => (if bt264.1 < (wrap64 (Int.tdiv (wrap64 ((wrap64 (a1 * t255)) + 7)) 8)) then (some (([] : List Int), 2, bt264.2.1, bt264.2.2)) else (ints_readPacked.l0 k a1 t252 t255 ([] : List Int) (wrap64 (Int.tdiv (wrap64 ((wrap64 (a1 * t255)) + 7)) 8)) 0 bt264.2.1 bt264.2.2)))) else ((tally_Cursor_Err.f bt258.2.1 bt258.2.2).bind fun bt261 => (some (([] : List Int), bt261.1, bt261.2.1, bt261.2.2))))) = some (r1, r2, r3, r4) := H
  have A5 := Aside0.mk A50
  clear A50
  replace H := Option.bind_eq_some_iff.mp H
  obtain ⟨⟨t258, t259, t260⟩, A60, H⟩ := H
  replace H : (if t258 = 0 then (if t255 > 64 then (some (([] : List Int), 4, t259, t260)) else ((tally_Cursor_Left.f t259 t260).bind fun bt264 => (if bt264.1 < (wrap64 (Int.tdiv (wrap64 ((wrap64 (a1 * t255)) + 7)) 8)) then (some (([] : List Int), 2, bt264.2.1, bt264.2.2)) else (ints_readPacked.l0 k a1 t252 t255 ([] : List Int) (wrap64 (Int.tdiv (wrap64 ((wrap64 (a1 * t255)) + 7)) 8)) 0 bt264.2.1 bt264.2.2)))) else ((tally_Cursor_Err.f t259 t260).bind fun bt261 => (some (([] : List Int), bt261.1, bt261.2.1, bt261.2.2)))) = some (r1, r2, r3, r4) := H
  have A6 := Aside0.mk A60
  clear A60
  by_cases c7 : t258 = 0
  ·rw [if_pos c7] at H
   have c7b0 : (t258 == 0) = true := beq_iff_eq.mpr c7
   have c7b1 : (t258 != 0) = false := bne_eq_false_iff_eq.mpr c7
   clear c7
   by_cases c8 : t255 > 64
   ·rw [if_pos c8] at H
    have c8b0 : decide (64 < t255) = true := decide_eq_true c8
    clear c8
    simp only [Option.some.injEq, Prod.mk.injEq] at H
    obtain ⟨rfl, rfl, rfl, rfl⟩ := H
    go_enter Try.func41, Try.ntmps41
    go_wp2_with (first | ((with_reducible refine gate_callee (f := 56) rfl ?_); refine goesL_ (some 18) rfl rfl Try.func56 (by kernel_rfl) rfl #[.pointer (some ⟨g, 0, none⟩)] rfl (by (try simp only [List.map_toArray, List.map_cons, List.map_nil]); first | done | rfl | (simp only [List.length_drop, List.length_take]; rfl) | (go_simp; simp [IntKind.wrap, IntKind.bits, IntKind.signed]; omega)) ?_; (with_reducible refine (tally_Cursor_Int.calls g s0_0 s0_1 t252 t253 t254 w0 _ ?side1 ?side2 A4.out).mono ?_); (case side1 => repeat (first | (with_reducible first | exact HI0.out | apply IsS66.alloc | apply IsS66.drewN | apply IsS66.drew | apply IsS66.set_0 | apply IsS66.set_1) | exact HI0.out)); (case side2 => repeat (first | (with_reducible first | exact HB.out | apply below_alloc | apply pw_below_drewN | apply below_drew1 | refine below_set ?_ (IsS66.ge HI0.out)) | exact HB.out)); rintro e w9 ⟨rfl, hi, hb, hk⟩; refine ⟨_, rfl, ?_⟩; have n0_ := Aside0.mk (KeepBut.trans z0_ hk (.inl rfl)); have n1_ := Aside0.mk (hb); have n2_ := Aside0.mk (hi); clear HK; clear HB; clear HI0; have HK := n0_; have HB := n1_; have HI0 := n2_; clear n0_ n1_ n2_; (try clear hb); (try clear hb2); (try clear hk); (try clear hi)) | ((with_reducible refine gate_callee (f := 24) rfl ?_); refine goesL_ (some 20) rfl rfl Try.func24 (by kernel_rfl) rfl #[.pointer (some ⟨g, 0, none⟩)] rfl (by (try simp only [List.map_toArray, List.map_cons, List.map_nil]); first | done | rfl | (simp only [List.length_drop, List.length_take]; rfl) | (go_simp; simp [IntKind.wrap, IntKind.bits, IntKind.signed]; omega)) ?_; (with_reducible refine (tally_Cursor_Byte.calls g t253 t254 t255 t256 t257 w0 _ ?side1 ?side2 A5.out).mono ?_); (case side1 => repeat (first | (with_reducible first | exact HI0.out | apply IsS66.alloc | apply IsS66.drewN | apply IsS66.drew | apply IsS66.set_0 | apply IsS66.set_1) | exact HI0.out)); (case side2 => repeat (first | (with_reducible first | exact HB.out | apply below_alloc | apply pw_below_drewN | apply below_drew1 | refine below_set ?_ (IsS66.ge HI0.out)) | exact HB.out)); rintro e w10 ⟨rfl, hi, hb, hk⟩; refine ⟨_, rfl, ?_⟩; have n0_ := Aside0.mk (KeepBut.trans z0_ hk (.inl rfl)); have n1_ := Aside0.mk (hb); have n2_ := Aside0.mk (hi); clear HK; clear HB; clear HI0; have HK := n0_; have HB := n1_; have HI0 := n2_; clear n0_ n1_ n2_; (try clear hb); (try clear hb2); (try clear hk); (try clear hi)) | ((with_reducible refine gate_callee (f := 25) rfl ?_); refine goesL_ (some 23) rfl rfl Try.func25 (by kernel_rfl) rfl #[.pointer (some ⟨g, 0, none⟩)] rfl (by (try simp only [List.map_toArray, List.map_cons, List.map_nil]); first | done | rfl | (simp only [List.length_drop, List.length_take]; rfl) | (go_simp; simp [IntKind.wrap, IntKind.bits, IntKind.signed]; omega)) ?_; (with_reducible refine (tally_Cursor_Err.calls g t256 t257 t258 t259 t260 w0 _ ?side1 ?side2 A6.out).mono ?_); (case side1 => repeat (first | (with_reducible first | exact HI0.out | apply IsS66.alloc | apply IsS66.drewN | apply IsS66.drew | apply IsS66.set_0 | apply IsS66.set_1) | exact HI0.out)); (case side2 => repeat (first | (with_reducible first | exact HB.out | apply below_alloc | apply pw_below_drewN | apply below_drew1 | refine below_set ?_ (IsS66.ge HI0.out)) | exact HB.out)); rintro e w11 ⟨rfl, hi, hb, hk⟩; refine ⟨_, rfl, ?_⟩; have n0_ := Aside0.mk (KeepBut.trans z0_ hk (.inl rfl)); have n1_ := Aside0.mk (hb); have n2_ := Aside0.mk (hi); clear HK; clear HB; clear HI0; have HK := n0_; have HB := n1_; have HI0 := n2_; clear n0_ n1_ n2_; (try clear hb); (try clear hb2); (try clear hk); (try clear hi)))
    go_ret2
    exact ⟨_, z6_, z10_, z4_, z5_, z0_⟩
   ·rw [if_neg c8] at H
    have c8b0 : decide (64 < t255) = false := decide_eq_false c8
    clear c8
    replace H := Option.bind_eq_some_iff.mp H
    obtain ⟨⟨t264, t265, t266⟩, A120, H⟩ := H
    replace H : (if t264 < (wrap64 (Int.tdiv (wrap64 ((wrap64 (a1 * t255)) + 7)) 8)) then (some (([] : List Int), 2, t265, t266)) else (ints_readPacked.l0 k a1 t252 t255 ([] : List Int) (wrap64 (Int.tdiv (wrap64 ((wrap64 (a1 * t255)) + 7)) 8)) 0 t265 t266)) = some (r1, r2, r3, r4) := H
    have A12 := Aside0.mk A120
    clear A120
    by_cases c13 : t264 < (wrap64 (Int.tdiv (wrap64 ((wrap64 (a1 * t255)) + 7)) 8))
    ·rw [if_pos c13] at H
     have c13b0 : decide (t264 < (wrap64 (Int.tdiv (wrap64 ((wrap64 (a1 * t255)) + 7)) 8))) = true := decide_eq_true c13
     clear c13
     simp only [Option.some.injEq, Prod.mk.injEq] at H
     obtain ⟨rfl, rfl, rfl, rfl⟩ := H
     go_enter Try.func41, Try.ntmps41
     go_wp2_with (first | ((with_reducible refine gate_callee (f := 56) rfl ?_); refine goesL_ (some 18) rfl rfl Try.func56 (by kernel_rfl) rfl #[.pointer (some ⟨g, 0, none⟩)] rfl (by (try simp only [List.map_toArray, List.map_cons, List.map_nil]); first | done | rfl | (simp only [List.length_drop, List.length_take]; rfl) | (go_simp; simp [IntKind.wrap, IntKind.bits, IntKind.signed]; omega)) ?_; (with_reducible refine (tally_Cursor_Int.calls g s0_0 s0_1 t252 t253 t254 w0 _ ?side1 ?side2 A4.out).mono ?_); (case side1 => repeat (first | (with_reducible first | exact HI0.out | apply IsS66.alloc | apply IsS66.drewN | apply IsS66.drew | apply IsS66.set_0 | apply IsS66.set_1) | exact HI0.out)); (case side2 => repeat (first | (with_reducible first | exact HB.out | apply below_alloc | apply pw_below_drewN | apply below_drew1 | refine below_set ?_ (IsS66.ge HI0.out)) | exact HB.out)); rintro e w14 ⟨rfl, hi, hb, hk⟩; refine ⟨_, rfl, ?_⟩; have n0_ := Aside0.mk (KeepBut.trans z0_ hk (.inl rfl)); have n1_ := Aside0.mk (hb); have n2_ := Aside0.mk (hi); clear HK; clear HB; clear HI0; have HK := n0_; have HB := n1_; have HI0 := n2_; clear n0_ n1_ n2_; (try clear hb); (try clear hb2); (try clear hk); (try clear hi)) | ((with_reducible refine gate_callee (f := 24) rfl ?_); refine goesL_ (some 20) rfl rfl Try.func24 (by kernel_rfl) rfl #[.pointer (some ⟨g, 0, none⟩)] rfl (by (try simp only [List.map_toArray, List.map_cons, List.map_nil]); first | done | rfl | (simp only [List.length_drop, List.length_take]; rfl) | (go_simp; simp [IntKind.wrap, IntKind.bits, IntKind.signed]; omega)) ?_; (with_reducible refine (tally_Cursor_Byte.calls g t253 t254 t255 t256 t257 w0 _ ?side1 ?side2 A5.out).mono ?_); (case side1 => repeat (first | (with_reducible first | exact HI0.out | apply IsS66.alloc | apply IsS66.drewN | apply IsS66.drew | apply IsS66.set_0 | apply IsS66.set_1) | exact HI0.out)); (case side2 => repeat (first | (with_reducible first | exact HB.out | apply below_alloc | apply pw_below_drewN | apply below_drew1 | refine below_set ?_ (IsS66.ge HI0.out)) | exact HB.out)); rintro e w15 ⟨rfl, hi, hb, hk⟩; refine ⟨_, rfl, ?_⟩; have n0_ := Aside0.mk (KeepBut.trans z0_ hk (.inl rfl)); have n1_ := Aside0.mk (hb); have n2_ := Aside0.mk (hi); clear HK; clear HB; clear HI0; have HK := n0_; have HB := n1_; have HI0 := n2_; clear n0_ n1_ n2_; (try clear hb); (try clear hb2); (try clear hk); (try clear hi)) | ((with_reducible refine gate_callee (f := 25) rfl ?_); refine goesL_ (some 23) rfl rfl Try.func25 (by kernel_rfl) rfl #[.pointer (some ⟨g, 0, none⟩)] rfl (by (try simp only [List.map_toArray, List.map_cons, List.map_nil]); first | done | rfl | (simp only [List.length_drop, List.length_take]; rfl) | (go_simp; simp [IntKind.wrap, IntKind.bits, IntKind.signed]; omega)) ?_; (with_reducible refine (tally_Cursor_Err.calls g t256 t257 t258 t259 t260 w0 _ ?side1 ?side2 A6.out).mono ?_); (case side1 => repeat (first | (with_reducible first | exact HI0.out | apply IsS66.alloc | apply IsS66.drewN | apply IsS66.drew | apply IsS66.set_0 | apply IsS66.set_1) | exact HI0.out)); (case side2 => repeat (first | (with_reducible first | exact HB.out | apply below_alloc | apply pw_below_drewN | apply below_drew1 | refine below_set ?_ (IsS66.ge HI0.out)) | exact HB.out)); rintro e w16 ⟨rfl, hi, hb, hk⟩; refine ⟨_, rfl, ?_⟩; have n0_ := Aside0.mk (KeepBut.trans z0_ hk (.inl rfl)); have n1_ := Aside0.mk (hb); have n2_ := Aside0.mk (hi); clear HK; clear HB; clear HI0; have HK := n0_; have HB := n1_; have HI0 := n2_; clear n0_ n1_ n2_; (try clear hb); (try clear hb2); (try clear hk); (try clear hi)) | ((with_reducible refine gate_callee (f := 62) rfl ?_); refine goesL_ (some 36) rfl rfl Try.func62 (by kernel_rfl) rfl #[.pointer (some ⟨g, 0, none⟩)] rfl (by (try simp only [List.map_toArray, List.map_cons, List.map_nil]); first | done | rfl | (simp only [List.length_drop, List.length_take]; rfl) | (go_simp; simp [IntKind.wrap, IntKind.bits, IntKind.signed]; omega)) ?_; (with_reducible refine (tally_Cursor_Left.calls g t259 t260 t264 t265 t266 w0 _ ?side1 ?side2 A12.out).mono ?_); (case side1 => repeat (first | (with_reducible first | exact HI0.out | apply IsS66.alloc | apply IsS66.drewN | apply IsS66.drew | apply IsS66.set_0 | apply IsS66.set_1) | exact HI0.out)); (case side2 => repeat (first | (with_reducible first | exact HB.out | apply below_alloc | apply pw_below_drewN | apply below_drew1 | refine below_set ?_ (IsS66.ge HI0.out)) | exact HB.out)); rintro e w17 ⟨rfl, hi, hb, hk⟩; refine ⟨_, rfl, ?_⟩; have n0_ := Aside0.mk (KeepBut.trans z0_ hk (.inl rfl)); have n1_ := Aside0.mk (hb); have n2_ := Aside0.mk (hi); clear HK; clear HB; clear HI0; have HK := n0_; have HB := n1_; have HI0 := n2_; clear n0_ n1_ n2_; (try clear hb); (try clear hb2); (try clear hk); (try clear hi)))
     go_ret2
     exact ⟨_, z6_, z10_, z4_, z5_, z0_⟩
    ·rw [if_neg c13] at H
     have c13b0 : decide (t264 < (wrap64 (Int.tdiv (wrap64 ((wrap64 (a1 * t255)) + 7)) 8))) = false := decide_eq_false c13
     clear c13
     have H' := Aside0.mk H
     clear H
     go_enter Try.func41, Try.ntmps41
     go_wp2_with (first | ((with_reducible refine gate_callee (f := 56) rfl ?_); refine goesL_ (some 18) rfl rfl Try.func56 (by kernel_rfl) rfl #[.pointer (some ⟨g, 0, none⟩)] rfl (by (try simp only [List.map_toArray, List.map_cons, List.map_nil]); first | done | rfl | (simp only [List.length_drop, List.length_take]; rfl) | (go_simp; simp [IntKind.wrap, IntKind.bits, IntKind.signed]; omega)) ?_; (with_reducible refine (tally_Cursor_Int.calls g s0_0 s0_1 t252 t253 t254 w0 _ ?side1 ?side2 A4.out).mono ?_); (case side1 => repeat (first | (with_reducible first | exact HI0.out | apply IsS66.alloc | apply IsS66.drewN | apply IsS66.drew | apply IsS66.set_0 | apply IsS66.set_1) | exact HI0.out)); (case side2 => repeat (first | (with_reducible first | exact HB.out | apply below_alloc | apply pw_below_drewN | apply below_drew1 | refine below_set ?_ (IsS66.ge HI0.out)) | exact HB.out)); rintro e w18 ⟨rfl, hi, hb, hk⟩; refine ⟨_, rfl, ?_⟩; have n0_ := Aside0.mk (KeepBut.trans z0_ hk (.inl rfl)); have n1_ := Aside0.mk (hb); have n2_ := Aside0.mk (hi); clear HK; clear HB; clear HI0; have HK := n0_; have HB := n1_; have HI0 := n2_; clear n0_ n1_ n2_; (try clear hb); (try clear hb2); (try clear hk); (try clear hi)) | ((with_reducible refine gate_callee (f := 24) rfl ?_); refine goesL_ (some 20) rfl rfl Try.func24 (by kernel_rfl) rfl #[.pointer (some ⟨g, 0, none⟩)] rfl (by (try simp only [List.map_toArray, List.map_cons, List.map_nil]); first | done | rfl | (simp only [List.length_drop, List.length_take]; rfl) | (go_simp; simp [IntKind.wrap, IntKind.bits, IntKind.signed]; omega)) ?_; (with_reducible refine (tally_Cursor_Byte.calls g t253 t254 t255 t256 t257 w0 _ ?side1 ?side2 A5.out).mono ?_); (case side1 => repeat (first | (with_reducible first | exact HI0.out | apply IsS66.alloc | apply IsS66.drewN | apply IsS66.drew | apply IsS66.set_0 | apply IsS66.set_1) | exact HI0.out)); (case side2 => repeat (first | (with_reducible first | exact HB.out | apply below_alloc | apply pw_below_drewN | apply below_drew1 | refine below_set ?_ (IsS66.ge HI0.out)) | exact HB.out)); rintro e w19 ⟨rfl, hi, hb, hk⟩; refine ⟨_, rfl, ?_⟩; have n0_ := Aside0.mk (KeepBut.trans z0_ hk (.inl rfl)); have n1_ := Aside0.mk (hb); have n2_ := Aside0.mk (hi); clear HK; clear HB; clear HI0; have HK := n0_; have HB := n1_; have HI0 := n2_; clear n0_ n1_ n2_; (try clear hb); (try clear hb2); (try clear hk); (try clear hi)) | ((with_reducible refine gate_callee (f := 25) rfl ?_); refine goesL_ (some 23) rfl rfl Try.func25 (by kernel_rfl) rfl #[.pointer (some ⟨g, 0, none⟩)] rfl (by (try simp only [List.map_toArray, List.map_cons, List.map_nil]); first | done | rfl | (simp only [List.length_drop, List.length_take]; rfl) | (go_simp; simp [IntKind.wrap, IntKind.bits, IntKind.signed]; omega)) ?_; (with_reducible refine (tally_Cursor_Err.calls g t256 t257 t258 t259 t260 w0 _ ?side1 ?side2 A6.out).mono ?_); (case side1 => repeat (first | (with_reducible first | exact HI0.out | apply IsS66.alloc | apply IsS66.drewN | apply IsS66.drew | apply IsS66.set_0 | apply IsS66.set_1) | exact HI0.out)); (case side2 => repeat (first | (with_reducible first | exact HB.out | apply below_alloc | apply pw_below_drewN | apply below_drew1 | refine below_set ?_ (IsS66.ge HI0.out)) | exact HB.out)); rintro e w20 ⟨rfl, hi, hb, hk⟩; refine ⟨_, rfl, ?_⟩; have n0_ := Aside0.mk (KeepBut.trans z0_ hk (.inl rfl)); have n1_ := Aside0.mk (hb); have n2_ := Aside0.mk (hi); clear HK; clear HB; clear HI0; have HK := n0_; have HB := n1_; have HI0 := n2_; clear n0_ n1_ n2_; (try clear hb); (try clear hb2); (try clear hk); (try clear hi)) | ((with_reducible refine gate_callee (f := 62) rfl ?_); refine goesL_ (some 36) rfl rfl Try.func62 (by kernel_rfl) rfl #[.pointer (some ⟨g, 0, none⟩)] rfl (by (try simp only [List.map_toArray, List.map_cons, List.map_nil]); first | done | rfl | (simp only [List.length_drop, List.length_take]; rfl) | (go_simp; simp [IntKind.wrap, IntKind.bits, IntKind.signed]; omega)) ?_; (with_reducible refine (tally_Cursor_Left.calls g t259 t260 t264 t265 t266 w0 _ ?side1 ?side2 A12.out).mono ?_); (case side1 => repeat (first | (with_reducible first | exact HI0.out | apply IsS66.alloc | apply IsS66.drewN | apply IsS66.drew | apply IsS66.set_0 | apply IsS66.set_1) | exact HI0.out)); (case side2 => repeat (first | (with_reducible first | exact HB.out | apply below_alloc | apply pw_below_drewN | apply below_drew1 | refine below_set ?_ (IsS66.ge HI0.out)) | exact HB.out)); rintro e w21 ⟨rfl, hi, hb, hk⟩; refine ⟨_, rfl, ?_⟩; have n0_ := Aside0.mk (KeepBut.trans z0_ hk (.inl rfl)); have n1_ := Aside0.mk (hb); have n2_ := Aside0.mk (hi); clear HK; clear HB; clear HI0; have HK := n0_; have HB := n1_; have HI0 := n2_; clear n0_ n1_ n2_; (try clear hb); (try clear hb2); (try clear hk); (try clear hi)))
     go_loopg [9, 40] k (fun kq v9 v40 w' => ∃ (x9_1 : List Int) (x40_1 : Int) (x1000_1 : ByteArray) (x1001_1 : Int), v40 = .int .i64 x40_1 ∧ Aside0 (ints_readPacked.l0 kq a1 t252 t255 x9_1 (wrap64 (Int.tdiv (wrap64 ((wrap64 (a1 * t255)) + 7)) 8)) x40_1 x1000_1 x1001_1 = some (r1, r2, r3, r4)) ∧ Aside0 (kq ≤ k) ∧ Aside0 (Kd.R (Kd.int .u8) 5 w' w.heap.size (fun _ => True) v9 x9_1) ∧ Aside0 (IsS66 w0 w' g x1000_1 x1001_1) ∧ Aside0 (KeepBut w w' g none) ∧ Aside0 (Below w0.heap.size w0 w'))
     case atStart => exact ⟨(([] : List Int)), (0), (t265), (t266), z11_, H', ⟨Nat.le_refl _⟩, ⟨z10_⟩, ⟨z4_⟩, ⟨z0_⟩, ⟨z5_⟩⟩
     case round =>
      clear H'
      try clear c1
      try clear c2
      try clear p2
      try clear c3
      try clear c3b0
      try clear c3b1
      try clear c4
      try clear c5
      try clear c6
      try clear p6
      try clear c7
      try clear c7b0
      try clear c7b1
      try clear c8
      try clear c8b0
      try clear c13
      try clear c13b0
      obtain ⟨x9_1, x40_1, x1000_1, x1001_1, rfl, HA, HK1, HO_9, HI0, HK, HB⟩ := hrel
      cases gk with
      | zero => exact absurd HA.out (by simp [ints_readPacked.l0])
      | succ k1 =>
       have H := HA.out
       clear HA
       simp only [ints_readPacked.l0] at H
       by_cases c22 : x40_1 < (wrap64 (Int.tdiv (wrap64 ((wrap64 (a1 * t255)) + 7)) 8))
       ·rw [if_pos c22] at H
        have c22b0 : decide (x40_1 < (wrap64 (Int.tdiv (wrap64 ((wrap64 (a1 * t255)) + 7)) 8))) = true := decide_eq_true c22
        clear c22
        replace H := Option.bind_eq_some_iff.mp H
        obtain ⟨⟨t267, t268, t269⟩, A230, H⟩ := H
        replace H : (if x9_1.length < 140737488355328 then (ints_readPacked.l0 k1 a1 t252 t255 (x9_1 ++ [(t267) % 256]) (wrap64 (Int.tdiv (wrap64 ((wrap64 (a1 * t255)) + 7)) 8)) (wrap64 (x40_1 + 1)) t268 t269) else (none)) = some (r1, r2, r3, r4) := H
        have A23 := Aside0.mk A230
        clear A230
        by_cases c24 : x9_1.length < 140737488355328
        ·rw [if_pos c24] at H
         have LMc24 := Aside0.mk c24
         clear c24
         obtain ⟨y270, hy270⟩ : ∃ y_ : List Int, y_ = (x9_1 ++ [(t267) % 256]) := ⟨_, rfl⟩
         replace H : (ints_readPacked.l0 k1 a1 t252 t255 y270 (wrap64 (Int.tdiv (wrap64 ((wrap64 (a1 * t255)) + 7)) 8)) (wrap64 (x40_1 + 1)) t268 t269) = some (r1, r2, r3, r4) := by first | (rw [hy270]; with_reducible exact H) | (have H2_ := (Option.bind_some _ _).symm.trans H; rw [hy270]; with_reducible exact H2_) | (have H2_ := (Option.bind_some _ _).symm.trans H; with_reducible exact H2_) | with_reducible exact H | (rw [hy270]; exact H) | exact H
         have Ny270 := Aside0.mk hy270
         clear hy270
         have H' := Aside0.mk H
         clear H
         go_wp2_with (first | ((with_reducible refine gate_callee (f := 24) rfl ?_); refine goesL_ (some 44) rfl rfl Try.func24 (by kernel_rfl) rfl #[.pointer (some ⟨g, 0, none⟩)] rfl (by (try simp only [List.map_toArray, List.map_cons, List.map_nil]); first | done | rfl | (simp only [List.length_drop, List.length_take]; rfl) | (go_simp; simp [IntKind.wrap, IntKind.bits, IntKind.signed]; omega)) ?_; (with_reducible refine (tally_Cursor_Byte.calls g x1000_1 x1001_1 t267 t268 t269 w0 _ ?side1 ?side2 A23.out).mono ?_); (case side1 => repeat (first | (with_reducible first | exact HI0.out | apply IsS66.alloc | apply IsS66.drewN | apply IsS66.drew | apply IsS66.set_0 | apply IsS66.set_1) | exact HI0.out)); (case side2 => repeat (first | (with_reducible first | exact HB.out | apply below_alloc | apply pw_below_drewN | apply below_drew1 | refine below_set ?_ (IsS66.ge HI0.out)) | exact HB.out)); rintro e w25 ⟨rfl, hi, hb, hk⟩; refine ⟨_, rfl, ?_⟩; have n0_ := Aside0.mk (Kd.R_mono (Kd.R_keep (IsS66.apart (show IsS66 w0 _ g x1000_1 x1001_1 from z4_) (by (with_reducible repeat (first | apply Kd.R_alloc | apply Kd.R_drewN | apply Kd.R_drew)); exact HO_9.out) (by decide)) hk (fun _ h => h.2)) (fun _ h => h.1)); have n1_ := Aside0.mk (KeepBut.trans z0_ hk (.inl rfl)); have n2_ := Aside0.mk (hb); have n3_ := Aside0.mk (hi); clear HO_9; clear HK; clear HB; clear HI0; have HO_9 := n0_; have HK := n1_; have HB := n2_; have HI0 := n3_; clear n0_ n1_ n2_ n3_; (try clear hb); (try clear hb2); (try clear hk); (try clear hi)) | ((with_reducible refine gate_builtin (b := .append) (xs := #[.tmp 42, .tmp 46]) rfl ?_); at_builtin; refine Kd.R_append (Kd.int .u8) w.heap.size rfl (.tmp 42) (.tmp 46) 38 5 (.int .u8 0) 1 rfl Try.underlying38 info5 rfl (by decide) (by omega) u9 x9_1 ((t267) % 256) [.int .u8 ((t267) % 256)] (fun _ => True) (fun _ => False) rfl rfl ?aP (fun _ hk => hk.elim) ?aF ?aO (Below.refl _ _) ?aS ?aL ?_; (case aP => exact rfl); (case aF => exact (fun _ _ => trivial)); (case aO => exact (by (with_reducible repeat (first | apply Kd.R_alloc | apply Kd.R_drewN | apply Kd.R_drew)); exact HO_9.out)); (case aS => exact (keep_size (w := w) (g := g) (row := none) z0_)); (case aL => have := LMc24.out; omega); intro v271 w26 ho hb hg hat; rw [← Ny270.out] at ho; have n0_ := Aside0.mk (IsS66.grown z4_ hg (IsS66.own_ne HI0.out HO_9.out (by decide))); have n1_ := Aside0.mk (below_weaken z5_ HL.out hb); have n2_ := Aside0.mk (KeepBut.trans z0_ (KeepBut.of_grown hg g) (Kd.R_base2 HO_9.out)); have n3_ := Aside0.mk (ho); clear HI0; clear HB; clear HK; clear HO_9; have HI0 := n0_; have HB := n1_; have HK := n2_; have HO272 := n3_; clear n0_ n1_ n2_ n3_; clear ho hb hg hat))
         go_roundg k1
         case measure => have := HK1.out; omega
         case rel => exact ⟨(y270), (wrap64 (x40_1 + 1)), (t268), (t269), z11_, H', ⟨by have := HK1.out; omega⟩, ⟨by (with_reducible repeat (first | apply Kd.R_alloc | apply Kd.R_drewN | apply Kd.R_drew)); exact HO272.out⟩, ⟨z4_⟩, ⟨z0_⟩, ⟨z5_⟩⟩
        ·rw [if_neg c24] at H
         exact absurd H (by simp)
       ·rw [if_neg c22] at H
        have c22b0 : decide (x40_1 < (wrap64 (Int.tdiv (wrap64 ((wrap64 (a1 * t255)) + 7)) 8))) = false := decide_eq_false c22
        clear c22
        replace H := Option.bind_eq_some_iff.mp H
        obtain ⟨⟨t273, t274⟩, A270, H⟩ := H
        replace H : (if t274 = 0 then (ints_readPacked.l1 k1 t252 t255 t273 ([] : List Int) t273 (t273.length : Int) 0 x1000_1 x1001_1) else (some (([] : List Int), t274, x1000_1, x1001_1))) = some (r1, r2, r3, r4) := H
        have A27 := Aside0.mk A270
        clear A270
        by_cases c28 : t274 = 0
        ·rw [if_pos c28] at H
         have c28b0 : (t274 == 0) = true := beq_iff_eq.mpr c28
         have c28b1 : (t274 != 0) = false := bne_eq_false_iff_eq.mpr c28
         clear c28
         have H' := Aside0.mk H
         clear H
         have hcv29 := own_string (P := Try.prog) Try.underlying38 Try.underlying5 Try.underlying9 (Kd.own_of_R HO_9.out)
         go_wp2_with (first | ((with_reducible refine gate_callee (f := 63) rfl ?_); refine goesL_ (some 54) rfl rfl Try.func63 (by kernel_rfl) rfl #[.string (strOfNums x9_1), .int .i64 a1, .int .i64 t255] rfl (by (try simp only [List.map_toArray, List.map_cons, List.map_nil]); first | done | rfl | (simp only [List.length_drop, List.length_take]; rfl) | (go_simp; simp [IntKind.wrap, IntKind.bits, IntKind.signed]; omega)) ?_; (with_reducible refine (bits_Unpack.calls (strOfNums x9_1) a1 t255 t273 t274 _ A27.out).mono ?_); rintro e w30 ⟨v275, rfl, ho0, hb⟩; refine ⟨_, rfl, ?_⟩; have n0_ := Aside0.mk (Kd.R_below (by (with_reducible repeat (first | apply Kd.R_alloc | apply Kd.R_drewN | apply Kd.R_drew)); exact HO_9.out) hb); have n1_ := Aside0.mk (Kd.R_lower ho0 (keep_size (w := w) (g := g) (row := none) z0_)); have n2_ := Aside0.mk (IsS66.below z4_ hb); have n3_ := Aside0.mk (KeepBut.trans z0_ (KeepBut.of_below hb g none) (.inl rfl)); have n4_ := Aside0.mk (below_step z5_ hb); clear HO_9; clear HI0; clear HK; clear HB; have HO_9 := n0_; have HO276 := n1_; have HI0 := n2_; have HK := n3_; have HB := n4_; clear n0_ n1_ n2_ n3_ n4_; (try clear hb); (try clear hb2); (try clear hk); (try clear hi); (try clear ho0); obtain ⟨Ao31, co31, eo31⟩ := Kd.R_slice HO276.out; subst eo31))
         go_loopg [12, 62] k1 (fun kq v12 v62 w' => ∃ (x12_2 : List Int) (x62_2 : Int), v62 = .int .i64 x62_2 ∧ Aside0 (ints_readPacked.l1 kq t252 t255 t273 x12_2 t273 (t273.length : Int) x62_2 x1000_1 x1001_1 = some (r1, r2, r3, r4)) ∧ Aside0 (kq ≤ k1) ∧ Aside0 (Kd.R (Kd.int .u64) 44 w' w.heap.size (fun _ => True) (.slice Ao31 t273.length co31) t273) ∧ Aside0 (Kd.R (Kd.int .i64) 2 w' w.heap.size (fun _ => True) v12 x12_2) ∧ Aside0 (Kd.R (Kd.int .u64) 44 w' w.heap.size (fun _ => True) (.slice Ao31 t273.length co31) t273) ∧ Aside0 (IsS66 w0 w' g x1000_1 x1001_1) ∧ Aside0 (KeepBut w w' g none) ∧ Aside0 (Below w0.heap.size w0 w'))
         case atStart => exact ⟨(([] : List Int)), (0), z11_, H', ⟨Nat.le_refl _⟩, ⟨by (with_reducible repeat (first | apply Kd.R_alloc | apply Kd.R_drewN | apply Kd.R_drew)); exact HO276.out⟩, ⟨z10_⟩, ⟨by (with_reducible repeat (first | apply Kd.R_alloc | apply Kd.R_drewN | apply Kd.R_drew)); exact HO276.out⟩, ⟨z4_⟩, ⟨z0_⟩, ⟨z5_⟩⟩
         case round =>
          clear H'
          try clear c1
          try clear c2
          try clear p2
          try clear hcv2
          try clear c3
          try clear c3b0
          try clear c3b1
          try clear c4
          try clear c5
          try clear c6
          try clear p6
          try clear c7
          try clear c7b0
          try clear c7b1
          try clear c8
          try clear c8b0
          try clear c13
          try clear c13b0
          try clear c22
          try clear c22b0
          try clear c24
          try clear c25
          try clear c28
          try clear c28b0
          try clear c28b1
          try clear hcv29
          try clear p2
          try clear p6
          obtain ⟨x12_2, x62_2, rfl, HA, HK2, HO_10, HO_12, HO_60, HI0, HK, HB⟩ := hrel
          cases gk with
          | zero => exact absurd HA.out (by simp [ints_readPacked.l1])
          | succ k2 =>
           have H := HA.out
           clear HA
           simp only [ints_readPacked.l1] at H
           by_cases c32 : x62_2 < (t273.length : Int)
           ·rw [if_pos c32] at H
            have c32b0 : decide (x62_2 < (t273.length : Int)) = true := decide_eq_true c32
            clear c32
            by_cases c33 : 0 ≤ x62_2
            ·rw [if_pos c33] at H
             have c33b0 : decide (0 ≤ x62_2) = true := decide_eq_true c33
             clear c33
             by_cases c34 : x62_2 < (t273.length : Int)
             ·rw [if_pos c34] at H
              have c34b0 : decide (x62_2 < (t273.length : Int)) = true := decide_eq_true c34
              clear c34
              by_cases c35 : x12_2.length < 17592186044416
              ·rw [if_pos c35] at H
               have LMc35 := Aside0.mk c35
               clear c35
               obtain ⟨y278, hy278⟩ : ∃ y_ : List Int, y_ = (x12_2 ++ [wrap64 (t252 + (wrap64 (rd t273 x62_2)))]) := ⟨_, rfl⟩
               replace H : (ints_readPacked.l1 k2 t252 t255 t273 y278 t273 (t273.length : Int) (wrap64 (x62_2 + 1)) x1000_1 x1001_1) = some (r1, r2, r3, r4) := by first | (rw [hy278]; with_reducible exact H) | (have H2_ := (Option.bind_some _ _).symm.trans H; rw [hy278]; with_reducible exact H2_) | (have H2_ := (Option.bind_some _ _).symm.trans H; with_reducible exact H2_) | with_reducible exact H | (rw [hy278]; exact H) | exact H
               have Ny278 := Aside0.mk hy278
               clear hy278
               have H' := Aside0.mk H
               clear H
               have p277 : 0 ≤ (x62_2 : Int) := of_decide_eq_true z12_
               have q277 : x62_2 < (t273.length : Int) := of_decide_eq_true z12_
               obtain ⟨ad277, e277, hx277_0⟩ := Kd.at_int (Kd.R_reads' HO_60.out).2.2 x62_2 p277 q277
               cases e277
               replace p277 := eq_true p277
               replace q277 := eq_true q277
               go_wp2_with (first | ((with_reducible refine gate_builtin (b := .append) (xs := #[.tmp 66, .tmp 71]) rfl ?_); at_builtin; refine Kd.R_append (Kd.int .i64) w.heap.size rfl (.tmp 66) (.tmp 71) 22 2 (.int .i64 0) 8 rfl Try.underlying22 info2 rfl (by decide) (by omega) u12 x12_2 (wrap64 (t252 + (wrap64 (rd t273 x62_2)))) [.int .i64 (wrap64 (t252 + (wrap64 (rd t273 x62_2))))] (fun _ => True) (fun _ => False) rfl rfl ?aP (fun _ hk => hk.elim) ?aF ?aO (Below.refl _ _) ?aS ?aL ?_; (case aP => exact rfl); (case aF => exact (fun _ _ => trivial)); (case aO => exact (by (with_reducible repeat (first | apply Kd.R_alloc | apply Kd.R_drewN | apply Kd.R_drew)); exact HO_12.out)); (case aS => exact (keep_size (w := w) (g := g) (row := none) z0_)); (case aL => have := LMc35.out; omega); intro v279 w36 ho hb hg hat; rw [← Ny278.out] at ho; have n0_ := Aside0.mk (Kd.R_over' (by (with_reducible repeat (first | apply Kd.R_alloc | apply Kd.R_drewN | apply Kd.R_drew)); exact HO_10.out) (Kd.R_typed (by (with_reducible repeat (first | apply Kd.R_alloc | apply Kd.R_drewN | apply Kd.R_drew)); exact HO_12.out)) (by decide) hg); have n1_ := Aside0.mk (Kd.R_over' (by (with_reducible repeat (first | apply Kd.R_alloc | apply Kd.R_drewN | apply Kd.R_drew)); exact HO_60.out) (Kd.R_typed (by (with_reducible repeat (first | apply Kd.R_alloc | apply Kd.R_drewN | apply Kd.R_drew)); exact HO_12.out)) (by decide) hg); have n2_ := Aside0.mk (IsS66.grown z4_ hg (IsS66.own_ne HI0.out HO_12.out (by decide))); have n3_ := Aside0.mk (below_weaken z5_ HL.out hb); have n4_ := Aside0.mk (KeepBut.trans z0_ (KeepBut.of_grown hg g) (Kd.R_base2 HO_12.out)); have n5_ := Aside0.mk (ho); clear HO_10; clear HO_60; clear HI0; clear HB; clear HK; clear HO_12; have HO_10 := n0_; have HO_60 := n1_; have HI0 := n2_; have HB := n3_; have HK := n4_; have HO280 := n5_; clear n0_ n1_ n2_ n3_ n4_ n5_; clear ho hb hg hat))
               go_roundg k2
               case measure => have := HK1.out; have := HK2.out; omega
               case rel => exact ⟨(y278), (wrap64 (x62_2 + 1)), z11_, H', ⟨by have := HK1.out; have := HK2.out; omega⟩, ⟨by (with_reducible repeat (first | apply Kd.R_alloc | apply Kd.R_drewN | apply Kd.R_drew)); exact HO_10.out⟩, ⟨by (with_reducible repeat (first | apply Kd.R_alloc | apply Kd.R_drewN | apply Kd.R_drew)); exact HO280.out⟩, ⟨by (with_reducible repeat (first | apply Kd.R_alloc | apply Kd.R_drewN | apply Kd.R_drew)); exact HO_60.out⟩, ⟨z4_⟩, ⟨z0_⟩, ⟨z5_⟩⟩
              ·rw [if_neg c35] at H
               exact absurd H (by simp)
             ·rw [if_neg c34] at H
              exact absurd H (by simp)
            ·rw [if_neg c33] at H
             exact absurd H (by simp)
           ·rw [if_neg c32] at H
            have c32b0 : decide (x62_2 < (t273.length : Int)) = false := decide_eq_false c32
            clear c32
            replace H := Option.bind_eq_some_iff.mp H
            obtain ⟨t281, A370, H⟩ := H
            replace H : (if t281 = t252 then ((bits_Width.f k2 t273).bind fun t282 => (if t282 = t255 then (some (x12_2, 0, x1000_1, x1001_1)) else (some (([] : List Int), 4, x1000_1, x1001_1)))) else (some (([] : List Int), 4, x1000_1, x1001_1))) = some (r1, r2, r3, r4) := H
            have A37 := Aside0.mk A370
            clear A370
            by_cases c38 : t281 = t252
            ·rw [if_pos c38] at H
             have c38b0 : (t281 == t252) = true := beq_iff_eq.mpr c38
             have c38b1 : (t281 != t252) = false := bne_eq_false_iff_eq.mpr c38
             clear c38
             replace H := Option.bind_eq_some_iff.mp H
             obtain ⟨t282, A390, H⟩ := H
             replace H : (if t282 = t255 then (some (x12_2, 0, x1000_1, x1001_1)) else (some (([] : List Int), 4, x1000_1, x1001_1))) = some (r1, r2, r3, r4) := H
             have A39 := Aside0.mk A390
             clear A390
             by_cases c40 : t282 = t255
             ·rw [if_pos c40] at H
              have c40b0 : (t282 == t255) = true := beq_iff_eq.mpr c40
              have c40b1 : (t282 != t255) = false := bne_eq_false_iff_eq.mpr c40
              clear c40
              simp only [Option.some.injEq, Prod.mk.injEq] at H
              obtain ⟨rfl, rfl, rfl, rfl⟩ := H
              obtain ⟨Ao41, co41, eo41⟩ := Kd.R_slice HO_12.out
              subst eo41
              go_wp2_with (first | ((with_reducible refine gate_callee (f := 58) rfl ?_); refine goesL_ (some 75) rfl rfl Try.func58 (by kernel_rfl) rfl #[.slice Ao41 x12_2.length co41] rfl (by (try simp only [List.map_toArray, List.map_cons, List.map_nil]); first | done | rfl | (simp only [List.length_drop, List.length_take]; rfl) | (go_simp; simp [IntKind.wrap, IntKind.bits, IntKind.signed]; omega)) ?_; (with_reducible refine (slices_Min_int64_int64.calls k2 _ _ x12_2 t281 _ ?side1 ?side2 A37.out).mono ?_); (case side1 => repeat (first | exact (Kd.R_reads' HO_12.out).2.2 | (with_reducible refine Kd.C_alloc ?_ _) | (with_reducible refine Kd.C_drewN ?_ _) | (with_reducible refine Kd.C_drew ?_))); (case side2 => exact (Kd.R_reads' HO_12.out).2.1); rintro e w42 ⟨rfl, hb⟩; refine ⟨_, rfl, ?_⟩; have n0_ := Aside0.mk (Kd.R_below (by (with_reducible repeat (first | apply Kd.R_alloc | apply Kd.R_drewN | apply Kd.R_drew)); exact HO_10.out) hb); have n1_ := Aside0.mk (Kd.R_below (by (with_reducible repeat (first | apply Kd.R_alloc | apply Kd.R_drewN | apply Kd.R_drew)); exact HO_12.out) hb); have n2_ := Aside0.mk (Kd.R_below (by (with_reducible repeat (first | apply Kd.R_alloc | apply Kd.R_drewN | apply Kd.R_drew)); exact HO_60.out) hb); have n3_ := Aside0.mk (IsS66.below z4_ hb); have n4_ := Aside0.mk (KeepBut.trans z0_ (KeepBut.of_below hb g none) (.inl rfl)); have n5_ := Aside0.mk (below_step z5_ hb); clear HO_10; clear HO_12; clear HO_60; clear HI0; clear HK; clear HB; have HO_10 := n0_; have HO_12 := n1_; have HO_60 := n2_; have HI0 := n3_; have HK := n4_; have HB := n5_; clear n0_ n1_ n2_ n3_ n4_ n5_; (try clear hb); (try clear hb2); (try clear hk); (try clear hi)) | (go_at_call 60; (with_reducible refine (bits_Width.calls k2 _ _ t273 t282 _ ?side1 ?side2 A39.out).mono ?_); (case side1 => repeat (first | exact (Kd.R_reads' HO_10.out).2.2 | (with_reducible refine Kd.C_alloc ?_ _) | (with_reducible refine Kd.C_drewN ?_ _) | (with_reducible refine Kd.C_drew ?_))); (case side2 => exact (Kd.R_reads' HO_10.out).2.1); rintro e w' ⟨rfl, ⟨nd, rfl⟩⟩))
              go_ret2
              exact ⟨_, z6_, by (with_reducible repeat (first | apply Kd.R_alloc | apply Kd.R_drewN | apply Kd.R_drew)); exact HO_12.out, z4_, z5_, z0_⟩
             ·rw [if_neg c40] at H
              have c40b0 : (t282 == t255) = false := beq_eq_false_iff_ne.mpr c40
              have c40b1 : (t282 != t255) = true := bne_iff_ne.mpr c40
              simp only [Option.some.injEq, Prod.mk.injEq] at H
              obtain ⟨rfl, rfl, rfl, rfl⟩ := H
              obtain ⟨Ao43, co43, eo43⟩ := Kd.R_slice HO_12.out
              subst eo43
              go_wp2_with (first | ((with_reducible refine gate_callee (f := 58) rfl ?_); refine goesL_ (some 75) rfl rfl Try.func58 (by kernel_rfl) rfl #[.slice Ao43 x12_2.length co43] rfl (by (try simp only [List.map_toArray, List.map_cons, List.map_nil]); first | done | rfl | (simp only [List.length_drop, List.length_take]; rfl) | (go_simp; simp [IntKind.wrap, IntKind.bits, IntKind.signed]; omega)) ?_; (with_reducible refine (slices_Min_int64_int64.calls k2 _ _ x12_2 t281 _ ?side1 ?side2 A37.out).mono ?_); (case side1 => repeat (first | exact (Kd.R_reads' HO_12.out).2.2 | (with_reducible refine Kd.C_alloc ?_ _) | (with_reducible refine Kd.C_drewN ?_ _) | (with_reducible refine Kd.C_drew ?_))); (case side2 => exact (Kd.R_reads' HO_12.out).2.1); rintro e w44 ⟨rfl, hb⟩; refine ⟨_, rfl, ?_⟩; have n0_ := Aside0.mk (Kd.R_below (by (with_reducible repeat (first | apply Kd.R_alloc | apply Kd.R_drewN | apply Kd.R_drew)); exact HO_10.out) hb); have n1_ := Aside0.mk (Kd.R_below (by (with_reducible repeat (first | apply Kd.R_alloc | apply Kd.R_drewN | apply Kd.R_drew)); exact HO_12.out) hb); have n2_ := Aside0.mk (Kd.R_below (by (with_reducible repeat (first | apply Kd.R_alloc | apply Kd.R_drewN | apply Kd.R_drew)); exact HO_60.out) hb); have n3_ := Aside0.mk (IsS66.below z4_ hb); have n4_ := Aside0.mk (KeepBut.trans z0_ (KeepBut.of_below hb g none) (.inl rfl)); have n5_ := Aside0.mk (below_step z5_ hb); clear HO_10; clear HO_12; clear HO_60; clear HI0; clear HK; clear HB; have HO_10 := n0_; have HO_12 := n1_; have HO_60 := n2_; have HI0 := n3_; have HK := n4_; have HB := n5_; clear n0_ n1_ n2_ n3_ n4_ n5_; (try clear hb); (try clear hb2); (try clear hk); (try clear hi)) | (go_at_call 60; (with_reducible refine (bits_Width.calls k2 _ _ t273 t282 _ ?side1 ?side2 A39.out).mono ?_); (case side1 => repeat (first | exact (Kd.R_reads' HO_10.out).2.2 | (with_reducible refine Kd.C_alloc ?_ _) | (with_reducible refine Kd.C_drewN ?_ _) | (with_reducible refine Kd.C_drew ?_))); (case side2 => exact (Kd.R_reads' HO_10.out).2.1); rintro e w' ⟨rfl, ⟨nd, rfl⟩⟩))
              go_ret2
              exact ⟨_, z6_, z10_, z4_, z5_, z0_⟩
            ·rw [if_neg c38] at H
             have c38b0 : (t281 == t252) = false := beq_eq_false_iff_ne.mpr c38
             have c38b1 : (t281 != t252) = true := bne_iff_ne.mpr c38
             simp only [Option.some.injEq, Prod.mk.injEq] at H
             obtain ⟨rfl, rfl, rfl, rfl⟩ := H
             obtain ⟨Ao45, co45, eo45⟩ := Kd.R_slice HO_12.out
             subst eo45
             go_wp2_with (first | ((with_reducible refine gate_callee (f := 58) rfl ?_); refine goesL_ (some 75) rfl rfl Try.func58 (by kernel_rfl) rfl #[.slice Ao45 x12_2.length co45] rfl (by (try simp only [List.map_toArray, List.map_cons, List.map_nil]); first | done | rfl | (simp only [List.length_drop, List.length_take]; rfl) | (go_simp; simp [IntKind.wrap, IntKind.bits, IntKind.signed]; omega)) ?_; (with_reducible refine (slices_Min_int64_int64.calls k2 _ _ x12_2 t281 _ ?side1 ?side2 A37.out).mono ?_); (case side1 => repeat (first | exact (Kd.R_reads' HO_12.out).2.2 | (with_reducible refine Kd.C_alloc ?_ _) | (with_reducible refine Kd.C_drewN ?_ _) | (with_reducible refine Kd.C_drew ?_))); (case side2 => exact (Kd.R_reads' HO_12.out).2.1); rintro e w46 ⟨rfl, hb⟩; refine ⟨_, rfl, ?_⟩; have n0_ := Aside0.mk (Kd.R_below (by (with_reducible repeat (first | apply Kd.R_alloc | apply Kd.R_drewN | apply Kd.R_drew)); exact HO_10.out) hb); have n1_ := Aside0.mk (Kd.R_below (by (with_reducible repeat (first | apply Kd.R_alloc | apply Kd.R_drewN | apply Kd.R_drew)); exact HO_12.out) hb); have n2_ := Aside0.mk (Kd.R_below (by (with_reducible repeat (first | apply Kd.R_alloc | apply Kd.R_drewN | apply Kd.R_drew)); exact HO_60.out) hb); have n3_ := Aside0.mk (IsS66.below z4_ hb); have n4_ := Aside0.mk (KeepBut.trans z0_ (KeepBut.of_below hb g none) (.inl rfl)); have n5_ := Aside0.mk (below_step z5_ hb); clear HO_10; clear HO_12; clear HO_60; clear HI0; clear HK; clear HB; have HO_10 := n0_; have HO_12 := n1_; have HO_60 := n2_; have HI0 := n3_; have HK := n4_; have HB := n5_; clear n0_ n1_ n2_ n3_ n4_ n5_; (try clear hb); (try clear hb2); (try clear hk); (try clear hi)))
             go_ret2
             exact ⟨_, z6_, z10_, z4_, z5_, z0_⟩
        ·rw [if_neg c28] at H
         have c28b0 : (t274 == 0) = false := beq_eq_false_iff_ne.mpr c28
         have c28b1 : (t274 != 0) = true := bne_iff_ne.mpr c28
         simp only [Option.some.injEq, Prod.mk.injEq] at H
         obtain ⟨rfl, rfl, rfl, rfl⟩ := H
         have hcv47 := own_string (P := Try.prog) Try.underlying38 Try.underlying5 Try.underlying9 (Kd.own_of_R HO_9.out)
         go_wp2_with (first | ((with_reducible refine gate_callee (f := 63) rfl ?_); refine goesL_ (some 54) rfl rfl Try.func63 (by kernel_rfl) rfl #[.string (strOfNums x9_1), .int .i64 a1, .int .i64 t255] rfl (by (try simp only [List.map_toArray, List.map_cons, List.map_nil]); first | done | rfl | (simp only [List.length_drop, List.length_take]; rfl) | (go_simp; simp [IntKind.wrap, IntKind.bits, IntKind.signed]; omega)) ?_; (with_reducible refine (bits_Unpack.calls (strOfNums x9_1) a1 t255 t273 t274 _ A27.out).mono ?_); rintro e w48 ⟨v275, rfl, ho0, hb⟩; refine ⟨_, rfl, ?_⟩; have n0_ := Aside0.mk (Kd.R_below (by (with_reducible repeat (first | apply Kd.R_alloc | apply Kd.R_drewN | apply Kd.R_drew)); exact HO_9.out) hb); have n1_ := Aside0.mk (Kd.R_lower ho0 (keep_size (w := w) (g := g) (row := none) z0_)); have n2_ := Aside0.mk (IsS66.below z4_ hb); have n3_ := Aside0.mk (KeepBut.trans z0_ (KeepBut.of_below hb g none) (.inl rfl)); have n4_ := Aside0.mk (below_step z5_ hb); clear HO_9; clear HI0; clear HK; clear HB; have HO_9 := n0_; have HO276 := n1_; have HI0 := n2_; have HK := n3_; have HB := n4_; clear n0_ n1_ n2_ n3_ n4_; (try clear hb); (try clear hb2); (try clear hk); (try clear hi); (try clear ho0)))
         go_ret2
         exact ⟨_, z6_, z10_, z4_, z5_, z0_⟩
  ·rw [if_neg c7] at H
   have c7b0 : (t258 == 0) = false := beq_eq_false_iff_ne.mpr c7
   have c7b1 : (t258 != 0) = true := bne_iff_ne.mpr c7
   replace H := Option.bind_eq_some_iff.mp H
   obtain ⟨⟨t261, t262, t263⟩, A490, H⟩ := H
   replace H : (some (([] : List Int), t261, t262, t263)) = some (r1, r2, r3, r4) := H
   have A49 := Aside0.mk A490
   clear A490
   simp only [Option.some.injEq, Prod.mk.injEq] at H
   obtain ⟨rfl, rfl, rfl, rfl⟩ := H
   go_enter Try.func41, Try.ntmps41
   go_wp2_with (first | ((with_reducible refine gate_callee (f := 56) rfl ?_); refine goesL_ (some 18) rfl rfl Try.func56 (by kernel_rfl) rfl #[.pointer (some ⟨g, 0, none⟩)] rfl (by (try simp only [List.map_toArray, List.map_cons, List.map_nil]); first | done | rfl | (simp only [List.length_drop, List.length_take]; rfl) | (go_simp; simp [IntKind.wrap, IntKind.bits, IntKind.signed]; omega)) ?_; (with_reducible refine (tally_Cursor_Int.calls g s0_0 s0_1 t252 t253 t254 w0 _ ?side1 ?side2 A4.out).mono ?_); (case side1 => repeat (first | (with_reducible first | exact HI0.out | apply IsS66.alloc | apply IsS66.drewN | apply IsS66.drew | apply IsS66.set_0 | apply IsS66.set_1) | exact HI0.out)); (case side2 => repeat (first | (with_reducible first | exact HB.out | apply below_alloc | apply pw_below_drewN | apply below_drew1 | refine below_set ?_ (IsS66.ge HI0.out)) | exact HB.out)); rintro e w50 ⟨rfl, hi, hb, hk⟩; refine ⟨_, rfl, ?_⟩; have n0_ := Aside0.mk (KeepBut.trans z0_ hk (.inl rfl)); have n1_ := Aside0.mk (hb); have n2_ := Aside0.mk (hi); clear HK; clear HB; clear HI0; have HK := n0_; have HB := n1_; have HI0 := n2_; clear n0_ n1_ n2_; (try clear hb); (try clear hb2); (try clear hk); (try clear hi)) | ((with_reducible refine gate_callee (f := 24) rfl ?_); refine goesL_ (some 20) rfl rfl Try.func24 (by kernel_rfl) rfl #[.pointer (some ⟨g, 0, none⟩)] rfl (by (try simp only [List.map_toArray, List.map_cons, List.map_nil]); first | done | rfl | (simp only [List.length_drop, List.length_take]; rfl) | (go_simp; simp [IntKind.wrap, IntKind.bits, IntKind.signed]; omega)) ?_; (with_reducible refine (tally_Cursor_Byte.calls g t253 t254 t255 t256 t257 w0 _ ?side1 ?side2 A5.out).mono ?_); (case side1 => repeat (first | (with_reducible first | exact HI0.out | apply IsS66.alloc | apply IsS66.drewN | apply IsS66.drew | apply IsS66.set_0 | apply IsS66.set_1) | exact HI0.out)); (case side2 => repeat (first | (with_reducible first | exact HB.out | apply below_alloc | apply pw_below_drewN | apply below_drew1 | refine below_set ?_ (IsS66.ge HI0.out)) | exact HB.out)); rintro e w51 ⟨rfl, hi, hb, hk⟩; refine ⟨_, rfl, ?_⟩; have n0_ := Aside0.mk (KeepBut.trans z0_ hk (.inl rfl)); have n1_ := Aside0.mk (hb); have n2_ := Aside0.mk (hi); clear HK; clear HB; clear HI0; have HK := n0_; have HB := n1_; have HI0 := n2_; clear n0_ n1_ n2_; (try clear hb); (try clear hb2); (try clear hk); (try clear hi)) | ((with_reducible refine gate_callee (f := 25) rfl ?_); refine goesL_ (some 23) rfl rfl Try.func25 (by kernel_rfl) rfl #[.pointer (some ⟨g, 0, none⟩)] rfl (by (try simp only [List.map_toArray, List.map_cons, List.map_nil]); first | done | rfl | (simp only [List.length_drop, List.length_take]; rfl) | (go_simp; simp [IntKind.wrap, IntKind.bits, IntKind.signed]; omega)) ?_; (with_reducible refine (tally_Cursor_Err.calls g t256 t257 t258 t259 t260 w0 _ ?side1 ?side2 A6.out).mono ?_); (case side1 => repeat (first | (with_reducible first | exact HI0.out | apply IsS66.alloc | apply IsS66.drewN | apply IsS66.drew | apply IsS66.set_0 | apply IsS66.set_1) | exact HI0.out)); (case side2 => repeat (first | (with_reducible first | exact HB.out | apply below_alloc | apply pw_below_drewN | apply below_drew1 | refine below_set ?_ (IsS66.ge HI0.out)) | exact HB.out)); rintro e w52 ⟨rfl, hi, hb, hk⟩; refine ⟨_, rfl, ?_⟩; have n0_ := Aside0.mk (KeepBut.trans z0_ hk (.inl rfl)); have n1_ := Aside0.mk (hb); have n2_ := Aside0.mk (hi); clear HK; clear HB; clear HI0; have HK := n0_; have HB := n1_; have HI0 := n2_; clear n0_ n1_ n2_; (try clear hb); (try clear hb2); (try clear hk); (try clear hi)) | ((with_reducible refine gate_callee (f := 25) rfl ?_); refine goesL_ (some 26) rfl rfl Try.func25 (by kernel_rfl) rfl #[.pointer (some ⟨g, 0, none⟩)] rfl (by (try simp only [List.map_toArray, List.map_cons, List.map_nil]); first | done | rfl | (simp only [List.length_drop, List.length_take]; rfl) | (go_simp; simp [IntKind.wrap, IntKind.bits, IntKind.signed]; omega)) ?_; (with_reducible refine (tally_Cursor_Err.calls g t259 t260 t261 t262 t263 w0 _ ?side1 ?side2 A49.out).mono ?_); (case side1 => repeat (first | (with_reducible first | exact HI0.out | apply IsS66.alloc | apply IsS66.drewN | apply IsS66.drew | apply IsS66.set_0 | apply IsS66.set_1) | exact HI0.out)); (case side2 => repeat (first | (with_reducible first | exact HB.out | apply below_alloc | apply pw_below_drewN | apply below_drew1 | refine below_set ?_ (IsS66.ge HI0.out)) | exact HB.out)); rintro e w53 ⟨rfl, hi, hb, hk⟩; refine ⟨_, rfl, ?_⟩; have n0_ := Aside0.mk (KeepBut.trans z0_ hk (.inl rfl)); have n1_ := Aside0.mk (hb); have n2_ := Aside0.mk (hi); clear HK; clear HB; clear HI0; have HK := n0_; have HB := n1_; have HI0 := n2_; clear n0_ n1_ n2_; (try clear hb); (try clear hb2); (try clear hk); (try clear hi)))
   go_ret2
   exact ⟨_, z6_, z10_, z4_, z5_, z0_⟩
end Go.Proofs.Ytgeddoklmcjdcaa.G
namespace Go.Proofs.Ytgeddoklmcjdcaa.G
open Go.RowKit Go.Proofs.YtgeddoklmcjdcaaQ Go.Proofs.YtgeddoklmcjdcaaW.PrintWords Go.Proofs.YtgeddoklmcjdcaaW.PrintLast Go.Proofs.YtgeddoklmcjdcaaW.PrintMore
attribute [local go_sem] max2_int min2_int max_two min_two max_three min_three max_four min_four   -- for this text's walks alone
set_option linter.unusedVariables false
set_option linter.unusedSimpArgs false
mutual
def ints_writeRuns.l0 : Nat → List Int → List Int → Option (List Int)
 | 0, _, _ => none
 | k + 1, x0, x1 => if (x1.length : Int) > 0 then (ints_writeRuns.l1 k x0 x1 1) else (some x0)
def ints_writeRuns.l1 : Nat → List Int → List Int → Int → Option (List Int)
 | 0, _, _, _ => none
 | k + 1, x0, x1, x5 => if x5 < (x1.length : Int) then (if 0 ≤ x5 then (if 0 < (x1.length : Int) then (if (rd x1 x5) = (rd x1 0) then (ints_writeRuns.l1 k x0 x1 (wrap64 (x5 + 1))) else ((tally_Uint.f k x0 (IntKind.u64.wrap (x5))).bind fun t165 => ((tally_Int.f k t165 (rd x1 0)).bind fun t169 => (if x5 ≤ (x1.length : Int) then (ints_writeRuns.l0 k t169 (x1.drop (x5 : Int).toNat)) else (none))))) else (none)) else (none)) else ((tally_Uint.f k x0 (IntKind.u64.wrap (x5))).bind fun t177 => (if 0 < (x1.length : Int) then ((tally_Int.f k t177 (rd x1 0)).bind fun t181 => (if 0 ≤ x5 then (if x5 ≤ (x1.length : Int) then (ints_writeRuns.l0 k t181 (x1.drop (x5 : Int).toNat)) else (none)) else (none))) else (none)))
end
def ints_writeRuns.f (k : Nat) (l0 : List Int) (l1 : List Int) : Option (List Int) := ints_writeRuns.l0 k l0 l1
theorem ints_writeRuns.mono_l : ∀ k, (∀ y0 y1, LeO (ints_writeRuns.l0 k y0 y1) (ints_writeRuns.l0 (k + 1) y0 y1)) ∧ (∀ y0 y1 y2, LeO (ints_writeRuns.l1 k y0 y1 y2) (ints_writeRuns.l1 (k + 1) y0 y1 y2))
 | 0 => ⟨fun _ _ r h => by simp [ints_writeRuns.l0] at h, fun _ _ _ r h => by simp [ints_writeRuns.l1] at h⟩
 | k + 1 => by
  obtain ⟨ih0, ih1⟩ := ints_writeRuns.mono_l k
  refine ⟨?_, ?_⟩
  ·intro y0 y1
   unfold ints_writeRuns.l0
   repeat' first
   | (with_reducible exact ih0 _ _)
   | (with_reducible exact ih1 _ _ _)
   | (with_reducible exact tally_Int.mono _ _ _)
   | (with_reducible exact tally_Uint.mono _ _ _)
   | (with_reducible exact LeO.refl _)
   | (with_reducible exact LeO.none _)
   | (with_reducible refine LeO.ite ?_ ?_)
   | (with_reducible refine LeO.bind ?_ (fun _ => ?_))
   | exact ih0 _ _
   | exact ih1 _ _ _
   | exact tally_Int.mono _ _ _
   | exact tally_Uint.mono _ _ _
   | exact LeO.none _
   | refine LeO.ite ?_ ?_
   | refine LeO.bind ?_ (fun _ => ?_)
  ·intro y0 y1 y2
   unfold ints_writeRuns.l1
   repeat' first
   | (with_reducible exact ih0 _ _)
   | (with_reducible exact ih1 _ _ _)
   | (with_reducible exact tally_Int.mono _ _ _)
   | (with_reducible exact tally_Uint.mono _ _ _)
   | (with_reducible exact LeO.refl _)
   | (with_reducible exact LeO.none _)
   | (with_reducible refine LeO.ite ?_ ?_)
   | (with_reducible refine LeO.bind ?_ (fun _ => ?_))
   | exact ih0 _ _
   | exact ih1 _ _ _
   | exact tally_Int.mono _ _ _
   | exact tally_Uint.mono _ _ _
   | exact LeO.none _
   | refine LeO.ite ?_ ?_
   | refine LeO.bind ?_ (fun _ => ?_)
theorem ints_writeRuns.mono : ∀ a0 a1 k, LeO (ints_writeRuns.f k a0 a1) (ints_writeRuns.f (k + 1) a0 a1) := by
 intro a0 a1 k
 obtain ⟨ih0, ih1⟩ := ints_writeRuns.mono_l k
 unfold ints_writeRuns.f
 repeat' first
   | (with_reducible exact ih0 _ _)
   | (with_reducible exact ih1 _ _ _)
   | (with_reducible exact tally_Int.mono _ _ _)
   | (with_reducible exact tally_Uint.mono _ _ _)
   | (with_reducible exact LeO.refl _)
   | (with_reducible exact LeO.none _)
   | (with_reducible refine LeO.ite ?_ ?_)
   | (with_reducible refine LeO.bind ?_ (fun _ => ?_))
   | exact ih0 _ _
   | exact ih1 _ _ _
   | exact tally_Int.mono _ _ _
   | exact tally_Uint.mono _ _ _
   | exact LeO.none _
   | refine LeO.ite ?_ ?_
   | refine LeO.bind ?_ (fun _ => ?_)
def ints_writeRuns.T3 : Bool × List (List Nat × List Nat) := (true, [([], []), ([], []), ([1], [1]), ([0, 2], [0, 2]), ([3], [3]), ([4], [4]), ([4], [4]), ([5, 6, 4], [4, 5, 6]), ([7, 4], [4, 7]), ([4], [4]), ([9, 4], [4, 9]), ([10, 4], [4, 10]), ([8, 11, 4], [4, 8, 11]), ([4, 12], [4, 12])])
def ints_writeRuns.B3 : List Nat := [0, 0, 2, 7, 15, 31, 31, 127, 255, 31, 543, 1567, 4095, 8191]
theorem ints_writeRuns.tab3 : rtab .any (opsOf Try.f38 3) = ints_writeRuns.T3 := by kernel_rfl
theorem ints_writeRuns.bits3 : waitsOk ints_writeRuns.T3.2 ints_writeRuns.B3 = true := by kernel_rfl
def ints_writeRuns.T5 : Bool × List (List Nat × List Nat) := (true, [([], []), ([], []), ([1], [1]), ([0, 2], [0, 2]), ([], []), ([4], [4]), ([5], [5]), ([3, 6, 3], [3, 6]), ([7, 7, 0, 1, 2, 3, 4, 5, 6, 7], [0, 7])])
def ints_writeRuns.B5 : List Nat := [0, 0, 2, 7, 0, 16, 48, 127, 255]
theorem ints_writeRuns.tab5 : rtab .any (opsOf Try.f38 5) = ints_writeRuns.T5 := by kernel_rfl
theorem ints_writeRuns.bits5 : waitsOk ints_writeRuns.T5.2 ints_writeRuns.B5 = true := by kernel_rfl
set_option maxHeartbeats 8000000 in
set_option maxRecDepth 100000 in
theorem ints_writeRuns.calls (k : Nat) (P0_ : Nat → Prop) (u9000_ : Value) (l0 : List Int) (P1_ : Nat → Prop) (A1 : Option Addr) (c1 : Nat) (l1 : List Int) (r : List Int) (w0 w : World) (hB : Below w0.heap.size w0 w) (ho0 : Kd.R (Kd.int .u8) 5 w w0.heap.size P0_ u9000_ l0) (hs1 : Kd.V (Kd.int .i64) 2 w w0.heap.size (fun k_ => P1_ k_ ∧ some k_ ≠ (u9000_ : Value).ownBlock) (.slice A1 l1.length c1) l1) (h : ints_writeRuns.f k l0 l1 = some r) :
  Calls Try.prog 38 #[u9000_, .slice A1 l1.length c1] w fun e w' => ∃ v0_ : Value, e = .returned (v0_) ∧ Kd.R (Kd.int .u8) 5 w' w0.heap.size (fun k_ => (P0_ k_ ∨ w.heap.size ≤ k_)) v0_ r ∧ Below w0.heap.size w0 w' ∧ Kept w w' (fun k_ => P0_ k_) := by
 have HO0 := Aside0.mk (show Kd.R (Kd.int .u8) 5 w w0.heap.size (fun k_ => (P0_ k_ ∨ w.heap.size ≤ k_)) u9000_ l0 from Kd.R_mono ho0 (fun k_ hk => (.inl hk)))
 have HO1 := Aside0.mk (show Kd.V (Kd.int .i64) 2 w w0.heap.size (fun k_ => ((P0_ k_ ∨ P1_ k_) ∨ w.heap.size ≤ k_) ∧ some k_ ≠ (u9000_ : Value).ownBlock) (.slice A1 l1.length c1) l1 from Kd.V_mono hs1 (fun k_ hk => ⟨.inl (.inr hk.1), hk.2⟩))
 have HK := Aside0.mk (Kept.refl w (fun k_ => P0_ k_))
 have HW0 := Aside0.mk hB.size
 have HB := Aside0.mk hB
 clear hB
 have H : (ints_writeRuns.l0 k l0 l1) = some r := h
 clear h
 have H' := Aside0.mk H
 clear H
 go_enter Try.func38, Try.ntmps38
 go_wp2
 go_loopg [0, 1] k (fun kq v0 v1 w' => ∃ (x0_1 : List Int) (x1_1 : List Int), Aside0 (ints_writeRuns.l0 kq x0_1 x1_1 = some r) ∧ Aside0 (kq ≤ k) ∧ Aside0 (Kd.R (Kd.int .u8) 5 w' w0.heap.size (fun k_ => (P0_ k_ ∨ w.heap.size ≤ k_)) v0 x0_1) ∧ Aside0 (Kd.V (Kd.int .i64) 2 w' w0.heap.size (fun k_ => ((P0_ k_ ∨ P1_ k_) ∨ w.heap.size ≤ k_) ∧ some k_ ≠ (v0 : Value).ownBlock) v1 x1_1) ∧ Aside0 (Kept w w' (fun k_ => P0_ k_)) ∧ Aside0 (Below w0.heap.size w0 w'))
 case atStart => exact ⟨(l0), (l1), H', ⟨Nat.le_refl _⟩, ⟨by (with_reducible repeat (first | apply Kd.R_alloc | apply Kd.R_drewN | apply Kd.R_drew)); exact HO0.out⟩, ⟨by (with_reducible repeat (first | apply Kd.V_alloc | apply Kd.V_drewN | apply Kd.V_drew)); exact HO1.out⟩, ⟨z9_⟩, ⟨z1_⟩⟩
 case round =>
  clear H'
  try clear c1
  try clear p2
  obtain ⟨x0_1, x1_1, HA, HK1, HO_0, HO_1, HK, HB⟩ := hrel
  cases gk with
  | zero => exact absurd HA.out (by simp [ints_writeRuns.l0])
  | succ k1 =>
   have H := HA.out
   clear HA
   simp only [ints_writeRuns.l0] at H
   by_cases c3 : (x1_1.length : Int) > 0
   ·rw [if_pos c3] at H
    have c3b0 : decide (0 < (x1_1.length : Int)) = true := decide_eq_true c3
    have c3b1 : decide (0 < x1_1.length) = true := decide_eq_true (by omega)
    clear c3
    have H' := Aside0.mk H
    clear H
    obtain ⟨Ao4, co4, eo4⟩ := Kd.V_slice HO_1.out
    subst eo4
    go_wp2
    go_loopg [5] k1 (fun kq v5 w' => ∃ (x5_2 : Int), v5 = .int .i64 x5_2 ∧ Aside0 (ints_writeRuns.l1 kq x0_1 x1_1 x5_2 = some r) ∧ Aside0 (kq ≤ k1) ∧ Aside0 (Kd.R (Kd.int .u8) 5 w' w0.heap.size (fun k_ => (P0_ k_ ∨ w.heap.size ≤ k_)) u0 x0_1) ∧ Aside0 (Kd.V (Kd.int .i64) 2 w' w0.heap.size (fun k_ => ((P0_ k_ ∨ P1_ k_) ∨ w.heap.size ≤ k_) ∧ some k_ ≠ (u0 : Value).ownBlock) (.slice Ao4 x1_1.length co4) x1_1) ∧ Aside0 (Kept w w' (fun k_ => P0_ k_)) ∧ Aside0 (Below w0.heap.size w0 w'))
    case atStart => exact ⟨(1), z11_, H', ⟨Nat.le_refl _⟩, ⟨by (with_reducible repeat (first | apply Kd.R_alloc | apply Kd.R_drewN | apply Kd.R_drew)); exact HO_0.out⟩, ⟨by (with_reducible repeat (first | apply Kd.V_alloc | apply Kd.V_drewN | apply Kd.V_drew)); exact HO_1.out⟩, ⟨z9_⟩, ⟨z1_⟩⟩
    case round =>
     clear H'
     try clear c1
     try clear p2
     try clear c3
     try clear c3b0
     try clear c3b1
     try clear p2
     obtain ⟨x5_2, rfl, HA, HK2, HO_0, HO_1, HK, HB⟩ := hrel
     cases gk with
     | zero => exact absurd HA.out (by simp [ints_writeRuns.l1])
     | succ k2 =>
      have H := HA.out
      clear HA
      simp only [ints_writeRuns.l1] at H
      by_cases c5 : x5_2 < (x1_1.length : Int)
      ·rw [if_pos c5] at H
       have c5b0 : decide (x5_2 < (x1_1.length : Int)) = true := decide_eq_true c5
       clear c5
       by_cases c6 : 0 ≤ x5_2
       ·rw [if_pos c6] at H
        have c6b0 : decide (0 ≤ x5_2) = true := decide_eq_true c6
        clear c6
        by_cases c7 : 0 < (x1_1.length : Int)
        ·rw [if_pos c7] at H
         have c7b0 : decide (0 < (x1_1.length : Int)) = true := decide_eq_true c7
         have c7b1 : decide (0 < x1_1.length) = true := decide_eq_true (by omega)
         clear c7
         by_cases c8 : (rd x1_1 x5_2) = (rd x1_1 0)
         ·rw [if_pos c8] at H
          have c8b0 : ((rd x1_1 x5_2) == (rd x1_1 0)) = true := beq_iff_eq.mpr c8
          have c8b1 : ((rd x1_1 x5_2) != (rd x1_1 0)) = false := bne_eq_false_iff_eq.mpr c8
          clear c8
          have H' := Aside0.mk H
          clear H
          try go_wp2
          have n0_ := Aside0.mk (Kd.R_drew HO_0.out)
          have n1_ := Aside0.mk (Kd.V_drew HO_1.out)
          have n2_ := Aside0.mk (Kept.drew HK.out)
          have n3_ := Aside0.mk (below_drew1 HB.out)
          clear HO_0
          clear HO_1
          clear HK
          clear HB
          have HO_0 := n0_
          have HO_1 := n1_
          have HK := n2_
          have HB := n3_
          clear n0_ n1_ n2_ n3_
          have p163 : 0 ≤ (x5_2 : Int) := of_decide_eq_true z12_
          have q163 : x5_2 < (x1_1.length : Int) := of_decide_eq_true z12_
          obtain ⟨ad163, e163, hx163_0⟩ := Kd.at_int (Kd.V_reads' HO_1.out).2.2 x5_2 p163 q163
          cases e163
          replace p163 := eq_true p163
          replace q163 := eq_true q163
          have p164 : 0 ≤ (0 : Int) := (by omega)
          have q164 : 0 < (x1_1.length : Int) := of_decide_eq_true z12_
          obtain ⟨ad164, e164, hx164_0⟩ := Kd.at_int (Kd.V_reads' HO_1.out).2.2 0 p164 q164
          obtain rfl : ad163 = ad164 := (by injection e164)
          have qi164 : (0 < x1_1.length) = True := eq_true (by omega)
          (try rw [show ((0 : Int)).toNat = 0 from rfl] at hx164_0)
          (try rw [Addr.add_zero'] at hx164_0)
          replace p164 := eq_true p164
          replace q164 := eq_true q164
          refine start_ (n := 14) (S := fun w' => w'.cell? (ad163.add (x5_2).toNat) = some (.int .i64 (rd x1_1 x5_2)) ∧ w'.cell? ad163 = some (.int .i64 (rd x1_1 0))) (ds := []) (bs_ 14 0) (by kernel_rfl) rfl rfl ⟨hx163_0, hx164_0⟩ (fun hHeld => ?_); refine with_tabW ints_writeRuns.tab3 ints_writeRuns.bits3 (fun HT_ HW_ => ?_)
          generalize wr.drew = w9 at HO_0 HO_1 HK HB hx163_0 hx164_0 hHeld ⊢
          refine pA_ 0 (some 9) (bs_ 14 1) HT_ ?_ ?_ ?_ ?_ ?_
          rotate_left; (intro w'; go_simp; with_reducible rfl); rotate_left; (simp only [PT_]; rfl)
          refine pA_ 1 (some 10) (bs_ 14 3) HT_ ?_ ?_ ?_ ?_ ?_
          rotate_left; (intro w'; go_simp; with_reducible rfl); rotate_left; (simp only [PT_]; rfl)
          refine pA_ 2 (some 11) (bs_ 14 7) HT_ ?_ ?_ ?_ ?_ ?_
          rotate_left; (intro w'; go_simp; with_reducible rfl); rotate_left; (simp only [PT_]; rfl)
          refine pA_ 3 (some 12) (bs_ 14 15) HT_ ?_ ?_ ?_ ?_ ?_
          rotate_left; (intro w'; go_simp; with_reducible rfl); rotate_left; (simp only [PT_]; rfl)
          refine pA_ 4 (some 13) (bs_ 14 31) HT_ ?_ ?_ ?_ ?_ ?_
          rotate_left; (intro w'; go_simp; with_reducible rfl); rotate_left; (simp only [PT_]; rfl)
          refine pA_ 5 (some 14) (bs_ 14 63) HT_ ?_ ?_ ?_ ?_ ?_
          rotate_left; (intro w'; go_simp; with_reducible rfl); rotate_left; (simp only [PT_]; rfl)
          refine pA_ 6 (some 15) (bs_ 14 127) HT_ ?_ ?_ ?_ ?_ ?_
          rotate_left; (intro w'; go_simp; with_reducible rfl); rotate_left; (simp only [PT_]; rfl)
          refine pA_ 7 (some 16) (bs_ 14 255) HT_ ?_ ?_ ?_ ?_ ?_
          rotate_left; (intro w'; go_simp; with_reducible rfl); rotate_left; (simp only [PT_]; rfl)
          refine pA_ 9 (some 18) (bs_ 14 767) HT_ ?_ ?_ ?_ ?_ ?_
          rotate_left; (intro w'; go_simp; with_reducible rfl); rotate_left; (simp only [PT_]; rfl)
          refine pA_ 10 (some 19) (bs_ 14 1791) HT_ ?_ ?_ ?_ ?_ ?_
          rotate_left; (intro w'; go_simp; with_reducible rfl); rotate_left; (simp only [PT_]; rfl)
          refine take_ (i := 8) (N := some 17) (v := ?_) (a' := ?_) (bs_ 14 2047) rfl rfl (take_ofW HT_.out HW_.out (by kernel_rfl)) (fun _ _ _ h => h) (Or.inl ⟨by rfl, ?_⟩) hHeld ?_ ?_
          rotate_left
          ·rintro w' ⟨s0, s1⟩
           go_simp
           with_reducible rfl
          rotate_left
          ·simp only [PT_]
           rfl
          refine take_ (i := 11) (N := some 20) (v := ?_) (a' := ?_) (bs_ 14 4095) rfl rfl (take_ofW HT_.out HW_.out (by kernel_rfl)) (fun _ _ _ h => h) (Or.inl ⟨by rfl, ?_⟩) hHeld ?_ ?_
          rotate_left
          ·rintro w' ⟨s0, s1⟩
           go_simp
           with_reducible rfl
          rotate_left
          ·simp only [PT_]
           rfl
          refine pA_ 12 (some 21) (bs_ 14 8191) HT_ ?_ ?_ ?_ ?_ ?_
          rotate_left; (intro w'; go_simp; with_reducible rfl); rotate_left; (simp only [PT_]; rfl)
          refine pA_ 13 (some 22) (bs_ 14 16383) HT_ ?_ ?_ ?_ ?_ ?_
          rotate_left; (intro w'; go_simp; with_reducible rfl); rotate_left; (simp only [PT_]; rfl)
          refine done_ (done_of HT_.out (by kernel_rfl)) ?_
          try go_wp2
          go_roundg k2
          case measure => have := HK1.out; have := HK2.out; omega
          case rel => exact ⟨(wrap64 (x5_2 + 1)), z11_, H', ⟨by have := HK1.out; have := HK2.out; omega⟩, ⟨by (with_reducible repeat (first | apply Kd.R_alloc | apply Kd.R_drewN | apply Kd.R_drew)); exact HO_0.out⟩, ⟨by (with_reducible repeat (first | apply Kd.V_alloc | apply Kd.V_drewN | apply Kd.V_drew)); exact HO_1.out⟩, ⟨z9_⟩, ⟨z1_⟩⟩
         ·rw [if_neg c8] at H
          have c8b0 : ((rd x1_1 x5_2) == (rd x1_1 0)) = false := beq_eq_false_iff_ne.mpr c8
          have c8b1 : ((rd x1_1 x5_2) != (rd x1_1 0)) = true := bne_iff_ne.mpr c8
          replace H := Option.bind_eq_some_iff.mp H
          obtain ⟨t165, A100, H⟩ := H
          replace H : ((tally_Int.f k2 t165 (rd x1_1 0)).bind fun t169 => (if x5_2 ≤ (x1_1.length : Int) then (ints_writeRuns.l0 k2 t169 (x1_1.drop (x5_2 : Int).toNat)) else (none))) = some r := H
          have A10 := Aside0.mk A100
          clear A100
          replace H := Option.bind_eq_some_iff.mp H
          obtain ⟨t169, A110, H⟩ := H
          replace H : (if x5_2 ≤ (x1_1.length : Int) then (ints_writeRuns.l0 k2 t169 (x1_1.drop (x5_2 : Int).toNat)) else (none)) = some r := H
          have A11 := Aside0.mk A110
          clear A110
          have c12b0 := eq_true (of_decide_eq_true z12_ : 0 ≤ x5_2)
          by_cases c13 : x5_2 ≤ (x1_1.length : Int)
          ·rw [if_pos c13] at H
           have c13b0 := eq_true c13
           have c13b1 : decide (x5_2 ≤ (x1_1.length : Int)) = true := decide_eq_true c13
           clear c13
           obtain ⟨y172, hy172⟩ : ∃ y_ : List Int, y_ = (x1_1.drop (x5_2 : Int).toNat) := ⟨_, rfl⟩
           replace H : (ints_writeRuns.l0 k2 t169 y172) = some r := by first | (rw [hy172]; with_reducible exact H) | (have H2_ := (Option.bind_some _ _).symm.trans H; rw [hy172]; with_reducible exact H2_) | (have H2_ := (Option.bind_some _ _).symm.trans H; with_reducible exact H2_) | with_reducible exact H | (rw [hy172]; exact H) | exact H
           have Ny172 := Aside0.mk hy172
           clear hy172
           have H' := Aside0.mk H
           clear H
           try go_wp2
           have n0_ := Aside0.mk (Kd.R_drew HO_0.out)
           have n1_ := Aside0.mk (Kd.V_drew HO_1.out)
           have n2_ := Aside0.mk (Kept.drew HK.out)
           have n3_ := Aside0.mk (below_drew1 HB.out)
           clear HO_0
           clear HO_1
           clear HK
           clear HB
           have HO_0 := n0_
           have HO_1 := n1_
           have HK := n2_
           have HB := n3_
           clear n0_ n1_ n2_ n3_
           have p163 : 0 ≤ (x5_2 : Int) := of_decide_eq_true z12_
           have q163 : x5_2 < (x1_1.length : Int) := of_decide_eq_true z12_
           obtain ⟨ad163, e163, hx163_0⟩ := Kd.at_int (Kd.V_reads' HO_1.out).2.2 x5_2 p163 q163
           cases e163
           replace p163 := eq_true p163
           replace q163 := eq_true q163
           have p164 : 0 ≤ (0 : Int) := (by omega)
           have q164 : 0 < (x1_1.length : Int) := of_decide_eq_true z12_
           obtain ⟨ad164, e164, hx164_0⟩ := Kd.at_int (Kd.V_reads' HO_1.out).2.2 0 p164 q164
           obtain rfl : ad163 = ad164 := (by injection e164)
           have qi164 : (0 < x1_1.length) = True := eq_true (by omega)
           (try rw [show ((0 : Int)).toNat = 0 from rfl] at hx164_0)
           (try rw [Addr.add_zero'] at hx164_0)
           replace p164 := eq_true p164
           replace q164 := eq_true q164
           refine start_ (n := 14) (S := fun w' => w'.cell? (ad163.add (x5_2).toNat) = some (.int .i64 (rd x1_1 x5_2)) ∧ w'.cell? ad163 = some (.int .i64 (rd x1_1 0))) (ds := []) (bs_ 14 0) (by kernel_rfl) rfl rfl ⟨hx163_0, hx164_0⟩ (fun hHeld => ?_); refine with_tabW ints_writeRuns.tab3 ints_writeRuns.bits3 (fun HT_ HW_ => ?_)
           generalize wr.drew = w14 at HO_0 HO_1 HK HB hx163_0 hx164_0 hHeld ⊢
           refine pA_ 0 (some 9) (bs_ 14 1) HT_ ?_ ?_ ?_ ?_ ?_
           rotate_left; (intro w'; go_simp; with_reducible rfl); rotate_left; (simp only [PT_]; rfl)
           refine pA_ 1 (some 10) (bs_ 14 3) HT_ ?_ ?_ ?_ ?_ ?_
           rotate_left; (intro w'; go_simp; with_reducible rfl); rotate_left; (simp only [PT_]; rfl)
           refine pA_ 2 (some 11) (bs_ 14 7) HT_ ?_ ?_ ?_ ?_ ?_
           rotate_left; (intro w'; go_simp; with_reducible rfl); rotate_left; (simp only [PT_]; rfl)
           refine pA_ 3 (some 12) (bs_ 14 15) HT_ ?_ ?_ ?_ ?_ ?_
           rotate_left; (intro w'; go_simp; with_reducible rfl); rotate_left; (simp only [PT_]; rfl)
           refine pA_ 4 (some 13) (bs_ 14 31) HT_ ?_ ?_ ?_ ?_ ?_
           rotate_left; (intro w'; go_simp; with_reducible rfl); rotate_left; (simp only [PT_]; rfl)
           refine pA_ 5 (some 14) (bs_ 14 63) HT_ ?_ ?_ ?_ ?_ ?_
           rotate_left; (intro w'; go_simp; with_reducible rfl); rotate_left; (simp only [PT_]; rfl)
           refine pA_ 6 (some 15) (bs_ 14 127) HT_ ?_ ?_ ?_ ?_ ?_
           rotate_left; (intro w'; go_simp; with_reducible rfl); rotate_left; (simp only [PT_]; rfl)
           refine pA_ 7 (some 16) (bs_ 14 255) HT_ ?_ ?_ ?_ ?_ ?_
           rotate_left; (intro w'; go_simp; with_reducible rfl); rotate_left; (simp only [PT_]; rfl)
           refine pA_ 9 (some 18) (bs_ 14 767) HT_ ?_ ?_ ?_ ?_ ?_
           rotate_left; (intro w'; go_simp; with_reducible rfl); rotate_left; (simp only [PT_]; rfl)
           refine pA_ 10 (some 19) (bs_ 14 1791) HT_ ?_ ?_ ?_ ?_ ?_
           rotate_left; (intro w'; go_simp; with_reducible rfl); rotate_left; (simp only [PT_]; rfl)
           refine take_ (i := 8) (N := some 17) (v := ?_) (a' := ?_) (bs_ 14 2047) rfl rfl (take_ofW HT_.out HW_.out (by kernel_rfl)) (fun _ _ _ h => h) (Or.inl ⟨by rfl, ?_⟩) hHeld ?_ ?_
           rotate_left
           ·rintro w' ⟨s0, s1⟩
            go_simp
            with_reducible rfl
           rotate_left
           ·simp only [PT_]
            rfl
           refine take_ (i := 11) (N := some 20) (v := ?_) (a' := ?_) (bs_ 14 4095) rfl rfl (take_ofW HT_.out HW_.out (by kernel_rfl)) (fun _ _ _ h => h) (Or.inl ⟨by rfl, ?_⟩) hHeld ?_ ?_
           rotate_left
           ·rintro w' ⟨s0, s1⟩
            go_simp
            with_reducible rfl
           rotate_left
           ·simp only [PT_]
            rfl
           refine pA_ 12 (some 21) (bs_ 14 8191) HT_ ?_ ?_ ?_ ?_ ?_
           rotate_left; (intro w'; go_simp; with_reducible rfl); rotate_left; (simp only [PT_]; rfl)
           refine pA_ 13 (some 22) (bs_ 14 16383) HT_ ?_ ?_ ?_ ?_ ?_
           rotate_left; (intro w'; go_simp; with_reducible rfl); rotate_left; (simp only [PT_]; rfl)
           refine done_ (done_of HT_.out (by kernel_rfl)) ?_
           try go_wp2
           have n0_ := Aside0.mk (Kd.R_drew HO_0.out)
           have n1_ := Aside0.mk (Kd.V_drew HO_1.out)
           have n2_ := Aside0.mk (Kept.drew HK.out)
           have n3_ := Aside0.mk (below_drew1 HB.out)
           clear HO_0
           clear HO_1
           clear HK
           clear HB
           have HO_0 := n0_
           have HO_1 := n1_
           have HK := n2_
           have HB := n3_
           clear n0_ n1_ n2_ n3_
           have p168 : 0 ≤ (0 : Int) := (by omega)
           have q168 : 0 < (x1_1.length : Int) := of_decide_eq_true z12_
           obtain ⟨ad168, e168, hx168_0⟩ := Kd.at_int (Kd.V_reads' HO_1.out).2.2 0 p168 q168
           obtain rfl : ad163 = ad168 := (by injection e168)
           have qi168 : (0 < x1_1.length) = True := eq_true (by omega)
           (try rw [show ((0 : Int)).toNat = 0 from rfl] at hx168_0)
           (try rw [Addr.add_zero'] at hx168_0)
           replace p168 := eq_true p168
           replace q168 := eq_true q168
           obtain ⟨Ao16, co16, eo16⟩ := Kd.R_slice HO_0.out
           (first | subst eo16 | (injection eo16 with f1_ f2_ f3_; have f4_ := f1_.symm; have f5_ := f3_.symm; clear f1_ f2_ f3_; subst f4_; subst f5_))
           refine start_ (n := 9) (S := fun w' => w'.cell? ad163 = some (.int .i64 (rd x1_1 0))) (ds := []) (bs_ 9 0) (by kernel_rfl) rfl rfl (hx168_0) (fun hHeld => ?_); refine with_tabW ints_writeRuns.tab5 ints_writeRuns.bits5 (fun HT_ HW_ => ?_)
           generalize w14.drew = w15 at HO_0 HO_1 HK HB hx168_0 hHeld ⊢
           refine pA_ 0 (some 25) (bs_ 9 1) HT_ ?_ ?_ ?_ ?_ ?_
           rotate_left; (intro w'; go_simp; with_reducible rfl); rotate_left; (simp only [PT_]; rfl)
           refine pA_ 1 (some 26) (bs_ 9 3) HT_ ?_ ?_ ?_ ?_ ?_
           rotate_left; (intro w'; go_simp; with_reducible rfl); rotate_left; (simp only [PT_]; rfl)
           refine pA_ 2 (some 27) (bs_ 9 7) HT_ ?_ ?_ ?_ ?_ ?_
           rotate_left; (intro w'; go_simp; with_reducible rfl); rotate_left; (simp only [PT_]; rfl)
           refine pA_ 4 (some 29) (bs_ 9 23) HT_ ?_ ?_ ?_ ?_ ?_
           rotate_left; (intro w'; go_simp; with_reducible rfl); rotate_left; (simp only [PT_]; rfl)
           refine pA_ 5 (some 30) (bs_ 9 55) HT_ ?_ ?_ ?_ ?_ ?_
           rotate_left; (intro w'; go_simp; with_reducible rfl); rotate_left; (simp only [PT_]; rfl)
           refine take_ (i := 6) (N := some 31) (v := ?_) (a' := ?_) (bs_ 9 119) rfl rfl (take_ofW HT_.out HW_.out (by kernel_rfl)) (fun _ _ _ h => h) (Or.inl ⟨by rfl, ?_⟩) hHeld ?_ ?_
           rotate_left
           ·intro w' s0
            go_simp
            with_reducible rfl
           rotate_left
           ·simp only [PT_]
            rfl
           refine oA_ 3 (some 28) (bs_ 9 127) HT_ (fun K hK => ?_)
           refine goes_ Try.func18 (by kernel_rfl) rfl #[.slice Ao16 x0_1.length co16, .int .u64 (IntKind.u64.wrap (x5_2))] (by rfl) rfl rfl (by (try simp only [List.map_toArray, List.map_cons, List.map_nil]); first | done | rfl | (simp only [List.length_drop, List.length_take]; rfl)) ?_
           with_reducible refine (tally_Uint.calls k2 (fun k_ => some k_ = (.slice Ao16 x0_1.length co16 : Value).ownBlock) (.slice Ao16 x0_1.length co16) x0_1 (IntKind.u64.wrap (x5_2)) t165 w0 _ ?side1 ?side2 A10.out).mono ?_
           (case side1 => repeat (first | (with_reducible first | exact HB.out | apply below_alloc | apply pw_below_drewN | apply below_drew1) | exact HB.out))
           (case side2 => exact Kd.R_tight rfl HO_0.out)
           rintro e w17 ⟨v166, rfl, ho0, hb, hkp⟩
           have HS0_ := cell_kept (hHeld) hkp (by first | (rw [add_block]; exact (fun hs_ => ((Kd.F_in (Kd.V_F (HO_1.out)) rfl (by first | exact of_eq_true (by assumption) | exact of_decide_eq_true (by assumption) | omega) (by decide)).2) hs_)) | (show ¬ _; simp only [add_block]; exact (fun hs_ => ((Kd.F_in (Kd.V_F (HO_1.out)) rfl (by first | exact of_eq_true (by assumption) | exact of_decide_eq_true (by assumption) | omega) (by decide)).2) hs_)) | exact (fun hs_ => ((Kd.F_in (Kd.V_F (HO_1.out)) rfl (by first | exact of_eq_true (by assumption) | exact of_decide_eq_true (by assumption) | omega) (by decide)).2) hs_))
           refine ⟨_, rfl, ?_⟩
           have n0_ := Aside0.mk (Kd.V_mono (ok' := fun k_ => ((P0_ k_ ∨ P1_ k_) ∨ w.heap.size ≤ k_) ∧ some k_ ≠ (v166 : Value).ownBlock) (Kd.V_keptB (HO_1.out) hkp (fun k_ hk_ hs_ => (hk_.2) hs_)) (fun k_ hk_ => ⟨hk_.1.1, fun e_ => Or.elim (ho0.1 k_ e_.symm) (fun hs_ => hk_.2.1 hs_) (fun hn_ => Nat.not_le.2 hk_.2.2 hn_)⟩))
           have n1_ := Aside0.mk (Kd.R_mono (ok' := fun k_ => (P0_ k_ ∨ w.heap.size ≤ k_)) ho0 (fun k_ hk_ => Or.elim hk_ (fun hs_ => (HO_0.out.1 k_ (hs_).symm)) (fun hn_ => (.inr (Nat.le_trans (by first | exact HK.out.1 | exact (show Kept w _ (fun k_ => P0_ k_) from z9_).1) hn_)))))
           have n2_ := Aside0.mk (Kept.then_ (S := (fun k_ => P0_ k_)) z9_ hkp (fun k_ hs_ => (fun e_ => (HO_0.out.1 k_ e_.symm)) hs_))
           have n3_ := Aside0.mk (hb)
           clear HO_1
           clear HK
           clear HB
           clear HO_0
           have HO_1 := n0_
           have HO167 := n1_
           have HK := n2_
           have HB := n3_
           clear n0_ n1_ n2_ n3_
           (try clear hb)
           (try clear hkp)
           (try clear ho0)
           obtain ⟨Ao18, co18, eo18⟩ := Kd.R_slice HO167.out
           (first | subst eo18 | (injection eo18 with f1_ f2_ f3_; have f4_ := f1_.symm; have f5_ := f3_.symm; clear f1_ f2_ f3_; subst f4_; subst f5_))
           refine hK.out _ _ (HS0_) (fun hHeld => ?_)
           clear hK K
           refine norm_ (a' := ?_) ?_ ?_; rotate_left; (show Act.put _ (some 28) _ = _; simp only [PT_]; rfl)
           refine oA_ 7 (some 32) (bs_ 9 255) HT_ (fun K hK => ?_)
           refine goes_ Try.func55 (by kernel_rfl) rfl #[.slice Ao18 t165.length co18, .int .i64 (rd x1_1 0)] (by rfl) rfl rfl (by (try simp only [List.map_toArray, List.map_cons, List.map_nil]); first | done | rfl | (simp only [List.length_drop, List.length_take]; rfl)) ?_
           with_reducible refine (tally_Int.calls k2 (fun k_ => some k_ = (.slice Ao18 t165.length co18 : Value).ownBlock) (.slice Ao18 t165.length co18) t165 (rd x1_1 0) t169 w0 _ ?side1 ?side2 A11.out).mono ?_
           (case side1 => repeat (first | (with_reducible first | exact HB.out | apply below_alloc | apply pw_below_drewN | apply below_drew1) | exact HB.out))
           (case side2 => exact Kd.R_tight rfl HO167.out)
           rintro e w19 ⟨v170, rfl, ho0, hb, hkp⟩
           have HS0_ := cell_kept (hHeld) hkp (by first | (rw [add_block]; exact (fun hs_ => ((Kd.F_in (Kd.V_F (HO_1.out)) rfl (by first | exact of_eq_true (by assumption) | exact of_decide_eq_true (by assumption) | omega) (by decide)).2) hs_)) | (show ¬ _; simp only [add_block]; exact (fun hs_ => ((Kd.F_in (Kd.V_F (HO_1.out)) rfl (by first | exact of_eq_true (by assumption) | exact of_decide_eq_true (by assumption) | omega) (by decide)).2) hs_)) | exact (fun hs_ => ((Kd.F_in (Kd.V_F (HO_1.out)) rfl (by first | exact of_eq_true (by assumption) | exact of_decide_eq_true (by assumption) | omega) (by decide)).2) hs_))
           refine ⟨_, rfl, ?_⟩
           have n0_ := Aside0.mk (Kd.V_mono (ok' := fun k_ => ((P0_ k_ ∨ P1_ k_) ∨ w.heap.size ≤ k_) ∧ some k_ ≠ (v170 : Value).ownBlock) (Kd.V_keptB (HO_1.out) hkp (fun k_ hk_ hs_ => (hk_.2) hs_)) (fun k_ hk_ => ⟨hk_.1.1, fun e_ => Or.elim (ho0.1 k_ e_.symm) (fun hs_ => hk_.2.1 hs_) (fun hn_ => Nat.not_le.2 hk_.2.2 hn_)⟩))
           have n1_ := Aside0.mk (Kd.R_mono (ok' := fun k_ => (P0_ k_ ∨ w.heap.size ≤ k_)) ho0 (fun k_ hk_ => Or.elim hk_ (fun hs_ => (HO167.out.1 k_ (hs_).symm)) (fun hn_ => (.inr (Nat.le_trans (by first | exact HK.out.1 | exact (show Kept w _ (fun k_ => P0_ k_) from z9_).1) hn_)))))
           have n2_ := Aside0.mk (Kept.then_ (S := (fun k_ => P0_ k_)) z9_ hkp (fun k_ hs_ => (fun e_ => (HO167.out.1 k_ e_.symm)) hs_))
           have n3_ := Aside0.mk (hb)
           clear HO_1
           clear HK
           clear HB
           clear HO167
           have HO_1 := n0_
           have HO171 := n1_
           have HK := n2_
           have HB := n3_
           clear n0_ n1_ n2_ n3_
           (try clear hb)
           (try clear hkp)
           (try clear ho0)
           refine hK.out _ _ (HS0_) (fun hHeld => ?_)
           clear hK K
           refine norm_ (a' := ?_) ?_ ?_; rotate_left; (show Act.put _ (some 32) _ = _; simp only [PT_]; rfl)
           refine pA_ 8 (some 0) (bs_ 9 511) HT_ ?_ ?_ ?_ ?_ ?_
           rotate_left; (intro w'; go_simp; with_reducible rfl); rotate_left; (simp only [PT_]; rfl)
           refine done_ (done_of HT_.out (by kernel_rfl)) ?_
           have q20 : (x5_2 : Int) ≤ ((x1_1.length : Int) : Int) := of_decide_eq_true z12_
           obtain ⟨i020, hi020, _, hsz20, _⟩ := info_parts info2
           have hroom20 : x1_1.length ≤ co4 := (Kd.V_reads' HO_1.out).2.1
           have hC20 : Kd.F (Kd.int .i64) _ _ (some ad163) x1_1.length x1_1 := (Kd.V_at (base := w0.heap.size) HO_1.out).2.2
           have q020 : (0 : Int) ≤ (x5_2 : Int) := of_decide_eq_true z12_
           have hcut20 := cut_from (P := Try.prog) 22 2 .i64 Try.underlying22 hi020 1 hsz20 (some ad163) x1_1.length co4 x5_2 q020 q20
           have hr20 := Kd.F_cut (m := (x5_2 : Int).toNat) (c := co4) hC20 (by omega) hroom20
           obtain ⟨A20, hA20⟩ : ∃ A1, A1 = (if co4 = (x5_2 : Int).toNat then (some ad163) else ((some ad163) : Option Addr).map (·.add ((x5_2 : Int).toNat * 1))) := ⟨_, rfl⟩
           obtain ⟨c20, hc20⟩ : ∃ c1, c1 = co4 - (x5_2 : Int).toNat := ⟨_, rfl⟩
           have hy20 : y172.length = x1_1.length - (x5_2 : Int).toNat := (by rw [Ny172.out, List.length_drop] <;> omega)
           rw [show (x1_1).drop (x5_2 : Int).toNat = y172 from Ny172.out.symm] at hr20
           replace hr20 : Kd.F (Kd.int .i64) _ _ A20 y172.length y172 := (by rw [hA20]; exact hr20)
           rw [← hy20, ← hA20, ← hc20] at hcut20
           have HO176 := Aside0.mk (show Kd.V (Kd.int .i64) 2 _ w0.heap.size _ (.slice A20 y172.length c20) y172 from Kd.V_mk (by rw [hy20, hc20]; exact Nat.sub_le_sub_right hroom20 _) hr20)
           have HC176 := Aside0.mk (show y172.length ≤ c20 from by rw [hy20, hc20]; exact Nat.sub_le_sub_right hroom20 _)
           clear hr20 hC20 hroom20 hi020 hsz20 hc20
           have KY20 := Aside0.mk hy20
           have KA20 := Aside0.mk hA20
           clear hy20 hA20
           replace q20 := eq_true q20
           try go_wp2
           go_roundg k2
           case measure => have := HK1.out; have := HK2.out; omega
           case rel => exact ⟨(t169), (y172), H', ⟨by have := HK1.out; have := HK2.out; omega⟩, ⟨by (with_reducible repeat (first | apply Kd.R_alloc | apply Kd.R_drewN | apply Kd.R_drew)); exact HO171.out⟩, ⟨by (with_reducible repeat (first | apply Kd.V_alloc | apply Kd.V_drewN | apply Kd.V_drew)); exact HO176.out⟩, ⟨z9_⟩, ⟨z1_⟩⟩
          ·rw [if_neg c13] at H
           exact absurd H (by simp)
        ·rw [if_neg c7] at H
         exact absurd H (by simp)
       ·rw [if_neg c6] at H
        exact absurd H (by simp)
      ·rw [if_neg c5] at H
       have c5b0 : decide (x5_2 < (x1_1.length : Int)) = false := decide_eq_false c5
       clear c5
       replace H := Option.bind_eq_some_iff.mp H
       obtain ⟨t177, A210, H⟩ := H
       replace H : (if 0 < (x1_1.length : Int) then ((tally_Int.f k2 t177 (rd x1_1 0)).bind fun t181 => (if 0 ≤ x5_2 then (if x5_2 ≤ (x1_1.length : Int) then (ints_writeRuns.l0 k2 t181 (x1_1.drop (x5_2 : Int).toNat)) else (none)) else (none))) else (none)) = some r := H
       have A21 := Aside0.mk A210
       clear A210
       by_cases c22 : 0 < (x1_1.length : Int)
       ·rw [if_pos c22] at H
        have c22b0 : decide (0 < (x1_1.length : Int)) = true := decide_eq_true c22
        have c22b1 : decide (0 < x1_1.length) = true := decide_eq_true (by omega)
        clear c22
        replace H := Option.bind_eq_some_iff.mp H
        obtain ⟨t181, A230, H⟩ := H
        replace H : (if 0 ≤ x5_2 then (if x5_2 ≤ (x1_1.length : Int) then (ints_writeRuns.l0 k2 t181 (x1_1.drop (x5_2 : Int).toNat)) else (none)) else (none)) = some r := H
        have A23 := Aside0.mk A230
        clear A230
        by_cases c24 : 0 ≤ x5_2
        ·rw [if_pos c24] at H
         have c24b0 := eq_true c24
         have c24b1 : decide (0 ≤ x5_2) = true := decide_eq_true c24
         clear c24
         by_cases c25 : x5_2 ≤ (x1_1.length : Int)
         ·rw [if_pos c25] at H
          have c25b0 := eq_true c25
          have c25b1 : decide (x5_2 ≤ (x1_1.length : Int)) = true := decide_eq_true c25
          clear c25
          obtain ⟨y184, hy184⟩ : ∃ y_ : List Int, y_ = (x1_1.drop (x5_2 : Int).toNat) := ⟨_, rfl⟩
          replace H : (ints_writeRuns.l0 k2 t181 y184) = some r := by first | (rw [hy184]; with_reducible exact H) | (have H2_ := (Option.bind_some _ _).symm.trans H; rw [hy184]; with_reducible exact H2_) | (have H2_ := (Option.bind_some _ _).symm.trans H; with_reducible exact H2_) | with_reducible exact H | (rw [hy184]; exact H) | exact H
          have Ny184 := Aside0.mk hy184
          clear hy184
          have H' := Aside0.mk H
          clear H
          try go_wp2
          have n0_ := Aside0.mk (Kd.R_drew HO_0.out)
          have n1_ := Aside0.mk (Kd.V_drew HO_1.out)
          have n2_ := Aside0.mk (Kept.drew HK.out)
          have n3_ := Aside0.mk (below_drew1 HB.out)
          clear HO_0
          clear HO_1
          clear HK
          clear HB
          have HO_0 := n0_
          have HO_1 := n1_
          have HK := n2_
          have HB := n3_
          clear n0_ n1_ n2_ n3_
          refine start_ (n := 14) (S := fun w' => True) (ds := []) (bs_ 14 0) (by kernel_rfl) rfl rfl trivial (fun hHeld => ?_); refine with_tabW ints_writeRuns.tab3 ints_writeRuns.bits3 (fun HT_ HW_ => ?_)
          generalize wr.drew = w26 at HO_0 HO_1 HK HB hHeld ⊢
          refine pA_ 0 (some 9) (bs_ 14 1) HT_ ?_ ?_ ?_ ?_ ?_
          rotate_left; (intro w'; go_simp; with_reducible rfl); rotate_left; (simp only [PT_]; rfl)
          refine pA_ 1 (some 10) (bs_ 14 3) HT_ ?_ ?_ ?_ ?_ ?_
          rotate_left; (intro w'; go_simp; with_reducible rfl); rotate_left; (simp only [PT_]; rfl)
          refine pA_ 2 (some 11) (bs_ 14 7) HT_ ?_ ?_ ?_ ?_ ?_
          rotate_left; (intro w'; go_simp; with_reducible rfl); rotate_left; (simp only [PT_]; rfl)
          refine pA_ 3 (some 12) (bs_ 14 15) HT_ ?_ ?_ ?_ ?_ ?_
          rotate_left; (intro w'; go_simp; with_reducible rfl); rotate_left; (simp only [PT_]; rfl)
          refine pA_ 4 (some 13) (bs_ 14 31) HT_ ?_ ?_ ?_ ?_ ?_
          rotate_left; (intro w'; go_simp; with_reducible rfl); rotate_left; (simp only [PT_]; rfl)
          refine pB_ 5 (some 14) (bs_ 14 63) HT_ ?_ ?_ ?_
          rotate_left
          ·simp only [PT_]
           rfl
          refine pB_ 6 (some 15) (bs_ 14 127) HT_ ?_ ?_ ?_
          rotate_left
          ·simp only [PT_]
           rfl
          refine pB_ 7 (some 16) (bs_ 14 255) HT_ ?_ ?_ ?_
          rotate_left
          ·simp only [PT_]
           rfl
          refine pB_ 8 (some 17) (bs_ 14 511) HT_ ?_ ?_ ?_
          rotate_left
          ·simp only [PT_]
           rfl
          refine pB_ 9 (some 18) (bs_ 14 1023) HT_ ?_ ?_ ?_
          rotate_left
          ·simp only [PT_]
           rfl
          refine pB_ 10 (some 19) (bs_ 14 2047) HT_ ?_ ?_ ?_
          rotate_left
          ·simp only [PT_]
           rfl
          refine pB_ 11 (some 20) (bs_ 14 4095) HT_ ?_ ?_ ?_
          rotate_left
          ·simp only [PT_]
           rfl
          refine pB_ 12 (some 21) (bs_ 14 8191) HT_ ?_ ?_ ?_
          rotate_left
          ·simp only [PT_]
           rfl
          refine pA_ 13 (some 22) (bs_ 14 16383) HT_ ?_ ?_ ?_ ?_ ?_
          rotate_left; (intro w'; go_simp; with_reducible rfl); rotate_left; (simp only [PT_]; rfl)
          refine done_ (done_of HT_.out (by kernel_rfl)) ?_
          try go_wp2
          have n0_ := Aside0.mk (Kd.R_drew HO_0.out)
          have n1_ := Aside0.mk (Kd.V_drew HO_1.out)
          have n2_ := Aside0.mk (Kept.drew HK.out)
          have n3_ := Aside0.mk (below_drew1 HB.out)
          clear HO_0
          clear HO_1
          clear HK
          clear HB
          have HO_0 := n0_
          have HO_1 := n1_
          have HK := n2_
          have HB := n3_
          clear n0_ n1_ n2_ n3_
          have p180 : 0 ≤ (0 : Int) := (by omega)
          have q180 : 0 < (x1_1.length : Int) := of_decide_eq_true z12_
          obtain ⟨ad180, e180, hx180_0⟩ := Kd.at_int (Kd.V_reads' HO_1.out).2.2 0 p180 q180
          cases e180
          have qi180 : (0 < x1_1.length) = True := eq_true (by omega)
          (try rw [show ((0 : Int)).toNat = 0 from rfl] at hx180_0)
          (try rw [Addr.add_zero'] at hx180_0)
          replace p180 := eq_true p180
          replace q180 := eq_true q180
          obtain ⟨Ao28, co28, eo28⟩ := Kd.R_slice HO_0.out
          (first | subst eo28 | (injection eo28 with f1_ f2_ f3_; have f4_ := f1_.symm; have f5_ := f3_.symm; clear f1_ f2_ f3_; subst f4_; subst f5_))
          refine start_ (n := 9) (S := fun w' => w'.cell? ad180 = some (.int .i64 (rd x1_1 0))) (ds := []) (bs_ 9 0) (by kernel_rfl) rfl rfl (hx180_0) (fun hHeld => ?_); refine with_tabW ints_writeRuns.tab5 ints_writeRuns.bits5 (fun HT_ HW_ => ?_)
          generalize w26.drew = w27 at HO_0 HO_1 HK HB hx180_0 hHeld ⊢
          refine pA_ 0 (some 25) (bs_ 9 1) HT_ ?_ ?_ ?_ ?_ ?_
          rotate_left; (intro w'; go_simp; with_reducible rfl); rotate_left; (simp only [PT_]; rfl)
          refine pA_ 1 (some 26) (bs_ 9 3) HT_ ?_ ?_ ?_ ?_ ?_
          rotate_left; (intro w'; go_simp; with_reducible rfl); rotate_left; (simp only [PT_]; rfl)
          refine pA_ 2 (some 27) (bs_ 9 7) HT_ ?_ ?_ ?_ ?_ ?_
          rotate_left; (intro w'; go_simp; with_reducible rfl); rotate_left; (simp only [PT_]; rfl)
          refine pA_ 4 (some 29) (bs_ 9 23) HT_ ?_ ?_ ?_ ?_ ?_
          rotate_left; (intro w'; go_simp; with_reducible rfl); rotate_left; (simp only [PT_]; rfl)
          refine pA_ 5 (some 30) (bs_ 9 55) HT_ ?_ ?_ ?_ ?_ ?_
          rotate_left; (intro w'; go_simp; with_reducible rfl); rotate_left; (simp only [PT_]; rfl)
          refine take_ (i := 6) (N := some 31) (v := ?_) (a' := ?_) (bs_ 9 119) rfl rfl (take_ofW HT_.out HW_.out (by kernel_rfl)) (fun _ _ _ h => h) (Or.inl ⟨by rfl, ?_⟩) hHeld ?_ ?_
          rotate_left
          ·intro w' s0
           go_simp
           with_reducible rfl
          rotate_left
          ·simp only [PT_]
           rfl
          refine oA_ 3 (some 28) (bs_ 9 127) HT_ (fun K hK => ?_)
          refine goes_ Try.func18 (by kernel_rfl) rfl #[.slice Ao28 x0_1.length co28, .int .u64 (IntKind.u64.wrap (x5_2))] (by rfl) rfl rfl (by (try simp only [List.map_toArray, List.map_cons, List.map_nil]); first | done | rfl | (simp only [List.length_drop, List.length_take]; rfl)) ?_
          with_reducible refine (tally_Uint.calls k2 (fun k_ => some k_ = (.slice Ao28 x0_1.length co28 : Value).ownBlock) (.slice Ao28 x0_1.length co28) x0_1 (IntKind.u64.wrap (x5_2)) t177 w0 _ ?side1 ?side2 A21.out).mono ?_
          (case side1 => repeat (first | (with_reducible first | exact HB.out | apply below_alloc | apply pw_below_drewN | apply below_drew1) | exact HB.out))
          (case side2 => exact Kd.R_tight rfl HO_0.out)
          rintro e w29 ⟨v178, rfl, ho0, hb, hkp⟩
          have HS0_ := cell_kept (hHeld) hkp (by first | (rw [add_block]; exact (fun hs_ => ((Kd.F_in (Kd.V_F (HO_1.out)) rfl (by first | exact of_eq_true (by assumption) | exact of_decide_eq_true (by assumption) | omega) (by decide)).2) hs_)) | (show ¬ _; simp only [add_block]; exact (fun hs_ => ((Kd.F_in (Kd.V_F (HO_1.out)) rfl (by first | exact of_eq_true (by assumption) | exact of_decide_eq_true (by assumption) | omega) (by decide)).2) hs_)) | exact (fun hs_ => ((Kd.F_in (Kd.V_F (HO_1.out)) rfl (by first | exact of_eq_true (by assumption) | exact of_decide_eq_true (by assumption) | omega) (by decide)).2) hs_))
          refine ⟨_, rfl, ?_⟩
          have n0_ := Aside0.mk (Kd.V_mono (ok' := fun k_ => ((P0_ k_ ∨ P1_ k_) ∨ w.heap.size ≤ k_) ∧ some k_ ≠ (v178 : Value).ownBlock) (Kd.V_keptB (HO_1.out) hkp (fun k_ hk_ hs_ => (hk_.2) hs_)) (fun k_ hk_ => ⟨hk_.1.1, fun e_ => Or.elim (ho0.1 k_ e_.symm) (fun hs_ => hk_.2.1 hs_) (fun hn_ => Nat.not_le.2 hk_.2.2 hn_)⟩))
          have n1_ := Aside0.mk (Kd.R_mono (ok' := fun k_ => (P0_ k_ ∨ w.heap.size ≤ k_)) ho0 (fun k_ hk_ => Or.elim hk_ (fun hs_ => (HO_0.out.1 k_ (hs_).symm)) (fun hn_ => (.inr (Nat.le_trans (by first | exact HK.out.1 | exact (show Kept w _ (fun k_ => P0_ k_) from z9_).1) hn_)))))
          have n2_ := Aside0.mk (Kept.then_ (S := (fun k_ => P0_ k_)) z9_ hkp (fun k_ hs_ => (fun e_ => (HO_0.out.1 k_ e_.symm)) hs_))
          have n3_ := Aside0.mk (hb)
          clear HO_1
          clear HK
          clear HB
          clear HO_0
          have HO_1 := n0_
          have HO179 := n1_
          have HK := n2_
          have HB := n3_
          clear n0_ n1_ n2_ n3_
          (try clear hb)
          (try clear hkp)
          (try clear ho0)
          obtain ⟨Ao30, co30, eo30⟩ := Kd.R_slice HO179.out
          (first | subst eo30 | (injection eo30 with f1_ f2_ f3_; have f4_ := f1_.symm; have f5_ := f3_.symm; clear f1_ f2_ f3_; subst f4_; subst f5_))
          refine hK.out _ _ (HS0_) (fun hHeld => ?_)
          clear hK K
          refine norm_ (a' := ?_) ?_ ?_; rotate_left; (show Act.put _ (some 28) _ = _; simp only [PT_]; rfl)
          refine oA_ 7 (some 32) (bs_ 9 255) HT_ (fun K hK => ?_)
          refine goes_ Try.func55 (by kernel_rfl) rfl #[.slice Ao30 t177.length co30, .int .i64 (rd x1_1 0)] (by rfl) rfl rfl (by (try simp only [List.map_toArray, List.map_cons, List.map_nil]); first | done | rfl | (simp only [List.length_drop, List.length_take]; rfl)) ?_
          with_reducible refine (tally_Int.calls k2 (fun k_ => some k_ = (.slice Ao30 t177.length co30 : Value).ownBlock) (.slice Ao30 t177.length co30) t177 (rd x1_1 0) t181 w0 _ ?side1 ?side2 A23.out).mono ?_
          (case side1 => repeat (first | (with_reducible first | exact HB.out | apply below_alloc | apply pw_below_drewN | apply below_drew1) | exact HB.out))
          (case side2 => exact Kd.R_tight rfl HO179.out)
          rintro e w31 ⟨v182, rfl, ho0, hb, hkp⟩
          have HS0_ := cell_kept (hHeld) hkp (by first | (rw [add_block]; exact (fun hs_ => ((Kd.F_in (Kd.V_F (HO_1.out)) rfl (by first | exact of_eq_true (by assumption) | exact of_decide_eq_true (by assumption) | omega) (by decide)).2) hs_)) | (show ¬ _; simp only [add_block]; exact (fun hs_ => ((Kd.F_in (Kd.V_F (HO_1.out)) rfl (by first | exact of_eq_true (by assumption) | exact of_decide_eq_true (by assumption) | omega) (by decide)).2) hs_)) | exact (fun hs_ => ((Kd.F_in (Kd.V_F (HO_1.out)) rfl (by first | exact of_eq_true (by assumption) | exact of_decide_eq_true (by assumption) | omega) (by decide)).2) hs_))
          refine ⟨_, rfl, ?_⟩
          have n0_ := Aside0.mk (Kd.V_mono (ok' := fun k_ => ((P0_ k_ ∨ P1_ k_) ∨ w.heap.size ≤ k_) ∧ some k_ ≠ (v182 : Value).ownBlock) (Kd.V_keptB (HO_1.out) hkp (fun k_ hk_ hs_ => (hk_.2) hs_)) (fun k_ hk_ => ⟨hk_.1.1, fun e_ => Or.elim (ho0.1 k_ e_.symm) (fun hs_ => hk_.2.1 hs_) (fun hn_ => Nat.not_le.2 hk_.2.2 hn_)⟩))
          have n1_ := Aside0.mk (Kd.R_mono (ok' := fun k_ => (P0_ k_ ∨ w.heap.size ≤ k_)) ho0 (fun k_ hk_ => Or.elim hk_ (fun hs_ => (HO179.out.1 k_ (hs_).symm)) (fun hn_ => (.inr (Nat.le_trans (by first | exact HK.out.1 | exact (show Kept w _ (fun k_ => P0_ k_) from z9_).1) hn_)))))
          have n2_ := Aside0.mk (Kept.then_ (S := (fun k_ => P0_ k_)) z9_ hkp (fun k_ hs_ => (fun e_ => (HO179.out.1 k_ e_.symm)) hs_))
          have n3_ := Aside0.mk (hb)
          clear HO_1
          clear HK
          clear HB
          clear HO179
          have HO_1 := n0_
          have HO183 := n1_
          have HK := n2_
          have HB := n3_
          clear n0_ n1_ n2_ n3_
          (try clear hb)
          (try clear hkp)
          (try clear ho0)
          refine hK.out _ _ (HS0_) (fun hHeld => ?_)
          clear hK K
          refine norm_ (a' := ?_) ?_ ?_; rotate_left; (show Act.put _ (some 32) _ = _; simp only [PT_]; rfl)
          refine pA_ 8 (some 0) (bs_ 9 511) HT_ ?_ ?_ ?_ ?_ ?_
          rotate_left; (intro w'; go_simp; with_reducible rfl); rotate_left; (simp only [PT_]; rfl)
          refine done_ (done_of HT_.out (by kernel_rfl)) ?_
          have q32 : (x5_2 : Int) ≤ ((x1_1.length : Int) : Int) := of_decide_eq_true z12_
          obtain ⟨i032, hi032, _, hsz32, _⟩ := info_parts info2
          have hroom32 : x1_1.length ≤ co4 := (Kd.V_reads' HO_1.out).2.1
          have hC32 : Kd.F (Kd.int .i64) _ _ (some ad180) x1_1.length x1_1 := (Kd.V_at (base := w0.heap.size) HO_1.out).2.2
          have q032 : (0 : Int) ≤ (x5_2 : Int) := of_decide_eq_true z12_
          have hcut32 := cut_from (P := Try.prog) 22 2 .i64 Try.underlying22 hi032 1 hsz32 (some ad180) x1_1.length co4 x5_2 q032 q32
          have hr32 := Kd.F_cut (m := (x5_2 : Int).toNat) (c := co4) hC32 (by omega) hroom32
          obtain ⟨A32, hA32⟩ : ∃ A1, A1 = (if co4 = (x5_2 : Int).toNat then (some ad180) else ((some ad180) : Option Addr).map (·.add ((x5_2 : Int).toNat * 1))) := ⟨_, rfl⟩
          obtain ⟨c32, hc32⟩ : ∃ c1, c1 = co4 - (x5_2 : Int).toNat := ⟨_, rfl⟩
          have hy32 : y184.length = x1_1.length - (x5_2 : Int).toNat := (by rw [Ny184.out, List.length_drop] <;> omega)
          rw [show (x1_1).drop (x5_2 : Int).toNat = y184 from Ny184.out.symm] at hr32
          replace hr32 : Kd.F (Kd.int .i64) _ _ A32 y184.length y184 := (by rw [hA32]; exact hr32)
          rw [← hy32, ← hA32, ← hc32] at hcut32
          have HO188 := Aside0.mk (show Kd.V (Kd.int .i64) 2 _ w0.heap.size _ (.slice A32 y184.length c32) y184 from Kd.V_mk (by rw [hy32, hc32]; exact Nat.sub_le_sub_right hroom32 _) hr32)
          have HC188 := Aside0.mk (show y184.length ≤ c32 from by rw [hy32, hc32]; exact Nat.sub_le_sub_right hroom32 _)
          clear hr32 hC32 hroom32 hi032 hsz32 hc32
          have KY32 := Aside0.mk hy32
          have KA32 := Aside0.mk hA32
          clear hy32 hA32
          replace q32 := eq_true q32
          try go_wp2
          go_roundg k2
          case measure => have := HK1.out; have := HK2.out; omega
          case rel => exact ⟨(t181), (y184), H', ⟨by have := HK1.out; have := HK2.out; omega⟩, ⟨by (with_reducible repeat (first | apply Kd.R_alloc | apply Kd.R_drewN | apply Kd.R_drew)); exact HO183.out⟩, ⟨by (with_reducible repeat (first | apply Kd.V_alloc | apply Kd.V_drewN | apply Kd.V_drew)); exact HO188.out⟩, ⟨z9_⟩, ⟨z1_⟩⟩
         ·rw [if_neg c25] at H
          exact absurd H (by simp)
        ·rw [if_neg c24] at H
         exact absurd H (by simp)
       ·rw [if_neg c22] at H
        exact absurd H (by simp)
   ·rw [if_neg c3] at H
    have c3b0 : decide (0 < (x1_1.length : Int)) = false := decide_eq_false c3
    have c3b1 : decide (0 < x1_1.length) = false := decide_eq_false (by omega)
    clear c3
    obtain rfl := Option.some.inj H
    obtain ⟨Ao33, co33, eo33⟩ := Kd.V_slice HO_1.out
    subst eo33
    go_wp2
    go_ret
    exact ⟨_, z6_, by (with_reducible repeat (first | apply Kd.R_alloc | apply Kd.R_drewN | apply Kd.R_drew)); exact HO_0.out, z1_, z9_⟩
end Go.Proofs.Ytgeddoklmcjdcaa.G
namespace Go.Proofs.Ytgeddoklmcjdcaa.G
open Go.RowKit Go.Proofs.YtgeddoklmcjdcaaQ Go.Proofs.YtgeddoklmcjdcaaW.PrintWords Go.Proofs.YtgeddoklmcjdcaaW.PrintLast Go.Proofs.YtgeddoklmcjdcaaW.PrintMore
attribute [local go_sem] max2_int min2_int max_two min_two max_three min_three max_four min_four   -- for this text's walks alone
set_option linter.unusedVariables false
set_option linter.unusedSimpArgs false
def ints_writePacked.f (k : Nat) (l0 : List Int) (l1 : List Int) : Option (List Int) := if (l1.length : Int) = 0 then (some l0) else ((slices_Min_int64_int64.f k l1).bind fun t233 => ((ints_above.f k l1 t233).bind fun t234 => ((bits_Width.f k t234).bind fun t237 => ((bits_Pack.f t234 t237).bind fun bt238 => ((tally_Int.f k l0 t233).bind fun t240 => (if t240.length < 140737488355328 then ((some (t240 ++ [(t237) % 256] : List Int)).bind fun y243 => (if y243.length + bt238.1.size < 140737488355328 then (some (y243 ++ bytesOf bt238.1)) else (none))) else (none)))))))
theorem ints_writePacked.mono : ∀ a0 a1 k, LeO (ints_writePacked.f k a0 a1) (ints_writePacked.f (k + 1) a0 a1) := by
 intro a0 a1 k
 unfold ints_writePacked.f
 repeat' first
   | (with_reducible exact bits_Width.mono _ _)
   | (with_reducible exact ints_above.mono _ _ _)
   | (with_reducible exact slices_Min_int64_int64.mono _ _)
   | (with_reducible exact tally_Int.mono _ _ _)
   | (with_reducible exact LeO.refl _)
   | (with_reducible exact LeO.none _)
   | (with_reducible refine LeO.ite ?_ ?_)
   | (with_reducible refine LeO.bind ?_ (fun _ => ?_))
   | exact bits_Width.mono _ _
   | exact ints_above.mono _ _ _
   | exact slices_Min_int64_int64.mono _ _
   | exact tally_Int.mono _ _ _
   | exact LeO.none _
   | refine LeO.ite ?_ ?_
   | refine LeO.bind ?_ (fun _ => ?_)
set_option maxHeartbeats 8000000 in
set_option maxRecDepth 100000 in
theorem ints_writePacked.calls (k : Nat) (P0_ : Nat → Prop) (u9000_ : Value) (l0 : List Int) (A1 : Option Addr) (c1 : Nat) (l1 : List Int) (r : List Int) (w0 w : World) (hB : Below w0.heap.size w0 w) (ho0 : Kd.R (Kd.int .u8) 5 w w0.heap.size P0_ u9000_ l0) (hr1 : ∀ W_, Kept w W_ (fun k_ => P0_ k_) → Kd.C (Kd.int .i64) W_ A1 l1.length l1) (hc1 : l1.length ≤ c1) (h : ints_writePacked.f k l0 l1 = some r) :
  Calls Try.prog 40 #[u9000_, .slice A1 l1.length c1] w fun e w' => ∃ v0_ : Value, e = .returned (v0_) ∧ Kd.R (Kd.int .u8) 5 w' w0.heap.size (fun k_ => (P0_ k_ ∨ w.heap.size ≤ k_)) v0_ r ∧ Below w0.heap.size w0 w' ∧ Kept w w' (fun k_ => P0_ k_) := by
 have HO0 := Aside0.mk (show Kd.R (Kd.int .u8) 5 w w0.heap.size (fun k_ => (P0_ k_ ∨ w.heap.size ≤ k_)) u9000_ l0 from Kd.R_mono ho0 (fun k_ hk => (.inl hk)))
 have HR1 := Aside0.mk hr1
 have HC1 := Aside0.mk hc1
 clear hr1 hc1
 have HK := Aside0.mk (Kept.refl w (fun k_ => P0_ k_))
 have HW0 := Aside0.mk hB.size
 have HB := Aside0.mk hB
 clear hB
 have H : (if (l1.length : Int) = 0 then (some l0) else ((slices_Min_int64_int64.f k l1).bind fun t233 => ((ints_above.f k l1 t233).bind fun t234 => ((bits_Width.f k t234).bind fun t237 => ((bits_Pack.f t234 t237).bind fun bt238 => ((tally_Int.f k l0 t233).bind fun t240 => (if t240.length < 140737488355328 then ((some (t240 ++ [(t237) % 256] : List Int)).bind fun y243 => (if y243.length + bt238.1.size < 140737488355328 then (some (y243 ++ bytesOf bt238.1)) else (none))) else (none)))))))) = some r := h
 clear h
 by_cases c3 : (l1.length : Int) = 0
 ·rw [if_pos c3] at H
  have c3b0 : ((l1.length : Int) == 0) = true := beq_iff_eq.mpr c3
  have c3b1 : ((l1.length : Int) != 0) = false := bne_eq_false_iff_eq.mpr c3
  clear c3
  obtain rfl := Option.some.inj H
  go_enter Try.func40, Try.ntmps40
  go_wp2
  go_ret
  exact ⟨_, z6_, by (with_reducible repeat (first | apply Kd.R_alloc | apply Kd.R_drewN | apply Kd.R_drew)); exact HO0.out, z1_, z9_⟩
 ·rw [if_neg c3] at H
  have c3b0 : ((l1.length : Int) == 0) = false := beq_eq_false_iff_ne.mpr c3
  have c3b1 : ((l1.length : Int) != 0) = true := bne_iff_ne.mpr c3
  have c3b2 : ¬ (l1 = []) := fun h_ => c3 (by rw [h_]; rfl)
  replace H := Option.bind_eq_some_iff.mp H
  obtain ⟨t233, A40, H⟩ := H
  replace H : ((ints_above.f k l1 t233).bind fun t234 => ((bits_Width.f k t234).bind fun t237 => ((bits_Pack.f t234 t237).bind fun bt238 => ((tally_Int.f k l0 t233).bind fun t240 => (if t240.length < 140737488355328 then ((some (t240 ++ [(t237) % 256] : List Int)).bind fun y243 => (if y243.length + bt238.1.size < 140737488355328 then (some (y243 ++ bytesOf bt238.1)) else (none))) else (none)))))) = some r := H
  have A4 := Aside0.mk A40
  clear A40
  replace H := Option.bind_eq_some_iff.mp H
  obtain ⟨t234, A50, H⟩ := H
  replace H : ((bits_Width.f k t234).bind fun t237 => ((bits_Pack.f t234 t237).bind fun bt238 => ((tally_Int.f k l0 t233).bind fun t240 => (if t240.length < 140737488355328 then ((some (t240 ++ [(t237) % 256] : List Int)).bind fun y243 => (if y243.length + bt238.1.size < 140737488355328 then (some (y243 ++ bytesOf bt238.1)) else (none))) else (none))))) = some r := H
  have A5 := Aside0.mk A50
  clear A50
  replace H := Option.bind_eq_some_iff.mp H
  obtain ⟨t237, A60, H⟩ := H
  replace H : ((bits_Pack.f t234 t237).bind fun bt238 => ((tally_Int.f k l0 t233).bind fun t240 => (if t240.length < 140737488355328 then ((some (t240 ++ [(t237) % 256] : List Int)).bind fun y243 => (if y243.length + bt238.1.size < 140737488355328 then (some (y243 ++ bytesOf bt238.1)) else (none))) else (none)))) = some r := H
  have A6 := Aside0.mk A60
  clear A60
  replace H := Option.bind_eq_some_iff.mp H
  obtain ⟨⟨t238, t239⟩, A70, H⟩ := H
  replace H : ((tally_Int.f k l0 t233).bind fun t240 => (if t240.length < 140737488355328 then ((some (t240 ++ [(t237) % 256] : List Int)).bind fun y243 => (if y243.length + t238.size < 140737488355328 then (some (y243 ++ bytesOf t238)) else (none))) else (none))) = some r := H
  have A7 := Aside0.mk A70
  clear A70
  replace H := Option.bind_eq_some_iff.mp H
  obtain ⟨t240, A80, H⟩ := H
  replace H : (if t240.length < 140737488355328 then ((some (t240 ++ [(t237) % 256] : List Int)).bind fun y243 => (if y243.length + t238.size < 140737488355328 then (some (y243 ++ bytesOf t238)) else (none))) else (none)) = some r := H
  have A8 := Aside0.mk A80
  clear A80
  by_cases c9 : t240.length < 140737488355328
  ·rw [if_pos c9] at H
   have LMc9 := Aside0.mk c9
   clear c9
   obtain ⟨y243, hy243⟩ : ∃ y_ : List Int, y_ = (t240 ++ [(t237) % 256]) := ⟨_, rfl⟩
   replace H : (if y243.length + t238.size < 140737488355328 then (some (y243 ++ bytesOf t238)) else (none)) = some r := by first | (rw [hy243]; with_reducible exact H) | (have H2_ := (Option.bind_some _ _).symm.trans H; rw [hy243]; with_reducible exact H2_) | (have H2_ := (Option.bind_some _ _).symm.trans H; with_reducible exact H2_) | with_reducible exact H | (rw [hy243]; exact H) | exact H
   have Ny243 := Aside0.mk hy243
   clear hy243
   by_cases c10 : y243.length + t238.size < 140737488355328
   ·rw [if_pos c10] at H
    have LMc10 := Aside0.mk c10
    clear c10
    obtain ⟨y246, hy246⟩ : ∃ y_ : List Int, y_ = (y243 ++ bytesOf t238) := ⟨_, rfl⟩
    replace H : (some y246) = some r := by first | (rw [hy246]; with_reducible exact H) | (have H2_ := (Option.bind_some _ _).symm.trans H; rw [hy246]; with_reducible exact H2_) | (have H2_ := (Option.bind_some _ _).symm.trans H; with_reducible exact H2_) | with_reducible exact H | (rw [hy246]; exact H) | exact H
    have Ny246 := Aside0.mk hy246
    clear hy246
    obtain rfl := Option.some.inj H
    go_enter Try.func40, Try.ntmps40
    go_wp2_with (first | ((with_reducible refine gate_callee (f := 58) rfl ?_); refine goesL_ (some 15) rfl rfl Try.func58 (by kernel_rfl) rfl #[.slice A1 l1.length c1] rfl (by (try simp only [List.map_toArray, List.map_cons, List.map_nil]); first | done | rfl | (simp only [List.length_drop, List.length_take]; rfl) | (go_simp; simp [IntKind.wrap, IntKind.bits, IntKind.signed]; omega)) ?_; (with_reducible refine (slices_Min_int64_int64.calls k _ _ l1 t233 _ ?side1 ?side2 A4.out).mono ?_); (case side1 => exact Kd.C_kept_now HR1.out z9_); (case side2 => exact HC1.out); rintro e w11 ⟨rfl, hb⟩; refine ⟨_, rfl, ?_⟩; have n0_ := Aside0.mk (Kd.R_below (by (with_reducible repeat (first | apply Kd.R_alloc | apply Kd.R_drewN | apply Kd.R_drew)); exact HO0.out) hb); have n1_ := Aside0.mk (Kept.below (S := (fun k_ => P0_ k_)) z9_ hb); have n2_ := Aside0.mk (below_step z1_ hb); clear HO0; clear HK; clear HB; have HO0 := n0_; have HK := n1_; have HB := n2_; clear n0_ n1_ n2_; (try clear hb); (try clear hb2); (try clear hk); (try clear hi)) | ((with_reducible refine gate_callee (f := 59) rfl ?_); refine goesL_ (some 18) rfl rfl Try.func59 (by kernel_rfl) rfl #[.slice A1 l1.length c1, .int .i64 t233] rfl (by (try simp only [List.map_toArray, List.map_cons, List.map_nil]); first | done | rfl | (simp only [List.length_drop, List.length_take]; rfl) | (go_simp; simp [IntKind.wrap, IntKind.bits, IntKind.signed]; omega)) ?_; (with_reducible refine (ints_above.calls k _ _ l1 t233 t234 _ ?side1 ?side2 A5.out).mono ?_); (case side1 => exact Kd.C_kept_now HR1.out z9_); (case side2 => exact HC1.out); rintro e w12 ⟨v235, rfl, ho0, hb⟩; refine ⟨_, rfl, ?_⟩; have n0_ := Aside0.mk (Kd.R_below (by (with_reducible repeat (first | apply Kd.R_alloc | apply Kd.R_drewN | apply Kd.R_drew)); exact HO0.out) hb); have n1_ := Aside0.mk (Kd.R_lower (Kd.R_newM (M := fun k_ => (P0_ k_ ∨ w.heap.size ≤ k_)) ho0 (by first | exact HK.out.1 | exact (show Kept w _ (fun k_ => P0_ k_) from z9_).1) (fun k_ h_ => .inr h_)) (below_size z1_)); have n2_ := Aside0.mk (Kept.below (S := (fun k_ => P0_ k_)) z9_ hb); have n3_ := Aside0.mk (below_step z1_ hb); clear HO0; clear HK; clear HB; have HO0 := n0_; have HO236 := n1_; have HK := n2_; have HB := n3_; clear n0_ n1_ n2_ n3_; (try clear hb); (try clear hb2); (try clear hk); (try clear hi); (try clear ho0); obtain ⟨Ao13, co13, eo13⟩ := Kd.R_slice HO236.out; subst eo13) | ((with_reducible refine gate_callee (f := 60) rfl ?_); refine goesL_ (some 20) rfl rfl Try.func60 (by kernel_rfl) rfl #[.slice Ao13 t234.length co13] rfl (by (try simp only [List.map_toArray, List.map_cons, List.map_nil]); first | done | rfl | (simp only [List.length_drop, List.length_take]; rfl) | (go_simp; simp [IntKind.wrap, IntKind.bits, IntKind.signed]; omega)) ?_; (with_reducible refine (bits_Width.calls k _ _ t234 t237 _ ?side1 ?side2 A6.out).mono ?_); (case side1 => repeat (first | exact (Kd.R_reads' HO236.out).2.2 | (with_reducible refine Kd.C_alloc ?_ _) | (with_reducible refine Kd.C_drewN ?_ _) | (with_reducible refine Kd.C_drew ?_))); (case side2 => exact (Kd.R_reads' HO236.out).2.1); rintro e w' ⟨rfl, ⟨nd, rfl⟩⟩; refine ⟨_, rfl, ?_⟩) | ((with_reducible refine gate_callee (f := 61) rfl ?_); refine goesL_ (some 24) rfl rfl Try.func61 (by kernel_rfl) rfl #[.slice Ao13 t234.length co13, .int .i64 t237] rfl (by (try simp only [List.map_toArray, List.map_cons, List.map_nil]); first | done | rfl | (simp only [List.length_drop, List.length_take]; rfl) | (go_simp; simp [IntKind.wrap, IntKind.bits, IntKind.signed]; omega)) ?_; (with_reducible refine (bits_Pack.calls _ _ t234 t237 t238 t239 _ ?side1 ?side2 A7.out).mono ?_); (case side1 => repeat (first | exact (Kd.R_reads' HO236.out).2.2 | (with_reducible refine Kd.C_alloc ?_ _) | (with_reducible refine Kd.C_drewN ?_ _) | (with_reducible refine Kd.C_drew ?_))); (case side2 => exact (Kd.R_reads' HO236.out).2.1); rintro e w14 ⟨rfl, hb⟩; refine ⟨_, rfl, ?_⟩; have n0_ := Aside0.mk (Kd.R_below (by (with_reducible repeat (first | apply Kd.R_alloc | apply Kd.R_drewN | apply Kd.R_drew)); exact HO0.out) hb); have n1_ := Aside0.mk (Kd.R_below (by (with_reducible repeat (first | apply Kd.R_alloc | apply Kd.R_drewN | apply Kd.R_drew)); exact HO236.out) hb); have n2_ := Aside0.mk (Kept.below (S := (fun k_ => P0_ k_)) z9_ hb); have n3_ := Aside0.mk (below_step z1_ hb); clear HO0; clear HO236; clear HK; clear HB; have HO0 := n0_; have HO236 := n1_; have HK := n2_; have HB := n3_; clear n0_ n1_ n2_ n3_; (try clear hb); (try clear hb2); (try clear hk); (try clear hi); obtain ⟨Ao15, co15, eo15⟩ := Kd.R_slice HO0.out; subst eo15) | ((with_reducible refine gate_callee (f := 55) rfl ?_); refine goesL_ (some 29) rfl rfl Try.func55 (by kernel_rfl) rfl #[.slice Ao15 l0.length co15, .int .i64 t233] rfl (by (try simp only [List.map_toArray, List.map_cons, List.map_nil]); first | done | rfl | (simp only [List.length_drop, List.length_take]; rfl) | (go_simp; simp [IntKind.wrap, IntKind.bits, IntKind.signed]; omega)) ?_; (with_reducible refine (tally_Int.calls k (fun k_ => some k_ = (.slice Ao15 l0.length co15 : Value).ownBlock) (.slice Ao15 l0.length co15) l0 t233 t240 w0 _ ?side1 ?side2 A8.out).mono ?_); (case side1 => repeat (first | (with_reducible first | exact HB.out | apply below_alloc | apply pw_below_drewN | apply below_drew1) | exact HB.out)); (case side2 => exact Kd.R_tight rfl HO0.out); rintro e w16 ⟨v241, rfl, ho0, hb, hkp⟩; refine ⟨_, rfl, ?_⟩; have n0_ := Aside0.mk (Kd.R_mono (ok' := fun k_ => (P0_ k_ ∨ w.heap.size ≤ k_)) (Kd.R_keptB ((Kd.R_apart' HO236.out (Kd.R_typed HO0.out) (by decide))) hkp (fun k_ hk_ hs_ => (hk_.2) hs_)) (fun k_ hk_ => hk_.1.1.1)); have n1_ := Aside0.mk (Kd.R_mono (ok' := fun k_ => (P0_ k_ ∨ w.heap.size ≤ k_)) ho0 (fun k_ hk_ => Or.elim hk_ (fun hs_ => (HO0.out.1 k_ (hs_).symm)) (fun hn_ => (.inr (Nat.le_trans (by first | exact HK.out.1 | exact (show Kept w _ (fun k_ => P0_ k_) from z9_).1) hn_))))); have n2_ := Aside0.mk (Kept.then_ (S := (fun k_ => P0_ k_)) z9_ hkp (fun k_ hs_ => (fun e_ => (HO0.out.1 k_ e_.symm)) hs_)); have n3_ := Aside0.mk (hb); clear HO236; clear HK; clear HB; clear HO0; have HO236 := n0_; have HO242 := n1_; have HK := n2_; have HB := n3_; clear n0_ n1_ n2_ n3_; (try clear hb); (try clear hkp); (try clear ho0)) | ((with_reducible refine gate_builtin (b := .append) (xs := #[.tmp 29, .tmp 32]) rfl ?_); at_builtin; refine Kd.R_append (Kd.int .u8) (w0 := w0) w0.heap.size rfl (.tmp 29) (.tmp 32) 38 5 (.int .u8 0) 1 rfl Try.underlying38 info5 rfl (by decide) (by omega) v241 t240 ((t237) % 256) [.int .u8 ((t237) % 256)] (fun k_ => (P0_ k_ ∨ w.heap.size ≤ k_)) (fun _ => False) rfl rfl ?aP (fun _ hk => hk.elim) ?aF ?aO ?aB ?aS ?aL ?_; (case aP => exact rfl); (case aB => exact z1_); (case aF => exact (fun k_ hk => (.inr (Nat.le_trans (by first | exact HK.out.1 | exact (show Kept w _ (fun k_ => P0_ k_) from z9_).1) hk)))); (case aO => exact (by (with_reducible repeat (first | apply Kd.R_alloc | apply Kd.R_drewN | apply Kd.R_drew)); exact HO242.out)); (case aS => exact (below_size z1_)); (case aL => have := LMc9.out; omega); intro v244 w17 ho hb hg hat; rw [← Ny243.out] at ho; have n0_ := Aside0.mk (Kd.R_over' (by (with_reducible repeat (first | apply Kd.R_alloc | apply Kd.R_drewN | apply Kd.R_drew)); exact HO236.out) (Kd.R_typed (by (with_reducible repeat (first | apply Kd.R_alloc | apply Kd.R_drewN | apply Kd.R_drew)); exact HO242.out)) (by decide) hg); have n1_ := Aside0.mk (hb); have n2_ := Aside0.mk (Kept.of_grown (S := (fun k_ => P0_ k_)) hg z9_ (fun k_ e_ => (HO242.out.1 k_ e_))); have n3_ := Aside0.mk (ho); clear HO236; clear HB; clear HK; clear HO242; have HO236 := n0_; have HB := n1_; have HK := n2_; have HO245 := n3_; clear n0_ n1_ n2_ n3_; clear ho hb hg hat) | (at_builtin; refine R_append_str (w0 := w0) w0.heap.size rfl (.tmp 33) _ 38 9 5 rfl Try.underlying38 Try.underlying9 info5 v244 y243 t238 (fun k_ => (P0_ k_ ∨ w.heap.size ≤ k_)) rfl rfl ?aF ?aO ?aB ?aS ?aL ?_; (case aB => exact z1_); (case aF => exact (fun k_ hk => (.inr (Nat.le_trans (by first | exact HK.out.1 | exact (show Kept w _ (fun k_ => P0_ k_) from z9_).1) hk)))); (case aO => exact (by (with_reducible repeat (first | apply Kd.R_alloc | apply Kd.R_drewN | apply Kd.R_drew)); exact HO245.out)); (case aS => exact (below_size z1_)); (case aL => have := LMc10.out; omega); intro v247 w18 ho hb hg hat; rw [← Ny246.out] at ho; have n0_ := Aside0.mk (Kd.R_over' (by (with_reducible repeat (first | apply Kd.R_alloc | apply Kd.R_drewN | apply Kd.R_drew)); exact HO236.out) (Kd.R_typed (by (with_reducible repeat (first | apply Kd.R_alloc | apply Kd.R_drewN | apply Kd.R_drew)); exact HO245.out)) (by decide) hg); have n1_ := Aside0.mk (hb); have n2_ := Aside0.mk (Kept.of_grown (S := (fun k_ => P0_ k_)) hg z9_ (fun k_ e_ => (HO245.out.1 k_ e_))); have n3_ := Aside0.mk (ho); clear HO236; clear HB; clear HK; clear HO245; have HO236 := n0_; have HB := n1_; have HK := n2_; have HO248 := n3_; clear n0_ n1_ n2_ n3_; clear ho hb hg hat))
    go_ret
    exact ⟨_, z6_, by (with_reducible repeat (first | apply Kd.R_alloc | apply Kd.R_drewN | apply Kd.R_drew)); exact HO248.out, z1_, z9_⟩
   ·rw [if_neg c10] at H
    exact absurd H (by simp)
  ·rw [if_neg c9] at H
   exact absurd H (by simp)
end Go.Proofs.Ytgeddoklmcjdcaa.G
namespace Go.Proofs.Ytgeddoklmcjdcaa.G
open Go.RowKit Go.Proofs.YtgeddoklmcjdcaaQ Go.Proofs.YtgeddoklmcjdcaaW.PrintWords Go.Proofs.YtgeddoklmcjdcaaW.PrintLast Go.Proofs.YtgeddoklmcjdcaaW.PrintMore
attribute [local go_sem] max2_int min2_int max_two min_two max_three min_three max_four min_four   -- for this text's walks alone
set_option linter.unusedVariables false
set_option linter.unusedSimpArgs false
section
variable {P : Program} {ops : Array Oper} {Q : Exit → Act → World → Prop}
theorem goesV_ {oi : Oper} {N : Option Tmp} {a : Act} {w : World} {K : Act → World → Prop} {f : FuncId} {fn : Func} {o : Operand} {ao : Array Operand} {ts : Array TypeId} (hf : P.funcs[f]? = some fn) (hname : (fn.name == "runtime.NumGoroutine") = false) (hb : fn.body.isSome = true) (args : Array Value)
  (hw : Region.wanted oi (yielded ops a.tmps) = true) (hN : oi.dst = N) (hop : oi.op = .call { callee := .value o, args := ao, argTypes := ts }) (ho : a.eval o = .func (.func f) #[] #[]) (hargs : ao.map a.eval = args)
  (h : Calls P f args w fun e w' => ∃ v, e = .returned v ∧ K (a.put N v) w') : if Region.wanted oi (yielded ops a.tmps) = true then Oper.wp P oi a w K Q else K (a.put N undef) w := by
 refine call_ f args hw hN ?_ h
 have he := enters_ hf hname hb args w
 unfold execOp
 simp [hop, resolve, Deferred.ofValue, invoke, ho, hargs, he]
end
def ints_With.tab : Array Value := #[.func (.func 34) #[] #[], .func (.func 35) #[] #[], .func (.func 36) #[] #[], .func (.func 37) #[] #[], .func (.func 38) #[] #[], .func (.func 39) #[] #[], .func (.func 40) #[] #[], .func (.func 41) #[] #[]]
def ints_With.Tab (W : World) (b : Nat) : Prop := W.heap[b]? = some (.cells ints_With.tab 42 (0, 0))
theorem ints_With.codecs (w : World) : Calls Try.prog 17 #[] w fun e w' => ∃ b, e = .returned (.slice (some ⟨b, 0, none⟩) 4 4) ∧ ints_With.Tab w' b ∧ w.heap.size ≤ b ∧ Below w.heap.size w w' := by
 go_enter Try.func17, Try.ntmps17
 go_wp2
 go_ret
 exact ⟨w.heap.size, rfl, heap_alloc_new w _, Nat.le_refl _, below_alloc (Below.refl _ _) _⟩
def ints_With.wr (k : Nat) (a1 : Int) (b l : List Int) : Option (List Int) := if a1 = 0 then ints_writePlain.f k b l else if a1 = 1 then ints_writeDelta.f k b l else if a1 = 2 then ints_writeRuns.f k b l else ints_writePacked.f k b l
def ints_With.f (k : Nat) (l0 : List Int) (a1 : Int) : Option (ByteArray × Int) := if a1 < 0 ∨ 4 ≤ a1 then some (⟨#[]⟩, 1) else if 65536 < l0.length then some (⟨#[]⟩, 3) else (tally_Uint.f k [a1] (l0.length : Int)).bind fun b => (ints_With.wr k a1 b l0).bind fun r => some (strOfNums r, 0)
theorem ints_With.mono : ∀ a0 a1 k, LeO (ints_With.f k a0 a1) (ints_With.f (k + 1) a0 a1) := by
 intro a0 a1 k
 unfold ints_With.f ints_With.wr
 refine LeO.ite (LeO.refl _) (LeO.ite (LeO.refl _) (LeO.bind (tally_Uint.mono _ _ k) (fun _ => LeO.bind ?_ (fun _ => LeO.refl _))))
 exact LeO.ite (ints_writePlain.mono _ _ k) (LeO.ite (ints_writeDelta.mono _ _ k) (LeO.ite (ints_writeRuns.mono _ _ k) (ints_writePacked.mono _ _ k)))
def ints_With.ok (w : World) (b : Nat) : Nat → Prop := fun k => w.heap.size ≤ k ∧ k ≠ b
theorem ints_With.row {w W : World} {b n : Nat} {ok : Nat → Prop} {v : Value} {l : List Int} (h : Kd.R (Kd.int .u8) 5 W n ok v l) (hn : w.heap.size ≤ n) (hb : ∀ k, v.ownBlock = some k → k ≠ b) : Kd.R (Kd.int .u8) 5 W w.heap.size (ints_With.ok w b) v l :=
 Kd.R_of_own (own_less (Kd.own_of_R h) hn) (fun k hk => ⟨Nat.le_trans hn (own_base (Kd.own_of_R h) k hk), hb k hk⟩)
theorem ints_With.arg {w W : World} {n : Nat} {A : Option Addr} {l : List Int} (h : Kd.C (Kd.int .i64) w A n l) (hb : Below w.heap.size w W) : Kd.F (Kd.int .i64) W (fun k => k < w.heap.size) A n l := Kd.F_below (Kd.C_F (Kd.heap_int _) h) hb
set_option maxHeartbeats 4000000 in
set_option maxRecDepth 100000 in
theorem ints_With.w1 (A0 : Option Addr) (c0 : Nat) (l0 : List Int) (a1 : Int) (w : World) (h : a1 < 0 ∨ 4 ≤ a1) :
  Calls Try.prog 10 #[.slice A0 l0.length c0, .int .i64 a1] w fun e w' => e = .returned (.tuple #[.string ⟨#[]⟩, .int .i64 1]) ∧ Below w.heap.size w w' := by
 by_cases c : a1 < 0
 ·have d1 : decide (a1 < 0) = true := decide_eq_true c
  clear h c
  go_enter Try.func10, Try.ntmps10
  go_wp2_with fail
  refine (ints_With.codecs _).mono ?_; rintro e w1 ⟨b, rfl, ht, hle, hb⟩
  have HB := Aside0.mk hb; clear ht hle hb
  go_wp2
  go_ret2
  exact ⟨rfl, HB.out⟩
 ·have d1 : decide (a1 < 0) = false := decide_eq_false c
  have d2 : decide (4 ≤ a1) = true := decide_eq_true (by omega)
  clear h c
  go_enter Try.func10, Try.ntmps10
  go_wp2_with fail
  refine (ints_With.codecs _).mono ?_; rintro e w1 ⟨b, rfl, ht, hle, hb⟩
  have HB := Aside0.mk hb; clear ht hle hb
  go_wp2
  go_ret2
  exact ⟨rfl, HB.out⟩
set_option maxHeartbeats 4000000 in
set_option maxRecDepth 100000 in
theorem ints_With.w2 (A0 : Option Addr) (c0 : Nat) (l0 : List Int) (a1 : Int) (w : World) (h0 : 0 ≤ a1) (h1 : a1 < 4) (hl : 65536 < l0.length) :
  Calls Try.prog 10 #[.slice A0 l0.length c0, .int .i64 a1] w fun e w' => e = .returned (.tuple #[.string ⟨#[]⟩, .int .i64 3]) ∧ Below w.heap.size w w' := by
 have d1 : decide (a1 < 0) = false := decide_eq_false (by omega)
 have d2 : decide (4 ≤ a1) = false := decide_eq_false (by omega)
 have d3 : decide ((65536 : Int) < (l0.length : Int)) = true := decide_eq_true (by omega)
 have d4 : decide (65536 < l0.length) = true := decide_eq_true hl
 clear h0 h1 hl
 go_enter Try.func10, Try.ntmps10
 go_wp2_with fail
 refine (ints_With.codecs _).mono ?_; rintro e w1 ⟨b, rfl, ht, hle, hb⟩
 have HB := Aside0.mk hb; clear ht hle hb
 go_wp2
 go_ret2
 exact ⟨rfl, HB.out⟩
def ints_With.T6 : Bool × List (List Nat × List Nat) := (true, [([], []), ([], []), ([0, 1], [0, 1]), ([2], [2]), ([3], [3]), ([], []), ([5], [5]), ([6], [6]), ([], []), ([8], [8]), ([9], [9]), ([7, 10], [7, 10]), ([], []), ([4, 11, 12, 11], [4, 11, 12]), ([13], [13]), ([14, 13, 0, 1, 2, 3, 4, 5, 6, 7, 8, 9, 10, 11, 12, 13, 14], [14]), ([15, 0, 1, 2, 3, 4, 5, 6, 7, 8, 9, 10, 11, 12, 13, 14, 15], [])])
theorem ints_With.tab6 : rtab .any (opsOf Try.f10 6) = ints_With.T6 := by kernel_rfl
set_option maxHeartbeats 4000000 in
set_option maxRecDepth 100000 in
theorem ints_With.walk (k : Nat) (A0 : Option Addr) (c0 : Nat) (l0 : List Int) (j : Nat) (hj : j < 4) (hl : l0.length ≤ 65536) (F : FuncId) (fn : Func) (hf : Try.prog.funcs[F]? = some fn) (hname : (fn.name == "runtime.NumGoroutine") = false) (hbody : fn.body.isSome = true) (hF : ints_With.tab[j * 2]? = some (.func (.func F) #[] #[])) (bu r : List Int) (w : World) (hu : tally_Uint.f k [(j : Int)] (l0.length : Int) = some bu)
  (hh : ∀ (v2 : Value) (W : World) (b : Nat), Kd.R (Kd.int .u8) 5 W w.heap.size (ints_With.ok w b) v2 bu → Below w.heap.size w W → Calls Try.prog F #[v2, .slice A0 l0.length c0] W fun e w' => ∃ v0_ : Value, e = .returned v0_ ∧ Kd.R (Kd.int .u8) 5 w' w.heap.size (fun _ => True) v0_ r ∧ Below w.heap.size w w') :
  Calls Try.prog 10 #[.slice A0 l0.length c0, .int .i64 (j : Int)] w fun e w' => e = .returned (.tuple #[.string (strOfNums r), .int .i64 0]) ∧ Below w.heap.size w w' := by
 have d1 : decide ((j : Int) < 0) = false := decide_eq_false (by omega)
 have d2 : decide ((4 : Int) ≤ (j : Int)) = false := decide_eq_false (by omega)
 have d2' : decide (4 ≤ j) = false := decide_eq_false (by omega)
 have d3 : decide ((65536 : Int) < (l0.length : Int)) = false := decide_eq_false (by omega)
 have d4 : decide (65536 < l0.length) = false := decide_eq_false (by omega)
 have hw8 : IntKind.u8.wrap (j : Int) = (j : Int) := by simp [IntKind.wrap, IntKind.bits, IntKind.signed]; omega
 have hw64 : IntKind.u64.wrap (l0.length : Int) = (l0.length : Int) := by simp [IntKind.wrap, IntKind.bits, IntKind.signed]; omega
 have b0 : (0 : Int) ≤ (j : Int) := by omega
 have b1 : (j : Int) < 4 := by omega
 have b2 : (0 : Int) ≤ (l0.length : Int) := by omega
 have b3 : (l0.length : Int) ≤ 65536 := by omega
 have HU := Aside0.mk hu; have HF := Aside0.mk hF; have HH := Aside0.mk hh; have HJ := Aside0.mk hj; clear hu hF hh hl hj
 go_enter Try.func10, Try.ntmps10
 go_wp2_with fail
 refine (ints_With.codecs _).mono ?_; rintro e w1 ⟨b, rfl, ht, hle, hb⟩
 have HT := Aside0.mk ht; have HB := Aside0.mk hb; have HLE := Aside0.mk hle; clear ht hb hle
 go_wp2_with fail
 refine start_ (n := 17) (S := fun w' => True) (ds := []) (bs_ 17 0) (by kernel_rfl) rfl rfl trivial (fun hHeld => ?_)
 refine with_tab ints_With.tab6 (fun HT_ => ?_)
 replace HT : Aside0 (ints_With.Tab w1.drew b) := ⟨HT.out⟩
 replace HB := Aside0.mk (below_drew HB.out)
 generalize w1.drew = wr at HT HB hHeld ⊢
 refine pA_ 0 (some 21) (bs_ 17 1) HT_ ?_ ?_ ?_ ?_ ?_
 rotate_left; (intro w'; go_simp; with_reducible rfl); rotate_left; (simp only [PT_]; rfl)
 refine pA_ 1 (some 22) (bs_ 17 3) HT_ ?_ ?_ ?_ ?_ ?_
 rotate_left; (intro w'; go_simp; with_reducible rfl); rotate_left; (simp only [PT_]; rfl)
 refine pA_ 2 (some 23) (bs_ 17 7) HT_ ?_ ?_ ?_ ?_ ?_
 rotate_left; (intro w'; go_simp; with_reducible rfl); rotate_left; (simp only [PT_]; rfl)
 refine pA_ 3 (some 24) (bs_ 17 15) HT_ ?_ ?_ ?_ ?_ ?_
 rotate_left; (intro w'; go_simp; with_reducible rfl); rotate_left; (simp only [PT_]; rfl)
 refine pA_ 5 (some 26) (bs_ 17 47) HT_ ?_ ?_ ?_ ?_ ?_
 rotate_left; (intro w'; go_simp; with_reducible rfl); rotate_left; (simp only [PT_]; rfl)
 refine pA_ 6 (some 27) (bs_ 17 111) HT_ ?_ ?_ ?_ ?_ ?_
 rotate_left; (intro w'; go_simp; with_reducible rfl); rotate_left; (simp only [PT_]; rfl)
 refine pA_ 8 (some 29) (bs_ 17 367) HT_ ?_ ?_ ?_ ?_ ?_
 rotate_left; (intro w'; go_simp; with_reducible rfl); rotate_left; (simp only [PT_]; rfl)
 refine pA_ 9 (some 30) (bs_ 17 879) HT_ ?_ ?_ ?_ ?_ ?_
 rotate_left; (intro w'; go_simp; with_reducible rfl); rotate_left; (simp only [PT_]; rfl)
 refine pA_ 10 (some 31) (bs_ 17 1903) HT_ ?_ ?_ ?_ ?_ ?_
 rotate_left; (intro w'; go_simp; with_reducible rfl); rotate_left; (simp only [PT_]; rfl)
 refine pA_ 12 (some 33) (bs_ 17 5999) HT_ ?_ ?_ ?_ ?_ ?_
 rotate_left; (intro w'; go_simp; with_reducible rfl); rotate_left; (simp only [PT_]; rfl)
 refine two_ (i := 4) (j := 7) (Ni := (some 25)) (Nj := (some 28)) (bs_ 17 6015) (bs_ 17 6127) rfl rfl rfl rfl (two_of HT_.out (by kernel_rfl)) (by decide) (by decide) (fun K hK => ?_) (fun K hK => ?_)
 ·skip
  have q0 : wr.cell? ⟨b, j * 2, none⟩ = some (.func (.func F) #[] #[]) := (blk_cell HT.out (j * 2)).trans HF.out
  refine value_ (w1 := ?_) (v := ?_) (by rfl) rfl ?_ ?_
  rotate_left 2; (go_simp; constructor; rfl; rfl)
  clear q0
  refine hK.out _ _ trivial (fun hHeld => ?_)
  clear hK K
  refine norm_ (a' := ?_) ?_ ?_; rotate_left; (show Act.put _ (some 25) _ = _; simp only [PT_]; rfl)
  refine oA_ 7 (some 28) (bs_ 17 6143) HT_ (fun K hK => ?_)
  refine Kd.R_lit_step (Kd.int .u8) _ 5 ?hg (N := 28) ?hd (xs := ([(j : Int)] : List Int)) (inner := [.int .u8 (j : Int)]) (ok := fun _ => True) (okp := fun _ => True) ?hr ?hp (fun _ hk => hk) trivial (Below.refl _ _) (Nat.le_refl _) (by simp) ?_; (case hd => rfl); (case hg => rfl); (case hr => first | (go_simp; done) | (go_simp; rfl)); (case hp => exact (Reps.one (show Kd.M (Kd.int .u8) _ _ _ (j : Int) [.int .u8 (j : Int)] from rfl) (Reps.none _ _)))
  intro v1 w1 ho hb hg_ hnew_
  clear hg_ hnew_
  have HO1 := Aside0.mk (ints_With.row (w := w) (b := b) ho HB.out.size (fun k hk he => by have := own_base (Kd.own_of_R ho) k hk; have := blk_lt HT.out; omega))
  replace HT : Aside0 (ints_With.Tab w1 b) := ⟨(hb.block _ (blk_lt HT.out)).trans HT.out⟩
  replace HB := Aside0.mk (below_then HB.out HB.out.size hb)
  clear ho hb hHeld
  skip
  refine hK.out _ _ trivial (fun hHeld => ?_)
  clear hK K
  refine norm_ (a' := ?_) ?_ ?_; rotate_left; (show Act.put _ (some 28) _ = _; simp only [PT_]; rfl)
  refine oA_ 11 (some 32) (bs_ 17 8191) HT_ (fun K hK => ?_)
  refine goes_ Try.func18 (by kernel_rfl) rfl #[v1, .int .u64 (l0.length : Int)] (by rfl) rfl rfl (by first | rfl | (simp only [List.map_toArray, List.map_cons, List.map_nil]; rfl)) ?_
  refine (tally_Uint.calls k (ints_With.ok w b) v1 [(j : Int)] (l0.length : Int) bu w _ HB.out HO1.out HU.out).mono ?_
  rintro e w2 ⟨v2, rfl, ho, hb, hk⟩
  refine ⟨_, rfl, ?_⟩
  have HO2 := Aside0.mk (ints_With.row (w := w) (b := b) ho (Nat.le_refl _) (fun k hk he => (ho.1 k hk).elim (fun h => h.2 he) (fun h => by have := blk_lt HT.out; omega)))
  replace HT : Aside0 (ints_With.Tab w2 b) := ⟨blk_kept HT.out hk (fun h => h.2 rfl)⟩
  replace HB := Aside0.mk hb
  clear ho hb hk HO1 HU
  refine hK.out _ _ trivial (fun hHeld => ?_)
  clear hK K
  refine norm_ (a' := ?_) ?_ ?_; rotate_left; (show Act.put _ (some 32) _ = _; simp only [PT_]; rfl)
  refine oA_ 13 (some 34) (bs_ 17 16383) HT_ (fun K hK => ?_)
  refine goesV_ hf hname hbody #[v2, .slice A0 l0.length c0] (by rfl) rfl rfl (by rfl) (by first | rfl | (simp only [List.map_toArray, List.map_cons, List.map_nil]; rfl)) ?_
  refine (HH.out v2 _ b HO2.out HB.out).mono ?_
  rintro e w3 ⟨v3, rfl, ho, hb⟩
  refine ⟨_, rfl, ?_⟩
  have HO3 := Aside0.mk ho; replace HB := Aside0.mk hb
  clear ho hb HO2 HT HF
  refine hK.out _ _ trivial (fun hHeld => ?_)
  clear hK K
  refine norm_ (a' := ?_) ?_ ?_; rotate_left; (show Act.put _ (some 34) _ = _; simp only [PT_]; rfl)
  refine oA_ 14 (some 35) (bs_ 17 32767) HT_ (fun K hK => ?_)
  have hcv := own_string (P := Try.prog) Try.underlying38 Try.underlying5 Try.underlying9 (Kd.own_of_R HO3.out)
  refine value_ (w1 := ?_) (v := ?_) (by rfl) rfl ?_ ?_
  rotate_left 2; (go_simp; constructor; rfl; rfl)
  clear hcv
  refine hK.out _ _ trivial (fun hHeld => ?_)
  clear hK K
  refine norm_ (a' := ?_) ?_ ?_; rotate_left; (show Act.put _ (some 35) _ = _; simp only [PT_]; rfl)
  refine pA_ 15 (some 4) (bs_ 17 65535) HT_ ?_ ?_ ?_ ?_ ?_
  rotate_left; (intro w'; go_simp; with_reducible rfl); rotate_left; (simp only [PT_]; rfl)
  refine pA_ 16 (some 5) (bs_ 17 131071) HT_ ?_ ?_ ?_ ?_ ?_
  rotate_left; (intro w'; go_simp; with_reducible rfl); rotate_left; (simp only [PT_]; rfl)
  refine done_ (done_of HT_.out (by kernel_rfl)) ?_
  go_wp2
  go_ret2
  exact ⟨rfl, HB.out⟩
 ·skip
  refine Kd.R_lit_step (Kd.int .u8) _ 5 ?hg (N := 28) ?hd (xs := ([(j : Int)] : List Int)) (inner := [.int .u8 (j : Int)]) (ok := fun _ => True) (okp := fun _ => True) ?hr ?hp (fun _ hk => hk) trivial (Below.refl _ _) (Nat.le_refl _) (by simp) ?_; (case hd => rfl); (case hg => rfl); (case hr => first | (go_simp; done) | (go_simp; rfl)); (case hp => exact (Reps.one (show Kd.M (Kd.int .u8) _ _ _ (j : Int) [.int .u8 (j : Int)] from rfl) (Reps.none _ _)))
  intro v1 w1 ho hb hg_ hnew_
  clear hg_ hnew_
  have HO1 := Aside0.mk (ints_With.row (w := w) (b := b) ho HB.out.size (fun k hk he => by have := own_base (Kd.own_of_R ho) k hk; have := blk_lt HT.out; omega))
  replace HT : Aside0 (ints_With.Tab w1 b) := ⟨(hb.block _ (blk_lt HT.out)).trans HT.out⟩
  replace HB := Aside0.mk (below_then HB.out HB.out.size hb)
  clear ho hb hHeld
  skip
  refine hK.out _ _ trivial (fun hHeld => ?_)
  clear hK K
  refine norm_ (a' := ?_) ?_ ?_; rotate_left; (show Act.put _ (some 28) _ = _; simp only [PT_]; rfl)
  refine two_ (i := 4) (j := 11) (Ni := (some 25)) (Nj := (some 32)) (bs_ 17 6143) (bs_ 17 8175) rfl rfl rfl rfl (two_of HT_.out (by kernel_rfl)) (by decide) (by decide) (fun K hK => ?_) (fun K hK => ?_)
  ·skip
   have q0 : w1.cell? ⟨b, j * 2, none⟩ = some (.func (.func F) #[] #[]) := (blk_cell HT.out (j * 2)).trans HF.out
   refine value_ (w1 := ?_) (v := ?_) (by rfl) rfl ?_ ?_
   rotate_left 2; (go_simp; constructor; rfl; rfl)
   clear q0
   refine hK.out _ _ trivial (fun hHeld => ?_)
   clear hK K
   refine norm_ (a' := ?_) ?_ ?_; rotate_left; (show Act.put _ (some 25) _ = _; simp only [PT_]; rfl)
   refine oA_ 11 (some 32) (bs_ 17 8191) HT_ (fun K hK => ?_)
   refine goes_ Try.func18 (by kernel_rfl) rfl #[v1, .int .u64 (l0.length : Int)] (by rfl) rfl rfl (by first | rfl | (simp only [List.map_toArray, List.map_cons, List.map_nil]; rfl)) ?_
   refine (tally_Uint.calls k (ints_With.ok w b) v1 [(j : Int)] (l0.length : Int) bu w _ HB.out HO1.out HU.out).mono ?_
   rintro e w2 ⟨v2, rfl, ho, hb, hk⟩
   refine ⟨_, rfl, ?_⟩
   have HO2 := Aside0.mk (ints_With.row (w := w) (b := b) ho (Nat.le_refl _) (fun k hk he => (ho.1 k hk).elim (fun h => h.2 he) (fun h => by have := blk_lt HT.out; omega)))
   replace HT : Aside0 (ints_With.Tab w2 b) := ⟨blk_kept HT.out hk (fun h => h.2 rfl)⟩
   replace HB := Aside0.mk hb
   clear ho hb hk HO1 HU
   refine hK.out _ _ trivial (fun hHeld => ?_)
   clear hK K
   refine norm_ (a' := ?_) ?_ ?_; rotate_left; (show Act.put _ (some 32) _ = _; simp only [PT_]; rfl)
   refine oA_ 13 (some 34) (bs_ 17 16383) HT_ (fun K hK => ?_)
   refine goesV_ hf hname hbody #[v2, .slice A0 l0.length c0] (by rfl) rfl rfl (by rfl) (by first | rfl | (simp only [List.map_toArray, List.map_cons, List.map_nil]; rfl)) ?_
   refine (HH.out v2 _ b HO2.out HB.out).mono ?_
   rintro e w3 ⟨v3, rfl, ho, hb⟩
   refine ⟨_, rfl, ?_⟩
   have HO3 := Aside0.mk ho; replace HB := Aside0.mk hb
   clear ho hb HO2 HT HF
   refine hK.out _ _ trivial (fun hHeld => ?_)
   clear hK K
   refine norm_ (a' := ?_) ?_ ?_; rotate_left; (show Act.put _ (some 34) _ = _; simp only [PT_]; rfl)
   refine oA_ 14 (some 35) (bs_ 17 32767) HT_ (fun K hK => ?_)
   have hcv := own_string (P := Try.prog) Try.underlying38 Try.underlying5 Try.underlying9 (Kd.own_of_R HO3.out)
   refine value_ (w1 := ?_) (v := ?_) (by rfl) rfl ?_ ?_
   rotate_left 2; (go_simp; constructor; rfl; rfl)
   clear hcv
   refine hK.out _ _ trivial (fun hHeld => ?_)
   clear hK K
   refine norm_ (a' := ?_) ?_ ?_; rotate_left; (show Act.put _ (some 35) _ = _; simp only [PT_]; rfl)
   refine pA_ 15 (some 4) (bs_ 17 65535) HT_ ?_ ?_ ?_ ?_ ?_
   rotate_left; (intro w'; go_simp; with_reducible rfl); rotate_left; (simp only [PT_]; rfl)
   refine pA_ 16 (some 5) (bs_ 17 131071) HT_ ?_ ?_ ?_ ?_ ?_
   rotate_left; (intro w'; go_simp; with_reducible rfl); rotate_left; (simp only [PT_]; rfl)
   refine done_ (done_of HT_.out (by kernel_rfl)) ?_
   go_wp2
   go_ret2
   exact ⟨rfl, HB.out⟩
  ·skip
   refine goes_ Try.func18 (by kernel_rfl) rfl #[v1, .int .u64 (l0.length : Int)] (by rfl) rfl rfl (by first | rfl | (simp only [List.map_toArray, List.map_cons, List.map_nil]; rfl)) ?_
   refine (tally_Uint.calls k (ints_With.ok w b) v1 [(j : Int)] (l0.length : Int) bu w _ HB.out HO1.out HU.out).mono ?_
   rintro e w2 ⟨v2, rfl, ho, hb, hk⟩
   refine ⟨_, rfl, ?_⟩
   have HO2 := Aside0.mk (ints_With.row (w := w) (b := b) ho (Nat.le_refl _) (fun k hk he => (ho.1 k hk).elim (fun h => h.2 he) (fun h => by have := blk_lt HT.out; omega)))
   replace HT : Aside0 (ints_With.Tab w2 b) := ⟨blk_kept HT.out hk (fun h => h.2 rfl)⟩
   replace HB := Aside0.mk hb
   clear ho hb hk HO1 HU
   refine hK.out _ _ trivial (fun hHeld => ?_)
   clear hK K
   refine norm_ (a' := ?_) ?_ ?_; rotate_left; (show Act.put _ (some 32) _ = _; simp only [PT_]; rfl)
   refine oA_ 4 (some 25) (bs_ 17 8191) HT_ (fun K hK => ?_)
   have q0 : w2.cell? ⟨b, j * 2, none⟩ = some (.func (.func F) #[] #[]) := (blk_cell HT.out (j * 2)).trans HF.out
   refine value_ (w1 := ?_) (v := ?_) (by rfl) rfl ?_ ?_
   rotate_left 2; (go_simp; constructor; rfl; rfl)
   clear q0
   refine hK.out _ _ trivial (fun hHeld => ?_)
   clear hK K
   refine norm_ (a' := ?_) ?_ ?_; rotate_left; (show Act.put _ (some 25) _ = _; simp only [PT_]; rfl)
   refine oA_ 13 (some 34) (bs_ 17 16383) HT_ (fun K hK => ?_)
   refine goesV_ hf hname hbody #[v2, .slice A0 l0.length c0] (by rfl) rfl rfl (by rfl) (by first | rfl | (simp only [List.map_toArray, List.map_cons, List.map_nil]; rfl)) ?_
   refine (HH.out v2 _ b HO2.out HB.out).mono ?_
   rintro e w3 ⟨v3, rfl, ho, hb⟩
   refine ⟨_, rfl, ?_⟩
   have HO3 := Aside0.mk ho; replace HB := Aside0.mk hb
   clear ho hb HO2 HT HF
   refine hK.out _ _ trivial (fun hHeld => ?_)
   clear hK K
   refine norm_ (a' := ?_) ?_ ?_; rotate_left; (show Act.put _ (some 34) _ = _; simp only [PT_]; rfl)
   refine oA_ 14 (some 35) (bs_ 17 32767) HT_ (fun K hK => ?_)
   have hcv := own_string (P := Try.prog) Try.underlying38 Try.underlying5 Try.underlying9 (Kd.own_of_R HO3.out)
   refine value_ (w1 := ?_) (v := ?_) (by rfl) rfl ?_ ?_
   rotate_left 2; (go_simp; constructor; rfl; rfl)
   clear hcv
   refine hK.out _ _ trivial (fun hHeld => ?_)
   clear hK K
   refine norm_ (a' := ?_) ?_ ?_; rotate_left; (show Act.put _ (some 35) _ = _; simp only [PT_]; rfl)
   refine pA_ 15 (some 4) (bs_ 17 65535) HT_ ?_ ?_ ?_ ?_ ?_
   rotate_left; (intro w'; go_simp; with_reducible rfl); rotate_left; (simp only [PT_]; rfl)
   refine pA_ 16 (some 5) (bs_ 17 131071) HT_ ?_ ?_ ?_ ?_ ?_
   rotate_left; (intro w'; go_simp; with_reducible rfl); rotate_left; (simp only [PT_]; rfl)
   refine done_ (done_of HT_.out (by kernel_rfl)) ?_
   go_wp2
   go_ret2
   exact ⟨rfl, HB.out⟩
theorem ints_With.calls (k : Nat) (A0 : Option Addr) (c0 : Nat) (l0 : List Int) (a1 : Int) (r1 : ByteArray) (r2 : Int) (w : World) (hr0 : Kd.C (Kd.int .i64) w A0 l0.length l0) (hc0 : l0.length ≤ c0) (h : ints_With.f k l0 a1 = some (r1, r2)) :
  Calls Try.prog 10 #[.slice A0 l0.length c0, .int .i64 a1] w fun e w' => e = .returned (.tuple #[.string r1, .int .i64 r2]) ∧ Below w.heap.size w w' := by
 unfold ints_With.f at h
 by_cases c : a1 < 0 ∨ 4 ≤ a1
 ·rw [if_pos c] at h
  injection h with h; injection h with h1 h2; subst h1 h2
  exact ints_With.w1 A0 c0 l0 a1 w c
 ·rw [if_neg c] at h
  by_cases c2 : 65536 < l0.length
  ·rw [if_pos c2] at h
   injection h with h; injection h with h1 h2; subst h1 h2
   exact ints_With.w2 A0 c0 l0 a1 w (by omega) (by omega) c2
  ·rw [if_neg c2] at h
   obtain ⟨bu, hu, h⟩ := Option.bind_eq_some_iff.mp h
   obtain ⟨r, hr, h⟩ := Option.bind_eq_some_iff.mp h
   injection h with h; injection h with h1 h2; subst h1 h2
   obtain ⟨j, rfl⟩ : ∃ j : Nat, a1 = (j : Int) := ⟨a1.toNat, by omega⟩
   unfold ints_With.wr at hr
   rcases (by omega : j = 0 ∨ j = 1 ∨ j = 2 ∨ j = 3) with rfl | rfl | rfl | rfl
   ·replace hr : ints_writePlain.f k bu l0 = some r := hr
    refine ints_With.walk k A0 c0 l0 0 (by omega) (by omega) 34 _ Try.func34 (by kernel_rfl) rfl rfl bu r w hu (fun v2 W b ho hb => ?_)
    exact (ints_writePlain.calls k (ints_With.ok w b) v2 bu A0 c0 l0 r w W hb ho (fun W_ hk => Kd.F_now (Kd.F_kept (ints_With.arg hr0 hb) hk (fun k h1 h2 => by have := h2.1; omega))) hc0 hr).mono (fun e w' ⟨v0, he, hr', hb', hk'⟩ => ⟨v0, he, Kd.R_mono hr' (fun _ _ => trivial), hb'⟩)
   ·replace hr : ints_writeDelta.f k bu l0 = some r := hr
    refine ints_With.walk k A0 c0 l0 1 (by omega) (by omega) 36 _ Try.func36 (by kernel_rfl) rfl rfl bu r w hu (fun v2 W b ho hb => ?_)
    exact (ints_writeDelta.calls k (ints_With.ok w b) v2 bu A0 c0 l0 r w W hb ho (fun W_ hk => Kd.F_now (Kd.F_kept (ints_With.arg hr0 hb) hk (fun k h1 h2 => by have := h2.1; omega))) hc0 hr).mono (fun e w' ⟨v0, he, hr', hb', hk'⟩ => ⟨v0, he, Kd.R_mono hr' (fun _ _ => trivial), hb'⟩)
   ·replace hr : ints_writeRuns.f k bu l0 = some r := hr
    refine ints_With.walk k A0 c0 l0 2 (by omega) (by omega) 38 _ Try.func38 (by kernel_rfl) rfl rfl bu r w hu (fun v2 W b ho hb => ?_)
    exact (ints_writeRuns.calls k (ints_With.ok w b) v2 bu (fun k => k < w.heap.size) A0 c0 l0 r w W hb ho (Kd.V_mk hc0 (Kd.F_mono (ints_With.arg hr0 hb) (fun k hk => ⟨hk, fun he => by have := (ho.1 k he.symm).1; omega⟩))) hr).mono (fun e w' ⟨v0, he, hr', hb', hk'⟩ => ⟨v0, he, Kd.R_mono hr' (fun _ _ => trivial), hb'⟩)
   ·replace hr : ints_writePacked.f k bu l0 = some r := hr
    refine ints_With.walk k A0 c0 l0 3 (by omega) (by omega) 40 _ Try.func40 (by kernel_rfl) rfl rfl bu r w hu (fun v2 W b ho hb => ?_)
    exact (ints_writePacked.calls k (ints_With.ok w b) v2 bu A0 c0 l0 r w W hb ho (fun W_ hk => Kd.F_now (Kd.F_kept (ints_With.arg hr0 hb) hk (fun k h1 h2 => by have := h2.1; omega))) hc0 hr).mono (fun e w' ⟨v0, he, hr', hb', hk'⟩ => ⟨v0, he, Kd.R_mono hr' (fun _ _ => trivial), hb'⟩)
end Go.Proofs.Ytgeddoklmcjdcaa.G
namespace Go.Proofs.Ytgeddoklmcjdcaa.G
open Go.RowKit Go.Proofs.YtgeddoklmcjdcaaQ Go.Proofs.YtgeddoklmcjdcaaW.PrintWords Go.Proofs.YtgeddoklmcjdcaaW.PrintLast Go.Proofs.YtgeddoklmcjdcaaW.PrintMore
attribute [local go_sem] max2_int min2_int max_two min_two max_three min_three max_four min_four   -- for this text's walks alone
set_option linter.unusedVariables false
set_option linter.unusedSimpArgs false
def tally_From.f (a0 : ByteArray) : Option (ByteArray × Int) := some (a0, 0)
set_option maxHeartbeats 8000000 in
set_option maxRecDepth 100000 in
theorem tally_From.calls (a0 : ByteArray) (r1 : ByteArray) (r2 : Int) (w0 w : World) (hB : Below w0.heap.size w0 w) (h : tally_From.f a0 = some (r1, r2)) :
  Calls Try.prog 23 #[.string a0] w fun e w' => ∃ g_ : Nat, e = .returned (.pointer (some ⟨g_, 0, none⟩)) ∧ IsS66 w0 w' g_ r1 r2 ∧ Below w0.heap.size w0 w' ∧ Below w.heap.size w w' := by
 have hu66 := Try.underlying66
 have HBW := Aside0.mk (Below.refl w.heap.size w)
 have HW0 := Aside0.mk hB.size
 have HB := Aside0.mk hB
 clear hB
 have H : (some (a0, 0)) = some (r1, r2) := h
 clear h
 simp only [Option.some.injEq, Prod.mk.injEq] at H
 obtain ⟨rfl, rfl⟩ := H
 go_enter Try.func23, Try.ntmps23
 go_wp2_with (first | ((with_reducible refine gate_dst (N := 5) rfl ?_); refine box_event ?hg (N := 5) ?hd (cs := #[.string a0, .int .i64 0]) (t := 66) ?hr ?_; (case hd => rfl); (case hg => rfl); (case hr => first | (go_simp; done) | (go_simp; rfl)); intro gb283 hg w2 hbox hb; have n0_ := Aside0.mk (below_step HBW.out hb); have n1_ := Aside0.mk (below_step z1_ hb); have n2_ := Aside0.mk (hbox); have n3_ := Aside0.mk ((by rw [hg]; exact (below_size (by repeat (first | (with_reducible first | exact HBW.out | apply below_alloc | apply pw_below_drewN | apply below_drew1) | exact HBW.out))) : w.heap.size ≤ gb283)); have n4_ := Aside0.mk ((Nat.le_trans HW0.out (by rw [hg]; exact (below_size (by repeat (first | (with_reducible first | exact HBW.out | apply below_alloc | apply pw_below_drewN | apply below_drew1) | exact HBW.out))) : w.heap.size ≤ gb283) : w0.heap.size ≤ gb283)); clear HBW; clear HB; have HBW := n0_; have HB := n1_; have BK283 := n2_; have GW283 := n3_; have GE283 := n4_; clear n0_ n1_ n2_ n3_ n4_; clear hb hbox hg))
 go_ret
 exact ⟨_, rfl, (show IsS66 w0 _ gb283 a0 0 from ⟨by (with_reducible repeat (first | refine blk_drewN ?_ _ | refine blk_drew ?_ | refine blk_alloc ?_ _)); exact BK283.out, GE283.out⟩), by repeat (first | (with_reducible first | exact HB.out | apply below_alloc | apply pw_below_drewN | apply below_drew1 | refine below_set ?_ GE283.out) | exact HB.out), by repeat (first | (with_reducible first | exact HBW.out | apply below_alloc | apply pw_below_drewN | apply below_drew1 | refine below_set ?_ GW283.out) | exact HBW.out)⟩
def tally_Cursor_Done.f (s0_0 : ByteArray) (s0_1 : Int) : Option (Int × ByteArray × Int) := (tally_Cursor_ok.f s0_0 s0_1).bind fun bt284 => (if bt284.1 = true then (if bt284.2.1.toList = ([] : List UInt8) then ((tally_Cursor_Err.f bt284.2.1 bt284.2.2).bind fun bt287 => (some (bt287.1, bt287.2.1, bt287.2.2))) else (some (5, bt284.2.1, bt284.2.2))) else ((tally_Cursor_Err.f bt284.2.1 bt284.2.2).bind fun bt290 => (some (bt290.1, bt290.2.1, bt290.2.2))))
set_option maxHeartbeats 8000000 in
set_option maxRecDepth 100000 in
theorem tally_Cursor_Done.calls (g : Nat) (s0_0 : ByteArray) (s0_1 : Int) (r1 : Int) (r2 : ByteArray) (r3 : Int) (w0 w : World) (hI : IsS66 w0 w g s0_0 s0_1) (hB : Below w0.heap.size w0 w) (h : tally_Cursor_Done.f s0_0 s0_1 = some (r1, r2, r3)) :
  Calls Try.prog 27 #[.pointer (some ⟨g, 0, none⟩)] w fun e w' => e = .returned (.int .i64 r1) ∧ IsS66 w0 w' g r2 r3 ∧ Below w0.heap.size w0 w' ∧ KeepBut w w' g none := by
 have HI0 := Aside0.mk hI
 have HK := Aside0.mk (KeepBut.refl w g none)
 have HL := Aside0.mk hB.size
 clear hI
 have HW0 := Aside0.mk hB.size
 have HB := Aside0.mk hB
 clear hB
 have H : ((tally_Cursor_ok.f s0_0 s0_1).bind fun bt284 => (if bt284.1 = true then (if bt284.2.1.toList = ([] : List UInt8) then ((tally_Cursor_Err.f bt284.2.1 bt284.2.2).bind fun bt287 => (some (bt287.1, bt287.2.1, bt287.2.2))) else (some (5, bt284.2.1, bt284.2.2))) else ((tally_Cursor_Err.f bt284.2.1 bt284.2.2).bind fun bt290 => (some (bt290.1, bt290.2.1, bt290.2.2))))) = some (r1, r2, r3) := h
 clear h
 replace H := Option.bind_eq_some_iff.mp H
 obtain ⟨⟨t284, t285, t286⟩, A20, H⟩ := H
 replace H : (if t284 = true then (if t285.toList = ([] : List UInt8) then ((tally_Cursor_Err.f t285 t286).bind fun bt287 => (some (bt287.1, bt287.2.1, bt287.2.2))) else (some (5, t285, t286))) else ((tally_Cursor_Err.f t285 t286).bind fun bt290 => (some (bt290.1, bt290.2.1, bt290.2.2)))) = some (r1, r2, r3) := H
 have A2 := Aside0.mk A20
 clear A20
 by_cases c3 : t284 = true
 ·subst c3
  have H1 : (if t285.toList = ([] : List UInt8) then ((tally_Cursor_Err.f t285 t286).bind fun bt287 => (some (bt287.1, bt287.2.1, bt287.2.2))) else (some (5, t285, t286))) = some (r1, r2, r3) := by rw [if_pos rfl] at H; exact H
  clear H
  have H := H1
  clear H1
  by_cases c4 : t285.toList = ([] : List UInt8)
  ·rw [if_pos c4] at H
   have c4b0 : (t285.toList == ([] : List UInt8)) = true := beq_iff_eq.mpr c4
   have c4b1 : (t285.toList != ([] : List UInt8)) = false := bne_eq_false_iff_eq.mpr c4
   clear c4
   replace H := Option.bind_eq_some_iff.mp H
   obtain ⟨⟨t287, t288, t289⟩, A50, H⟩ := H
   replace H : (some (t287, t288, t289)) = some (r1, r2, r3) := H
   have A5 := Aside0.mk A50
   clear A50
   simp only [Option.some.injEq, Prod.mk.injEq] at H
   obtain ⟨rfl, rfl, rfl⟩ := H
   go_enter Try.func27, Try.ntmps27
   go_wp2_with (first | ((with_reducible refine gate_callee (f := 47) rfl ?_); refine goesL_ (some 4) rfl rfl Try.func47 (by kernel_rfl) rfl #[.pointer (some ⟨g, 0, none⟩)] rfl (by (try simp only [List.map_toArray, List.map_cons, List.map_nil]); first | done | rfl | (simp only [List.length_drop, List.length_take]; rfl) | (go_simp; simp [IntKind.wrap, IntKind.bits, IntKind.signed]; omega)) ?_; (with_reducible refine (tally_Cursor_ok.calls g s0_0 s0_1 true t285 t286 w0 _ ?side1 ?side2 A2.out).mono ?_); (case side1 => repeat (first | (with_reducible first | exact HI0.out | apply IsS66.alloc | apply IsS66.drewN | apply IsS66.drew | apply IsS66.set_0 | apply IsS66.set_1) | exact HI0.out)); (case side2 => repeat (first | (with_reducible first | exact HB.out | apply below_alloc | apply pw_below_drewN | apply below_drew1 | refine below_set ?_ (IsS66.ge HI0.out)) | exact HB.out)); rintro e w6 ⟨rfl, hi, hb, hk⟩; refine ⟨_, rfl, ?_⟩; have n0_ := Aside0.mk (KeepBut.trans z0_ hk (.inl rfl)); have n1_ := Aside0.mk (hb); have n2_ := Aside0.mk (hi); clear HK; clear HB; clear HI0; have HK := n0_; have HB := n1_; have HI0 := n2_; clear n0_ n1_ n2_; (try clear hb); (try clear hb2); (try clear hk); (try clear hi); obtain ⟨HGz7, hgz7⟩ := HI0.out; have hcz7_0 := cellS66_0 HGz7; have hcz7_1 := cellS66_1 HGz7; have hfz7_0 := blk_frozen HGz7 0; have hfz7_1 := blk_frozen HGz7 1; clear HGz7 hgz7) | ((with_reducible refine gate_callee (f := 25) rfl ?_); refine goesL_ (some 13) rfl rfl Try.func25 (by kernel_rfl) rfl #[.pointer (some ⟨g, 0, none⟩)] rfl (by (try simp only [List.map_toArray, List.map_cons, List.map_nil]); first | done | rfl | (simp only [List.length_drop, List.length_take]; rfl) | (go_simp; simp [IntKind.wrap, IntKind.bits, IntKind.signed]; omega)) ?_; (with_reducible refine (tally_Cursor_Err.calls g t285 t286 t287 t288 t289 w0 _ ?side1 ?side2 A5.out).mono ?_); (case side1 => repeat (first | (with_reducible first | exact HI0.out | apply IsS66.alloc | apply IsS66.drewN | apply IsS66.drew | apply IsS66.set_0 | apply IsS66.set_1) | exact HI0.out)); (case side2 => repeat (first | (with_reducible first | exact HB.out | apply below_alloc | apply pw_below_drewN | apply below_drew1 | refine below_set ?_ (IsS66.ge HI0.out)) | exact HB.out)); rintro e w8 ⟨rfl, hi, hb, hk⟩; refine ⟨_, rfl, ?_⟩; have n0_ := Aside0.mk (KeepBut.trans z0_ hk (.inl rfl)); have n1_ := Aside0.mk (hb); have n2_ := Aside0.mk (hi); clear HK; clear HB; clear HI0; have HK := n0_; have HB := n1_; have HI0 := n2_; clear n0_ n1_ n2_; (try clear hb); (try clear hb2); (try clear hk); (try clear hi)))
   go_ret
   exact ⟨z6_, z4_, z5_, z0_⟩
  ·rw [if_neg c4] at H
   have c4b0 : (t285.toList == ([] : List UInt8)) = false := beq_eq_false_iff_ne.mpr c4
   have c4b1 : (t285.toList != ([] : List UInt8)) = true := bne_iff_ne.mpr c4
   simp only [Option.some.injEq, Prod.mk.injEq] at H
   obtain ⟨rfl, rfl, rfl⟩ := H
   go_enter Try.func27, Try.ntmps27
   go_wp2_with (first | ((with_reducible refine gate_callee (f := 47) rfl ?_); refine goesL_ (some 4) rfl rfl Try.func47 (by kernel_rfl) rfl #[.pointer (some ⟨g, 0, none⟩)] rfl (by (try simp only [List.map_toArray, List.map_cons, List.map_nil]); first | done | rfl | (simp only [List.length_drop, List.length_take]; rfl) | (go_simp; simp [IntKind.wrap, IntKind.bits, IntKind.signed]; omega)) ?_; (with_reducible refine (tally_Cursor_ok.calls g s0_0 s0_1 true t285 t286 w0 _ ?side1 ?side2 A2.out).mono ?_); (case side1 => repeat (first | (with_reducible first | exact HI0.out | apply IsS66.alloc | apply IsS66.drewN | apply IsS66.drew | apply IsS66.set_0 | apply IsS66.set_1) | exact HI0.out)); (case side2 => repeat (first | (with_reducible first | exact HB.out | apply below_alloc | apply pw_below_drewN | apply below_drew1 | refine below_set ?_ (IsS66.ge HI0.out)) | exact HB.out)); rintro e w9 ⟨rfl, hi, hb, hk⟩; refine ⟨_, rfl, ?_⟩; have n0_ := Aside0.mk (KeepBut.trans z0_ hk (.inl rfl)); have n1_ := Aside0.mk (hb); have n2_ := Aside0.mk (hi); clear HK; clear HB; clear HI0; have HK := n0_; have HB := n1_; have HI0 := n2_; clear n0_ n1_ n2_; (try clear hb); (try clear hb2); (try clear hk); (try clear hi); obtain ⟨HGz10, hgz10⟩ := HI0.out; have hcz10_0 := cellS66_0 HGz10; have hcz10_1 := cellS66_1 HGz10; have hfz10_0 := blk_frozen HGz10 0; have hfz10_1 := blk_frozen HGz10 1; clear HGz10 hgz10))
   go_ret
   exact ⟨z6_, z4_, z5_, z0_⟩
 ·replace c3 := Bool.eq_false_iff.mpr c3
  subst c3
  have H1 : ((tally_Cursor_Err.f t285 t286).bind fun bt290 => (some (bt290.1, bt290.2.1, bt290.2.2))) = some (r1, r2, r3) := by rw [if_neg (show ¬ (false = true) by decide)] at H; exact H
  clear H
  have H := H1
  clear H1
  replace H := Option.bind_eq_some_iff.mp H
  obtain ⟨⟨t290, t291, t292⟩, A110, H⟩ := H
  replace H : (some (t290, t291, t292)) = some (r1, r2, r3) := H
  have A11 := Aside0.mk A110
  clear A110
  simp only [Option.some.injEq, Prod.mk.injEq] at H
  obtain ⟨rfl, rfl, rfl⟩ := H
  go_enter Try.func27, Try.ntmps27
  go_wp2_with (first | ((with_reducible refine gate_callee (f := 47) rfl ?_); refine goesL_ (some 4) rfl rfl Try.func47 (by kernel_rfl) rfl #[.pointer (some ⟨g, 0, none⟩)] rfl (by (try simp only [List.map_toArray, List.map_cons, List.map_nil]); first | done | rfl | (simp only [List.length_drop, List.length_take]; rfl) | (go_simp; simp [IntKind.wrap, IntKind.bits, IntKind.signed]; omega)) ?_; (with_reducible refine (tally_Cursor_ok.calls g s0_0 s0_1 false t285 t286 w0 _ ?side1 ?side2 A2.out).mono ?_); (case side1 => repeat (first | (with_reducible first | exact HI0.out | apply IsS66.alloc | apply IsS66.drewN | apply IsS66.drew | apply IsS66.set_0 | apply IsS66.set_1) | exact HI0.out)); (case side2 => repeat (first | (with_reducible first | exact HB.out | apply below_alloc | apply pw_below_drewN | apply below_drew1 | refine below_set ?_ (IsS66.ge HI0.out)) | exact HB.out)); rintro e w12 ⟨rfl, hi, hb, hk⟩; refine ⟨_, rfl, ?_⟩; have n0_ := Aside0.mk (KeepBut.trans z0_ hk (.inl rfl)); have n1_ := Aside0.mk (hb); have n2_ := Aside0.mk (hi); clear HK; clear HB; clear HI0; have HK := n0_; have HB := n1_; have HI0 := n2_; clear n0_ n1_ n2_; (try clear hb); (try clear hb2); (try clear hk); (try clear hi)) | ((with_reducible refine gate_callee (f := 25) rfl ?_); refine goesL_ (some 13) rfl rfl Try.func25 (by kernel_rfl) rfl #[.pointer (some ⟨g, 0, none⟩)] rfl (by (try simp only [List.map_toArray, List.map_cons, List.map_nil]); first | done | rfl | (simp only [List.length_drop, List.length_take]; rfl) | (go_simp; simp [IntKind.wrap, IntKind.bits, IntKind.signed]; omega)) ?_; (with_reducible refine (tally_Cursor_Err.calls g t285 t286 t290 t291 t292 w0 _ ?side1 ?side2 A11.out).mono ?_); (case side1 => repeat (first | (with_reducible first | exact HI0.out | apply IsS66.alloc | apply IsS66.drewN | apply IsS66.drew | apply IsS66.set_0 | apply IsS66.set_1) | exact HI0.out)); (case side2 => repeat (first | (with_reducible first | exact HB.out | apply below_alloc | apply pw_below_drewN | apply below_drew1 | refine below_set ?_ (IsS66.ge HI0.out)) | exact HB.out)); rintro e w13 ⟨rfl, hi, hb, hk⟩; refine ⟨_, rfl, ?_⟩; have n0_ := Aside0.mk (KeepBut.trans z0_ hk (.inl rfl)); have n1_ := Aside0.mk (hb); have n2_ := Aside0.mk (hi); clear HK; clear HB; clear HI0; have HK := n0_; have HB := n1_; have HI0 := n2_; clear n0_ n1_ n2_; (try clear hb); (try clear hb2); (try clear hk); (try clear hi)))
  go_ret
  exact ⟨z6_, z4_, z5_, z0_⟩
end Go.Proofs.Ytgeddoklmcjdcaa.G
namespace Go.Proofs.Ytgeddoklmcjdcaa.G
open Go.RowKit Go.Proofs.YtgeddoklmcjdcaaQ Go.Proofs.YtgeddoklmcjdcaaW.PrintWords Go.Proofs.YtgeddoklmcjdcaaW.PrintLast Go.Proofs.YtgeddoklmcjdcaaW.PrintMore
attribute [local go_sem] max2_int min2_int max_two min_two max_three min_three max_four min_four   -- for this text's walks alone
set_option linter.unusedVariables false
set_option linter.unusedSimpArgs false
section
variable {P : Program} {ops : Array Oper} {Q : Exit → Act → World → Prop}
theorem goesLV_ {rest : List Oper} {oi : Oper} {a : Act} {w : World} (N : Option Tmp) (hd : oi.dst = N) (hg : oi.guard = none) {f : FuncId} {fn : Func} {o : Operand} {ao : Array Operand} {ts : Array TypeId} (hf : P.funcs[f]? = some fn) (hname : (fn.name == "runtime.NumGoroutine") = false) (hb : fn.body.isSome = true) (args : Array Value)
  (hop : oi.op = .call { callee := .value o, args := ao, argTypes := ts }) (ho : a.eval o = .func (.func f) #[] #[]) (hargs : ao.map a.eval = args)
  (h : Calls P f args w fun e w' => ∃ v, e = .returned v ∧ wpList P ops Q rest (a.put N v) w') : wpList P ops Q (oi :: rest) a w := by
 refine wpList_plain hg fun K hK => ?_
 have he := enters_ hf hname hb args w
 have hrun : (execOp a.eval oi).run P w = .ok (.enter f args) w := by
  unfold execOp
  simp [hop, resolve, Deferred.ofValue, invoke, ho, hargs, he]
 unfold Oper.wp
 rw [hrun, Oper.upon_enter]
 refine h.mono fun e w'' hh => ?_
 obtain ⟨v, rfl, hk⟩ := hh
 subst hd
 exact hK _ _ hk
end
theorem ints_Read.err (s : ByteArray) (e : Int) : tally_Cursor_Err.f s e = some (e, s, e) := rfl
def ints_Read.rd (k : Nat) (a : Int) (s : ByteArray) (e n : Int) : Option (List Int × Int × ByteArray × Int) := if a = 0 then ints_readPlain.f k s e n else if a = 1 then ints_readDelta.f k s e n else if a = 2 then ints_readRuns.f k s e n else ints_readPacked.f k s e n
def ints_Read.fin (t : List Int × Int × ByteArray × Int) : Option (List Int × Int) := if t.2.1 = 0 then (tally_Cursor_Done.f t.2.2.1 t.2.2.2).bind fun d => if d.1 = 0 then some (t.1, 0) else some ([], d.1) else some ([], t.2.1)
def ints_Read.go (k : Nat) (a eb : Int) (s : ByteArray) : Option (List Int × Int) := (tally_Cursor_Uint.f s eb).bind fun n => if n.2.2 ≠ 0 then some ([], n.2.2) else if 65536 < n.1 then some ([], 3) else if eb = 0 ∧ 0 ≤ a ∧ 0 ≤ n.1 then (ints_Read.rd k a n.2.1 n.2.2 n.1).bind ints_Read.fin else none
def ints_Read.f (k : Nat) (a0 : ByteArray) : Option (List Int × Int) := (tally_From.f a0).bind fun c => (tally_Cursor_Byte.f c.1 c.2).bind fun b => if b.2.2 = 0 ∧ 4 ≤ b.1 then some ([], 4) else ints_Read.go k b.1 b.2.2 b.2.1
theorem ints_Read.mono : ∀ a0 k, LeO (ints_Read.f k a0) (ints_Read.f (k + 1) a0) := by
 intro a0 k
 unfold ints_Read.f ints_Read.go ints_Read.rd
 refine LeO.bind (LeO.refl _) (fun _ => LeO.bind (LeO.refl _) (fun _ => LeO.ite (LeO.refl _) (LeO.bind (LeO.refl _) (fun _ => LeO.ite (LeO.refl _) (LeO.ite (LeO.refl _) (LeO.ite (LeO.bind ?_ (fun _ => LeO.refl _)) (LeO.refl _)))))))
 exact LeO.ite (ints_readPlain.mono _ _ _ k) (LeO.ite (ints_readDelta.mono _ _ _ k) (LeO.ite (ints_readRuns.mono _ _ _ k) (ints_readPacked.mono _ _ _ k)))
def ints_Read.St (w W : World) (b g : Nat) (s : ByteArray) (e : Int) : Prop := ints_With.Tab W b ∧ IsS66 w W g s e ∧ Below w.heap.size w W
theorem ints_Read.St.ne {w W : World} {b g : Nat} {s : ByteArray} {e : Int} (h : ints_Read.St w W b g s e) : b ≠ g := blk_ne h.1 h.2.1.1 (by decide)
theorem ints_Read.St.on {w W W' : World} {b g : Nat} {s s' : ByteArray} {e e' : Int} (h : ints_Read.St w W b g s e) (hi : IsS66 w W' g s' e') (hb : Below w.heap.size w W') (hk : KeepBut W W' g none) : ints_Read.St w W' b g s' e' :=
 ⟨(hk.2 b (blk_lt h.1) h.ne (by simp)).trans h.1, hi, hb⟩
set_option maxHeartbeats 4000000 in
set_option maxRecDepth 100000 in
theorem ints_Read.far (k : Nat) (a0 s0 s1 : ByteArray) (e0 e1 a : Int) (w : World) (hf : tally_From.f a0 = some (s0, e0)) (hy : tally_Cursor_Byte.f s0 e0 = some (a, s1, e1)) (he : e1 = 0) (ha : 4 ≤ a) :
  Calls Try.prog 12 #[.string a0] w fun e w' => ∃ v0_ : Value, e = .returned (.tuple #[v0_, .int .i64 4]) ∧ Kd.R (Kd.int .i64) 2 w' w.heap.size (fun _ => True) v0_ [] ∧ Below w.heap.size w w' := by
 subst he
 have d1 : decide (4 ≤ a) = true := decide_eq_true ha
 have HF := Aside0.mk hf; have HY := Aside0.mk hy; clear hf hy
 clear ha
 go_enter Try.func12, Try.ntmps12
 go_wp2_with fail
 refine (ints_With.codecs _).mono ?_; rintro e w1 ⟨b, rfl, ht, hle, hb⟩
 have HT := Aside0.mk ht; have HB := Aside0.mk hb; clear ht hb hle
 go_wp2_with fail
 refine (tally_From.calls a0 s0 e0 w _ HB.out HF.out).mono ?_; rintro e w2 ⟨g, rfl, hi, hb, hb2⟩
 have HS : Aside0 (ints_Read.St w w2 b g s0 e0) := ⟨(hb2.block _ (blk_lt HT.out)).trans HT.out, hi, hb⟩
 clear hi hb hb2 HT HB
 go_wp2_with fail
 refine (tally_Cursor_Byte.calls g s0 e0 a s1 0 w _ HS.out.2.1 HS.out.2.2 HY.out).mono ?_; rintro en w3 ⟨rfl, hi, hb, hk⟩
 replace HS := Aside0.mk (HS.out.on hi hb hk); clear hi hb hk
 go_wp2_with fail
 refine (tally_Cursor_Err.calls g s1 0 0 s1 0 w _ HS.out.2.1 HS.out.2.2 (ints_Read.err _ _)).mono ?_; rintro en w4 ⟨rfl, hi, hb, hk⟩
 replace HS := Aside0.mk (HS.out.on hi hb hk); clear hi hb hk
 go_wp2
 go_ret2
 exact ⟨_, rfl, Kd.R_nil _ _ _ _ _, HS.out.2.2⟩
set_option maxHeartbeats 4000000 in
set_option maxRecDepth 100000 in
theorem ints_Read.bad (k : Nat) (a0 s0 s1 : ByteArray) (e0 e1 a : Int) (w : World) (hf : tally_From.f a0 = some (s0, e0)) (hy : tally_Cursor_Byte.f s0 e0 = some (a, s1, e1)) (s2 : ByteArray) (n e2 : Int) (hu : tally_Cursor_Uint.f s1 e1 = some (n, s2, e2)) (hk : e1 ≠ 0 ∨ a < 4) (he : e2 ≠ 0) :
  Calls Try.prog 12 #[.string a0] w fun e w' => ∃ v0_ : Value, e = .returned (.tuple #[v0_, .int .i64 e2]) ∧ Kd.R (Kd.int .i64) 2 w' w.heap.size (fun _ => True) v0_ [] ∧ Below w.heap.size w w' := by
 have z1 : (e2 != 0) = true := bne_iff_ne.mpr he
 have z2 : (e2 == 0) = false := beq_eq_false_iff_ne.mpr he
 have HF := Aside0.mk hf; have HY := Aside0.mk hy; clear hf hy
 have HU := Aside0.mk hu; clear hu
 have HE := Aside0.mk he; clear he
 by_cases c : e1 = 0
 ·subst c
  have d1 : decide (4 ≤ a) = false := decide_eq_false (by omega)
  clear hk
  go_enter Try.func12, Try.ntmps12
  go_wp2_with fail
  refine (ints_With.codecs _).mono ?_; rintro e w1 ⟨b, rfl, ht, hle, hb⟩
  have HT := Aside0.mk ht; have HB := Aside0.mk hb; clear ht hb hle
  go_wp2_with fail
  refine (tally_From.calls a0 s0 e0 w _ HB.out HF.out).mono ?_; rintro e w2 ⟨g, rfl, hi, hb, hb2⟩
  have HS : Aside0 (ints_Read.St w w2 b g s0 e0) := ⟨(hb2.block _ (blk_lt HT.out)).trans HT.out, hi, hb⟩
  clear hi hb hb2 HT HB
  go_wp2_with fail
  refine (tally_Cursor_Byte.calls g s0 e0 a s1 0 w _ HS.out.2.1 HS.out.2.2 HY.out).mono ?_; rintro en w3 ⟨rfl, hi, hb, hk⟩
  replace HS := Aside0.mk (HS.out.on hi hb hk); clear hi hb hk
  go_wp2_with fail
  refine (tally_Cursor_Err.calls g s1 0 0 s1 0 w _ HS.out.2.1 HS.out.2.2 (ints_Read.err _ _)).mono ?_; rintro en w4 ⟨rfl, hi, hb, hk⟩
  replace HS := Aside0.mk (HS.out.on hi hb hk); clear hi hb hk
  go_wp2_with fail
  refine (tally_Cursor_Uint.calls g s1 0 n s2 e2 w _ HS.out.2.1 HS.out.2.2 HU.out).mono ?_; rintro en w5 ⟨rfl, hi, hb, hk⟩
  replace HS := Aside0.mk (HS.out.on hi hb hk); clear hi hb hk
  go_wp2_with fail
  refine (tally_Cursor_Err.calls g s2 e2 e2 s2 e2 w _ HS.out.2.1 HS.out.2.2 (ints_Read.err _ _)).mono ?_; rintro en w6 ⟨rfl, hi, hb, hk⟩
  replace HS := Aside0.mk (HS.out.on hi hb hk); clear hi hb hk
  go_wp2_with fail
  refine (tally_Cursor_Err.calls g s2 e2 e2 s2 e2 w _ HS.out.2.1 HS.out.2.2 (ints_Read.err _ _)).mono ?_; rintro en w7 ⟨rfl, hi, hb, hk⟩
  replace HS := Aside0.mk (HS.out.on hi hb hk); clear hi hb hk
  go_wp2
  go_ret2
  exact ⟨_, rfl, Kd.R_nil _ _ _ _ _, HS.out.2.2⟩
 ·have y1 : (e1 == 0) = false := beq_eq_false_iff_ne.mpr c
  have C1 := Aside0.mk c; clear hk c
  go_enter Try.func12, Try.ntmps12
  go_wp2_with fail
  refine (ints_With.codecs _).mono ?_; rintro e w1 ⟨b, rfl, ht, hle, hb⟩
  have HT := Aside0.mk ht; have HB := Aside0.mk hb; clear ht hb hle
  go_wp2_with fail
  refine (tally_From.calls a0 s0 e0 w _ HB.out HF.out).mono ?_; rintro e w2 ⟨g, rfl, hi, hb, hb2⟩
  have HS : Aside0 (ints_Read.St w w2 b g s0 e0) := ⟨(hb2.block _ (blk_lt HT.out)).trans HT.out, hi, hb⟩
  clear hi hb hb2 HT HB
  go_wp2_with fail
  refine (tally_Cursor_Byte.calls g s0 e0 a s1 e1 w _ HS.out.2.1 HS.out.2.2 HY.out).mono ?_; rintro en w3 ⟨rfl, hi, hb, hk⟩
  replace HS := Aside0.mk (HS.out.on hi hb hk); clear hi hb hk
  go_wp2_with fail
  refine (tally_Cursor_Err.calls g s1 e1 e1 s1 e1 w _ HS.out.2.1 HS.out.2.2 (ints_Read.err _ _)).mono ?_; rintro en w4 ⟨rfl, hi, hb, hk⟩
  replace HS := Aside0.mk (HS.out.on hi hb hk); clear hi hb hk
  go_wp2_with fail
  refine (tally_Cursor_Uint.calls g s1 e1 n s2 e2 w _ HS.out.2.1 HS.out.2.2 HU.out).mono ?_; rintro en w5 ⟨rfl, hi, hb, hk⟩
  replace HS := Aside0.mk (HS.out.on hi hb hk); clear hi hb hk
  go_wp2_with fail
  refine (tally_Cursor_Err.calls g s2 e2 e2 s2 e2 w _ HS.out.2.1 HS.out.2.2 (ints_Read.err _ _)).mono ?_; rintro en w6 ⟨rfl, hi, hb, hk⟩
  replace HS := Aside0.mk (HS.out.on hi hb hk); clear hi hb hk
  go_wp2_with fail
  refine (tally_Cursor_Err.calls g s2 e2 e2 s2 e2 w _ HS.out.2.1 HS.out.2.2 (ints_Read.err _ _)).mono ?_; rintro en w7 ⟨rfl, hi, hb, hk⟩
  replace HS := Aside0.mk (HS.out.on hi hb hk); clear hi hb hk
  go_wp2
  go_ret2
  exact ⟨_, rfl, Kd.R_nil _ _ _ _ _, HS.out.2.2⟩
set_option maxHeartbeats 4000000 in
set_option maxRecDepth 100000 in
theorem ints_Read.long (k : Nat) (a0 s0 s1 : ByteArray) (e0 e1 a : Int) (w : World) (hf : tally_From.f a0 = some (s0, e0)) (hy : tally_Cursor_Byte.f s0 e0 = some (a, s1, e1)) (s2 : ByteArray) (n e2 : Int) (hu : tally_Cursor_Uint.f s1 e1 = some (n, s2, e2)) (hk : e1 ≠ 0 ∨ a < 4) (he : e2 = 0) (hn : 65536 < n) :
  Calls Try.prog 12 #[.string a0] w fun e w' => ∃ v0_ : Value, e = .returned (.tuple #[v0_, .int .i64 3]) ∧ Kd.R (Kd.int .i64) 2 w' w.heap.size (fun _ => True) v0_ [] ∧ Below w.heap.size w w' := by
 subst he
 have z3 : decide (65536 < n) = true := decide_eq_true hn
 have HF := Aside0.mk hf; have HY := Aside0.mk hy; clear hf hy
 have HU := Aside0.mk hu; clear hu
 clear hn
 by_cases c : e1 = 0
 ·subst c
  have d1 : decide (4 ≤ a) = false := decide_eq_false (by omega)
  clear hk
  go_enter Try.func12, Try.ntmps12
  go_wp2_with fail
  refine (ints_With.codecs _).mono ?_; rintro e w1 ⟨b, rfl, ht, hle, hb⟩
  have HT := Aside0.mk ht; have HB := Aside0.mk hb; clear ht hb hle
  go_wp2_with fail
  refine (tally_From.calls a0 s0 e0 w _ HB.out HF.out).mono ?_; rintro e w2 ⟨g, rfl, hi, hb, hb2⟩
  have HS : Aside0 (ints_Read.St w w2 b g s0 e0) := ⟨(hb2.block _ (blk_lt HT.out)).trans HT.out, hi, hb⟩
  clear hi hb hb2 HT HB
  go_wp2_with fail
  refine (tally_Cursor_Byte.calls g s0 e0 a s1 0 w _ HS.out.2.1 HS.out.2.2 HY.out).mono ?_; rintro en w3 ⟨rfl, hi, hb, hk⟩
  replace HS := Aside0.mk (HS.out.on hi hb hk); clear hi hb hk
  go_wp2_with fail
  refine (tally_Cursor_Err.calls g s1 0 0 s1 0 w _ HS.out.2.1 HS.out.2.2 (ints_Read.err _ _)).mono ?_; rintro en w4 ⟨rfl, hi, hb, hk⟩
  replace HS := Aside0.mk (HS.out.on hi hb hk); clear hi hb hk
  go_wp2_with fail
  refine (tally_Cursor_Uint.calls g s1 0 n s2 0 w _ HS.out.2.1 HS.out.2.2 HU.out).mono ?_; rintro en w5 ⟨rfl, hi, hb, hk⟩
  replace HS := Aside0.mk (HS.out.on hi hb hk); clear hi hb hk
  go_wp2_with fail
  refine (tally_Cursor_Err.calls g s2 0 0 s2 0 w _ HS.out.2.1 HS.out.2.2 (ints_Read.err _ _)).mono ?_; rintro en w6 ⟨rfl, hi, hb, hk⟩
  replace HS := Aside0.mk (HS.out.on hi hb hk); clear hi hb hk
  go_wp2
  go_ret2
  exact ⟨_, rfl, Kd.R_nil _ _ _ _ _, HS.out.2.2⟩
 ·have y1 : (e1 == 0) = false := beq_eq_false_iff_ne.mpr c
  have C1 := Aside0.mk c; clear hk c
  go_enter Try.func12, Try.ntmps12
  go_wp2_with fail
  refine (ints_With.codecs _).mono ?_; rintro e w1 ⟨b, rfl, ht, hle, hb⟩
  have HT := Aside0.mk ht; have HB := Aside0.mk hb; clear ht hb hle
  go_wp2_with fail
  refine (tally_From.calls a0 s0 e0 w _ HB.out HF.out).mono ?_; rintro e w2 ⟨g, rfl, hi, hb, hb2⟩
  have HS : Aside0 (ints_Read.St w w2 b g s0 e0) := ⟨(hb2.block _ (blk_lt HT.out)).trans HT.out, hi, hb⟩
  clear hi hb hb2 HT HB
  go_wp2_with fail
  refine (tally_Cursor_Byte.calls g s0 e0 a s1 e1 w _ HS.out.2.1 HS.out.2.2 HY.out).mono ?_; rintro en w3 ⟨rfl, hi, hb, hk⟩
  replace HS := Aside0.mk (HS.out.on hi hb hk); clear hi hb hk
  go_wp2_with fail
  refine (tally_Cursor_Err.calls g s1 e1 e1 s1 e1 w _ HS.out.2.1 HS.out.2.2 (ints_Read.err _ _)).mono ?_; rintro en w4 ⟨rfl, hi, hb, hk⟩
  replace HS := Aside0.mk (HS.out.on hi hb hk); clear hi hb hk
  go_wp2_with fail
  refine (tally_Cursor_Uint.calls g s1 e1 n s2 0 w _ HS.out.2.1 HS.out.2.2 HU.out).mono ?_; rintro en w5 ⟨rfl, hi, hb, hk⟩
  replace HS := Aside0.mk (HS.out.on hi hb hk); clear hi hb hk
  go_wp2_with fail
  refine (tally_Cursor_Err.calls g s2 0 0 s2 0 w _ HS.out.2.1 HS.out.2.2 (ints_Read.err _ _)).mono ?_; rintro en w6 ⟨rfl, hi, hb, hk⟩
  replace HS := Aside0.mk (HS.out.on hi hb hk); clear hi hb hk
  go_wp2
  go_ret2
  exact ⟨_, rfl, Kd.R_nil _ _ _ _ _, HS.out.2.2⟩
set_option maxHeartbeats 4000000 in
set_option maxRecDepth 100000 in
theorem ints_Read.wrong (a0 s0 s1 : ByteArray) (e0 : Int) (j : Nat) (w : World) (hj : j < 4) (hf : tally_From.f a0 = some (s0, e0)) (hy : tally_Cursor_Byte.f s0 e0 = some ((j : Int), s1, 0)) (s2 : ByteArray) (n : Int) (hu : tally_Cursor_Uint.f s1 0 = some (n, s2, 0)) (hn0 : 0 ≤ n) (hn : n ≤ 65536)
  (F : FuncId) (fn : Func) (hf_ : Try.prog.funcs[F]? = some fn) (hname : (fn.name == "runtime.NumGoroutine") = false) (hbody : fn.body.isSome = true) (hF : ints_With.tab[j * 2 + 1]? = some (.func (.func F) #[] #[])) (l : List Int) (e3 e4 : Int) (s3 s4 : ByteArray)
  (hh : ∀ (W : World) (g : Nat), IsS66 w W g s2 0 → Below w.heap.size w W → Calls Try.prog F #[.pointer (some ⟨g, 0, none⟩), .int .i64 n] W fun e w' => ∃ v0_ : Value, e = .returned (.tuple #[v0_, .int .i64 e3]) ∧ Kd.R (Kd.int .i64) 2 w' W.heap.size (fun _ => True) v0_ l ∧ IsS66 w w' g s3 e4 ∧ Below w.heap.size w w' ∧ KeepBut W w' g none) (he : e3 ≠ 0) :
  Calls Try.prog 12 #[.string a0] w fun e w' => ∃ v0_ : Value, e = .returned (.tuple #[v0_, .int .i64 e3]) ∧ Kd.R (Kd.int .i64) 2 w' w.heap.size (fun _ => True) v0_ [] ∧ Below w.heap.size w w' := by
 have z1 : (e3 != 0) = true := bne_iff_ne.mpr he
 have z2 : (e3 == 0) = false := beq_eq_false_iff_ne.mpr he
 have HE := Aside0.mk he; clear he
 have d1 : decide ((4 : Int) ≤ (j : Int)) = false := decide_eq_false (by omega)
 have d2 : decide (4 ≤ j) = false := decide_eq_false (by omega)
 have b0 : (0 : Int) ≤ (j : Int) := by omega
 have b1 : (j : Int) < 4 := by omega
 have z3 : decide (65536 < n) = false := decide_eq_false (by omega)
 have hw : wrap64 n = n := w64 (by omega) (by omega)
 have hw2 : IntKind.i64.wrap n = n := by rw [i64_w]; exact hw
 have HU := Aside0.mk hu; have HF_ := Aside0.mk hF; have HH := Aside0.mk hh; clear hu hF hh hj
 have HF := Aside0.mk hf; have HY := Aside0.mk hy; clear hf hy
 go_enter Try.func12, Try.ntmps12
 go_wp2_with fail
 refine (ints_With.codecs _).mono ?_; rintro e w1 ⟨b, rfl, ht, hle, hb⟩
 have HT := Aside0.mk ht; have HB := Aside0.mk hb; clear ht hb hle
 go_wp2_with fail
 refine (tally_From.calls a0 s0 e0 w _ HB.out HF.out).mono ?_; rintro e w2 ⟨g, rfl, hi, hb, hb2⟩
 have HS : Aside0 (ints_Read.St w w2 b g s0 e0) := ⟨(hb2.block _ (blk_lt HT.out)).trans HT.out, hi, hb⟩
 clear hi hb hb2 HT HB
 go_wp2_with fail
 refine (tally_Cursor_Byte.calls g s0 e0 (j : Int) s1 0 w _ HS.out.2.1 HS.out.2.2 HY.out).mono ?_; rintro en w3 ⟨rfl, hi, hb, hk⟩
 replace HS := Aside0.mk (HS.out.on hi hb hk); clear hi hb hk
 go_wp2_with fail
 refine (tally_Cursor_Err.calls g s1 0 0 s1 0 w _ HS.out.2.1 HS.out.2.2 (ints_Read.err _ _)).mono ?_; rintro en w4 ⟨rfl, hi, hb, hk⟩
 replace HS := Aside0.mk (HS.out.on hi hb hk); clear hi hb hk
 go_wp2_with fail
 refine (tally_Cursor_Uint.calls g s1 0 n s2 0 w _ HS.out.2.1 HS.out.2.2 HU.out).mono ?_; rintro en w5 ⟨rfl, hi, hb, hk⟩
 replace HS := Aside0.mk (HS.out.on hi hb hk); clear hi hb hk
 go_wp2_with fail
 refine (tally_Cursor_Err.calls g s2 0 0 s2 0 w _ HS.out.2.1 HS.out.2.2 (ints_Read.err _ _)).mono ?_; rintro en w6 ⟨rfl, hi, hb, hk⟩
 replace HS := Aside0.mk (HS.out.on hi hb hk); clear hi hb hk
 have q0 : w6.cell? ⟨b, j * 2 + 1, none⟩ = some (.func (.func F) #[] #[]) := (blk_cell HS.out.1 (j * 2 + 1)).trans HF_.out
 go_wp2_with ((with_reducible refine gate_dst (N := 44) rfl ?_); refine goesLV_ (some 44) rfl rfl hf_ hname hbody #[.pointer (some ⟨g, 0, none⟩), .int .i64 n] rfl (by rfl) (by first | rfl | (simp only [List.map_toArray, List.map_cons, List.map_nil]; rfl)) ?_; refine (HH.out _ g HS.out.2.1 HS.out.2.2).mono ?_; rintro en w7 ⟨v0, rfl, ho, hi, hb, hk⟩; refine ⟨_, rfl, ?_⟩; (have HO := Aside0.mk (Kd.R_lower ho HS.out.2.2.size)); (replace HS := Aside0.mk (HS.out.on hi hb hk)); clear ho hi hb hk q0)
 go_wp2
 go_ret2
 exact ⟨_, rfl, Kd.R_nil _ _ _ _ _, HS.out.2.2⟩
set_option maxHeartbeats 4000000 in
set_option maxRecDepth 100000 in
theorem ints_Read.after (a0 s0 s1 : ByteArray) (e0 : Int) (j : Nat) (w : World) (hj : j < 4) (hf : tally_From.f a0 = some (s0, e0)) (hy : tally_Cursor_Byte.f s0 e0 = some ((j : Int), s1, 0)) (s2 : ByteArray) (n : Int) (hu : tally_Cursor_Uint.f s1 0 = some (n, s2, 0)) (hn0 : 0 ≤ n) (hn : n ≤ 65536)
  (F : FuncId) (fn : Func) (hf_ : Try.prog.funcs[F]? = some fn) (hname : (fn.name == "runtime.NumGoroutine") = false) (hbody : fn.body.isSome = true) (hF : ints_With.tab[j * 2 + 1]? = some (.func (.func F) #[] #[])) (l : List Int) (e3 e4 : Int) (s3 s4 : ByteArray)
  (hh : ∀ (W : World) (g : Nat), IsS66 w W g s2 0 → Below w.heap.size w W → Calls Try.prog F #[.pointer (some ⟨g, 0, none⟩), .int .i64 n] W fun e w' => ∃ v0_ : Value, e = .returned (.tuple #[v0_, .int .i64 e3]) ∧ Kd.R (Kd.int .i64) 2 w' W.heap.size (fun _ => True) v0_ l ∧ IsS66 w w' g s3 e4 ∧ Below w.heap.size w w' ∧ KeepBut W w' g none) (he : e3 = 0) (s5 : ByteArray) (dn e5 : Int) (hd : tally_Cursor_Done.f s3 e4 = some (dn, s5, e5)) (hdn : dn ≠ 0) :
  Calls Try.prog 12 #[.string a0] w fun e w' => ∃ v0_ : Value, e = .returned (.tuple #[v0_, .int .i64 dn]) ∧ Kd.R (Kd.int .i64) 2 w' w.heap.size (fun _ => True) v0_ [] ∧ Below w.heap.size w w' := by
 subst he
 have z1 : (dn != 0) = true := bne_iff_ne.mpr hdn
 have z2 : (dn == 0) = false := beq_eq_false_iff_ne.mpr hdn
 have HE := Aside0.mk hdn; have HD := Aside0.mk hd; clear hdn hd
 have d1 : decide ((4 : Int) ≤ (j : Int)) = false := decide_eq_false (by omega)
 have d2 : decide (4 ≤ j) = false := decide_eq_false (by omega)
 have b0 : (0 : Int) ≤ (j : Int) := by omega
 have b1 : (j : Int) < 4 := by omega
 have z3 : decide (65536 < n) = false := decide_eq_false (by omega)
 have hw : wrap64 n = n := w64 (by omega) (by omega)
 have hw2 : IntKind.i64.wrap n = n := by rw [i64_w]; exact hw
 have HU := Aside0.mk hu; have HF_ := Aside0.mk hF; have HH := Aside0.mk hh; clear hu hF hh hj
 have HF := Aside0.mk hf; have HY := Aside0.mk hy; clear hf hy
 go_enter Try.func12, Try.ntmps12
 go_wp2_with fail
 refine (ints_With.codecs _).mono ?_; rintro e w1 ⟨b, rfl, ht, hle, hb⟩
 have HT := Aside0.mk ht; have HB := Aside0.mk hb; clear ht hb hle
 go_wp2_with fail
 refine (tally_From.calls a0 s0 e0 w _ HB.out HF.out).mono ?_; rintro e w2 ⟨g, rfl, hi, hb, hb2⟩
 have HS : Aside0 (ints_Read.St w w2 b g s0 e0) := ⟨(hb2.block _ (blk_lt HT.out)).trans HT.out, hi, hb⟩
 clear hi hb hb2 HT HB
 go_wp2_with fail
 refine (tally_Cursor_Byte.calls g s0 e0 (j : Int) s1 0 w _ HS.out.2.1 HS.out.2.2 HY.out).mono ?_; rintro en w3 ⟨rfl, hi, hb, hk⟩
 replace HS := Aside0.mk (HS.out.on hi hb hk); clear hi hb hk
 go_wp2_with fail
 refine (tally_Cursor_Err.calls g s1 0 0 s1 0 w _ HS.out.2.1 HS.out.2.2 (ints_Read.err _ _)).mono ?_; rintro en w4 ⟨rfl, hi, hb, hk⟩
 replace HS := Aside0.mk (HS.out.on hi hb hk); clear hi hb hk
 go_wp2_with fail
 refine (tally_Cursor_Uint.calls g s1 0 n s2 0 w _ HS.out.2.1 HS.out.2.2 HU.out).mono ?_; rintro en w5 ⟨rfl, hi, hb, hk⟩
 replace HS := Aside0.mk (HS.out.on hi hb hk); clear hi hb hk
 go_wp2_with fail
 refine (tally_Cursor_Err.calls g s2 0 0 s2 0 w _ HS.out.2.1 HS.out.2.2 (ints_Read.err _ _)).mono ?_; rintro en w6 ⟨rfl, hi, hb, hk⟩
 replace HS := Aside0.mk (HS.out.on hi hb hk); clear hi hb hk
 have q0 : w6.cell? ⟨b, j * 2 + 1, none⟩ = some (.func (.func F) #[] #[]) := (blk_cell HS.out.1 (j * 2 + 1)).trans HF_.out
 go_wp2_with ((with_reducible refine gate_dst (N := 44) rfl ?_); refine goesLV_ (some 44) rfl rfl hf_ hname hbody #[.pointer (some ⟨g, 0, none⟩), .int .i64 n] rfl (by rfl) (by first | rfl | (simp only [List.map_toArray, List.map_cons, List.map_nil]; rfl)) ?_; refine (HH.out _ g HS.out.2.1 HS.out.2.2).mono ?_; rintro en w7 ⟨v0, rfl, ho, hi, hb, hk⟩; refine ⟨_, rfl, ?_⟩; (have HO := Aside0.mk (Kd.R_lower ho HS.out.2.2.size)); (replace HS := Aside0.mk (HS.out.on hi hb hk)); clear ho hi hb hk q0)
 go_wp2_with fail
 refine (tally_Cursor_Done.calls g s3 e4 dn s5 e5 w _ HS.out.2.1 HS.out.2.2 HD.out).mono ?_; rintro en w8 ⟨rfl, hi, hb, hk⟩
 have HO2 := Aside0.mk (Kd.R_mono (Kd.R_keep (IsS66.apart HS.out.2.1 HO.out (by decide)) hk (fun _ h => h.2)) (fun _ h => h.1)); replace HS := Aside0.mk (HS.out.on hi hb hk); clear hi hb hk
 go_wp2
 go_ret2
 exact ⟨_, rfl, Kd.R_nil _ _ _ _ _, HS.out.2.2⟩
set_option maxHeartbeats 4000000 in
set_option maxRecDepth 100000 in
theorem ints_Read.good (a0 s0 s1 : ByteArray) (e0 : Int) (j : Nat) (w : World) (hj : j < 4) (hf : tally_From.f a0 = some (s0, e0)) (hy : tally_Cursor_Byte.f s0 e0 = some ((j : Int), s1, 0)) (s2 : ByteArray) (n : Int) (hu : tally_Cursor_Uint.f s1 0 = some (n, s2, 0)) (hn0 : 0 ≤ n) (hn : n ≤ 65536)
  (F : FuncId) (fn : Func) (hf_ : Try.prog.funcs[F]? = some fn) (hname : (fn.name == "runtime.NumGoroutine") = false) (hbody : fn.body.isSome = true) (hF : ints_With.tab[j * 2 + 1]? = some (.func (.func F) #[] #[])) (l : List Int) (e3 e4 : Int) (s3 s4 : ByteArray)
  (hh : ∀ (W : World) (g : Nat), IsS66 w W g s2 0 → Below w.heap.size w W → Calls Try.prog F #[.pointer (some ⟨g, 0, none⟩), .int .i64 n] W fun e w' => ∃ v0_ : Value, e = .returned (.tuple #[v0_, .int .i64 e3]) ∧ Kd.R (Kd.int .i64) 2 w' W.heap.size (fun _ => True) v0_ l ∧ IsS66 w w' g s3 e4 ∧ Below w.heap.size w w' ∧ KeepBut W w' g none) (he : e3 = 0) (s5 : ByteArray) (e5 : Int) (hd : tally_Cursor_Done.f s3 e4 = some (0, s5, e5)) :
  Calls Try.prog 12 #[.string a0] w fun e w' => ∃ v0_ : Value, e = .returned (.tuple #[v0_, .int .i64 0]) ∧ Kd.R (Kd.int .i64) 2 w' w.heap.size (fun _ => True) v0_ l ∧ Below w.heap.size w w' := by
 subst he
 have HD := Aside0.mk hd; clear hd
 have d1 : decide ((4 : Int) ≤ (j : Int)) = false := decide_eq_false (by omega)
 have d2 : decide (4 ≤ j) = false := decide_eq_false (by omega)
 have b0 : (0 : Int) ≤ (j : Int) := by omega
 have b1 : (j : Int) < 4 := by omega
 have z3 : decide (65536 < n) = false := decide_eq_false (by omega)
 have hw : wrap64 n = n := w64 (by omega) (by omega)
 have hw2 : IntKind.i64.wrap n = n := by rw [i64_w]; exact hw
 have HU := Aside0.mk hu; have HF_ := Aside0.mk hF; have HH := Aside0.mk hh; clear hu hF hh hj
 have HF := Aside0.mk hf; have HY := Aside0.mk hy; clear hf hy
 go_enter Try.func12, Try.ntmps12
 go_wp2_with fail
 refine (ints_With.codecs _).mono ?_; rintro e w1 ⟨b, rfl, ht, hle, hb⟩
 have HT := Aside0.mk ht; have HB := Aside0.mk hb; clear ht hb hle
 go_wp2_with fail
 refine (tally_From.calls a0 s0 e0 w _ HB.out HF.out).mono ?_; rintro e w2 ⟨g, rfl, hi, hb, hb2⟩
 have HS : Aside0 (ints_Read.St w w2 b g s0 e0) := ⟨(hb2.block _ (blk_lt HT.out)).trans HT.out, hi, hb⟩
 clear hi hb hb2 HT HB
 go_wp2_with fail
 refine (tally_Cursor_Byte.calls g s0 e0 (j : Int) s1 0 w _ HS.out.2.1 HS.out.2.2 HY.out).mono ?_; rintro en w3 ⟨rfl, hi, hb, hk⟩
 replace HS := Aside0.mk (HS.out.on hi hb hk); clear hi hb hk
 go_wp2_with fail
 refine (tally_Cursor_Err.calls g s1 0 0 s1 0 w _ HS.out.2.1 HS.out.2.2 (ints_Read.err _ _)).mono ?_; rintro en w4 ⟨rfl, hi, hb, hk⟩
 replace HS := Aside0.mk (HS.out.on hi hb hk); clear hi hb hk
 go_wp2_with fail
 refine (tally_Cursor_Uint.calls g s1 0 n s2 0 w _ HS.out.2.1 HS.out.2.2 HU.out).mono ?_; rintro en w5 ⟨rfl, hi, hb, hk⟩
 replace HS := Aside0.mk (HS.out.on hi hb hk); clear hi hb hk
 go_wp2_with fail
 refine (tally_Cursor_Err.calls g s2 0 0 s2 0 w _ HS.out.2.1 HS.out.2.2 (ints_Read.err _ _)).mono ?_; rintro en w6 ⟨rfl, hi, hb, hk⟩
 replace HS := Aside0.mk (HS.out.on hi hb hk); clear hi hb hk
 have q0 : w6.cell? ⟨b, j * 2 + 1, none⟩ = some (.func (.func F) #[] #[]) := (blk_cell HS.out.1 (j * 2 + 1)).trans HF_.out
 go_wp2_with ((with_reducible refine gate_dst (N := 44) rfl ?_); refine goesLV_ (some 44) rfl rfl hf_ hname hbody #[.pointer (some ⟨g, 0, none⟩), .int .i64 n] rfl (by rfl) (by first | rfl | (simp only [List.map_toArray, List.map_cons, List.map_nil]; rfl)) ?_; refine (HH.out _ g HS.out.2.1 HS.out.2.2).mono ?_; rintro en w7 ⟨v0, rfl, ho, hi, hb, hk⟩; refine ⟨_, rfl, ?_⟩; (have HO := Aside0.mk (Kd.R_lower ho HS.out.2.2.size)); (replace HS := Aside0.mk (HS.out.on hi hb hk)); clear ho hi hb hk q0)
 go_wp2_with fail
 refine (tally_Cursor_Done.calls g s3 e4 0 s5 e5 w _ HS.out.2.1 HS.out.2.2 HD.out).mono ?_; rintro en w8 ⟨rfl, hi, hb, hk⟩
 have HO2 := Aside0.mk (Kd.R_mono (Kd.R_keep (IsS66.apart HS.out.2.1 HO.out (by decide)) hk (fun _ h => h.2)) (fun _ h => h.1)); replace HS := Aside0.mk (HS.out.on hi hb hk); clear hi hb hk
 go_wp2
 go_ret2
 exact ⟨v0, rfl, HO2.out, HS.out.2.2⟩
theorem ints_Read.step (a0 s0 s1 : ByteArray) (e0 : Int) (j : Nat) (w : World) (hj : j < 4) (hf : tally_From.f a0 = some (s0, e0)) (hy : tally_Cursor_Byte.f s0 e0 = some ((j : Int), s1, 0)) (s2 : ByteArray) (n : Int) (hu : tally_Cursor_Uint.f s1 0 = some (n, s2, 0)) (hn0 : 0 ≤ n) (hn : n ≤ 65536)
  (F : FuncId) (fn : Func) (hf_ : Try.prog.funcs[F]? = some fn) (hname : (fn.name == "runtime.NumGoroutine") = false) (hbody : fn.body.isSome = true) (hF : ints_With.tab[j * 2 + 1]? = some (.func (.func F) #[] #[])) (l : List Int) (e3 e4 : Int) (s3 : ByteArray)
  (hh : ∀ (W : World) (g : Nat), IsS66 w W g s2 0 → Below w.heap.size w W → Calls Try.prog F #[.pointer (some ⟨g, 0, none⟩), .int .i64 n] W fun e w' => ∃ v0_ : Value, e = .returned (.tuple #[v0_, .int .i64 e3]) ∧ Kd.R (Kd.int .i64) 2 w' W.heap.size (fun _ => True) v0_ l ∧ IsS66 w w' g s3 e4 ∧ Below w.heap.size w w' ∧ KeepBut W w' g none) (r1 : List Int) (r2 : Int) (h : ints_Read.fin (l, e3, s3, e4) = some (r1, r2)) :
  Calls Try.prog 12 #[.string a0] w fun e w' => ∃ v0_ : Value, e = .returned (.tuple #[v0_, .int .i64 r2]) ∧ Kd.R (Kd.int .i64) 2 w' w.heap.size (fun _ => True) v0_ r1 ∧ Below w.heap.size w w' := by
 unfold ints_Read.fin at h
 simp only at h
 by_cases c : e3 = 0
 ·rw [if_pos c] at h
  obtain ⟨⟨dn, s5, e5⟩, hd, h⟩ := Option.bind_eq_some_iff.mp h
  simp only at h
  by_cases c2 : dn = 0
  ·rw [if_pos c2] at h
   injection h with h; injection h with h1 h2; subst h1 h2; subst c2
   exact ints_Read.good a0 s0 s1 e0 j w hj hf hy s2 n hu hn0 hn F fn hf_ hname hbody hF l e3 e4 s3 s3 hh c s5 e5 hd
  ·rw [if_neg c2] at h
   injection h with h; injection h with h1 h2; subst h1 h2
   exact ints_Read.after a0 s0 s1 e0 j w hj hf hy s2 n hu hn0 hn F fn hf_ hname hbody hF l e3 e4 s3 s3 hh c s5 dn e5 hd c2
 ·rw [if_neg c] at h
  injection h with h; injection h with h1 h2; subst h1 h2
  exact ints_Read.wrong a0 s0 s1 e0 j w hj hf hy s2 n hu hn0 hn F fn hf_ hname hbody hF l e3 e4 s3 s3 hh c
theorem ints_Read.calls (k : Nat) (a0 : ByteArray) (r1 : List Int) (r2 : Int) (w : World) (h : ints_Read.f k a0 = some (r1, r2)) :
  Calls Try.prog 12 #[.string a0] w fun e w' => ∃ v0_ : Value, e = .returned (.tuple #[v0_, .int .i64 r2]) ∧ Kd.R (Kd.int .i64) 2 w' w.heap.size (fun _ => True) v0_ r1 ∧ Below w.heap.size w w' := by
 unfold ints_Read.f at h
 obtain ⟨⟨s0, e0⟩, hf, h⟩ := Option.bind_eq_some_iff.mp h
 obtain ⟨⟨a, s1, e1⟩, hy, h⟩ := Option.bind_eq_some_iff.mp h
 simp only at h hy
 by_cases c : e1 = 0 ∧ 4 ≤ a
 ·rw [if_pos c] at h
  injection h with h; injection h with h1 h2; subst h1 h2
  exact ints_Read.far k a0 s0 s1 e0 e1 a w hf hy c.1 c.2
 ·rw [if_neg c] at h
  unfold ints_Read.go at h
  obtain ⟨⟨n, s2, e2⟩, hu, h⟩ := Option.bind_eq_some_iff.mp h
  simp only at h
  by_cases he : e2 = 0
  ·rw [if_neg (by simp [he])] at h
   by_cases hn : 65536 < n
   ·rw [if_pos hn] at h
    injection h with h; injection h with h1 h2; subst h1 h2
    exact ints_Read.long k a0 s0 s1 e0 e1 a w hf hy s2 n e2 hu (by omega) he hn
   ·rw [if_neg hn] at h
    by_cases c3 : e1 = 0 ∧ 0 ≤ a ∧ 0 ≤ n
    ·rw [if_pos c3] at h
     obtain ⟨⟨l, e3, s3, e4⟩, hr, hz⟩ := Option.bind_eq_some_iff.mp h
     obtain ⟨c4, c5, c6⟩ := c3
     subst he c4
     obtain ⟨j, rfl⟩ : ∃ j : Nat, a = (j : Int) := ⟨a.toNat, by omega⟩
     have hj : j < 4 := by omega
     unfold ints_Read.rd at hr
     rcases (by omega : j = 0 ∨ j = 1 ∨ j = 2 ∨ j = 3) with rfl | rfl | rfl | rfl
     ·replace hr : ints_readPlain.f k s2 0 n = some (l, e3, s3, e4) := hr
      exact ints_Read.step a0 s0 s1 e0 0 w hj hf hy s2 n hu c6 (by omega) 35 _ Try.func35 (by kernel_rfl) rfl rfl l e3 e4 s3 (fun W g hi hb => ints_readPlain.calls k g s2 0 n l e3 s3 e4 w W hi hb hr) r1 r2 hz
     ·replace hr : ints_readDelta.f k s2 0 n = some (l, e3, s3, e4) := hr
      exact ints_Read.step a0 s0 s1 e0 1 w hj hf hy s2 n hu c6 (by omega) 37 _ Try.func37 (by kernel_rfl) rfl rfl l e3 e4 s3 (fun W g hi hb => ints_readDelta.calls k g s2 0 n l e3 s3 e4 w W hi hb hr) r1 r2 hz
     ·replace hr : ints_readRuns.f k s2 0 n = some (l, e3, s3, e4) := hr
      exact ints_Read.step a0 s0 s1 e0 2 w hj hf hy s2 n hu c6 (by omega) 39 _ Try.func39 (by kernel_rfl) rfl rfl l e3 e4 s3 (fun W g hi hb => ints_readRuns.calls k g s2 0 n l e3 s3 e4 w W hi hb hr) r1 r2 hz
     ·replace hr : ints_readPacked.f k s2 0 n = some (l, e3, s3, e4) := hr
      exact ints_Read.step a0 s0 s1 e0 3 w hj hf hy s2 n hu c6 (by omega) 41 _ Try.func41 (by kernel_rfl) rfl rfl l e3 e4 s3 (fun W g hi hb => ints_readPacked.calls k g s2 0 n l e3 s3 e4 w W hi hb hr) r1 r2 hz
    ·rw [if_neg c3] at h; exact absurd h (by simp)
  ·rw [if_pos (by simpa using he)] at h
   injection h with h; injection h with h1 h2; subst h1 h2
   exact ints_Read.bad k a0 s0 s1 e0 e1 a w hf hy s2 n e2 hu (by omega) he
end Go.Proofs.Ytgeddoklmcjdcaa.G
