import Derived.Test.YtgeddoklmcjdcaaZQA
import Derived.Test.YtgeddoklmcjdcaaZG17
import Derived.Test.YtgeddoklmcjdcaaZG28
import Derived.Test.YtgeddoklmcjdcaaZG13
import Derived.Test.YtgeddoklmcjdcaaZG6
namespace Go.Proofs.Ytgeddoklmcjdcaa.G
open Go.RowKit Go.Proofs.YtgeddoklmcjdcaaQ Go.Proofs.YtgeddoklmcjdcaaW.PrintWords Go.Proofs.YtgeddoklmcjdcaaW.PrintLast Go.Proofs.YtgeddoklmcjdcaaW.PrintMore
attribute [local go_sem] max2_int min2_int max_two min_two max_three min_three max_four min_four   -- for this text's walks alone
set_option linter.unusedVariables false
set_option linter.unusedSimpArgs false
mutual
def tithebarnref04_Read.j0 : Nat → Int → Bool → ByteArray → Int → Int → Option (List Int × Int)
 | 0, _, _, _, _, _ => none
 | k + 1, x5, x24, x471000, x471001, x471002 => if x24 = true then (some (([] : List Int), 4)) else ((tithebarnref01_Cursor_Uint.f k x471000 x471001 x471002).bind fun bt475 => (if bt475.2.2.2 = 0 then (if bt475.1 > 65536 then (some (([] : List Int), 3)) else (if x5 = 2 then ((tithebarnref04_readRuns.f k bt475.2.1 bt475.2.2.1 bt475.2.2.2 (wrap64 (bt475.1))).bind fun bt479 => (tithebarnref04_Read.j4 k bt479.1 bt479.2.1 bt479.2.2.1 bt479.2.2.2.1 bt479.2.2.2.2)) else (if x5 = 3 then (tithebarnref04_Read.j1 k x5 bt475.1 ([] : List Int) 0 (decide (bt475.1 > 0)) bt475.2.1 bt475.2.2.1 bt475.2.2.2) else (tithebarnref04_Read.j1 k x5 bt475.1 ([] : List Int) 0 false bt475.2.1 bt475.2.2.1 bt475.2.2.2)))) else (some (([] : List Int), bt475.2.2.2))))
def tithebarnref04_Read.j4 : Nat → List Int → Int → ByteArray → Int → Int → Option (List Int × Int)
 | 0, _, _, _, _, _ => none
 | k + 1, x7, x8, x471000, x471001, x471002 => if x8 = 0 then ((tithebarnref01_Cursor_Done.f x471000 x471001 x471002).bind fun bt507 => (if bt507.1 = 0 then (some (x7, 0)) else (some (([] : List Int), bt507.1)))) else (some (([] : List Int), x8))
def tithebarnref04_Read.j1 : Nat → Int → Int → List Int → Int → Bool → ByteArray → Int → Int → Option (List Int × Int)
 | 0, _, _, _, _, _, _, _, _ => none
 | k + 1, x5, x6, x7, x8, x48, x471000, x471001, x471002 => if x48 = true then ((tithebarnref04_readPacked.f k x471000 x471001 x471002 (wrap64 (x6))).bind fun bt486 => (tithebarnref04_Read.j4 k bt486.1 bt486.2.1 bt486.2.2.1 bt486.2.2.2.1 bt486.2.2.2.2)) else (if x5 < 2 then (tithebarnref04_Read.l0 k x5 x6 x7 0 x471000 x471001 x471002) else (tithebarnref04_Read.j4 k x7 x8 x471000 x471001 x471002))
def tithebarnref04_Read.l0 : Nat → Int → Int → List Int → Int → ByteArray → Int → Int → Option (List Int × Int)
 | 0, _, _, _, _, _, _, _ => none
 | k + 1, x5, x6, x7, x9, x471000, x471001, x471002 => if x9 < x6 then (tithebarnref04_Read.j3 k x5 x6 x7 x9 (x471002 == 0) x471000 x471001 x471002) else (tithebarnref04_Read.j3 k x5 x6 x7 x9 false x471000 x471001 x471002)
def tithebarnref04_Read.j3 : Nat → Int → Int → List Int → Int → Bool → ByteArray → Int → Int → Option (List Int × Int)
 | 0, _, _, _, _, _, _, _, _ => none
 | k + 1, x5, x6, x7, x9, x74, x471000, x471001, x471002 => if x74 = true then ((tithebarnref01_Cursor_Int.f k x471000 x471001 x471002).bind fun bt493 => (if x5 = 1 then (if x9 > 0 then (if 0 ≤ (IntKind.u64.wrap (x9 - 1)) then (if (IntKind.u64.wrap (x9 - 1)) < (x7.length : Int) then (if x7.length < 17592186044416 then (tithebarnref04_Read.l0 k x5 x6 (x7 ++ [wrap64 (IntKind.u64.wrap ((IntKind.u64.wrap (rd x7 (IntKind.u64.wrap (x9 - 1)))) + (IntKind.u64.wrap (bt493.1))))]) (IntKind.u64.wrap (x9 + 1)) bt493.2.1 bt493.2.2.1 bt493.2.2.2) else (none)) else (none)) else (none)) else (if x7.length < 17592186044416 then (tithebarnref04_Read.l0 k x5 x6 (x7 ++ [bt493.1]) (IntKind.u64.wrap (x9 + 1)) bt493.2.1 bt493.2.2.1 bt493.2.2.2) else (none))) else (if x7.length < 17592186044416 then (tithebarnref04_Read.l0 k x5 x6 (x7 ++ [bt493.1]) (IntKind.u64.wrap (x9 + 1)) bt493.2.1 bt493.2.2.1 bt493.2.2.2) else (none)))) else (tithebarnref04_Read.j4 k x7 x471002 x471000 x471001 x471002)
end
def tithebarnref04_Read.f (k : Nat) (a0 : ByteArray) : Option (List Int × Int) := (tithebarnref01_Cursor_Byte.f a0 0 0).bind fun bt471 => (if bt471.2.2.2 = 0 then (tithebarnref04_Read.j0 k bt471.1 (decide (bt471.1 > 3)) bt471.2.1 bt471.2.2.1 bt471.2.2.2) else (tithebarnref04_Read.j0 k bt471.1 false bt471.2.1 bt471.2.2.1 bt471.2.2.2))
theorem tithebarnref04_Read.mono_l : ∀ k, (∀ y0 y1 y2 y3 y4, LeO (tithebarnref04_Read.j0 k y0 y1 y2 y3 y4) (tithebarnref04_Read.j0 (k + 1) y0 y1 y2 y3 y4)) ∧ (∀ y0 y1 y2 y3 y4, LeO (tithebarnref04_Read.j4 k y0 y1 y2 y3 y4) (tithebarnref04_Read.j4 (k + 1) y0 y1 y2 y3 y4)) ∧ (∀ y0 y1 y2 y3 y4 y5 y6 y7, LeO (tithebarnref04_Read.j1 k y0 y1 y2 y3 y4 y5 y6 y7) (tithebarnref04_Read.j1 (k + 1) y0 y1 y2 y3 y4 y5 y6 y7)) ∧ (∀ y0 y1 y2 y3 y4 y5 y6, LeO (tithebarnref04_Read.l0 k y0 y1 y2 y3 y4 y5 y6) (tithebarnref04_Read.l0 (k + 1) y0 y1 y2 y3 y4 y5 y6)) ∧ (∀ y0 y1 y2 y3 y4 y5 y6 y7, LeO (tithebarnref04_Read.j3 k y0 y1 y2 y3 y4 y5 y6 y7) (tithebarnref04_Read.j3 (k + 1) y0 y1 y2 y3 y4 y5 y6 y7))
 | 0 => ⟨fun _ _ _ _ _ r h => by simp [tithebarnref04_Read.j0] at h, fun _ _ _ _ _ r h => by simp [tithebarnref04_Read.j4] at h, fun _ _ _ _ _ _ _ _ r h => by simp [tithebarnref04_Read.j1] at h, fun _ _ _ _ _ _ _ r h => by simp [tithebarnref04_Read.l0] at h, fun _ _ _ _ _ _ _ _ r h => by simp [tithebarnref04_Read.j3] at h⟩
 | k + 1 => by
  obtain ⟨ih0, ih1, ih2, ih3, ih4⟩ := tithebarnref04_Read.mono_l k
  refine ⟨?_, ?_, ?_, ?_, ?_⟩
  ·intro y0 y1 y2 y3 y4
   unfold tithebarnref04_Read.j0
   repeat' first
   | (with_reducible exact ih0 _ _ _ _ _)
   | (with_reducible exact ih1 _ _ _ _ _)
   | (with_reducible exact ih2 _ _ _ _ _ _ _ _)
   | (with_reducible exact ih3 _ _ _ _ _ _ _)
   | (with_reducible exact ih4 _ _ _ _ _ _ _ _)
   | (with_reducible exact tithebarnref01_Cursor_Int.mono _ _ _ _)
   | (with_reducible exact tithebarnref01_Cursor_Uint.mono _ _ _ _)
   | (with_reducible exact tithebarnref04_readPacked.mono _ _ _ _ _)
   | (with_reducible exact tithebarnref04_readRuns.mono _ _ _ _ _)
   | (with_reducible exact LeO.refl _)
   | (with_reducible exact LeO.none _)
   | (with_reducible refine LeO.ite ?_ ?_)
   | (with_reducible refine LeO.bind ?_ (fun _ => ?_))
   | exact ih0 _ _ _ _ _
   | exact ih1 _ _ _ _ _
   | exact ih2 _ _ _ _ _ _ _ _
   | exact ih3 _ _ _ _ _ _ _
   | exact ih4 _ _ _ _ _ _ _ _
   | exact tithebarnref01_Cursor_Int.mono _ _ _ _
   | exact tithebarnref01_Cursor_Uint.mono _ _ _ _
   | exact tithebarnref04_readPacked.mono _ _ _ _ _
   | exact tithebarnref04_readRuns.mono _ _ _ _ _
   | exact LeO.none _
   | refine LeO.ite ?_ ?_
   | refine LeO.bind ?_ (fun _ => ?_)
  ·intro y0 y1 y2 y3 y4
   unfold tithebarnref04_Read.j4
   repeat' first
   | (with_reducible exact ih0 _ _ _ _ _)
   | (with_reducible exact ih1 _ _ _ _ _)
   | (with_reducible exact ih2 _ _ _ _ _ _ _ _)
   | (with_reducible exact ih3 _ _ _ _ _ _ _)
   | (with_reducible exact ih4 _ _ _ _ _ _ _ _)
   | (with_reducible exact tithebarnref01_Cursor_Int.mono _ _ _ _)
   | (with_reducible exact tithebarnref01_Cursor_Uint.mono _ _ _ _)
   | (with_reducible exact tithebarnref04_readPacked.mono _ _ _ _ _)
   | (with_reducible exact tithebarnref04_readRuns.mono _ _ _ _ _)
   | (with_reducible exact LeO.refl _)
   | (with_reducible exact LeO.none _)
   | (with_reducible refine LeO.ite ?_ ?_)
   | (with_reducible refine LeO.bind ?_ (fun _ => ?_))
   | exact ih0 _ _ _ _ _
   | exact ih1 _ _ _ _ _
   | exact ih2 _ _ _ _ _ _ _ _
   | exact ih3 _ _ _ _ _ _ _
   | exact ih4 _ _ _ _ _ _ _ _
   | exact tithebarnref01_Cursor_Int.mono _ _ _ _
   | exact tithebarnref01_Cursor_Uint.mono _ _ _ _
   | exact tithebarnref04_readPacked.mono _ _ _ _ _
   | exact tithebarnref04_readRuns.mono _ _ _ _ _
   | exact LeO.none _
   | refine LeO.ite ?_ ?_
   | refine LeO.bind ?_ (fun _ => ?_)
  ·intro y0 y1 y2 y3 y4 y5 y6 y7
   unfold tithebarnref04_Read.j1
   repeat' first
   | (with_reducible exact ih0 _ _ _ _ _)
   | (with_reducible exact ih1 _ _ _ _ _)
   | (with_reducible exact ih2 _ _ _ _ _ _ _ _)
   | (with_reducible exact ih3 _ _ _ _ _ _ _)
   | (with_reducible exact ih4 _ _ _ _ _ _ _ _)
   | (with_reducible exact tithebarnref01_Cursor_Int.mono _ _ _ _)
   | (with_reducible exact tithebarnref01_Cursor_Uint.mono _ _ _ _)
   | (with_reducible exact tithebarnref04_readPacked.mono _ _ _ _ _)
   | (with_reducible exact tithebarnref04_readRuns.mono _ _ _ _ _)
   | (with_reducible exact LeO.refl _)
   | (with_reducible exact LeO.none _)
   | (with_reducible refine LeO.ite ?_ ?_)
   | (with_reducible refine LeO.bind ?_ (fun _ => ?_))
   | exact ih0 _ _ _ _ _
   | exact ih1 _ _ _ _ _
   | exact ih2 _ _ _ _ _ _ _ _
   | exact ih3 _ _ _ _ _ _ _
   | exact ih4 _ _ _ _ _ _ _ _
   | exact tithebarnref01_Cursor_Int.mono _ _ _ _
   | exact tithebarnref01_Cursor_Uint.mono _ _ _ _
   | exact tithebarnref04_readPacked.mono _ _ _ _ _
   | exact tithebarnref04_readRuns.mono _ _ _ _ _
   | exact LeO.none _
   | refine LeO.ite ?_ ?_
   | refine LeO.bind ?_ (fun _ => ?_)
  ·intro y0 y1 y2 y3 y4 y5 y6
   unfold tithebarnref04_Read.l0
   repeat' first
   | (with_reducible exact ih0 _ _ _ _ _)
   | (with_reducible exact ih1 _ _ _ _ _)
   | (with_reducible exact ih2 _ _ _ _ _ _ _ _)
   | (with_reducible exact ih3 _ _ _ _ _ _ _)
   | (with_reducible exact ih4 _ _ _ _ _ _ _ _)
   | (with_reducible exact tithebarnref01_Cursor_Int.mono _ _ _ _)
   | (with_reducible exact tithebarnref01_Cursor_Uint.mono _ _ _ _)
   | (with_reducible exact tithebarnref04_readPacked.mono _ _ _ _ _)
   | (with_reducible exact tithebarnref04_readRuns.mono _ _ _ _ _)
   | (with_reducible exact LeO.refl _)
   | (with_reducible exact LeO.none _)
   | (with_reducible refine LeO.ite ?_ ?_)
   | (with_reducible refine LeO.bind ?_ (fun _ => ?_))
   | exact ih0 _ _ _ _ _
   | exact ih1 _ _ _ _ _
   | exact ih2 _ _ _ _ _ _ _ _
   | exact ih3 _ _ _ _ _ _ _
   | exact ih4 _ _ _ _ _ _ _ _
   | exact tithebarnref01_Cursor_Int.mono _ _ _ _
   | exact tithebarnref01_Cursor_Uint.mono _ _ _ _
   | exact tithebarnref04_readPacked.mono _ _ _ _ _
   | exact tithebarnref04_readRuns.mono _ _ _ _ _
   | exact LeO.none _
   | refine LeO.ite ?_ ?_
   | refine LeO.bind ?_ (fun _ => ?_)
  ·intro y0 y1 y2 y3 y4 y5 y6 y7
   unfold tithebarnref04_Read.j3
   repeat' first
   | (with_reducible exact ih0 _ _ _ _ _)
   | (with_reducible exact ih1 _ _ _ _ _)
   | (with_reducible exact ih2 _ _ _ _ _ _ _ _)
   | (with_reducible exact ih3 _ _ _ _ _ _ _)
   | (with_reducible exact ih4 _ _ _ _ _ _ _ _)
   | (with_reducible exact tithebarnref01_Cursor_Int.mono _ _ _ _)
   | (with_reducible exact tithebarnref01_Cursor_Uint.mono _ _ _ _)
   | (with_reducible exact tithebarnref04_readPacked.mono _ _ _ _ _)
   | (with_reducible exact tithebarnref04_readRuns.mono _ _ _ _ _)
   | (with_reducible exact LeO.refl _)
   | (with_reducible exact LeO.none _)
   | (with_reducible refine LeO.ite ?_ ?_)
   | (with_reducible refine LeO.bind ?_ (fun _ => ?_))
   | exact ih0 _ _ _ _ _
   | exact ih1 _ _ _ _ _
   | exact ih2 _ _ _ _ _ _ _ _
   | exact ih3 _ _ _ _ _ _ _
   | exact ih4 _ _ _ _ _ _ _ _
   | exact tithebarnref01_Cursor_Int.mono _ _ _ _
   | exact tithebarnref01_Cursor_Uint.mono _ _ _ _
   | exact tithebarnref04_readPacked.mono _ _ _ _ _
   | exact tithebarnref04_readRuns.mono _ _ _ _ _
   | exact LeO.none _
   | refine LeO.ite ?_ ?_
   | refine LeO.bind ?_ (fun _ => ?_)
theorem tithebarnref04_Read.mono : ∀ a0 k, LeO (tithebarnref04_Read.f k a0) (tithebarnref04_Read.f (k + 1) a0) := by
 intro a0 k
 obtain ⟨ih0, ih1, ih2, ih3, ih4⟩ := tithebarnref04_Read.mono_l k
 unfold tithebarnref04_Read.f
 repeat' first
   | (with_reducible exact ih0 _ _ _ _ _)
   | (with_reducible exact ih1 _ _ _ _ _)
   | (with_reducible exact ih2 _ _ _ _ _ _ _ _)
   | (with_reducible exact ih3 _ _ _ _ _ _ _)
   | (with_reducible exact ih4 _ _ _ _ _ _ _ _)
   | (with_reducible exact tithebarnref01_Cursor_Int.mono _ _ _ _)
   | (with_reducible exact tithebarnref01_Cursor_Uint.mono _ _ _ _)
   | (with_reducible exact tithebarnref04_readPacked.mono _ _ _ _ _)
   | (with_reducible exact tithebarnref04_readRuns.mono _ _ _ _ _)
   | (with_reducible exact LeO.refl _)
   | (with_reducible exact LeO.none _)
   | (with_reducible refine LeO.ite ?_ ?_)
   | (with_reducible refine LeO.bind ?_ (fun _ => ?_))
   | exact ih0 _ _ _ _ _
   | exact ih1 _ _ _ _ _
   | exact ih2 _ _ _ _ _ _ _ _
   | exact ih3 _ _ _ _ _ _ _
   | exact ih4 _ _ _ _ _ _ _ _
   | exact tithebarnref01_Cursor_Int.mono _ _ _ _
   | exact tithebarnref01_Cursor_Uint.mono _ _ _ _
   | exact tithebarnref04_readPacked.mono _ _ _ _ _
   | exact tithebarnref04_readRuns.mono _ _ _ _ _
   | exact LeO.none _
   | refine LeO.ite ?_ ?_
   | refine LeO.bind ?_ (fun _ => ?_)
set_option maxHeartbeats 8000000 in
set_option maxRecDepth 100000 in
theorem tithebarnref04_Read.calls (k : Nat) (a0 : ByteArray) (r1 : List Int) (r2 : Int) (w : World) (h : tithebarnref04_Read.f k a0 = some (r1, r2)) :
  Calls Try.prog 13 #[.string a0] w fun e w' => ∃ v0_ : Value, e = .returned (.tuple #[v0_, .int .i64 r2]) ∧ Kd.R (Kd.int .i64) 2 w' w.heap.size (fun _ => True) v0_ r1 ∧ Below w.heap.size w w' := by
 have hu55 := Try.underlying55
 have HB := Aside0.mk (Below.refl w.heap.size w)
 have H : ((tithebarnref01_Cursor_Byte.f a0 0 0).bind fun bt471 => (if bt471.2.2.2 = 0 then (tithebarnref04_Read.j0 k bt471.1 (decide (bt471.1 > 3)) bt471.2.1 bt471.2.2.1 bt471.2.2.2) else (tithebarnref04_Read.j0 k bt471.1 false bt471.2.1 bt471.2.2.1 bt471.2.2.2))) = some (r1, r2) := h
 clear h
 replace H := Option.bind_eq_some_iff.mp H
 obtain ⟨⟨t471, t472, t473, t474⟩, A20, H⟩ := H
 replace H : (if t474 = 0 then (tithebarnref04_Read.j0 k t471 (decide (t471 > 3)) t472 t473 t474) else (tithebarnref04_Read.j0 k t471 false t472 t473 t474)) = some (r1, r2) := H
 have A2 := Aside0.mk A20
 clear A20
 have HC3 := Aside0.mk H
 clear H
 go_enter Try.func13, Try.ntmps13
 go_upto_region 3 with (first | ((with_reducible refine gate_dst (N := 13) rfl ?_); refine box_event ?hg (N := 13) ?hd (cs := #[.string a0, .int .i64 0, .int .i64 0]) (t := 55) ?hr ?_; (case hd => rfl); (case hg => rfl); (case hr => first | (go_simp; done) | (go_simp; rfl)); intro gb470 hg w4 hbox hb; have n0_ := Aside0.mk (below_step z1_ hb); have n1_ := Aside0.mk ((by rw [hg]; exact (below_size z1_) : w.heap.size ≤ gb470)); have n2_ := Aside0.mk ((by rw [hg]; exact (below_size z1_) : w.heap.size ≤ gb470)); have n3_ := Aside0.mk ((show IsS55 w _ gb470 a0 0 0 from ⟨hbox, (by rw [hg]; exact (below_size z1_) : w.heap.size ≤ gb470)⟩)); clear HB; have HB := n0_; have GW470 := n1_; have GE470 := n2_; have HI470 := n3_; clear n0_ n1_ n2_ n3_; clear hb hbox hg) | (go_at_call 28; (with_reducible refine (tithebarnref01_Cursor_Byte.calls gb470 a0 0 0 t471 t472 t473 t474 w _ ?side1 ?side2 A2.out).mono ?_); (case side1 => repeat (first | (with_reducible first | exact HI470.out | apply IsS55.alloc | apply IsS55.drewN | apply IsS55.drew | apply IsS55.set_0 | apply IsS55.set_1 | apply IsS55.set_2) | exact HI470.out)); (case side2 => repeat (first | (with_reducible first | exact HB.out | apply below_alloc | apply pw_below_drewN | apply below_drew1 | refine below_set ?_ (IsS55.ge HI470.out)) | exact HB.out)); rintro e w5 ⟨rfl, hi, hb, hk⟩; have n0_ := Aside0.mk (hb); have n1_ := Aside0.mk (hi); clear HB; clear HI470; have HB := n0_; have HI470 := n1_; clear n0_ n1_; (try clear hb); (try clear hb2); (try clear hk); (try clear hi)))
 repeat (go_quiet (first | ((with_reducible refine gate_dst (N := 13) rfl ?_); refine box_event ?hg (N := 13) ?hd (cs := #[.string a0, .int .i64 0, .int .i64 0]) (t := 55) ?hr ?_; (case hd => rfl); (case hg => rfl); (case hr => first | (go_simp; done) | (go_simp; rfl)); intro gb470 hg w4 hbox hb; have n0_ := Aside0.mk (below_step z1_ hb); have n1_ := Aside0.mk ((by rw [hg]; exact (below_size z1_) : w.heap.size ≤ gb470)); have n2_ := Aside0.mk ((by rw [hg]; exact (below_size z1_) : w.heap.size ≤ gb470)); have n3_ := Aside0.mk ((show IsS55 w _ gb470 a0 0 0 from ⟨hbox, (by rw [hg]; exact (below_size z1_) : w.heap.size ≤ gb470)⟩)); clear HB; have HB := n0_; have GW470 := n1_; have GE470 := n2_; have HI470 := n3_; clear n0_ n1_ n2_ n3_; clear hb hbox hg) | (go_at_call 28; (with_reducible refine (tithebarnref01_Cursor_Byte.calls gb470 a0 0 0 t471 t472 t473 t474 w _ ?side1 ?side2 A2.out).mono ?_); (case side1 => repeat (first | (with_reducible first | exact HI470.out | apply IsS55.alloc | apply IsS55.drewN | apply IsS55.drew | apply IsS55.set_0 | apply IsS55.set_1 | apply IsS55.set_2) | exact HI470.out)); (case side2 => repeat (first | (with_reducible first | exact HB.out | apply below_alloc | apply pw_below_drewN | apply below_drew1 | refine below_set ?_ (IsS55.ge HI470.out)) | exact HB.out)); rintro e w5 ⟨rfl, hi, hb, hk⟩; have n0_ := Aside0.mk (hb); have n1_ := Aside0.mk (hi); clear HB; clear HI470; have HB := n0_; have HI470 := n1_; clear n0_ n1_; (try clear hb); (try clear hb2); (try clear hk); (try clear hi))); go_upto_region 3 with (first | ((with_reducible refine gate_dst (N := 13) rfl ?_); refine box_event ?hg (N := 13) ?hd (cs := #[.string a0, .int .i64 0, .int .i64 0]) (t := 55) ?hr ?_; (case hd => rfl); (case hg => rfl); (case hr => first | (go_simp; done) | (go_simp; rfl)); intro gb470 hg w4 hbox hb; have n0_ := Aside0.mk (below_step z1_ hb); have n1_ := Aside0.mk ((by rw [hg]; exact (below_size z1_) : w.heap.size ≤ gb470)); have n2_ := Aside0.mk ((by rw [hg]; exact (below_size z1_) : w.heap.size ≤ gb470)); have n3_ := Aside0.mk ((show IsS55 w _ gb470 a0 0 0 from ⟨hbox, (by rw [hg]; exact (below_size z1_) : w.heap.size ≤ gb470)⟩)); clear HB; have HB := n0_; have GW470 := n1_; have GE470 := n2_; have HI470 := n3_; clear n0_ n1_ n2_ n3_; clear hb hbox hg) | (go_at_call 28; (with_reducible refine (tithebarnref01_Cursor_Byte.calls gb470 a0 0 0 t471 t472 t473 t474 w _ ?side1 ?side2 A2.out).mono ?_); (case side1 => repeat (first | (with_reducible first | exact HI470.out | apply IsS55.alloc | apply IsS55.drewN | apply IsS55.drew | apply IsS55.set_0 | apply IsS55.set_1 | apply IsS55.set_2) | exact HI470.out)); (case side2 => repeat (first | (with_reducible first | exact HB.out | apply below_alloc | apply pw_below_drewN | apply below_drew1 | refine below_set ?_ (IsS55.ge HI470.out)) | exact HB.out)); rintro e w5 ⟨rfl, hi, hb, hk⟩; have n0_ := Aside0.mk (hb); have n1_ := Aside0.mk (hi); clear HB; clear HI470; have HB := n0_; have HI470 := n1_; clear n0_ n1_; (try clear hb); (try clear hb2); (try clear hk); (try clear hi))))
 (try simp only [Act.put, List.setIfInBounds_toArray, List.set_cons_zero, List.set_cons_succ])
 go_cut [24] (fun v24 wc => ∃ (kq : Nat) (x24_2 : Bool), v24 = .bool x24_2 ∧ Aside0 (tithebarnref04_Read.j0 kq t471 x24_2 t472 t473 t474 = some (r1, r2)) ∧ Aside0 (kq ≤ k) ∧ Aside0 (IsS55 w wc gb470 t472 t473 t474) ∧ Aside0 (Below w.heap.size w wc))
 case first =>
  have H := HC3.out
  clear HC3
  by_cases c6 : t474 = 0
  ·rw [if_pos c6] at H
   have c6b0 : (t474 == 0) = true := beq_iff_eq.mpr c6
   have c6b1 : (t474 != 0) = false := bne_eq_false_iff_eq.mpr c6
   clear c6
   (first | rw [c6b0] | (simp only [i64_w, i32_w]; rw [c6b0]) | skip)
   have H' := Aside0.mk H
   clear H
   obtain ⟨HGz7, hgz7⟩ := HI470.out
   have hcz7_0 := cellS55_0 HGz7
   have hcz7_1 := cellS55_1 HGz7
   have hcz7_2 := cellS55_2 HGz7
   have hfz7_0 := blk_frozen HGz7 0
   have hfz7_1 := blk_frozen HGz7 1
   have hfz7_2 := blk_frozen HGz7 2
   clear HGz7 hgz7
   go_wp2
   repeat (go_quiet (fail); try go_wp2)
   go_meet
   case rel => exact ⟨_, (decide (t471 > 3)), z11_, H', ⟨by first | omega | exact Nat.le_refl _⟩, ⟨z7_⟩, ⟨z8_⟩⟩
  ·rw [if_neg c6] at H
   have c6b0 : (t474 == 0) = false := beq_eq_false_iff_ne.mpr c6
   have c6b1 : (t474 != 0) = true := bne_iff_ne.mpr c6
   (first | rw [c6b0] | (simp only [i64_w, i32_w]; rw [c6b0]) | skip)
   have H' := Aside0.mk H
   clear H
   obtain ⟨HGz8, hgz8⟩ := HI470.out
   have hcz8_0 := cellS55_0 HGz8
   have hcz8_1 := cellS55_1 HGz8
   have hcz8_2 := cellS55_2 HGz8
   have hfz8_0 := blk_frozen HGz8 0
   have hfz8_1 := blk_frozen HGz8 1
   have hfz8_2 := blk_frozen HGz8 2
   clear HGz8 hgz8
   go_wp2
   repeat (go_quiet (fail); try go_wp2)
   go_meet
   case rel => exact ⟨_, (false), z11_, H', ⟨by first | omega | exact Nat.le_refl _⟩, ⟨z7_⟩, ⟨z8_⟩⟩
 case rest =>
  clear HC3
  try clear c1
  try clear p2
  try clear c6
  try clear c6b0
  try clear c6b1
  try clear hcz7_0
  try clear hcz7_1
  try clear hcz7_2
  try clear hcz8_0
  try clear hcz8_1
  try clear hcz8_2
  try clear hfz7_0
  try clear hfz7_1
  try clear hfz7_2
  try clear hfz8_0
  try clear hfz8_1
  try clear hfz8_2
  obtain ⟨kq, x24_2, rfl, HA, HJ2, HI470, HB⟩ := hcut
  cases kq with
  | zero => exact absurd HA.out (by simp [tithebarnref04_Read.j0])
  | succ kj2 =>
   have H := HA.out
   clear HA
   simp only [tithebarnref04_Read.j0] at H
   by_cases c9 : x24_2 = true
   ·subst c9
    have H1 : (some (([] : List Int), 4)) = some (r1, r2) := by rw [if_pos rfl] at H; exact H
    clear H
    have H := H1
    clear H1
    simp only [Option.some.injEq, Prod.mk.injEq] at H
    obtain ⟨rfl, rfl⟩ := H
    go_wp2
    repeat (go_quiet (fail); try go_wp2)
    go_ret2
    exact ⟨_, z6_, z10_, z8_⟩
   ·replace c9 := Bool.eq_false_iff.mpr c9
    subst c9
    have H1 : ((tithebarnref01_Cursor_Uint.f kj2 t472 t473 t474).bind fun bt475 => (if bt475.2.2.2 = 0 then (if bt475.1 > 65536 then (some (([] : List Int), 3)) else (if t471 = 2 then ((tithebarnref04_readRuns.f kj2 bt475.2.1 bt475.2.2.1 bt475.2.2.2 (wrap64 (bt475.1))).bind fun bt479 => (tithebarnref04_Read.j4 kj2 bt479.1 bt479.2.1 bt479.2.2.1 bt479.2.2.2.1 bt479.2.2.2.2)) else (if t471 = 3 then (tithebarnref04_Read.j1 kj2 t471 bt475.1 ([] : List Int) 0 (decide (bt475.1 > 0)) bt475.2.1 bt475.2.2.1 bt475.2.2.2) else (tithebarnref04_Read.j1 kj2 t471 bt475.1 ([] : List Int) 0 false bt475.2.1 bt475.2.2.1 bt475.2.2.2)))) else (some (([] : List Int), bt475.2.2.2)))) = some (r1, r2) := by rw [if_neg (show ¬ (false = true) by decide)] at H; exact H
    clear H
    have H := H1
    clear H1
    replace H := Option.bind_eq_some_iff.mp H
    obtain ⟨⟨t475, t476, t477, t478⟩, A100, H⟩ := H
    replace H : (if t478 = 0 then (if t475 > 65536 then (some (([] : List Int), 3)) else (if t471 = 2 then ((tithebarnref04_readRuns.f kj2 t476 t477 t478 (wrap64 (t475))).bind fun bt479 => (tithebarnref04_Read.j4 kj2 bt479.1 bt479.2.1 bt479.2.2.1 bt479.2.2.2.1 bt479.2.2.2.2)) else (if t471 = 3 then (tithebarnref04_Read.j1 kj2 t471 t475 ([] : List Int) 0 (decide (t475 > 0)) t476 t477 t478) else (tithebarnref04_Read.j1 kj2 t471 t475 ([] : List Int) 0 false t476 t477 t478)))) else (some (([] : List Int), t478))) = some (r1, r2) := H
    have A10 := Aside0.mk A100
    clear A100
    by_cases c11 : t478 = 0
    ·rw [if_pos c11] at H
     have c11b0 : (t478 == 0) = true := beq_iff_eq.mpr c11
     have c11b1 : (t478 != 0) = false := bne_eq_false_iff_eq.mpr c11
     clear c11
     by_cases c12 : t475 > 65536
     ·rw [if_pos c12] at H
      have c12b0 : decide (65536 < t475) = true := decide_eq_true c12
      clear c12
      simp only [Option.some.injEq, Prod.mk.injEq] at H
      obtain ⟨rfl, rfl⟩ := H
      go_wp2_with (first | (go_at_call 29; (with_reducible refine (tithebarnref01_Cursor_Uint.calls kj2 gb470 t472 t473 t474 t475 t476 t477 t478 w _ ?side1 ?side2 A10.out).mono ?_); (case side1 => repeat (first | (with_reducible first | exact HI470.out | apply IsS55.alloc | apply IsS55.drewN | apply IsS55.drew | apply IsS55.set_0 | apply IsS55.set_1 | apply IsS55.set_2) | exact HI470.out)); (case side2 => repeat (first | (with_reducible first | exact HB.out | apply below_alloc | apply pw_below_drewN | apply below_drew1 | refine below_set ?_ (IsS55.ge HI470.out)) | exact HB.out)); rintro e w13 ⟨rfl, hi, hb, hk⟩; have n0_ := Aside0.mk (hb); have n1_ := Aside0.mk (hi); clear HB; clear HI470; have HB := n0_; have HI470 := n1_; clear n0_ n1_; (try clear hb); (try clear hb2); (try clear hk); (try clear hi); obtain ⟨HGz14, hgz14⟩ := HI470.out; have hcz14_0 := cellS55_0 HGz14; have hcz14_1 := cellS55_1 HGz14; have hcz14_2 := cellS55_2 HGz14; have hfz14_0 := blk_frozen HGz14 0; have hfz14_1 := blk_frozen HGz14 1; have hfz14_2 := blk_frozen HGz14 2; clear HGz14 hgz14))
      repeat (go_quiet (first | (go_at_call 29; (with_reducible refine (tithebarnref01_Cursor_Uint.calls kj2 gb470 t472 t473 t474 t475 t476 t477 t478 w _ ?side1 ?side2 A10.out).mono ?_); (case side1 => repeat (first | (with_reducible first | exact HI470.out | apply IsS55.alloc | apply IsS55.drewN | apply IsS55.drew | apply IsS55.set_0 | apply IsS55.set_1 | apply IsS55.set_2) | exact HI470.out)); (case side2 => repeat (first | (with_reducible first | exact HB.out | apply below_alloc | apply pw_below_drewN | apply below_drew1 | refine below_set ?_ (IsS55.ge HI470.out)) | exact HB.out)); rintro e w13 ⟨rfl, hi, hb, hk⟩; have n0_ := Aside0.mk (hb); have n1_ := Aside0.mk (hi); clear HB; clear HI470; have HB := n0_; have HI470 := n1_; clear n0_ n1_; (try clear hb); (try clear hb2); (try clear hk); (try clear hi); obtain ⟨HGz14, hgz14⟩ := HI470.out; have hcz14_0 := cellS55_0 HGz14; have hcz14_1 := cellS55_1 HGz14; have hcz14_2 := cellS55_2 HGz14; have hfz14_0 := blk_frozen HGz14 0; have hfz14_1 := blk_frozen HGz14 1; have hfz14_2 := blk_frozen HGz14 2; clear HGz14 hgz14)); try go_wp2_with (first | (go_at_call 29; (with_reducible refine (tithebarnref01_Cursor_Uint.calls kj2 gb470 t472 t473 t474 t475 t476 t477 t478 w _ ?side1 ?side2 A10.out).mono ?_); (case side1 => repeat (first | (with_reducible first | exact HI470.out | apply IsS55.alloc | apply IsS55.drewN | apply IsS55.drew | apply IsS55.set_0 | apply IsS55.set_1 | apply IsS55.set_2) | exact HI470.out)); (case side2 => repeat (first | (with_reducible first | exact HB.out | apply below_alloc | apply pw_below_drewN | apply below_drew1 | refine below_set ?_ (IsS55.ge HI470.out)) | exact HB.out)); rintro e w13 ⟨rfl, hi, hb, hk⟩; have n0_ := Aside0.mk (hb); have n1_ := Aside0.mk (hi); clear HB; clear HI470; have HB := n0_; have HI470 := n1_; clear n0_ n1_; (try clear hb); (try clear hb2); (try clear hk); (try clear hi); obtain ⟨HGz14, hgz14⟩ := HI470.out; have hcz14_0 := cellS55_0 HGz14; have hcz14_1 := cellS55_1 HGz14; have hcz14_2 := cellS55_2 HGz14; have hfz14_0 := blk_frozen HGz14 0; have hfz14_1 := blk_frozen HGz14 1; have hfz14_2 := blk_frozen HGz14 2; clear HGz14 hgz14)))
      go_ret2
      exact ⟨_, z6_, z10_, z8_⟩
     ·rw [if_neg c12] at H
      have c12b0 : decide (65536 < t475) = false := decide_eq_false c12
      clear c12
      have HC15 := Aside0.mk H
      clear H
      go_upto_block 0 with (first | (go_at_call 29; (with_reducible refine (tithebarnref01_Cursor_Uint.calls kj2 gb470 t472 t473 t474 t475 t476 t477 t478 w _ ?side1 ?side2 A10.out).mono ?_); (case side1 => repeat (first | (with_reducible first | exact HI470.out | apply IsS55.alloc | apply IsS55.drewN | apply IsS55.drew | apply IsS55.set_0 | apply IsS55.set_1 | apply IsS55.set_2) | exact HI470.out)); (case side2 => repeat (first | (with_reducible first | exact HB.out | apply below_alloc | apply pw_below_drewN | apply below_drew1 | refine below_set ?_ (IsS55.ge HI470.out)) | exact HB.out)); rintro e w16 ⟨rfl, hi, hb, hk⟩; have n0_ := Aside0.mk (hb); have n1_ := Aside0.mk (hi); clear HB; clear HI470; have HB := n0_; have HI470 := n1_; clear n0_ n1_; (try clear hb); (try clear hb2); (try clear hk); (try clear hi); obtain ⟨HGz17, hgz17⟩ := HI470.out; have hcz17_0 := cellS55_0 HGz17; have hcz17_1 := cellS55_1 HGz17; have hcz17_2 := cellS55_2 HGz17; have hfz17_0 := blk_frozen HGz17 0; have hfz17_1 := blk_frozen HGz17 1; have hfz17_2 := blk_frozen HGz17 2; clear HGz17 hgz17))
      repeat (go_quiet (first | (go_at_call 29; (with_reducible refine (tithebarnref01_Cursor_Uint.calls kj2 gb470 t472 t473 t474 t475 t476 t477 t478 w _ ?side1 ?side2 A10.out).mono ?_); (case side1 => repeat (first | (with_reducible first | exact HI470.out | apply IsS55.alloc | apply IsS55.drewN | apply IsS55.drew | apply IsS55.set_0 | apply IsS55.set_1 | apply IsS55.set_2) | exact HI470.out)); (case side2 => repeat (first | (with_reducible first | exact HB.out | apply below_alloc | apply pw_below_drewN | apply below_drew1 | refine below_set ?_ (IsS55.ge HI470.out)) | exact HB.out)); rintro e w16 ⟨rfl, hi, hb, hk⟩; have n0_ := Aside0.mk (hb); have n1_ := Aside0.mk (hi); clear HB; clear HI470; have HB := n0_; have HI470 := n1_; clear n0_ n1_; (try clear hb); (try clear hb2); (try clear hk); (try clear hi); obtain ⟨HGz17, hgz17⟩ := HI470.out; have hcz17_0 := cellS55_0 HGz17; have hcz17_1 := cellS55_1 HGz17; have hcz17_2 := cellS55_2 HGz17; have hfz17_0 := blk_frozen HGz17 0; have hfz17_1 := blk_frozen HGz17 1; have hfz17_2 := blk_frozen HGz17 2; clear HGz17 hgz17)); go_upto_block 0 with (first | (go_at_call 29; (with_reducible refine (tithebarnref01_Cursor_Uint.calls kj2 gb470 t472 t473 t474 t475 t476 t477 t478 w _ ?side1 ?side2 A10.out).mono ?_); (case side1 => repeat (first | (with_reducible first | exact HI470.out | apply IsS55.alloc | apply IsS55.drewN | apply IsS55.drew | apply IsS55.set_0 | apply IsS55.set_1 | apply IsS55.set_2) | exact HI470.out)); (case side2 => repeat (first | (with_reducible first | exact HB.out | apply below_alloc | apply pw_below_drewN | apply below_drew1 | refine below_set ?_ (IsS55.ge HI470.out)) | exact HB.out)); rintro e w16 ⟨rfl, hi, hb, hk⟩; have n0_ := Aside0.mk (hb); have n1_ := Aside0.mk (hi); clear HB; clear HI470; have HB := n0_; have HI470 := n1_; clear n0_ n1_; (try clear hb); (try clear hb2); (try clear hk); (try clear hi); obtain ⟨HGz17, hgz17⟩ := HI470.out; have hcz17_0 := cellS55_0 HGz17; have hcz17_1 := cellS55_1 HGz17; have hcz17_2 := cellS55_2 HGz17; have hfz17_0 := blk_frozen HGz17 0; have hfz17_1 := blk_frozen HGz17 1; have hfz17_2 := blk_frozen HGz17 2; clear HGz17 hgz17)))
      (try simp only [Act.put, List.setIfInBounds_toArray, List.set_cons_zero, List.set_cons_succ])
      go_cut [7, 8] (fun v7 v8 wc => ∃ (kq : Nat) (x7_14 : List Int) (x8_14 : Int) (x471000_14 : ByteArray) (x471001_14 : Int) (x471002_14 : Int), v8 = .int .i64 x8_14 ∧ Aside0 (tithebarnref04_Read.j4 kq x7_14 x8_14 x471000_14 x471001_14 x471002_14 = some (r1, r2)) ∧ Aside0 (kq ≤ kj2) ∧ Aside0 (Kd.R (Kd.int .i64) 2 wc w.heap.size (fun _ => True) v7 x7_14) ∧ Aside0 (IsS55 w wc gb470 x471000_14 x471001_14 x471002_14) ∧ Aside0 (Below w.heap.size w wc))
      case first =>
       have H := HC15.out
       clear HC15
       by_cases c18 : t471 = 2
       ·rw [if_pos c18] at H
        have c18b0 : (t471 == 2) = true := beq_iff_eq.mpr c18
        have c18b1 : (t471 != 2) = false := bne_eq_false_iff_eq.mpr c18
        clear c18
        (first | rw [c18b0] | (simp only [i64_w, i32_w]; rw [c18b0]) | skip)
        replace H := Option.bind_eq_some_iff.mp H
        obtain ⟨⟨t479, t482, t483, t484, t485⟩, A190, H⟩ := H
        replace H : (tithebarnref04_Read.j4 kj2 t479 t482 t483 t484 t485) = some (r1, r2) := H
        have A19 := Aside0.mk A190
        clear A190
        have H' := Aside0.mk H
        clear H
        go_wp2_with (first | (go_at_call 30; (with_reducible refine (tithebarnref04_readRuns.calls kj2 gb470 t476 t477 t478 (wrap64 (t475)) t479 t482 t483 t484 t485 w _ ?side1 ?side2 A19.out).mono ?_); (case side1 => repeat (first | (with_reducible first | exact HI470.out | apply IsS55.alloc | apply IsS55.drewN | apply IsS55.drew | apply IsS55.set_0 | apply IsS55.set_1 | apply IsS55.set_2) | exact HI470.out)); (case side2 => repeat (first | (with_reducible first | exact HB.out | apply below_alloc | apply pw_below_drewN | apply below_drew1 | refine below_set ?_ (IsS55.ge HI470.out)) | exact HB.out)); rintro e w20 ⟨v480, rfl, ho0, hi, hb, hk⟩; have n0_ := Aside0.mk (Kd.R_lower ho0 (below_size z8_)); have n1_ := Aside0.mk (hb); have n2_ := Aside0.mk (hi); clear HB; clear HI470; have HO481 := n0_; have HB := n1_; have HI470 := n2_; clear n0_ n1_ n2_; (try clear hb); (try clear hb2); (try clear hk); (try clear hi); (try clear ho0)))
        repeat (go_quiet (first | (go_at_call 30; (with_reducible refine (tithebarnref04_readRuns.calls kj2 gb470 t476 t477 t478 (wrap64 (t475)) t479 t482 t483 t484 t485 w _ ?side1 ?side2 A19.out).mono ?_); (case side1 => repeat (first | (with_reducible first | exact HI470.out | apply IsS55.alloc | apply IsS55.drewN | apply IsS55.drew | apply IsS55.set_0 | apply IsS55.set_1 | apply IsS55.set_2) | exact HI470.out)); (case side2 => repeat (first | (with_reducible first | exact HB.out | apply below_alloc | apply pw_below_drewN | apply below_drew1 | refine below_set ?_ (IsS55.ge HI470.out)) | exact HB.out)); rintro e w20 ⟨v480, rfl, ho0, hi, hb, hk⟩; have n0_ := Aside0.mk (Kd.R_lower ho0 (below_size z8_)); have n1_ := Aside0.mk (hb); have n2_ := Aside0.mk (hi); clear HB; clear HI470; have HO481 := n0_; have HB := n1_; have HI470 := n2_; clear n0_ n1_ n2_; (try clear hb); (try clear hb2); (try clear hk); (try clear hi); (try clear ho0))); try go_wp2_with (first | (go_at_call 30; (with_reducible refine (tithebarnref04_readRuns.calls kj2 gb470 t476 t477 t478 (wrap64 (t475)) t479 t482 t483 t484 t485 w _ ?side1 ?side2 A19.out).mono ?_); (case side1 => repeat (first | (with_reducible first | exact HI470.out | apply IsS55.alloc | apply IsS55.drewN | apply IsS55.drew | apply IsS55.set_0 | apply IsS55.set_1 | apply IsS55.set_2) | exact HI470.out)); (case side2 => repeat (first | (with_reducible first | exact HB.out | apply below_alloc | apply pw_below_drewN | apply below_drew1 | refine below_set ?_ (IsS55.ge HI470.out)) | exact HB.out)); rintro e w20 ⟨v480, rfl, ho0, hi, hb, hk⟩; have n0_ := Aside0.mk (Kd.R_lower ho0 (below_size z8_)); have n1_ := Aside0.mk (hb); have n2_ := Aside0.mk (hi); clear HB; clear HI470; have HO481 := n0_; have HB := n1_; have HI470 := n2_; clear n0_ n1_ n2_; (try clear hb); (try clear hb2); (try clear hk); (try clear hi); (try clear ho0))))
        go_meet
        case rel => exact ⟨_, (t479), (t482), (t483), (t484), (t485), z11_, H', ⟨by have := HJ2.out; first | omega | exact Nat.le_refl _⟩, ⟨by (with_reducible repeat (first | apply Kd.R_alloc | apply Kd.R_drewN | apply Kd.R_drew)); exact HO481.out⟩, ⟨z7_⟩, ⟨z8_⟩⟩
       ·rw [if_neg c18] at H
        have c18b0 : (t471 == 2) = false := beq_eq_false_iff_ne.mpr c18
        have c18b1 : (t471 != 2) = true := bne_iff_ne.mpr c18
        (first | rw [c18b0] | (simp only [i64_w, i32_w]; rw [c18b0]) | skip)
        have HC21 := Aside0.mk H
        clear H
        go_upto_region 14 with (fail)
        repeat (go_quiet (fail); go_upto_region 14 with (fail))
        go_cut [48] (fun v48 wc => ∃ (kq : Nat) (x48_20 : Bool), v48 = .bool x48_20 ∧ Aside0 (tithebarnref04_Read.j1 kq t471 t475 ([] : List Int) 0 x48_20 t476 t477 t478 = some (r1, r2)) ∧ Aside0 (kq ≤ kj2) ∧ Aside0 (Kd.R (Kd.int .i64) 2 wc w.heap.size (fun _ => True) (.slice none 0 0) ([] : List Int)) ∧ Aside0 (IsS55 w wc gb470 t476 t477 t478) ∧ Aside0 (Below w.heap.size w wc))
        case first =>
         have H := HC21.out
         clear HC21
         by_cases c22 : t471 = 3
         ·rw [if_pos c22] at H
          have c22b0 : (t471 == 3) = true := beq_iff_eq.mpr c22
          have c22b1 : (t471 != 3) = false := bne_eq_false_iff_eq.mpr c22
          clear c22
          (first | rw [c22b0] | (simp only [i64_w, i32_w]; rw [c22b0]) | skip)
          have H' := Aside0.mk H
          clear H
          go_wp2
          repeat (go_quiet (fail); try go_wp2)
          go_meet
          case rel => exact ⟨_, (decide (t475 > 0)), z11_, H', ⟨by have := HJ2.out; first | omega | exact Nat.le_refl _⟩, ⟨z10_⟩, ⟨z7_⟩, ⟨z8_⟩⟩
         ·rw [if_neg c22] at H
          have c22b0 : (t471 == 3) = false := beq_eq_false_iff_ne.mpr c22
          have c22b1 : (t471 != 3) = true := bne_iff_ne.mpr c22
          (first | rw [c22b0] | (simp only [i64_w, i32_w]; rw [c22b0]) | skip)
          have H' := Aside0.mk H
          clear H
          go_wp2
          repeat (go_quiet (fail); try go_wp2)
          go_meet
          case rel => exact ⟨_, (false), z11_, H', ⟨by have := HJ2.out; first | omega | exact Nat.le_refl _⟩, ⟨z10_⟩, ⟨z7_⟩, ⟨z8_⟩⟩
        case rest =>
         clear HC21
         try clear c1
         try clear c2
         try clear p2
         try clear c6
         try clear c6b0
         try clear c6b1
         try clear p6
         try clear c9
         try clear c11
         try clear c11b0
         try clear c11b1
         try clear c12
         try clear c12b0
         try clear c13
         try clear c18
         try clear c18b0
         try clear c18b1
         try clear c22
         try clear c22b0
         try clear c22b1
         try clear hcz14_0
         try clear hcz14_1
         try clear hcz14_2
         try clear hcz17_0
         try clear hcz17_1
         try clear hcz17_2
         try clear hcz7_0
         try clear hcz7_1
         try clear hcz7_2
         try clear hcz8_0
         try clear hcz8_1
         try clear hcz8_2
         try clear hfz14_0
         try clear hfz14_1
         try clear hfz14_2
         try clear hfz17_0
         try clear hfz17_1
         try clear hfz17_2
         try clear hfz7_0
         try clear hfz7_1
         try clear hfz7_2
         try clear hfz8_0
         try clear hfz8_1
         try clear hfz8_2
         try clear p2
         obtain ⟨kq, x48_20, rfl, HA, HJ20, HO_7, HI470, HB⟩ := hcut
         cases kq with
         | zero => exact absurd HA.out (by simp [tithebarnref04_Read.j1])
         | succ kj20 =>
          have H := HA.out
          clear HA
          simp only [tithebarnref04_Read.j1] at H
          by_cases c23 : x48_20 = true
          ·subst c23
           have H1 : ((tithebarnref04_readPacked.f kj20 t476 t477 t478 (wrap64 (t475))).bind fun bt486 => (tithebarnref04_Read.j4 kj20 bt486.1 bt486.2.1 bt486.2.2.1 bt486.2.2.2.1 bt486.2.2.2.2)) = some (r1, r2) := by rw [if_pos rfl] at H; exact H
           clear H
           have H := H1
           clear H1
           replace H := Option.bind_eq_some_iff.mp H
           obtain ⟨⟨t486, t489, t490, t491, t492⟩, A240, H⟩ := H
           replace H : (tithebarnref04_Read.j4 kj20 t486 t489 t490 t491 t492) = some (r1, r2) := H
           have A24 := Aside0.mk A240
           clear A240
           have H' := Aside0.mk H
           clear H
           go_wp2_with (first | (go_at_call 31; (with_reducible refine (tithebarnref04_readPacked.calls kj20 gb470 t476 t477 t478 (wrap64 (t475)) t486 t489 t490 t491 t492 w _ ?side1 ?side2 A24.out).mono ?_); (case side1 => repeat (first | (with_reducible first | exact HI470.out | apply IsS55.alloc | apply IsS55.drewN | apply IsS55.drew | apply IsS55.set_0 | apply IsS55.set_1 | apply IsS55.set_2) | exact HI470.out)); (case side2 => repeat (first | (with_reducible first | exact HB.out | apply below_alloc | apply pw_below_drewN | apply below_drew1 | refine below_set ?_ (IsS55.ge HI470.out)) | exact HB.out)); rintro e w25 ⟨v487, rfl, ho0, hi, hb, hk⟩; have n0_ := Aside0.mk (Kd.R_mono (Kd.R_told (Kd.R_oldK (IsS55.apart (show IsS55 w _ gb470 t476 t477 t478 from z7_) (by (with_reducible repeat (first | apply Kd.R_alloc | apply Kd.R_drewN | apply Kd.R_drew)); exact HO_7.out) (by decide)) hk) (Kd.R_base ho0)) (fun _ h_ => h_.1)); have n1_ := Aside0.mk (Kd.R_lower (Kd.R_new' ho0 (Kd.R_lt (by (with_reducible repeat (first | apply Kd.R_alloc | apply Kd.R_drewN | apply Kd.R_drew)); exact HO_7.out))) (below_size z8_)); have n2_ := Aside0.mk (hb); have n3_ := Aside0.mk (hi); clear HO_7; clear HB; clear HI470; have HO_7 := n0_; have HO488 := n1_; have HB := n2_; have HI470 := n3_; clear n0_ n1_ n2_ n3_; (try clear hb); (try clear hb2); (try clear hk); (try clear hi); (try clear ho0)))
           repeat (go_quiet (first | (go_at_call 31; (with_reducible refine (tithebarnref04_readPacked.calls kj20 gb470 t476 t477 t478 (wrap64 (t475)) t486 t489 t490 t491 t492 w _ ?side1 ?side2 A24.out).mono ?_); (case side1 => repeat (first | (with_reducible first | exact HI470.out | apply IsS55.alloc | apply IsS55.drewN | apply IsS55.drew | apply IsS55.set_0 | apply IsS55.set_1 | apply IsS55.set_2) | exact HI470.out)); (case side2 => repeat (first | (with_reducible first | exact HB.out | apply below_alloc | apply pw_below_drewN | apply below_drew1 | refine below_set ?_ (IsS55.ge HI470.out)) | exact HB.out)); rintro e w25 ⟨v487, rfl, ho0, hi, hb, hk⟩; have n0_ := Aside0.mk (Kd.R_mono (Kd.R_told (Kd.R_oldK (IsS55.apart (show IsS55 w _ gb470 t476 t477 t478 from z7_) (by (with_reducible repeat (first | apply Kd.R_alloc | apply Kd.R_drewN | apply Kd.R_drew)); exact HO_7.out) (by decide)) hk) (Kd.R_base ho0)) (fun _ h_ => h_.1)); have n1_ := Aside0.mk (Kd.R_lower (Kd.R_new' ho0 (Kd.R_lt (by (with_reducible repeat (first | apply Kd.R_alloc | apply Kd.R_drewN | apply Kd.R_drew)); exact HO_7.out))) (below_size z8_)); have n2_ := Aside0.mk (hb); have n3_ := Aside0.mk (hi); clear HO_7; clear HB; clear HI470; have HO_7 := n0_; have HO488 := n1_; have HB := n2_; have HI470 := n3_; clear n0_ n1_ n2_ n3_; (try clear hb); (try clear hb2); (try clear hk); (try clear hi); (try clear ho0))); try go_wp2_with (first | (go_at_call 31; (with_reducible refine (tithebarnref04_readPacked.calls kj20 gb470 t476 t477 t478 (wrap64 (t475)) t486 t489 t490 t491 t492 w _ ?side1 ?side2 A24.out).mono ?_); (case side1 => repeat (first | (with_reducible first | exact HI470.out | apply IsS55.alloc | apply IsS55.drewN | apply IsS55.drew | apply IsS55.set_0 | apply IsS55.set_1 | apply IsS55.set_2) | exact HI470.out)); (case side2 => repeat (first | (with_reducible first | exact HB.out | apply below_alloc | apply pw_below_drewN | apply below_drew1 | refine below_set ?_ (IsS55.ge HI470.out)) | exact HB.out)); rintro e w25 ⟨v487, rfl, ho0, hi, hb, hk⟩; have n0_ := Aside0.mk (Kd.R_mono (Kd.R_told (Kd.R_oldK (IsS55.apart (show IsS55 w _ gb470 t476 t477 t478 from z7_) (by (with_reducible repeat (first | apply Kd.R_alloc | apply Kd.R_drewN | apply Kd.R_drew)); exact HO_7.out) (by decide)) hk) (Kd.R_base ho0)) (fun _ h_ => h_.1)); have n1_ := Aside0.mk (Kd.R_lower (Kd.R_new' ho0 (Kd.R_lt (by (with_reducible repeat (first | apply Kd.R_alloc | apply Kd.R_drewN | apply Kd.R_drew)); exact HO_7.out))) (below_size z8_)); have n2_ := Aside0.mk (hb); have n3_ := Aside0.mk (hi); clear HO_7; clear HB; clear HI470; have HO_7 := n0_; have HO488 := n1_; have HB := n2_; have HI470 := n3_; clear n0_ n1_ n2_ n3_; (try clear hb); (try clear hb2); (try clear hk); (try clear hi); (try clear ho0))))
           go_meet
           case rel => exact ⟨_, (t486), (t489), (t490), (t491), (t492), z11_, H', ⟨by have := HJ2.out; have := HJ20.out; first | omega | exact Nat.le_refl _⟩, ⟨by (with_reducible repeat (first | apply Kd.R_alloc | apply Kd.R_drewN | apply Kd.R_drew)); exact Kd.R_mono HO488.out (fun _ hk => trivial)⟩, ⟨z7_⟩, ⟨z8_⟩⟩
          ·replace c23 := Bool.eq_false_iff.mpr c23
           subst c23
           have H1 : (if t471 < 2 then (tithebarnref04_Read.l0 kj20 t471 t475 ([] : List Int) 0 t476 t477 t478) else (tithebarnref04_Read.j4 kj20 ([] : List Int) 0 t476 t477 t478)) = some (r1, r2) := by rw [if_neg (show ¬ (false = true) by decide)] at H; exact H
           clear H
           have H := H1
           clear H1
           by_cases c26 : t471 < 2
           ·rw [if_pos c26] at H
            have c26b0 : decide (t471 < 2) = true := decide_eq_true c26
            clear c26
            have H' := Aside0.mk H
            clear H
            go_wp2
            repeat (go_quiet (fail); try go_wp2)
            go_loopg [7, 9] kj20 (fun kq v7 v9 w' => ∃ (x7_3 : List Int) (x9_3 : Int) (x471000_3 : ByteArray) (x471001_3 : Int) (x471002_3 : Int), v9 = .int .u64 x9_3 ∧ Aside0 (tithebarnref04_Read.l0 kq t471 t475 x7_3 x9_3 x471000_3 x471001_3 x471002_3 = some (r1, r2)) ∧ Aside0 (kq ≤ kj20) ∧ Aside0 (Kd.R (Kd.int .i64) 2 w' w.heap.size (fun _ => True) v7 x7_3) ∧ Aside0 (IsS55 w w' gb470 x471000_3 x471001_3 x471002_3) ∧ Aside0 (Below w.heap.size w w'))
            case atStart => exact ⟨(([] : List Int)), (0), (t476), (t477), (t478), z11_, H', ⟨Nat.le_refl _⟩, ⟨by (with_reducible repeat (first | apply Kd.R_alloc | apply Kd.R_drewN | apply Kd.R_drew)); exact HO_7.out⟩, ⟨z7_⟩, ⟨z8_⟩⟩
            case round =>
             clear H'
             try clear c1
             try clear c2
             try clear p2
             try clear c6
             try clear c6b0
             try clear c6b1
             try clear p6
             try clear c9
             try clear c11
             try clear c11b0
             try clear c11b1
             try clear c12
             try clear c12b0
             try clear c13
             try clear c18
             try clear c18b0
             try clear c18b1
             try clear c22
             try clear c22b0
             try clear c22b1
             try clear c23
             try clear c26
             try clear c26b0
             try clear hcz14_0
             try clear hcz14_1
             try clear hcz14_2
             try clear hcz17_0
             try clear hcz17_1
             try clear hcz17_2
             try clear hcz7_0
             try clear hcz7_1
             try clear hcz7_2
             try clear hcz8_0
             try clear hcz8_1
             try clear hcz8_2
             try clear hfz14_0
             try clear hfz14_1
             try clear hfz14_2
             try clear hfz17_0
             try clear hfz17_1
             try clear hfz17_2
             try clear hfz7_0
             try clear hfz7_1
             try clear hfz7_2
             try clear hfz8_0
             try clear hfz8_1
             try clear hfz8_2
             try clear p2
             try clear p6
             obtain ⟨x7_3, x9_3, x471000_3, x471001_3, x471002_3, rfl, HA, HK3, HO_7, HI470, HB⟩ := hrel
             cases gk with
             | zero => exact absurd HA.out (by simp [tithebarnref04_Read.l0])
             | succ k3 =>
              have H := HA.out
              clear HA
              simp only [tithebarnref04_Read.l0] at H
              have HC27 := Aside0.mk H
              clear H
              go_upto_region 18 with (fail)
              repeat (go_quiet (fail); go_upto_region 18 with (fail))
              go_cut [74] (fun v74 wc => ∃ (kq : Nat) (x74_26 : Bool), v74 = .bool x74_26 ∧ Aside0 (tithebarnref04_Read.j3 kq t471 t475 x7_3 x9_3 x74_26 x471000_3 x471001_3 x471002_3 = some (r1, r2)) ∧ Aside0 (kq ≤ k3) ∧ Aside0 (Kd.R (Kd.int .i64) 2 wc w.heap.size (fun _ => True) u7 x7_3) ∧ Aside0 (IsS55 w wc gb470 x471000_3 x471001_3 x471002_3) ∧ Aside0 (Below w.heap.size w wc))
              case first =>
               have H := HC27.out
               clear HC27
               by_cases c28 : x9_3 < t475
               ·rw [if_pos c28] at H
                have c28b0 : decide (x9_3 < t475) = true := decide_eq_true c28
                clear c28
                (first | rw [c28b0] | (simp only [i64_w, i32_w]; rw [c28b0]) | skip)
                have H' := Aside0.mk H
                clear H
                obtain ⟨HGz29, hgz29⟩ := HI470.out
                have hcz29_0 := cellS55_0 HGz29
                have hcz29_1 := cellS55_1 HGz29
                have hcz29_2 := cellS55_2 HGz29
                have hfz29_0 := blk_frozen HGz29 0
                have hfz29_1 := blk_frozen HGz29 1
                have hfz29_2 := blk_frozen HGz29 2
                clear HGz29 hgz29
                go_wp2
                repeat (go_quiet (fail); try go_wp2)
                go_meet
                case rel => exact ⟨_, ((x471002_3 == 0)), z11_, H', ⟨by have := HJ2.out; have := HJ20.out; have := HK3.out; first | omega | exact Nat.le_refl _⟩, ⟨by (with_reducible repeat (first | apply Kd.R_alloc | apply Kd.R_drewN | apply Kd.R_drew)); exact HO_7.out⟩, ⟨z7_⟩, ⟨z8_⟩⟩
               ·rw [if_neg c28] at H
                have c28b0 : decide (x9_3 < t475) = false := decide_eq_false c28
                clear c28
                (first | rw [c28b0] | (simp only [i64_w, i32_w]; rw [c28b0]) | skip)
                have H' := Aside0.mk H
                clear H
                go_wp2
                repeat (go_quiet (fail); try go_wp2)
                go_meet
                case rel => exact ⟨_, (false), z11_, H', ⟨by have := HJ2.out; have := HJ20.out; have := HK3.out; first | omega | exact Nat.le_refl _⟩, ⟨by (with_reducible repeat (first | apply Kd.R_alloc | apply Kd.R_drewN | apply Kd.R_drew)); exact HO_7.out⟩, ⟨z7_⟩, ⟨z8_⟩⟩
              case rest =>
               clear HC27
               try clear c1
               try clear c2
               try clear p2
               try clear c6
               try clear c6b0
               try clear c6b1
               try clear p6
               try clear c9
               try clear c11
               try clear c11b0
               try clear c11b1
               try clear c12
               try clear c12b0
               try clear c13
               try clear c18
               try clear c18b0
               try clear c18b1
               try clear c22
               try clear c22b0
               try clear c22b1
               try clear c23
               try clear c26
               try clear c26b0
               try clear c28
               try clear c28b0
               try clear hcz14_0
               try clear hcz14_1
               try clear hcz14_2
               try clear hcz17_0
               try clear hcz17_1
               try clear hcz17_2
               try clear hcz29_0
               try clear hcz29_1
               try clear hcz29_2
               try clear hcz7_0
               try clear hcz7_1
               try clear hcz7_2
               try clear hcz8_0
               try clear hcz8_1
               try clear hcz8_2
               try clear hfz14_0
               try clear hfz14_1
               try clear hfz14_2
               try clear hfz17_0
               try clear hfz17_1
               try clear hfz17_2
               try clear hfz29_0
               try clear hfz29_1
               try clear hfz29_2
               try clear hfz7_0
               try clear hfz7_1
               try clear hfz7_2
               try clear hfz8_0
               try clear hfz8_1
               try clear hfz8_2
               try clear p2
               try clear p6
               obtain ⟨kq, x74_26, rfl, HA, HJ26, HO_7, HI470, HB⟩ := hcut
               cases kq with
               | zero => exact absurd HA.out (by simp [tithebarnref04_Read.j3])
               | succ kj26 =>
                have H := HA.out
                clear HA
                simp only [tithebarnref04_Read.j3] at H
                by_cases c30 : x74_26 = true
                ·subst c30
                 have H1 : ((tithebarnref01_Cursor_Int.f kj26 x471000_3 x471001_3 x471002_3).bind fun bt493 => (if t471 = 1 then (if x9_3 > 0 then (if 0 ≤ (IntKind.u64.wrap (x9_3 - 1)) then (if (IntKind.u64.wrap (x9_3 - 1)) < (x7_3.length : Int) then (if x7_3.length < 17592186044416 then (tithebarnref04_Read.l0 kj26 t471 t475 (x7_3 ++ [wrap64 (IntKind.u64.wrap ((IntKind.u64.wrap (rd x7_3 (IntKind.u64.wrap (x9_3 - 1)))) + (IntKind.u64.wrap (bt493.1))))]) (IntKind.u64.wrap (x9_3 + 1)) bt493.2.1 bt493.2.2.1 bt493.2.2.2) else (none)) else (none)) else (none)) else (if x7_3.length < 17592186044416 then (tithebarnref04_Read.l0 kj26 t471 t475 (x7_3 ++ [bt493.1]) (IntKind.u64.wrap (x9_3 + 1)) bt493.2.1 bt493.2.2.1 bt493.2.2.2) else (none))) else (if x7_3.length < 17592186044416 then (tithebarnref04_Read.l0 kj26 t471 t475 (x7_3 ++ [bt493.1]) (IntKind.u64.wrap (x9_3 + 1)) bt493.2.1 bt493.2.2.1 bt493.2.2.2) else (none)))) = some (r1, r2) := by rw [if_pos rfl] at H; exact H
                 clear H
                 have H := H1
                 clear H1
                 replace H := Option.bind_eq_some_iff.mp H
                 obtain ⟨⟨t493, t494, t495, t496⟩, A310, H⟩ := H
                 replace H : (if t471 = 1 then (if x9_3 > 0 then (if 0 ≤ (IntKind.u64.wrap (x9_3 - 1)) then (if (IntKind.u64.wrap (x9_3 - 1)) < (x7_3.length : Int) then (if x7_3.length < 17592186044416 then (tithebarnref04_Read.l0 kj26 t471 t475 (x7_3 ++ [wrap64 (IntKind.u64.wrap ((IntKind.u64.wrap (rd x7_3 (IntKind.u64.wrap (x9_3 - 1)))) + (IntKind.u64.wrap (t493))))]) (IntKind.u64.wrap (x9_3 + 1)) t494 t495 t496) else (none)) else (none)) else (none)) else (if x7_3.length < 17592186044416 then (tithebarnref04_Read.l0 kj26 t471 t475 (x7_3 ++ [t493]) (IntKind.u64.wrap (x9_3 + 1)) t494 t495 t496) else (none))) else (if x7_3.length < 17592186044416 then (tithebarnref04_Read.l0 kj26 t471 t475 (x7_3 ++ [t493]) (IntKind.u64.wrap (x9_3 + 1)) t494 t495 t496) else (none))) = some (r1, r2) := H
                 have A31 := Aside0.mk A310
                 clear A310
                 by_cases c32 : t471 = 1
                 ·rw [if_pos c32] at H
                  have c32b0 : (t471 == 1) = true := beq_iff_eq.mpr c32
                  have c32b1 : (t471 != 1) = false := bne_eq_false_iff_eq.mpr c32
                  clear c32
                  by_cases c33 : x9_3 > 0
                  ·rw [if_pos c33] at H
                   have c33b0 : decide (0 < x9_3) = true := decide_eq_true c33
                   clear c33
                   obtain ⟨ji34, hji34⟩ : ∃ j_ : Int, (IntKind.u64.wrap (x9_3 - 1)) = j_ := ⟨_, rfl⟩
                   replace H : (if 0 ≤ (ji34) then (if (ji34) < (x7_3.length : Int) then (if x7_3.length < 17592186044416 then (tithebarnref04_Read.l0 kj26 t471 t475 (x7_3 ++ [wrap64 (IntKind.u64.wrap ((IntKind.u64.wrap (rd x7_3 (ji34))) + (IntKind.u64.wrap (t493))))]) (IntKind.u64.wrap (x9_3 + 1)) t494 t495 t496) else (none)) else (none)) else (none)) = some (r1, r2) := by first | (rw [hji34] at H; exact H) | (simp only [hji34] at H ⊢; exact H)
                   (try rw [hji34] at A31)
                   by_cases c35 : 0 ≤ (ji34)
                   ·rw [if_pos c35] at H
                    have c35b0 : decide (0 ≤ (ji34)) = true := decide_eq_true c35
                    clear c35
                    by_cases c36 : (ji34) < (x7_3.length : Int)
                    ·rw [if_pos c36] at H
                     have c36b0 : decide ((ji34) < (x7_3.length : Int)) = true := decide_eq_true c36
                     clear c36
                     by_cases c37 : x7_3.length < 17592186044416
                     ·rw [if_pos c37] at H
                      have LMc37 := Aside0.mk c37
                      clear c37
                      obtain ⟨y498, hy498⟩ : ∃ y_ : List Int, y_ = (x7_3 ++ [wrap64 (IntKind.u64.wrap ((IntKind.u64.wrap (rd x7_3 (ji34))) + (IntKind.u64.wrap (t493))))]) := ⟨_, rfl⟩
                      replace H : (tithebarnref04_Read.l0 kj26 t471 t475 y498 (IntKind.u64.wrap (x9_3 + 1)) t494 t495 t496) = some (r1, r2) := by first | (rw [hy498]; with_reducible exact H) | (have H2_ := (Option.bind_some _ _).symm.trans H; rw [hy498]; with_reducible exact H2_) | (have H2_ := (Option.bind_some _ _).symm.trans H; with_reducible exact H2_) | with_reducible exact H | (rw [hy498]; exact H) | exact H
                      have Ny498 := Aside0.mk hy498
                      clear hy498
                      have H' := Aside0.mk H
                      clear H
                      go_wp2_with (first | (go_at_call 32; (with_reducible refine (tithebarnref01_Cursor_Int.calls kj26 gb470 x471000_3 x471001_3 x471002_3 t493 t494 t495 t496 w _ ?side1 ?side2 A31.out).mono ?_); (case side1 => repeat (first | (with_reducible first | exact HI470.out | apply IsS55.alloc | apply IsS55.drewN | apply IsS55.drew | apply IsS55.set_0 | apply IsS55.set_1 | apply IsS55.set_2) | exact HI470.out)); (case side2 => repeat (first | (with_reducible first | exact HB.out | apply below_alloc | apply pw_below_drewN | apply below_drew1 | refine below_set ?_ (IsS55.ge HI470.out)) | exact HB.out)); rintro e w38 ⟨rfl, hi, hb, hk⟩; have n0_ := Aside0.mk (Kd.R_mono (Kd.R_keep (IsS55.apart (show IsS55 w _ gb470 x471000_3 x471001_3 x471002_3 from z7_) (by (with_reducible repeat (first | apply Kd.R_alloc | apply Kd.R_drewN | apply Kd.R_drew)); exact HO_7.out) (by decide)) hk (fun _ h => h.2)) (fun _ h => h.1)); have n1_ := Aside0.mk (hb); have n2_ := Aside0.mk (hi); clear HO_7; clear HB; clear HI470; have HO_7 := n0_; have HB := n1_; have HI470 := n2_; clear n0_ n1_ n2_; (try clear hb); (try clear hb2); (try clear hk); (try clear hi); obtain ⟨Ao39, co39, eo39⟩ := Kd.R_slice HO_7.out; subst eo39; have p497 : 0 ≤ ((ji34) : Int) := of_decide_eq_true z12_; have q497 : (ji34) < (x7_3.length : Int) := of_decide_eq_true z12_; obtain ⟨ad497, e497, hx497_0⟩ := Kd.at_int (Kd.R_reads' HO_7.out).2.2 (ji34) p497 q497; cases e497; replace p497 := eq_true p497; replace q497 := eq_true q497) | ((with_reducible refine gate_builtin (b := .append) (xs := #[.tmp 95, .tmp 97]) rfl ?_); at_builtin; refine Kd.R_append (Kd.int .i64) (w0 := w) w.heap.size rfl (.tmp 95) (.tmp 97) 22 2 (.int .i64 0) 8 rfl Try.underlying22 info2 rfl (by decide) (by omega) (.slice (some ad497) x7_3.length co39) x7_3 (wrap64 (IntKind.u64.wrap ((IntKind.u64.wrap (rd x7_3 (ji34))) + (IntKind.u64.wrap (t493))))) [.int .i64 (wrap64 (IntKind.u64.wrap ((IntKind.u64.wrap (rd x7_3 (ji34))) + (IntKind.u64.wrap (t493)))))] (fun _ => True) (fun _ => False) rfl rfl ?aP (fun _ hk => hk.elim) ?aF ?aO ?aB ?aS ?aL ?_; (case aP => exact rfl); (case aB => exact z8_); (case aF => exact (fun _ _ => trivial)); (case aO => exact (by (with_reducible repeat (first | apply Kd.R_alloc | apply Kd.R_drewN | apply Kd.R_drew)); exact HO_7.out)); (case aS => exact (below_size z8_)); (case aL => have := LMc37.out; omega); intro v499 w40 ho hb hg hat; rw [← Ny498.out] at ho; have n0_ := Aside0.mk (IsS55.grown z7_ hg (IsS55.own_ne HI470.out HO_7.out (by decide))); have n1_ := Aside0.mk (hb); have n2_ := Aside0.mk (ho); clear HI470; clear HB; clear HO_7; have HI470 := n0_; have HB := n1_; have HO500 := n2_; clear n0_ n1_ n2_; clear ho hb hg hat))
                      repeat (go_quiet (first | (go_at_call 32; (with_reducible refine (tithebarnref01_Cursor_Int.calls kj26 gb470 x471000_3 x471001_3 x471002_3 t493 t494 t495 t496 w _ ?side1 ?side2 A31.out).mono ?_); (case side1 => repeat (first | (with_reducible first | exact HI470.out | apply IsS55.alloc | apply IsS55.drewN | apply IsS55.drew | apply IsS55.set_0 | apply IsS55.set_1 | apply IsS55.set_2) | exact HI470.out)); (case side2 => repeat (first | (with_reducible first | exact HB.out | apply below_alloc | apply pw_below_drewN | apply below_drew1 | refine below_set ?_ (IsS55.ge HI470.out)) | exact HB.out)); rintro e w38 ⟨rfl, hi, hb, hk⟩; have n0_ := Aside0.mk (Kd.R_mono (Kd.R_keep (IsS55.apart (show IsS55 w _ gb470 x471000_3 x471001_3 x471002_3 from z7_) (by (with_reducible repeat (first | apply Kd.R_alloc | apply Kd.R_drewN | apply Kd.R_drew)); exact HO_7.out) (by decide)) hk (fun _ h => h.2)) (fun _ h => h.1)); have n1_ := Aside0.mk (hb); have n2_ := Aside0.mk (hi); clear HO_7; clear HB; clear HI470; have HO_7 := n0_; have HB := n1_; have HI470 := n2_; clear n0_ n1_ n2_; (try clear hb); (try clear hb2); (try clear hk); (try clear hi); obtain ⟨Ao39, co39, eo39⟩ := Kd.R_slice HO_7.out; subst eo39; have p497 : 0 ≤ ((ji34) : Int) := of_decide_eq_true z12_; have q497 : (ji34) < (x7_3.length : Int) := of_decide_eq_true z12_; obtain ⟨ad497, e497, hx497_0⟩ := Kd.at_int (Kd.R_reads' HO_7.out).2.2 (ji34) p497 q497; cases e497; replace p497 := eq_true p497; replace q497 := eq_true q497) | ((with_reducible refine gate_builtin (b := .append) (xs := #[.tmp 95, .tmp 97]) rfl ?_); at_builtin; refine Kd.R_append (Kd.int .i64) (w0 := w) w.heap.size rfl (.tmp 95) (.tmp 97) 22 2 (.int .i64 0) 8 rfl Try.underlying22 info2 rfl (by decide) (by omega) (.slice (some ad497) x7_3.length co39) x7_3 (wrap64 (IntKind.u64.wrap ((IntKind.u64.wrap (rd x7_3 (ji34))) + (IntKind.u64.wrap (t493))))) [.int .i64 (wrap64 (IntKind.u64.wrap ((IntKind.u64.wrap (rd x7_3 (ji34))) + (IntKind.u64.wrap (t493)))))] (fun _ => True) (fun _ => False) rfl rfl ?aP (fun _ hk => hk.elim) ?aF ?aO ?aB ?aS ?aL ?_; (case aP => exact rfl); (case aB => exact z8_); (case aF => exact (fun _ _ => trivial)); (case aO => exact (by (with_reducible repeat (first | apply Kd.R_alloc | apply Kd.R_drewN | apply Kd.R_drew)); exact HO_7.out)); (case aS => exact (below_size z8_)); (case aL => have := LMc37.out; omega); intro v499 w40 ho hb hg hat; rw [← Ny498.out] at ho; have n0_ := Aside0.mk (IsS55.grown z7_ hg (IsS55.own_ne HI470.out HO_7.out (by decide))); have n1_ := Aside0.mk (hb); have n2_ := Aside0.mk (ho); clear HI470; clear HB; clear HO_7; have HI470 := n0_; have HB := n1_; have HO500 := n2_; clear n0_ n1_ n2_; clear ho hb hg hat)); try go_wp2_with (first | (go_at_call 32; (with_reducible refine (tithebarnref01_Cursor_Int.calls kj26 gb470 x471000_3 x471001_3 x471002_3 t493 t494 t495 t496 w _ ?side1 ?side2 A31.out).mono ?_); (case side1 => repeat (first | (with_reducible first | exact HI470.out | apply IsS55.alloc | apply IsS55.drewN | apply IsS55.drew | apply IsS55.set_0 | apply IsS55.set_1 | apply IsS55.set_2) | exact HI470.out)); (case side2 => repeat (first | (with_reducible first | exact HB.out | apply below_alloc | apply pw_below_drewN | apply below_drew1 | refine below_set ?_ (IsS55.ge HI470.out)) | exact HB.out)); rintro e w38 ⟨rfl, hi, hb, hk⟩; have n0_ := Aside0.mk (Kd.R_mono (Kd.R_keep (IsS55.apart (show IsS55 w _ gb470 x471000_3 x471001_3 x471002_3 from z7_) (by (with_reducible repeat (first | apply Kd.R_alloc | apply Kd.R_drewN | apply Kd.R_drew)); exact HO_7.out) (by decide)) hk (fun _ h => h.2)) (fun _ h => h.1)); have n1_ := Aside0.mk (hb); have n2_ := Aside0.mk (hi); clear HO_7; clear HB; clear HI470; have HO_7 := n0_; have HB := n1_; have HI470 := n2_; clear n0_ n1_ n2_; (try clear hb); (try clear hb2); (try clear hk); (try clear hi); obtain ⟨Ao39, co39, eo39⟩ := Kd.R_slice HO_7.out; subst eo39; have p497 : 0 ≤ ((ji34) : Int) := of_decide_eq_true z12_; have q497 : (ji34) < (x7_3.length : Int) := of_decide_eq_true z12_; obtain ⟨ad497, e497, hx497_0⟩ := Kd.at_int (Kd.R_reads' HO_7.out).2.2 (ji34) p497 q497; cases e497; replace p497 := eq_true p497; replace q497 := eq_true q497) | ((with_reducible refine gate_builtin (b := .append) (xs := #[.tmp 95, .tmp 97]) rfl ?_); at_builtin; refine Kd.R_append (Kd.int .i64) (w0 := w) w.heap.size rfl (.tmp 95) (.tmp 97) 22 2 (.int .i64 0) 8 rfl Try.underlying22 info2 rfl (by decide) (by omega) (.slice (some ad497) x7_3.length co39) x7_3 (wrap64 (IntKind.u64.wrap ((IntKind.u64.wrap (rd x7_3 (ji34))) + (IntKind.u64.wrap (t493))))) [.int .i64 (wrap64 (IntKind.u64.wrap ((IntKind.u64.wrap (rd x7_3 (ji34))) + (IntKind.u64.wrap (t493)))))] (fun _ => True) (fun _ => False) rfl rfl ?aP (fun _ hk => hk.elim) ?aF ?aO ?aB ?aS ?aL ?_; (case aP => exact rfl); (case aB => exact z8_); (case aF => exact (fun _ _ => trivial)); (case aO => exact (by (with_reducible repeat (first | apply Kd.R_alloc | apply Kd.R_drewN | apply Kd.R_drew)); exact HO_7.out)); (case aS => exact (below_size z8_)); (case aL => have := LMc37.out; omega); intro v499 w40 ho hb hg hat; rw [← Ny498.out] at ho; have n0_ := Aside0.mk (IsS55.grown z7_ hg (IsS55.own_ne HI470.out HO_7.out (by decide))); have n1_ := Aside0.mk (hb); have n2_ := Aside0.mk (ho); clear HI470; clear HB; clear HO_7; have HI470 := n0_; have HB := n1_; have HO500 := n2_; clear n0_ n1_ n2_; clear ho hb hg hat)))
                      go_roundg kj26
                      case measure => have := HJ2.out; have := HJ20.out; have := HK3.out; have := HJ26.out; omega
                      case rel => exact ⟨(y498), (IntKind.u64.wrap (x9_3 + 1)), (t494), (t495), (t496), z11_, H', ⟨by have := HJ2.out; have := HJ20.out; have := HK3.out; have := HJ26.out; omega⟩, ⟨by (with_reducible repeat (first | apply Kd.R_alloc | apply Kd.R_drewN | apply Kd.R_drew)); exact HO500.out⟩, ⟨z7_⟩, ⟨z8_⟩⟩
                     ·rw [if_neg c37] at H
                      exact absurd H (by simp)
                    ·rw [if_neg c36] at H
                     exact absurd H (by simp)
                   ·rw [if_neg c35] at H
                    exact absurd H (by simp)
                  ·rw [if_neg c33] at H
                   have c33b0 : decide (0 < x9_3) = false := decide_eq_false c33
                   clear c33
                   by_cases c41 : x7_3.length < 17592186044416
                   ·rw [if_pos c41] at H
                    have LMc41 := Aside0.mk c41
                    clear c41
                    obtain ⟨y501, hy501⟩ : ∃ y_ : List Int, y_ = (x7_3 ++ [t493]) := ⟨_, rfl⟩
                    replace H : (tithebarnref04_Read.l0 kj26 t471 t475 y501 (IntKind.u64.wrap (x9_3 + 1)) t494 t495 t496) = some (r1, r2) := by first | (rw [hy501]; with_reducible exact H) | (have H2_ := (Option.bind_some _ _).symm.trans H; rw [hy501]; with_reducible exact H2_) | (have H2_ := (Option.bind_some _ _).symm.trans H; with_reducible exact H2_) | with_reducible exact H | (rw [hy501]; exact H) | exact H
                    have Ny501 := Aside0.mk hy501
                    clear hy501
                    have H' := Aside0.mk H
                    clear H
                    go_wp2_with (first | (go_at_call 32; (with_reducible refine (tithebarnref01_Cursor_Int.calls kj26 gb470 x471000_3 x471001_3 x471002_3 t493 t494 t495 t496 w _ ?side1 ?side2 A31.out).mono ?_); (case side1 => repeat (first | (with_reducible first | exact HI470.out | apply IsS55.alloc | apply IsS55.drewN | apply IsS55.drew | apply IsS55.set_0 | apply IsS55.set_1 | apply IsS55.set_2) | exact HI470.out)); (case side2 => repeat (first | (with_reducible first | exact HB.out | apply below_alloc | apply pw_below_drewN | apply below_drew1 | refine below_set ?_ (IsS55.ge HI470.out)) | exact HB.out)); rintro e w42 ⟨rfl, hi, hb, hk⟩; have n0_ := Aside0.mk (Kd.R_mono (Kd.R_keep (IsS55.apart (show IsS55 w _ gb470 x471000_3 x471001_3 x471002_3 from z7_) (by (with_reducible repeat (first | apply Kd.R_alloc | apply Kd.R_drewN | apply Kd.R_drew)); exact HO_7.out) (by decide)) hk (fun _ h => h.2)) (fun _ h => h.1)); have n1_ := Aside0.mk (hb); have n2_ := Aside0.mk (hi); clear HO_7; clear HB; clear HI470; have HO_7 := n0_; have HB := n1_; have HI470 := n2_; clear n0_ n1_ n2_; (try clear hb); (try clear hb2); (try clear hk); (try clear hi)) | ((with_reducible refine gate_builtin (b := .append) (xs := #[.tmp 95, .tmp 97]) rfl ?_); at_builtin; refine Kd.R_append (Kd.int .i64) (w0 := w) w.heap.size rfl (.tmp 95) (.tmp 97) 22 2 (.int .i64 0) 8 rfl Try.underlying22 info2 rfl (by decide) (by omega) u7 x7_3 t493 [.int .i64 t493] (fun _ => True) (fun _ => False) rfl rfl ?aP (fun _ hk => hk.elim) ?aF ?aO ?aB ?aS ?aL ?_; (case aP => exact rfl); (case aB => exact z8_); (case aF => exact (fun _ _ => trivial)); (case aO => exact (by (with_reducible repeat (first | apply Kd.R_alloc | apply Kd.R_drewN | apply Kd.R_drew)); exact HO_7.out)); (case aS => exact (below_size z8_)); (case aL => have := LMc41.out; omega); intro v502 w43 ho hb hg hat; rw [← Ny501.out] at ho; have n0_ := Aside0.mk (IsS55.grown z7_ hg (IsS55.own_ne HI470.out HO_7.out (by decide))); have n1_ := Aside0.mk (hb); have n2_ := Aside0.mk (ho); clear HI470; clear HB; clear HO_7; have HI470 := n0_; have HB := n1_; have HO503 := n2_; clear n0_ n1_ n2_; clear ho hb hg hat))
                    repeat (go_quiet (first | (go_at_call 32; (with_reducible refine (tithebarnref01_Cursor_Int.calls kj26 gb470 x471000_3 x471001_3 x471002_3 t493 t494 t495 t496 w _ ?side1 ?side2 A31.out).mono ?_); (case side1 => repeat (first | (with_reducible first | exact HI470.out | apply IsS55.alloc | apply IsS55.drewN | apply IsS55.drew | apply IsS55.set_0 | apply IsS55.set_1 | apply IsS55.set_2) | exact HI470.out)); (case side2 => repeat (first | (with_reducible first | exact HB.out | apply below_alloc | apply pw_below_drewN | apply below_drew1 | refine below_set ?_ (IsS55.ge HI470.out)) | exact HB.out)); rintro e w42 ⟨rfl, hi, hb, hk⟩; have n0_ := Aside0.mk (Kd.R_mono (Kd.R_keep (IsS55.apart (show IsS55 w _ gb470 x471000_3 x471001_3 x471002_3 from z7_) (by (with_reducible repeat (first | apply Kd.R_alloc | apply Kd.R_drewN | apply Kd.R_drew)); exact HO_7.out) (by decide)) hk (fun _ h => h.2)) (fun _ h => h.1)); have n1_ := Aside0.mk (hb); have n2_ := Aside0.mk (hi); clear HO_7; clear HB; clear HI470; have HO_7 := n0_; have HB := n1_; have HI470 := n2_; clear n0_ n1_ n2_; (try clear hb); (try clear hb2); (try clear hk); (try clear hi)) | ((with_reducible refine gate_builtin (b := .append) (xs := #[.tmp 95, .tmp 97]) rfl ?_); at_builtin; refine Kd.R_append (Kd.int .i64) (w0 := w) w.heap.size rfl (.tmp 95) (.tmp 97) 22 2 (.int .i64 0) 8 rfl Try.underlying22 info2 rfl (by decide) (by omega) u7 x7_3 t493 [.int .i64 t493] (fun _ => True) (fun _ => False) rfl rfl ?aP (fun _ hk => hk.elim) ?aF ?aO ?aB ?aS ?aL ?_; (case aP => exact rfl); (case aB => exact z8_); (case aF => exact (fun _ _ => trivial)); (case aO => exact (by (with_reducible repeat (first | apply Kd.R_alloc | apply Kd.R_drewN | apply Kd.R_drew)); exact HO_7.out)); (case aS => exact (below_size z8_)); (case aL => have := LMc41.out; omega); intro v502 w43 ho hb hg hat; rw [← Ny501.out] at ho; have n0_ := Aside0.mk (IsS55.grown z7_ hg (IsS55.own_ne HI470.out HO_7.out (by decide))); have n1_ := Aside0.mk (hb); have n2_ := Aside0.mk (ho); clear HI470; clear HB; clear HO_7; have HI470 := n0_; have HB := n1_; have HO503 := n2_; clear n0_ n1_ n2_; clear ho hb hg hat)); try go_wp2_with (first | (go_at_call 32; (with_reducible refine (tithebarnref01_Cursor_Int.calls kj26 gb470 x471000_3 x471001_3 x471002_3 t493 t494 t495 t496 w _ ?side1 ?side2 A31.out).mono ?_); (case side1 => repeat (first | (with_reducible first | exact HI470.out | apply IsS55.alloc | apply IsS55.drewN | apply IsS55.drew | apply IsS55.set_0 | apply IsS55.set_1 | apply IsS55.set_2) | exact HI470.out)); (case side2 => repeat (first | (with_reducible first | exact HB.out | apply below_alloc | apply pw_below_drewN | apply below_drew1 | refine below_set ?_ (IsS55.ge HI470.out)) | exact HB.out)); rintro e w42 ⟨rfl, hi, hb, hk⟩; have n0_ := Aside0.mk (Kd.R_mono (Kd.R_keep (IsS55.apart (show IsS55 w _ gb470 x471000_3 x471001_3 x471002_3 from z7_) (by (with_reducible repeat (first | apply Kd.R_alloc | apply Kd.R_drewN | apply Kd.R_drew)); exact HO_7.out) (by decide)) hk (fun _ h => h.2)) (fun _ h => h.1)); have n1_ := Aside0.mk (hb); have n2_ := Aside0.mk (hi); clear HO_7; clear HB; clear HI470; have HO_7 := n0_; have HB := n1_; have HI470 := n2_; clear n0_ n1_ n2_; (try clear hb); (try clear hb2); (try clear hk); (try clear hi)) | ((with_reducible refine gate_builtin (b := .append) (xs := #[.tmp 95, .tmp 97]) rfl ?_); at_builtin; refine Kd.R_append (Kd.int .i64) (w0 := w) w.heap.size rfl (.tmp 95) (.tmp 97) 22 2 (.int .i64 0) 8 rfl Try.underlying22 info2 rfl (by decide) (by omega) u7 x7_3 t493 [.int .i64 t493] (fun _ => True) (fun _ => False) rfl rfl ?aP (fun _ hk => hk.elim) ?aF ?aO ?aB ?aS ?aL ?_; (case aP => exact rfl); (case aB => exact z8_); (case aF => exact (fun _ _ => trivial)); (case aO => exact (by (with_reducible repeat (first | apply Kd.R_alloc | apply Kd.R_drewN | apply Kd.R_drew)); exact HO_7.out)); (case aS => exact (below_size z8_)); (case aL => have := LMc41.out; omega); intro v502 w43 ho hb hg hat; rw [← Ny501.out] at ho; have n0_ := Aside0.mk (IsS55.grown z7_ hg (IsS55.own_ne HI470.out HO_7.out (by decide))); have n1_ := Aside0.mk (hb); have n2_ := Aside0.mk (ho); clear HI470; clear HB; clear HO_7; have HI470 := n0_; have HB := n1_; have HO503 := n2_; clear n0_ n1_ n2_; clear ho hb hg hat)))
                    go_roundg kj26
                    case measure => have := HJ2.out; have := HJ20.out; have := HK3.out; have := HJ26.out; omega
                    case rel => exact ⟨(y501), (IntKind.u64.wrap (x9_3 + 1)), (t494), (t495), (t496), z11_, H', ⟨by have := HJ2.out; have := HJ20.out; have := HK3.out; have := HJ26.out; omega⟩, ⟨by (with_reducible repeat (first | apply Kd.R_alloc | apply Kd.R_drewN | apply Kd.R_drew)); exact HO503.out⟩, ⟨z7_⟩, ⟨z8_⟩⟩
                   ·rw [if_neg c41] at H
                    exact absurd H (by simp)
                 ·rw [if_neg c32] at H
                  have c32b0 : (t471 == 1) = false := beq_eq_false_iff_ne.mpr c32
                  have c32b1 : (t471 != 1) = true := bne_iff_ne.mpr c32
                  by_cases c44 : x7_3.length < 17592186044416
                  ·rw [if_pos c44] at H
                   have LMc44 := Aside0.mk c44
                   clear c44
                   obtain ⟨y504, hy504⟩ : ∃ y_ : List Int, y_ = (x7_3 ++ [t493]) := ⟨_, rfl⟩
                   replace H : (tithebarnref04_Read.l0 kj26 t471 t475 y504 (IntKind.u64.wrap (x9_3 + 1)) t494 t495 t496) = some (r1, r2) := by first | (rw [hy504]; with_reducible exact H) | (have H2_ := (Option.bind_some _ _).symm.trans H; rw [hy504]; with_reducible exact H2_) | (have H2_ := (Option.bind_some _ _).symm.trans H; with_reducible exact H2_) | with_reducible exact H | (rw [hy504]; exact H) | exact H
                   have Ny504 := Aside0.mk hy504
                   clear hy504
                   have H' := Aside0.mk H
                   clear H
                   go_wp2_with (first | (go_at_call 32; (with_reducible refine (tithebarnref01_Cursor_Int.calls kj26 gb470 x471000_3 x471001_3 x471002_3 t493 t494 t495 t496 w _ ?side1 ?side2 A31.out).mono ?_); (case side1 => repeat (first | (with_reducible first | exact HI470.out | apply IsS55.alloc | apply IsS55.drewN | apply IsS55.drew | apply IsS55.set_0 | apply IsS55.set_1 | apply IsS55.set_2) | exact HI470.out)); (case side2 => repeat (first | (with_reducible first | exact HB.out | apply below_alloc | apply pw_below_drewN | apply below_drew1 | refine below_set ?_ (IsS55.ge HI470.out)) | exact HB.out)); rintro e w45 ⟨rfl, hi, hb, hk⟩; have n0_ := Aside0.mk (Kd.R_mono (Kd.R_keep (IsS55.apart (show IsS55 w _ gb470 x471000_3 x471001_3 x471002_3 from z7_) (by (with_reducible repeat (first | apply Kd.R_alloc | apply Kd.R_drewN | apply Kd.R_drew)); exact HO_7.out) (by decide)) hk (fun _ h => h.2)) (fun _ h => h.1)); have n1_ := Aside0.mk (hb); have n2_ := Aside0.mk (hi); clear HO_7; clear HB; clear HI470; have HO_7 := n0_; have HB := n1_; have HI470 := n2_; clear n0_ n1_ n2_; (try clear hb); (try clear hb2); (try clear hk); (try clear hi)) | ((with_reducible refine gate_builtin (b := .append) (xs := #[.tmp 95, .tmp 97]) rfl ?_); at_builtin; refine Kd.R_append (Kd.int .i64) (w0 := w) w.heap.size rfl (.tmp 95) (.tmp 97) 22 2 (.int .i64 0) 8 rfl Try.underlying22 info2 rfl (by decide) (by omega) u7 x7_3 t493 [.int .i64 t493] (fun _ => True) (fun _ => False) rfl rfl ?aP (fun _ hk => hk.elim) ?aF ?aO ?aB ?aS ?aL ?_; (case aP => exact rfl); (case aB => exact z8_); (case aF => exact (fun _ _ => trivial)); (case aO => exact (by (with_reducible repeat (first | apply Kd.R_alloc | apply Kd.R_drewN | apply Kd.R_drew)); exact HO_7.out)); (case aS => exact (below_size z8_)); (case aL => have := LMc44.out; omega); intro v505 w46 ho hb hg hat; rw [← Ny504.out] at ho; have n0_ := Aside0.mk (IsS55.grown z7_ hg (IsS55.own_ne HI470.out HO_7.out (by decide))); have n1_ := Aside0.mk (hb); have n2_ := Aside0.mk (ho); clear HI470; clear HB; clear HO_7; have HI470 := n0_; have HB := n1_; have HO506 := n2_; clear n0_ n1_ n2_; clear ho hb hg hat))
                   repeat (go_quiet (first | (go_at_call 32; (with_reducible refine (tithebarnref01_Cursor_Int.calls kj26 gb470 x471000_3 x471001_3 x471002_3 t493 t494 t495 t496 w _ ?side1 ?side2 A31.out).mono ?_); (case side1 => repeat (first | (with_reducible first | exact HI470.out | apply IsS55.alloc | apply IsS55.drewN | apply IsS55.drew | apply IsS55.set_0 | apply IsS55.set_1 | apply IsS55.set_2) | exact HI470.out)); (case side2 => repeat (first | (with_reducible first | exact HB.out | apply below_alloc | apply pw_below_drewN | apply below_drew1 | refine below_set ?_ (IsS55.ge HI470.out)) | exact HB.out)); rintro e w45 ⟨rfl, hi, hb, hk⟩; have n0_ := Aside0.mk (Kd.R_mono (Kd.R_keep (IsS55.apart (show IsS55 w _ gb470 x471000_3 x471001_3 x471002_3 from z7_) (by (with_reducible repeat (first | apply Kd.R_alloc | apply Kd.R_drewN | apply Kd.R_drew)); exact HO_7.out) (by decide)) hk (fun _ h => h.2)) (fun _ h => h.1)); have n1_ := Aside0.mk (hb); have n2_ := Aside0.mk (hi); clear HO_7; clear HB; clear HI470; have HO_7 := n0_; have HB := n1_; have HI470 := n2_; clear n0_ n1_ n2_; (try clear hb); (try clear hb2); (try clear hk); (try clear hi)) | ((with_reducible refine gate_builtin (b := .append) (xs := #[.tmp 95, .tmp 97]) rfl ?_); at_builtin; refine Kd.R_append (Kd.int .i64) (w0 := w) w.heap.size rfl (.tmp 95) (.tmp 97) 22 2 (.int .i64 0) 8 rfl Try.underlying22 info2 rfl (by decide) (by omega) u7 x7_3 t493 [.int .i64 t493] (fun _ => True) (fun _ => False) rfl rfl ?aP (fun _ hk => hk.elim) ?aF ?aO ?aB ?aS ?aL ?_; (case aP => exact rfl); (case aB => exact z8_); (case aF => exact (fun _ _ => trivial)); (case aO => exact (by (with_reducible repeat (first | apply Kd.R_alloc | apply Kd.R_drewN | apply Kd.R_drew)); exact HO_7.out)); (case aS => exact (below_size z8_)); (case aL => have := LMc44.out; omega); intro v505 w46 ho hb hg hat; rw [← Ny504.out] at ho; have n0_ := Aside0.mk (IsS55.grown z7_ hg (IsS55.own_ne HI470.out HO_7.out (by decide))); have n1_ := Aside0.mk (hb); have n2_ := Aside0.mk (ho); clear HI470; clear HB; clear HO_7; have HI470 := n0_; have HB := n1_; have HO506 := n2_; clear n0_ n1_ n2_; clear ho hb hg hat)); try go_wp2_with (first | (go_at_call 32; (with_reducible refine (tithebarnref01_Cursor_Int.calls kj26 gb470 x471000_3 x471001_3 x471002_3 t493 t494 t495 t496 w _ ?side1 ?side2 A31.out).mono ?_); (case side1 => repeat (first | (with_reducible first | exact HI470.out | apply IsS55.alloc | apply IsS55.drewN | apply IsS55.drew | apply IsS55.set_0 | apply IsS55.set_1 | apply IsS55.set_2) | exact HI470.out)); (case side2 => repeat (first | (with_reducible first | exact HB.out | apply below_alloc | apply pw_below_drewN | apply below_drew1 | refine below_set ?_ (IsS55.ge HI470.out)) | exact HB.out)); rintro e w45 ⟨rfl, hi, hb, hk⟩; have n0_ := Aside0.mk (Kd.R_mono (Kd.R_keep (IsS55.apart (show IsS55 w _ gb470 x471000_3 x471001_3 x471002_3 from z7_) (by (with_reducible repeat (first | apply Kd.R_alloc | apply Kd.R_drewN | apply Kd.R_drew)); exact HO_7.out) (by decide)) hk (fun _ h => h.2)) (fun _ h => h.1)); have n1_ := Aside0.mk (hb); have n2_ := Aside0.mk (hi); clear HO_7; clear HB; clear HI470; have HO_7 := n0_; have HB := n1_; have HI470 := n2_; clear n0_ n1_ n2_; (try clear hb); (try clear hb2); (try clear hk); (try clear hi)) | ((with_reducible refine gate_builtin (b := .append) (xs := #[.tmp 95, .tmp 97]) rfl ?_); at_builtin; refine Kd.R_append (Kd.int .i64) (w0 := w) w.heap.size rfl (.tmp 95) (.tmp 97) 22 2 (.int .i64 0) 8 rfl Try.underlying22 info2 rfl (by decide) (by omega) u7 x7_3 t493 [.int .i64 t493] (fun _ => True) (fun _ => False) rfl rfl ?aP (fun _ hk => hk.elim) ?aF ?aO ?aB ?aS ?aL ?_; (case aP => exact rfl); (case aB => exact z8_); (case aF => exact (fun _ _ => trivial)); (case aO => exact (by (with_reducible repeat (first | apply Kd.R_alloc | apply Kd.R_drewN | apply Kd.R_drew)); exact HO_7.out)); (case aS => exact (below_size z8_)); (case aL => have := LMc44.out; omega); intro v505 w46 ho hb hg hat; rw [← Ny504.out] at ho; have n0_ := Aside0.mk (IsS55.grown z7_ hg (IsS55.own_ne HI470.out HO_7.out (by decide))); have n1_ := Aside0.mk (hb); have n2_ := Aside0.mk (ho); clear HI470; clear HB; clear HO_7; have HI470 := n0_; have HB := n1_; have HO506 := n2_; clear n0_ n1_ n2_; clear ho hb hg hat)))
                   go_roundg kj26
                   case measure => have := HJ2.out; have := HJ20.out; have := HK3.out; have := HJ26.out; omega
                   case rel => exact ⟨(y504), (IntKind.u64.wrap (x9_3 + 1)), (t494), (t495), (t496), z11_, H', ⟨by have := HJ2.out; have := HJ20.out; have := HK3.out; have := HJ26.out; omega⟩, ⟨by (with_reducible repeat (first | apply Kd.R_alloc | apply Kd.R_drewN | apply Kd.R_drew)); exact HO506.out⟩, ⟨z7_⟩, ⟨z8_⟩⟩
                  ·rw [if_neg c44] at H
                   exact absurd H (by simp)
                ·replace c30 := Bool.eq_false_iff.mpr c30
                 subst c30
                 have H1 : (tithebarnref04_Read.j4 kj26 x7_3 x471002_3 x471000_3 x471001_3 x471002_3) = some (r1, r2) := by rw [if_neg (show ¬ (false = true) by decide)] at H; exact H
                 clear H
                 have H := H1
                 clear H1
                 have H' := Aside0.mk H
                 clear H
                 obtain ⟨HGz47, hgz47⟩ := HI470.out
                 have hcz47_0 := cellS55_0 HGz47
                 have hcz47_1 := cellS55_1 HGz47
                 have hcz47_2 := cellS55_2 HGz47
                 have hfz47_0 := blk_frozen HGz47 0
                 have hfz47_1 := blk_frozen HGz47 1
                 have hfz47_2 := blk_frozen HGz47 2
                 clear HGz47 hgz47
                 go_wp2
                 repeat (go_quiet (fail); try go_wp2)
                 go_meet
                 case rel => exact ⟨_, (x7_3), (x471002_3), (x471000_3), (x471001_3), (x471002_3), z11_, H', ⟨by have := HJ2.out; have := HJ20.out; have := HK3.out; have := HJ26.out; first | omega | exact Nat.le_refl _⟩, ⟨by (with_reducible repeat (first | apply Kd.R_alloc | apply Kd.R_drewN | apply Kd.R_drew)); exact HO_7.out⟩, ⟨z7_⟩, ⟨z8_⟩⟩
           ·rw [if_neg c26] at H
            have c26b0 : decide (t471 < 2) = false := decide_eq_false c26
            clear c26
            have H' := Aside0.mk H
            clear H
            go_wp2
            repeat (go_quiet (fail); try go_wp2)
            go_meet
            case rel => exact ⟨_, (([] : List Int)), (0), (t476), (t477), (t478), z11_, H', ⟨by have := HJ2.out; have := HJ20.out; first | omega | exact Nat.le_refl _⟩, ⟨by (with_reducible repeat (first | apply Kd.R_alloc | apply Kd.R_drewN | apply Kd.R_drew)); exact HO_7.out⟩, ⟨z7_⟩, ⟨z8_⟩⟩
      case rest =>
       clear HC15
       try clear c1
       try clear c2
       try clear p2
       try clear c3
       try clear c4
       try clear p4
       try clear q4
       try clear hx4
       try clear c6
       try clear c6b0
       try clear c6b1
       try clear p6
       try clear c9
       try clear c11
       try clear c11b0
       try clear c11b1
       try clear c12
       try clear c12b0
       try clear c13
       try clear c18
       try clear c18b0
       try clear c18b1
       try clear c22
       try clear c22b0
       try clear c22b1
       try clear c23
       try clear c26
       try clear c26b0
       try clear c28
       try clear c28b0
       try clear c30
       try clear c32
       try clear c32b0
       try clear c32b1
       try clear c33
       try clear c33b0
       try clear c35
       try clear c35b0
       try clear c36
       try clear c36b0
       try clear c37
       try clear c41
       try clear c44
       try clear hcz14_0
       try clear hcz14_1
       try clear hcz14_2
       try clear hcz17_0
       try clear hcz17_1
       try clear hcz17_2
       try clear hcz29_0
       try clear hcz29_1
       try clear hcz29_2
       try clear hcz47_0
       try clear hcz47_1
       try clear hcz47_2
       try clear hcz7_0
       try clear hcz7_1
       try clear hcz7_2
       try clear hcz8_0
       try clear hcz8_1
       try clear hcz8_2
       try clear hfz14_0
       try clear hfz14_1
       try clear hfz14_2
       try clear hfz17_0
       try clear hfz17_1
       try clear hfz17_2
       try clear hfz29_0
       try clear hfz29_1
       try clear hfz29_2
       try clear hfz47_0
       try clear hfz47_1
       try clear hfz47_2
       try clear hfz7_0
       try clear hfz7_1
       try clear hfz7_2
       try clear hfz8_0
       try clear hfz8_1
       try clear hfz8_2
       try clear hx497_0
       try clear p2
       try clear p497
       try clear p6
       try clear q497
       obtain ⟨kq, x7_14, x8_14, x471000_14, x471001_14, x471002_14, rfl, HA, HJ14, HO_7, HI470, HB⟩ := hcut
       cases kq with
       | zero => exact absurd HA.out (by simp [tithebarnref04_Read.j4])
       | succ kj14 =>
        have H := HA.out
        clear HA
        simp only [tithebarnref04_Read.j4] at H
        by_cases c48 : x8_14 = 0
        ·rw [if_pos c48] at H
         have c48b0 : (x8_14 == 0) = true := beq_iff_eq.mpr c48
         have c48b1 : (x8_14 != 0) = false := bne_eq_false_iff_eq.mpr c48
         clear c48
         replace H := Option.bind_eq_some_iff.mp H
         obtain ⟨⟨t507, t508, t509, t510⟩, A490, H⟩ := H
         replace H : (if t507 = 0 then (some (x7_14, 0)) else (some (([] : List Int), t507))) = some (r1, r2) := H
         have A49 := Aside0.mk A490
         clear A490
         by_cases c50 : t507 = 0
         ·rw [if_pos c50] at H
          have c50b0 : (t507 == 0) = true := beq_iff_eq.mpr c50
          have c50b1 : (t507 != 0) = false := bne_eq_false_iff_eq.mpr c50
          clear c50
          simp only [Option.some.injEq, Prod.mk.injEq] at H
          obtain ⟨rfl, rfl⟩ := H
          go_wp2_with (first | (go_at_call 33; (with_reducible refine (tithebarnref01_Cursor_Done.calls gb470 x471000_14 x471001_14 x471002_14 t507 t508 t509 t510 w _ ?side1 ?side2 A49.out).mono ?_); (case side1 => repeat (first | (with_reducible first | exact HI470.out | apply IsS55.alloc | apply IsS55.drewN | apply IsS55.drew | apply IsS55.set_0 | apply IsS55.set_1 | apply IsS55.set_2) | exact HI470.out)); (case side2 => repeat (first | (with_reducible first | exact HB.out | apply below_alloc | apply pw_below_drewN | apply below_drew1 | refine below_set ?_ (IsS55.ge HI470.out)) | exact HB.out)); rintro e w51 ⟨rfl, hi, hb, hk⟩; have n0_ := Aside0.mk (Kd.R_mono (Kd.R_keep (IsS55.apart (show IsS55 w _ gb470 x471000_14 x471001_14 x471002_14 from z7_) (by (with_reducible repeat (first | apply Kd.R_alloc | apply Kd.R_drewN | apply Kd.R_drew)); exact HO_7.out) (by decide)) hk (fun _ h => h.2)) (fun _ h => h.1)); have n1_ := Aside0.mk (hb); have n2_ := Aside0.mk (hi); clear HO_7; clear HB; clear HI470; have HO_7 := n0_; have HB := n1_; have HI470 := n2_; clear n0_ n1_ n2_; (try clear hb); (try clear hb2); (try clear hk); (try clear hi)))
          repeat (go_quiet (first | (go_at_call 33; (with_reducible refine (tithebarnref01_Cursor_Done.calls gb470 x471000_14 x471001_14 x471002_14 t507 t508 t509 t510 w _ ?side1 ?side2 A49.out).mono ?_); (case side1 => repeat (first | (with_reducible first | exact HI470.out | apply IsS55.alloc | apply IsS55.drewN | apply IsS55.drew | apply IsS55.set_0 | apply IsS55.set_1 | apply IsS55.set_2) | exact HI470.out)); (case side2 => repeat (first | (with_reducible first | exact HB.out | apply below_alloc | apply pw_below_drewN | apply below_drew1 | refine below_set ?_ (IsS55.ge HI470.out)) | exact HB.out)); rintro e w51 ⟨rfl, hi, hb, hk⟩; have n0_ := Aside0.mk (Kd.R_mono (Kd.R_keep (IsS55.apart (show IsS55 w _ gb470 x471000_14 x471001_14 x471002_14 from z7_) (by (with_reducible repeat (first | apply Kd.R_alloc | apply Kd.R_drewN | apply Kd.R_drew)); exact HO_7.out) (by decide)) hk (fun _ h => h.2)) (fun _ h => h.1)); have n1_ := Aside0.mk (hb); have n2_ := Aside0.mk (hi); clear HO_7; clear HB; clear HI470; have HO_7 := n0_; have HB := n1_; have HI470 := n2_; clear n0_ n1_ n2_; (try clear hb); (try clear hb2); (try clear hk); (try clear hi))); try go_wp2_with (first | (go_at_call 33; (with_reducible refine (tithebarnref01_Cursor_Done.calls gb470 x471000_14 x471001_14 x471002_14 t507 t508 t509 t510 w _ ?side1 ?side2 A49.out).mono ?_); (case side1 => repeat (first | (with_reducible first | exact HI470.out | apply IsS55.alloc | apply IsS55.drewN | apply IsS55.drew | apply IsS55.set_0 | apply IsS55.set_1 | apply IsS55.set_2) | exact HI470.out)); (case side2 => repeat (first | (with_reducible first | exact HB.out | apply below_alloc | apply pw_below_drewN | apply below_drew1 | refine below_set ?_ (IsS55.ge HI470.out)) | exact HB.out)); rintro e w51 ⟨rfl, hi, hb, hk⟩; have n0_ := Aside0.mk (Kd.R_mono (Kd.R_keep (IsS55.apart (show IsS55 w _ gb470 x471000_14 x471001_14 x471002_14 from z7_) (by (with_reducible repeat (first | apply Kd.R_alloc | apply Kd.R_drewN | apply Kd.R_drew)); exact HO_7.out) (by decide)) hk (fun _ h => h.2)) (fun _ h => h.1)); have n1_ := Aside0.mk (hb); have n2_ := Aside0.mk (hi); clear HO_7; clear HB; clear HI470; have HO_7 := n0_; have HB := n1_; have HI470 := n2_; clear n0_ n1_ n2_; (try clear hb); (try clear hb2); (try clear hk); (try clear hi))))
          go_ret2
          exact ⟨_, z6_, by (with_reducible repeat (first | apply Kd.R_alloc | apply Kd.R_drewN | apply Kd.R_drew)); exact HO_7.out, z8_⟩
         ·rw [if_neg c50] at H
          have c50b0 : (t507 == 0) = false := beq_eq_false_iff_ne.mpr c50
          have c50b1 : (t507 != 0) = true := bne_iff_ne.mpr c50
          simp only [Option.some.injEq, Prod.mk.injEq] at H
          obtain ⟨rfl, rfl⟩ := H
          go_wp2_with (first | (go_at_call 33; (with_reducible refine (tithebarnref01_Cursor_Done.calls gb470 x471000_14 x471001_14 x471002_14 t507 t508 t509 t510 w _ ?side1 ?side2 A49.out).mono ?_); (case side1 => repeat (first | (with_reducible first | exact HI470.out | apply IsS55.alloc | apply IsS55.drewN | apply IsS55.drew | apply IsS55.set_0 | apply IsS55.set_1 | apply IsS55.set_2) | exact HI470.out)); (case side2 => repeat (first | (with_reducible first | exact HB.out | apply below_alloc | apply pw_below_drewN | apply below_drew1 | refine below_set ?_ (IsS55.ge HI470.out)) | exact HB.out)); rintro e w52 ⟨rfl, hi, hb, hk⟩; have n0_ := Aside0.mk (Kd.R_mono (Kd.R_keep (IsS55.apart (show IsS55 w _ gb470 x471000_14 x471001_14 x471002_14 from z7_) (by (with_reducible repeat (first | apply Kd.R_alloc | apply Kd.R_drewN | apply Kd.R_drew)); exact HO_7.out) (by decide)) hk (fun _ h => h.2)) (fun _ h => h.1)); have n1_ := Aside0.mk (hb); have n2_ := Aside0.mk (hi); clear HO_7; clear HB; clear HI470; have HO_7 := n0_; have HB := n1_; have HI470 := n2_; clear n0_ n1_ n2_; (try clear hb); (try clear hb2); (try clear hk); (try clear hi)))
          repeat (go_quiet (first | (go_at_call 33; (with_reducible refine (tithebarnref01_Cursor_Done.calls gb470 x471000_14 x471001_14 x471002_14 t507 t508 t509 t510 w _ ?side1 ?side2 A49.out).mono ?_); (case side1 => repeat (first | (with_reducible first | exact HI470.out | apply IsS55.alloc | apply IsS55.drewN | apply IsS55.drew | apply IsS55.set_0 | apply IsS55.set_1 | apply IsS55.set_2) | exact HI470.out)); (case side2 => repeat (first | (with_reducible first | exact HB.out | apply below_alloc | apply pw_below_drewN | apply below_drew1 | refine below_set ?_ (IsS55.ge HI470.out)) | exact HB.out)); rintro e w52 ⟨rfl, hi, hb, hk⟩; have n0_ := Aside0.mk (Kd.R_mono (Kd.R_keep (IsS55.apart (show IsS55 w _ gb470 x471000_14 x471001_14 x471002_14 from z7_) (by (with_reducible repeat (first | apply Kd.R_alloc | apply Kd.R_drewN | apply Kd.R_drew)); exact HO_7.out) (by decide)) hk (fun _ h => h.2)) (fun _ h => h.1)); have n1_ := Aside0.mk (hb); have n2_ := Aside0.mk (hi); clear HO_7; clear HB; clear HI470; have HO_7 := n0_; have HB := n1_; have HI470 := n2_; clear n0_ n1_ n2_; (try clear hb); (try clear hb2); (try clear hk); (try clear hi))); try go_wp2_with (first | (go_at_call 33; (with_reducible refine (tithebarnref01_Cursor_Done.calls gb470 x471000_14 x471001_14 x471002_14 t507 t508 t509 t510 w _ ?side1 ?side2 A49.out).mono ?_); (case side1 => repeat (first | (with_reducible first | exact HI470.out | apply IsS55.alloc | apply IsS55.drewN | apply IsS55.drew | apply IsS55.set_0 | apply IsS55.set_1 | apply IsS55.set_2) | exact HI470.out)); (case side2 => repeat (first | (with_reducible first | exact HB.out | apply below_alloc | apply pw_below_drewN | apply below_drew1 | refine below_set ?_ (IsS55.ge HI470.out)) | exact HB.out)); rintro e w52 ⟨rfl, hi, hb, hk⟩; have n0_ := Aside0.mk (Kd.R_mono (Kd.R_keep (IsS55.apart (show IsS55 w _ gb470 x471000_14 x471001_14 x471002_14 from z7_) (by (with_reducible repeat (first | apply Kd.R_alloc | apply Kd.R_drewN | apply Kd.R_drew)); exact HO_7.out) (by decide)) hk (fun _ h => h.2)) (fun _ h => h.1)); have n1_ := Aside0.mk (hb); have n2_ := Aside0.mk (hi); clear HO_7; clear HB; clear HI470; have HO_7 := n0_; have HB := n1_; have HI470 := n2_; clear n0_ n1_ n2_; (try clear hb); (try clear hb2); (try clear hk); (try clear hi))))
          go_ret2
          exact ⟨_, z6_, z10_, z8_⟩
        ·rw [if_neg c48] at H
         have c48b0 : (x8_14 == 0) = false := beq_eq_false_iff_ne.mpr c48
         have c48b1 : (x8_14 != 0) = true := bne_iff_ne.mpr c48
         simp only [Option.some.injEq, Prod.mk.injEq] at H
         obtain ⟨rfl, rfl⟩ := H
         go_wp2
         repeat (go_quiet (fail); try go_wp2)
         go_ret2
         exact ⟨_, z6_, z10_, z8_⟩
    ·rw [if_neg c11] at H
     have c11b0 : (t478 == 0) = false := beq_eq_false_iff_ne.mpr c11
     have c11b1 : (t478 != 0) = true := bne_iff_ne.mpr c11
     simp only [Option.some.injEq, Prod.mk.injEq] at H
     obtain ⟨rfl, rfl⟩ := H
     go_wp2_with (first | (go_at_call 29; (with_reducible refine (tithebarnref01_Cursor_Uint.calls kj2 gb470 t472 t473 t474 t475 t476 t477 t478 w _ ?side1 ?side2 A10.out).mono ?_); (case side1 => repeat (first | (with_reducible first | exact HI470.out | apply IsS55.alloc | apply IsS55.drewN | apply IsS55.drew | apply IsS55.set_0 | apply IsS55.set_1 | apply IsS55.set_2) | exact HI470.out)); (case side2 => repeat (first | (with_reducible first | exact HB.out | apply below_alloc | apply pw_below_drewN | apply below_drew1 | refine below_set ?_ (IsS55.ge HI470.out)) | exact HB.out)); rintro e w53 ⟨rfl, hi, hb, hk⟩; have n0_ := Aside0.mk (hb); have n1_ := Aside0.mk (hi); clear HB; clear HI470; have HB := n0_; have HI470 := n1_; clear n0_ n1_; (try clear hb); (try clear hb2); (try clear hk); (try clear hi); obtain ⟨HGz54, hgz54⟩ := HI470.out; have hcz54_0 := cellS55_0 HGz54; have hcz54_1 := cellS55_1 HGz54; have hcz54_2 := cellS55_2 HGz54; have hfz54_0 := blk_frozen HGz54 0; have hfz54_1 := blk_frozen HGz54 1; have hfz54_2 := blk_frozen HGz54 2; clear HGz54 hgz54))
     repeat (go_quiet (first | (go_at_call 29; (with_reducible refine (tithebarnref01_Cursor_Uint.calls kj2 gb470 t472 t473 t474 t475 t476 t477 t478 w _ ?side1 ?side2 A10.out).mono ?_); (case side1 => repeat (first | (with_reducible first | exact HI470.out | apply IsS55.alloc | apply IsS55.drewN | apply IsS55.drew | apply IsS55.set_0 | apply IsS55.set_1 | apply IsS55.set_2) | exact HI470.out)); (case side2 => repeat (first | (with_reducible first | exact HB.out | apply below_alloc | apply pw_below_drewN | apply below_drew1 | refine below_set ?_ (IsS55.ge HI470.out)) | exact HB.out)); rintro e w53 ⟨rfl, hi, hb, hk⟩; have n0_ := Aside0.mk (hb); have n1_ := Aside0.mk (hi); clear HB; clear HI470; have HB := n0_; have HI470 := n1_; clear n0_ n1_; (try clear hb); (try clear hb2); (try clear hk); (try clear hi); obtain ⟨HGz54, hgz54⟩ := HI470.out; have hcz54_0 := cellS55_0 HGz54; have hcz54_1 := cellS55_1 HGz54; have hcz54_2 := cellS55_2 HGz54; have hfz54_0 := blk_frozen HGz54 0; have hfz54_1 := blk_frozen HGz54 1; have hfz54_2 := blk_frozen HGz54 2; clear HGz54 hgz54)); try go_wp2_with (first | (go_at_call 29; (with_reducible refine (tithebarnref01_Cursor_Uint.calls kj2 gb470 t472 t473 t474 t475 t476 t477 t478 w _ ?side1 ?side2 A10.out).mono ?_); (case side1 => repeat (first | (with_reducible first | exact HI470.out | apply IsS55.alloc | apply IsS55.drewN | apply IsS55.drew | apply IsS55.set_0 | apply IsS55.set_1 | apply IsS55.set_2) | exact HI470.out)); (case side2 => repeat (first | (with_reducible first | exact HB.out | apply below_alloc | apply pw_below_drewN | apply below_drew1 | refine below_set ?_ (IsS55.ge HI470.out)) | exact HB.out)); rintro e w53 ⟨rfl, hi, hb, hk⟩; have n0_ := Aside0.mk (hb); have n1_ := Aside0.mk (hi); clear HB; clear HI470; have HB := n0_; have HI470 := n1_; clear n0_ n1_; (try clear hb); (try clear hb2); (try clear hk); (try clear hi); obtain ⟨HGz54, hgz54⟩ := HI470.out; have hcz54_0 := cellS55_0 HGz54; have hcz54_1 := cellS55_1 HGz54; have hcz54_2 := cellS55_2 HGz54; have hfz54_0 := blk_frozen HGz54 0; have hfz54_1 := blk_frozen HGz54 1; have hfz54_2 := blk_frozen HGz54 2; clear HGz54 hgz54)))
     go_ret2
     exact ⟨_, z6_, z10_, z8_⟩
end Go.Proofs.Ytgeddoklmcjdcaa.G
namespace Go.Proofs.Ytgeddoklmcjdcaa.G
open Go.RowKit Go.Proofs.YtgeddoklmcjdcaaQ Go.Proofs.YtgeddoklmcjdcaaW.PrintWords Go.Proofs.YtgeddoklmcjdcaaW.PrintLast Go.Proofs.YtgeddoklmcjdcaaW.PrintMore
attribute [local go_sem] max2_int min2_int max_two min_two max_three min_three max_four min_four   -- for this text's walks alone
set_option linter.unusedVariables false
set_option linter.unusedSimpArgs false
def tithebarnref04_Same.l0 : Nat → List Int → List Int → Int → Option (Bool)
 | 0, _, _, _ => none
 | k + 1, x0, x1, x5 => if x5 < (x0.length : Int) then (if 0 ≤ x5 then (if x5 < (x1.length : Int) then (if (rd x0 x5) = (rd x1 x5) then (tithebarnref04_Same.l0 k x0 x1 (wrap64 (x5 + 1))) else (some false)) else (none)) else (none)) else (some true)
def tithebarnref04_Same.f (k : Nat) (l0 : List Int) (l1 : List Int) : Option (Bool) := if (l0.length : Int) = (l1.length : Int) then (tithebarnref04_Same.l0 k l0 l1 0) else (some false)
theorem tithebarnref04_Same.mono_l : ∀ k, (∀ y0 y1 y2, LeO (tithebarnref04_Same.l0 k y0 y1 y2) (tithebarnref04_Same.l0 (k + 1) y0 y1 y2))
 | 0 => fun _ _ _ r h => by simp [tithebarnref04_Same.l0] at h
 | k + 1 => by
  have ih0 := tithebarnref04_Same.mono_l k
  ·intro y0 y1 y2
   unfold tithebarnref04_Same.l0
   repeat' first
   | (with_reducible exact ih0 _ _ _)
   | (with_reducible exact LeO.refl _)
   | (with_reducible exact LeO.none _)
   | (with_reducible refine LeO.ite ?_ ?_)
   | (with_reducible refine LeO.bind ?_ (fun _ => ?_))
   | exact ih0 _ _ _
   | exact LeO.none _
   | refine LeO.ite ?_ ?_
   | refine LeO.bind ?_ (fun _ => ?_)
theorem tithebarnref04_Same.mono : ∀ a0 a1 k, LeO (tithebarnref04_Same.f k a0 a1) (tithebarnref04_Same.f (k + 1) a0 a1) := by
 intro a0 a1 k
 have ih0 := tithebarnref04_Same.mono_l k
 unfold tithebarnref04_Same.f
 repeat' first
   | (with_reducible exact ih0 _ _ _)
   | (with_reducible exact LeO.refl _)
   | (with_reducible exact LeO.none _)
   | (with_reducible refine LeO.ite ?_ ?_)
   | (with_reducible refine LeO.bind ?_ (fun _ => ?_))
   | exact ih0 _ _ _
   | exact LeO.none _
   | refine LeO.ite ?_ ?_
   | refine LeO.bind ?_ (fun _ => ?_)
set_option maxHeartbeats 8000000 in
set_option maxRecDepth 100000 in
theorem tithebarnref04_Same.calls (k : Nat) (A0 : Option Addr) (c0 : Nat) (l0 : List Int) (A1 : Option Addr) (c1 : Nat) (l1 : List Int) (r : Bool) (w : World) (hr0 : Kd.C (Kd.int .i64) w A0 l0.length l0) (hc0 : l0.length ≤ c0) (hr1 : Kd.C (Kd.int .i64) w A1 l1.length l1) (hc1 : l1.length ≤ c1) (h : tithebarnref04_Same.f k l0 l1 = some r) :
  Calls Try.prog 14 #[.slice A0 l0.length c0, .slice A1 l1.length c1] w fun e w' => e = .returned (.bool r) ∧ Drawn0 w w' := by
 have HR0 := Aside0.mk hr0
 have HC0 := Aside0.mk hc0
 clear hr0 hc0
 have HR1 := Aside0.mk hr1
 have HC1 := Aside0.mk hc1
 clear hr1 hc1
 have H : (if (l0.length : Int) = (l1.length : Int) then (tithebarnref04_Same.l0 k l0 l1 0) else (some false)) = some r := h
 clear h
 by_cases c3 : (l0.length : Int) = (l1.length : Int)
 ·rw [if_pos c3] at H
  have c3b0 : ((l0.length : Int) == (l1.length : Int)) = true := beq_iff_eq.mpr c3
  have c3b1 : ((l0.length : Int) != (l1.length : Int)) = false := bne_eq_false_iff_eq.mpr c3
  have c3b2 : (l0.length == l1.length) = true := by first | simpa using c3 | (simp at c3 ⊢; omega)
  clear c3
  have H' := Aside0.mk H
  clear H
  go_enter Try.func14, Try.ntmps14
  go_wp2
  repeat (go_quiet (fail); try go_wp2)
  go_loopg [5] k (fun kq v5 w' => ∃ (x5_1 : Int), v5 = .int .i64 x5_1 ∧ Aside0 (tithebarnref04_Same.l0 kq l0 l1 x5_1 = some r) ∧ Aside0 (kq ≤ k) ∧ Drawn0 w w')
  case atStart => exact ⟨(0), z11_, H', ⟨Nat.le_refl _⟩, z13_⟩
  case round =>
   clear H'
   try clear c1
   try clear p2
   try clear c3
   try clear c3b0
   try clear c3b1
   try clear c3b2
   obtain ⟨x5_1, rfl, HA, HK1, ⟨m1, rfl⟩⟩ := hrel
   cases gk with
   | zero => exact absurd HA.out (by simp [tithebarnref04_Same.l0])
   | succ k1 =>
    have H := HA.out
    clear HA
    simp only [tithebarnref04_Same.l0] at H
    by_cases c4 : x5_1 < (l0.length : Int)
    ·rw [if_pos c4] at H
     have c4b0 : decide (x5_1 < (l0.length : Int)) = true := decide_eq_true c4
     clear c4
     by_cases c5 : 0 ≤ x5_1
     ·rw [if_pos c5] at H
      have c5b0 : decide (0 ≤ x5_1) = true := decide_eq_true c5
      clear c5
      by_cases c6 : x5_1 < (l1.length : Int)
      ·rw [if_pos c6] at H
       have c6b0 : decide (x5_1 < (l1.length : Int)) = true := decide_eq_true c6
       clear c6
       by_cases c7 : (rd l0 x5_1) = (rd l1 x5_1)
       ·rw [if_pos c7] at H
        have c7b0 : ((rd l0 x5_1) == (rd l1 x5_1)) = true := beq_iff_eq.mpr c7
        have c7b1 : ((rd l0 x5_1) != (rd l1 x5_1)) = false := bne_eq_false_iff_eq.mpr c7
        clear c7
        have H' := Aside0.mk H
        clear H
        have p511 : 0 ≤ (x5_1 : Int) := of_decide_eq_true z12_
        have q511 : x5_1 < (l0.length : Int) := of_decide_eq_true z12_
        obtain ⟨ad511, e511, hx511_0⟩ := Kd.at_int HR0.out x5_1 p511 q511
        cases e511
        replace p511 := eq_true p511
        replace q511 := eq_true q511
        have p512 : 0 ≤ (x5_1 : Int) := of_decide_eq_true z12_
        have q512 : x5_1 < (l1.length : Int) := of_decide_eq_true z12_
        obtain ⟨ad512, e512, hx512_0⟩ := Kd.at_int HR1.out x5_1 p512 q512
        cases e512
        replace p512 := eq_true p512
        replace q512 := eq_true q512
        go_wp2
        repeat (go_quiet (fail); try go_wp2)
        go_roundg k1
        case measure => have := HK1.out; omega
        case rel => exact ⟨(wrap64 (x5_1 + 1)), z11_, H', ⟨by have := HK1.out; omega⟩, z13_⟩
       ·rw [if_neg c7] at H
        have c7b0 : ((rd l0 x5_1) == (rd l1 x5_1)) = false := beq_eq_false_iff_ne.mpr c7
        have c7b1 : ((rd l0 x5_1) != (rd l1 x5_1)) = true := bne_iff_ne.mpr c7
        obtain rfl := Option.some.inj H
        have p511 : 0 ≤ (x5_1 : Int) := of_decide_eq_true z12_
        have q511 : x5_1 < (l0.length : Int) := of_decide_eq_true z12_
        obtain ⟨ad511, e511, hx511_0⟩ := Kd.at_int HR0.out x5_1 p511 q511
        cases e511
        replace p511 := eq_true p511
        replace q511 := eq_true q511
        have p512 : 0 ≤ (x5_1 : Int) := of_decide_eq_true z12_
        have q512 : x5_1 < (l1.length : Int) := of_decide_eq_true z12_
        obtain ⟨ad512, e512, hx512_0⟩ := Kd.at_int HR1.out x5_1 p512 q512
        cases e512
        replace p512 := eq_true p512
        replace q512 := eq_true q512
        go_wp2
        repeat (go_quiet (fail); try go_wp2)
        go_ret
        exact ⟨z11_, z13_⟩
      ·rw [if_neg c6] at H
       exact absurd H (by simp)
     ·rw [if_neg c5] at H
      exact absurd H (by simp)
    ·rw [if_neg c4] at H
     have c4b0 : decide (x5_1 < (l0.length : Int)) = false := decide_eq_false c4
     clear c4
     obtain rfl := Option.some.inj H
     go_wp2
     repeat (go_quiet (fail); try go_wp2)
     go_ret
     exact ⟨z11_, z13_⟩
 ·rw [if_neg c3] at H
  have c3b0 : ((l0.length : Int) == (l1.length : Int)) = false := beq_eq_false_iff_ne.mpr c3
  have c3b1 : ((l0.length : Int) != (l1.length : Int)) = true := bne_iff_ne.mpr c3
  have c3b2 : (l0.length == l1.length) = false := by first | simpa using c3 | (simp at c3 ⊢; omega)
  obtain rfl := Option.some.inj H
  go_enter Try.func14, Try.ntmps14
  go_wp2
  repeat (go_quiet (fail); try go_wp2)
  go_ret
  exact ⟨z11_, z13_⟩
end Go.Proofs.Ytgeddoklmcjdcaa.G
namespace Go.Proofs.Ytgeddoklmcjdcaa.G
open Go.RowKit Go.Proofs.YtgeddoklmcjdcaaQ Go.Proofs.YtgeddoklmcjdcaaW.PrintWords Go.Proofs.YtgeddoklmcjdcaaW.PrintLast Go.Proofs.YtgeddoklmcjdcaaW.PrintMore
attribute [local go_sem] max2_int min2_int max_two min_two max_three min_three max_four min_four   -- for this text's walks alone
set_option linter.unusedVariables false
set_option linter.unusedSimpArgs false
def tithebarnlaw04_IntsRead.f (k : Nat) (a0 : ByteArray) : Option (Bool) := (tithebarnlaw04_lives.f k).bind fun t513 => (if t513 = true then ((ints_Read.f k a0).bind fun bt514 => ((tithebarnref04_Read.f k a0).bind fun bt518 => (if bt514.2 = bt518.2 then ((tithebarnref04_Same.f k bt514.1 bt518.1).bind fun t522 => (some t522)) else (some false)))) else (some false))
theorem tithebarnlaw04_IntsRead.mono : ∀ a0 k, LeO (tithebarnlaw04_IntsRead.f k a0) (tithebarnlaw04_IntsRead.f (k + 1) a0) := by
 intro a0 k
 unfold tithebarnlaw04_IntsRead.f
 repeat' first
   | (with_reducible exact ints_Read.mono _ _)
   | (with_reducible exact tithebarnlaw04_lives.mono _)
   | (with_reducible exact tithebarnref04_Read.mono _ _)
   | (with_reducible exact tithebarnref04_Same.mono _ _ _)
   | (with_reducible exact LeO.refl _)
   | (with_reducible exact LeO.none _)
   | (with_reducible refine LeO.ite ?_ ?_)
   | (with_reducible refine LeO.bind ?_ (fun _ => ?_))
   | exact ints_Read.mono _ _
   | exact tithebarnlaw04_lives.mono _
   | exact tithebarnref04_Read.mono _ _
   | exact tithebarnref04_Same.mono _ _ _
   | exact LeO.none _
   | refine LeO.ite ?_ ?_
   | refine LeO.bind ?_ (fun _ => ?_)
set_option maxHeartbeats 8000000 in
set_option maxRecDepth 100000 in
theorem tithebarnlaw04_IntsRead.calls (k : Nat) (a0 : ByteArray) (r : Bool) (w : World) (h : tithebarnlaw04_IntsRead.f k a0 = some r) :
  Calls Try.prog 4 #[.string a0] w fun e w' => e = .returned (.bool r) ∧ Below w.heap.size w w' := by
 have HB := Aside0.mk (Below.refl w.heap.size w)
 have H : ((tithebarnlaw04_lives.f k).bind fun t513 => (if t513 = true then ((ints_Read.f k a0).bind fun bt514 => ((tithebarnref04_Read.f k a0).bind fun bt518 => (if bt514.2 = bt518.2 then ((tithebarnref04_Same.f k bt514.1 bt518.1).bind fun t522 => (some t522)) else (some false)))) else (some false))) = some r := h
 clear h
 replace H := Option.bind_eq_some_iff.mp H
 obtain ⟨t513, A20, H⟩ := H
 replace H : (if t513 = true then ((ints_Read.f k a0).bind fun bt514 => ((tithebarnref04_Read.f k a0).bind fun bt518 => (if bt514.2 = bt518.2 then ((tithebarnref04_Same.f k bt514.1 bt518.1).bind fun t522 => (some t522)) else (some false)))) else (some false)) = some r := H
 have A2 := Aside0.mk A20
 clear A20
 by_cases c3 : t513 = true
 ·subst c3
  have H1 : ((ints_Read.f k a0).bind fun bt514 => ((tithebarnref04_Read.f k a0).bind fun bt518 => (if bt514.2 = bt518.2 then ((tithebarnref04_Same.f k bt514.1 bt518.1).bind fun t522 => (some t522)) else (some false)))) = some r := by rw [if_pos rfl] at H; exact H
  clear H
  have H := H1
  clear H1
  replace H := Option.bind_eq_some_iff.mp H
  obtain ⟨⟨t514, t515⟩, A40, H⟩ := H
  replace H : ((tithebarnref04_Read.f k a0).bind fun bt518 => (if t515 = bt518.2 then ((tithebarnref04_Same.f k t514 bt518.1).bind fun t522 => (some t522)) else (some false))) = some r := H
  have A4 := Aside0.mk A40
  clear A40
  replace H := Option.bind_eq_some_iff.mp H
  obtain ⟨⟨t518, t519⟩, A50, H⟩ := H
  replace H : (if t515 = t519 then ((tithebarnref04_Same.f k t514 t518).bind fun t522 => (some t522)) else (some false)) = some r := H
  have A5 := Aside0.mk A50
  clear A50
  by_cases c6 : t515 = t519
  ·rw [if_pos c6] at H
   have c6b0 : (t515 == t519) = true := beq_iff_eq.mpr c6
   have c6b1 : (t515 != t519) = false := bne_eq_false_iff_eq.mpr c6
   clear c6
   replace H := Option.bind_eq_some_iff.mp H
   obtain ⟨t522, A70, H⟩ := H
   replace H : (some t522) = some r := H
   have A7 := Aside0.mk A70
   clear A70
   obtain rfl := Option.some.inj H
   go_enter Try.func4, Try.ntmps4
   go_wp2_with (first | ((with_reducible refine gate_callee (f := 9) rfl ?_); refine goesL_ (some 7) rfl rfl Try.func9 (by kernel_rfl) rfl #[] rfl (by (try simp only [List.map_toArray, List.map_cons, List.map_nil]); first | done | rfl | (simp only [List.length_drop, List.length_take]; rfl) | (go_simp; simp [IntKind.wrap, IntKind.bits, IntKind.signed]; omega)) ?_; (with_reducible refine (tithebarnlaw04_lives.calls k  true _ A2.out).mono ?_); rintro e w8 ⟨rfl, hb⟩; refine ⟨_, rfl, ?_⟩; have n0_ := Aside0.mk (below_step z1_ hb); clear HB; have HB := n0_; clear n0_; (try clear hb); (try clear hb2); (try clear hk); (try clear hi)) | ((with_reducible refine gate_callee (f := 12) rfl ?_); refine goesL_ (some 11) rfl rfl Try.func12 (by kernel_rfl) rfl #[.string a0] rfl (by (try simp only [List.map_toArray, List.map_cons, List.map_nil]); first | done | rfl | (simp only [List.length_drop, List.length_take]; rfl) | (go_simp; simp [IntKind.wrap, IntKind.bits, IntKind.signed]; omega)) ?_; (with_reducible refine (ints_Read.calls k a0 t514 t515 _ A4.out).mono ?_); rintro e w9 ⟨v516, rfl, ho0, hb⟩; refine ⟨_, rfl, ?_⟩; have n0_ := Aside0.mk (Kd.R_lower ho0 (below_size z1_)); have n1_ := Aside0.mk (below_step z1_ hb); clear HB; have HO517 := n0_; have HB := n1_; clear n0_ n1_; (try clear hb); (try clear hb2); (try clear hk); (try clear hi); (try clear ho0)) | ((with_reducible refine gate_callee (f := 13) rfl ?_); refine goesL_ (some 16) rfl rfl Try.func13 (by kernel_rfl) rfl #[.string a0] rfl (by (try simp only [List.map_toArray, List.map_cons, List.map_nil]); first | done | rfl | (simp only [List.length_drop, List.length_take]; rfl) | (go_simp; simp [IntKind.wrap, IntKind.bits, IntKind.signed]; omega)) ?_; (with_reducible refine (tithebarnref04_Read.calls k a0 t518 t519 _ A5.out).mono ?_); rintro e w10 ⟨v520, rfl, ho0, hb⟩; refine ⟨_, rfl, ?_⟩; have n0_ := Aside0.mk (Kd.R_elder' (by (with_reducible repeat (first | apply Kd.R_alloc | apply Kd.R_drewN | apply Kd.R_drew)); exact HO517.out) (Kd.R_base ho0) hb); have n1_ := Aside0.mk (Kd.R_lower (Kd.R_new' ho0 (Kd.R_lt (by (with_reducible repeat (first | apply Kd.R_alloc | apply Kd.R_drewN | apply Kd.R_drew)); exact HO517.out))) (below_size z1_)); have n2_ := Aside0.mk (below_step z1_ hb); clear HO517; clear HB; have HO517 := n0_; have HO521 := n1_; have HB := n2_; clear n0_ n1_ n2_; (try clear hb); (try clear hb2); (try clear hk); (try clear hi); (try clear ho0); obtain ⟨Ao11, co11, eo11⟩ := Kd.R_slice HO517.out; subst eo11; obtain ⟨Ao12, co12, eo12⟩ := Kd.R_slice HO521.out; subst eo12) | (go_at_call 14; (with_reducible refine (tithebarnref04_Same.calls k _ _ t514 _ _ t518 t522 _ ?side1 ?side2 ?side3 ?side4 A7.out).mono ?_); (case side1 => repeat (first | exact (Kd.R_reads' HO517.out).2.2 | (with_reducible refine Kd.C_alloc ?_ _) | (with_reducible refine Kd.C_drewN ?_ _) | (with_reducible refine Kd.C_drew ?_))); (case side2 => exact (Kd.R_reads' HO517.out).2.1); (case side3 => repeat (first | exact (Kd.R_reads' HO521.out).2.2 | (with_reducible refine Kd.C_alloc ?_ _) | (with_reducible refine Kd.C_drewN ?_ _) | (with_reducible refine Kd.C_drew ?_))); (case side4 => exact (Kd.R_reads' HO521.out).2.1); rintro e w' ⟨rfl, ⟨nd, rfl⟩⟩))
   go_ret
   exact ⟨z6_, z1_⟩
  ·rw [if_neg c6] at H
   have c6b0 : (t515 == t519) = false := beq_eq_false_iff_ne.mpr c6
   have c6b1 : (t515 != t519) = true := bne_iff_ne.mpr c6
   obtain rfl := Option.some.inj H
   go_enter Try.func4, Try.ntmps4
   go_wp2_with (first | ((with_reducible refine gate_callee (f := 9) rfl ?_); refine goesL_ (some 7) rfl rfl Try.func9 (by kernel_rfl) rfl #[] rfl (by (try simp only [List.map_toArray, List.map_cons, List.map_nil]); first | done | rfl | (simp only [List.length_drop, List.length_take]; rfl) | (go_simp; simp [IntKind.wrap, IntKind.bits, IntKind.signed]; omega)) ?_; (with_reducible refine (tithebarnlaw04_lives.calls k  true _ A2.out).mono ?_); rintro e w13 ⟨rfl, hb⟩; refine ⟨_, rfl, ?_⟩; have n0_ := Aside0.mk (below_step z1_ hb); clear HB; have HB := n0_; clear n0_; (try clear hb); (try clear hb2); (try clear hk); (try clear hi)) | ((with_reducible refine gate_callee (f := 12) rfl ?_); refine goesL_ (some 11) rfl rfl Try.func12 (by kernel_rfl) rfl #[.string a0] rfl (by (try simp only [List.map_toArray, List.map_cons, List.map_nil]); first | done | rfl | (simp only [List.length_drop, List.length_take]; rfl) | (go_simp; simp [IntKind.wrap, IntKind.bits, IntKind.signed]; omega)) ?_; (with_reducible refine (ints_Read.calls k a0 t514 t515 _ A4.out).mono ?_); rintro e w14 ⟨v516, rfl, ho0, hb⟩; refine ⟨_, rfl, ?_⟩; have n0_ := Aside0.mk (Kd.R_lower ho0 (below_size z1_)); have n1_ := Aside0.mk (below_step z1_ hb); clear HB; have HO517 := n0_; have HB := n1_; clear n0_ n1_; (try clear hb); (try clear hb2); (try clear hk); (try clear hi); (try clear ho0)) | ((with_reducible refine gate_callee (f := 13) rfl ?_); refine goesL_ (some 16) rfl rfl Try.func13 (by kernel_rfl) rfl #[.string a0] rfl (by (try simp only [List.map_toArray, List.map_cons, List.map_nil]); first | done | rfl | (simp only [List.length_drop, List.length_take]; rfl) | (go_simp; simp [IntKind.wrap, IntKind.bits, IntKind.signed]; omega)) ?_; (with_reducible refine (tithebarnref04_Read.calls k a0 t518 t519 _ A5.out).mono ?_); rintro e w15 ⟨v520, rfl, ho0, hb⟩; refine ⟨_, rfl, ?_⟩; have n0_ := Aside0.mk (Kd.R_elder' (by (with_reducible repeat (first | apply Kd.R_alloc | apply Kd.R_drewN | apply Kd.R_drew)); exact HO517.out) (Kd.R_base ho0) hb); have n1_ := Aside0.mk (Kd.R_lower (Kd.R_new' ho0 (Kd.R_lt (by (with_reducible repeat (first | apply Kd.R_alloc | apply Kd.R_drewN | apply Kd.R_drew)); exact HO517.out))) (below_size z1_)); have n2_ := Aside0.mk (below_step z1_ hb); clear HO517; clear HB; have HO517 := n0_; have HO521 := n1_; have HB := n2_; clear n0_ n1_ n2_; (try clear hb); (try clear hb2); (try clear hk); (try clear hi); (try clear ho0)))
   go_ret
   exact ⟨z6_, z1_⟩
 ·replace c3 := Bool.eq_false_iff.mpr c3
  subst c3
  have H1 : (some false) = some r := by rw [if_neg (show ¬ (false = true) by decide)] at H; exact H
  clear H
  have H := H1
  clear H1
  obtain rfl := Option.some.inj H
  go_enter Try.func4, Try.ntmps4
  go_wp2_with (first | ((with_reducible refine gate_callee (f := 9) rfl ?_); refine goesL_ (some 7) rfl rfl Try.func9 (by kernel_rfl) rfl #[] rfl (by (try simp only [List.map_toArray, List.map_cons, List.map_nil]); first | done | rfl | (simp only [List.length_drop, List.length_take]; rfl) | (go_simp; simp [IntKind.wrap, IntKind.bits, IntKind.signed]; omega)) ?_; (with_reducible refine (tithebarnlaw04_lives.calls k  false _ A2.out).mono ?_); rintro e w16 ⟨rfl, hb⟩; refine ⟨_, rfl, ?_⟩; have n0_ := Aside0.mk (below_step z1_ hb); clear HB; have HB := n0_; clear n0_; (try clear hb); (try clear hb2); (try clear hk); (try clear hi)))
  go_ret
  exact ⟨z6_, z1_⟩
def tithebarnlaw04_IntsRead.Pure : Prop := ∀ (a0 : ByteArray), a0.size ≤ 140737488351232 → ∃ k, tithebarnlaw04_IntsRead.f k a0 = some true
theorem tithebarnlaw04_IntsRead.walk (P : tithebarnlaw04_IntsRead.Pure) (a0 : ByteArray) (w : World) (w0 : a0.size ≤ 140737488351232) :
  Calls Try.prog 4 #[.string a0] w fun e w' => e = .returned (.bool true) ∧ Below w.heap.size w w' := by
 obtain ⟨k, h⟩ := P a0 w0
 refine (tithebarnlaw04_IntsRead.calls k a0 true w h).mono ?_
 rintro e w' ⟨rfl, hd⟩
 exact ⟨rfl, hd⟩
end Go.Proofs.Ytgeddoklmcjdcaa.G
namespace Go.Proofs.Ytgeddoklmcjdcaa.G
open Go.RowKit Go.Proofs.YtgeddoklmcjdcaaQ Go.Proofs.YtgeddoklmcjdcaaW.PrintWords Go.Proofs.YtgeddoklmcjdcaaW.PrintLast Go.Proofs.YtgeddoklmcjdcaaW.PrintMore
set_option linter.unusedVariables false
set_option linter.unusedSimpArgs false
theorem w64' (x : Int) (h0 : -9223372036854775808 ≤ x) (h1 : x < 9223372036854775808) : wrap64 x = x := w64 h0 h1
theorem big_step (k : Nat) (l : List Int) (x : Int) (i : Nat) (hi : i ≤ 7) (hl : l.length < 140737488355328) :
  tally_big.l0 (k + 1) l x i = tally_big.l0 k (l ++ [x / 256 ^ i % 256]) x ((i : Int) - 1) := by
 simp only [tally_big.l0]
 rw [if_pos (by omega), w64' (8 * (i : Int)) (by omega) (by omega), if_pos (by omega), if_pos hl, w64' ((i : Int) - 1) (by omega) (by omega)]
 have e : (8 * (i : Int)) = ((8 * i : Nat) : Int) := by omega
 rw [e, shr_u64_lit x (8 * i) (by omega)]
 have e2 : (256 : Int) ^ i = 2 ^ (8 * i) := by rw [Int.pow_mul]; rfl
 rw [e2]
theorem big_end (k : Nat) (l : List Int) (x : Int) : tally_big.l0 (k + 1) l x (-1) = some l := by
 simp only [tally_big.l0]; rw [if_neg (by omega)]
def bigs (x : Int) : Nat → List Int
 | 0 => []
 | n + 1 => x / 256 ^ n % 256 :: bigs x n
theorem big_f (n : Nat) (hn : n ≤ 8) : ∀ (k : Nat) (l : List Int) (x : Int), n < k → l.length + n ≤ 140737488355328 → tally_big.l0 k l x ((n : Int) - 1) = some (l ++ bigs x n) := by
 induction n with
 | zero =>
  intro k l x hk hl
  obtain ⟨k, rfl⟩ : ∃ m, k = m + 1 := ⟨k - 1, by omega⟩
  have e : ((0 : Nat) : Int) - 1 = -1 := by omega
  rw [e, big_end]; simp [bigs]
 | succ n ih =>
  intro k l x hk hl
  obtain ⟨k, rfl⟩ : ∃ m, k = m + 1 := ⟨k - 1, by omega⟩
  have e : ((n + 1 : Nat) : Int) - 1 = (n : Int) := by omega
  rw [e, big_step k l x n (by omega) (by omega), ih (by omega) k _ x (by omega) (by simp; omega)]
  simp [bigs]
theorem Uint_f {k : Nat} (hk : 10 ≤ k) {l : List Int} (hl : l.length + 9 ≤ 140737488355328) {x : Int} (hx : u64 x) : tally_Uint.f k l x = some (l ++ encU x) := by
 obtain ⟨h0, h1⟩ := hx
 unfold tally_Uint.f encU
 by_cases c1 : x < 64
 ·rw [if_pos (by omega), if_pos (by omega), if_pos c1]
  simp; omega
 ·rw [if_neg (by omega), if_neg c1]
  by_cases c2 : x < 16384
  ·rw [if_pos (by omega), if_pos c2, or_join' 16384 x 14 (by omega) (by omega) (by omega) (by omega) (by decide) (by simp; omega)]
   unfold tally_big.f
   have e : wrap64 (2 - 1) = ((2 : Nat) : Int) - 1 := by unfold wrap64; decide
   rw [e, big_f 2 (by omega) k l _ (by omega) (by omega)]
   simp [bigs]; omega
  ·rw [if_neg (by omega), if_neg c2]
   by_cases c3 : x < 1073741824
   ·rw [if_pos (by omega), if_pos c3, or_join' 2147483648 x 30 (by omega) (by omega) (by omega) (by omega) (by decide) (by simp; omega)]
    unfold tally_big.f
    have e : wrap64 (4 - 1) = ((4 : Nat) : Int) - 1 := by unfold wrap64; decide
    rw [e, big_f 4 (by omega) k l _ (by omega) (by omega)]
    simp [bigs]; omega
   ·rw [if_neg (by omega), if_neg c3, if_pos (by omega)]
    unfold tally_big.f
    have e : wrap64 (8 - 1) = ((8 : Nat) : Int) - 1 := by unfold wrap64; decide
    rw [e, big_f 8 (by omega) k _ _ (by omega) (by simp; omega)]
    simp [bigs]
theorem Int_f {k : Nat} (hk : 10 ≤ k) {l : List Int} (hl : l.length + 9 ≤ 140737488355328) {x : Int} (hx : i64 x) : tally_Int.f k l x = some (l ++ encI x) := by
 unfold tally_Int.f
 rw [zig x hx, Uint_f hk hl (fold_u64 hx)]; rfl
theorem rUint_l0 (n : Nat) : ∀ (k : Nat) (a size mark : Int) (l : List Int), n ≤ 9 → (size = 1 ∨ size = 2 ∨ size = 4 ∨ size = 9) → (n : Int) ≤ size → n < k → l.length + n ≤ 140737488355328 →
  tithebarnref01_Uint.l0 k a size mark l ((n : Int) - 1) = some (strOfNums (l ++ (List.range n).reverse.map fun (i : Nat) => if (i : Int) = size - 1 then ((if i < 8 then a / 256 ^ i else 0) + mark) % 256 else (if i < 8 then a / 256 ^ i else 0) % 256)) := by
 induction n with
 | zero =>
  intro k a size mark l _ _ _ hk hl
  obtain ⟨k, rfl⟩ : ∃ m, k = m + 1 := ⟨k - 1, by omega⟩
  simp only [tithebarnref01_Uint.l0]
  rw [if_neg (by omega)]; simp
 | succ n ih =>
  intro k a size mark l h9 hsz hn hk hl
  obtain ⟨k, rfl⟩ : ∃ m, k = m + 1 := ⟨k - 1, by omega⟩
  have e : ((n + 1 : Nat) : Int) - 1 = (n : Int) := by omega
  rw [e]
  simp only [tithebarnref01_Uint.l0]
  have hs1 : wrap64 (size - 1) = size - 1 := w64 (by omega) (by omega)
  have hn1 : wrap64 ((n : Int) - 1) = (n : Int) - 1 := w64 (by omega) (by omega)
  rw [if_pos (by omega), hs1, hn1]
  rw [List.range_succ, List.reverse_append, List.reverse_singleton, List.singleton_append, List.map_cons]
  by_cases c : n < 8
  ·have h8 : IntKind.u64.wrap (wrap64 (8 * (n : Int))) = ((8 * n : Nat) : Int) := by rw [w64 (by omega) (by omega), wu64 (by omega) (by omega)]; omega
   rw [if_pos (by omega), h8, if_pos (by omega), shr_u64_lit a (8 * n) (by omega)]
   have e2 : (2 : Int) ^ (8 * n) = 256 ^ n := by rw [Int.pow_mul]; rfl
   rw [e2]
   by_cases d : (n : Int) = size - 1
   ·rw [if_pos d, if_pos (by omega), ih k a size mark _ (by omega) hsz (by omega) (by omega) (by simp; omega)]
    rw [List.append_assoc, List.singleton_append, if_pos d, if_pos c]
   ·rw [if_neg d, if_pos (by omega), ih k a size mark _ (by omega) hsz (by omega) (by omega) (by simp; omega)]
    rw [List.append_assoc, List.singleton_append, if_neg d, if_pos c]
  ·have h8 : n = 8 := by omega
   rw [if_neg (by omega)]
   by_cases d : (n : Int) = size - 1
   ·rw [if_pos d, if_pos (by omega), ih k a size mark _ (by omega) hsz (by omega) (by omega) (by simp; omega)]
    rw [List.append_assoc, List.singleton_append, if_pos d, if_neg c]; simp
   ·rw [if_neg d, if_pos (by omega), ih k a size mark _ (by omega) hsz (by omega) (by omega) (by simp; omega)]
    rw [List.append_assoc, List.singleton_append, if_neg d, if_neg c]; simp
theorem rUint_f {k : Nat} (hk : 12 ≤ k) {x : Int} (hx : u64 x) : tithebarnref01_Uint.f k x = some (strOfNums (encU x)) := by
 obtain ⟨h0, h1⟩ := hx
 obtain ⟨k, rfl⟩ : ∃ m, k = m + 1 := ⟨k - 1, by omega⟩
 have go : ∀ (n : Nat) (mark : Int), n ≤ 9 → (n = 1 ∨ n = 2 ∨ n = 4 ∨ n = 9) → tithebarnref01_Uint.j0 (k + 1) x n mark = some (strOfNums ((List.range n).reverse.map fun (i : Nat) => if (i : Int) = n - 1 then ((if i < 8 then x / 256 ^ i else 0) + mark) % 256 else (if i < 8 then x / 256 ^ i else 0) % 256)) := by
  intro n mark hn hs
  simp only [tithebarnref01_Uint.j0]
  rw [w64 (by omega) (by omega), rUint_l0 n k x n mark [] hn (by omega) (by omega) (by omega) (by simp; omega)]
  rfl
 unfold tithebarnref01_Uint.f encU
 by_cases c1 : x < 64
 ·rw [if_pos c1, if_pos c1]
  refine (go 1 0 (by omega) (by omega)).trans ?_
  simp [List.range_succ]; congr 2; omega
 ·rw [if_neg c1, if_neg c1]
  by_cases c2 : x < 16384
  ·rw [if_pos c2, if_pos c2]
   refine (go 2 64 (by omega) (by omega)).trans ?_
   simp [List.range_succ]; congr 2; omega
  ·rw [if_neg c2, if_neg c2]
   by_cases c3 : x < 1073741824
   ·rw [if_pos c3, if_pos c3]
    refine (go 4 128 (by omega) (by omega)).trans ?_
    simp [List.range_succ]; congr 2; omega
   ·rw [if_neg c3, if_neg c3]
    refine (go 9 192 (by omega) (by omega)).trans ?_
    simp [List.range_succ]
def aUint (r : List Int) (e : Int) : Int × List Int × Int := if e = 0 then ((decU r).1, r.drop (decU r).2.1, (decU r).2.2) else (0, r, e)
def aInt (r : List Int) (e : Int) : Int × List Int × Int := (unfold_ (aUint r e).1, (aUint r e).2)
def aByte (r : List Int) (e : Int) : Int × List Int × Int := if e = 0 then (match r with | [] => (0, [], 2) | b :: t => (b, t, 0)) else (0, r, e)
def aDone (r : List Int) (e : Int) : Int := if e = 0 then (if r = [] then 0 else 5) else e
theorem decU_u64 {r : List Int} (hr : Bs r) : u64 (decU r).1 := by
 rcases h : decU r with ⟨x, n, e⟩
 rcases decU_err h with ⟨rfl, _⟩ | ⟨_, rfl, _⟩
 ·exact (decU_bytes hr h).2.1
 ·unfold u64; simp
theorem aUint_u64 {r : List Int} (hr : Bs r) (e : Int) : u64 (aUint r e).1 := by
 unfold aUint; split
 ·exact decU_u64 hr
 ·unfold u64; simp
theorem aUint_Bs {r : List Int} (hr : Bs r) (e : Int) : Bs (aUint r e).2.1 := by
 unfold aUint; split
 ·exact hr.drop _
 ·exact hr
theorem aInt_Bs {r : List Int} (hr : Bs r) (e : Int) : Bs (aInt r e).2.1 := aUint_Bs hr e
theorem aByte_Bs {r : List Int} (hr : Bs r) (e : Int) : Bs (aByte r e).2.1 := by
 unfold aByte; split
 ·split
  ·exact Bs.nil
  ·exact hr.tail
 ·exact hr
theorem cUint_f (s : ByteArray) (e : Int) : tally_Cursor_Uint.f s e = some ((aUint (bytesOf s) e).1, strOfNums (aUint (bytesOf s) e).2.1, (aUint (bytesOf s) e).2.2) := by
 unfold tally_Cursor_Uint.f tally_Cursor_ok.f tally_next.f aUint
 simp only [Option.bind_some]
 by_cases c : e = 0
 ·rw [if_pos (by simpa using c), if_pos c]
  simp only
  rw [← bytesOf_tail, strOfNums_bytesOf]
 ·rw [if_neg (by simpa using c), if_neg c]
  simp only
  rw [strOfNums_bytesOf]
theorem cInt_f (s : ByteArray) (e : Int) : tally_Cursor_Int.f s e = some ((aInt (bytesOf s) e).1, strOfNums (aInt (bytesOf s) e).2.1, (aInt (bytesOf s) e).2.2) := by
 unfold tally_Cursor_Int.f
 rw [cUint_f]
 simp only [Option.bind_some]
 rw [zag _ (aUint_u64 (Bs.bytesOf s) e)]; rfl
theorem toList_nil (s : ByteArray) : s.toList = [] ↔ bytesOf s = [] := by rw [ByteArray.toList_eq]; unfold bytesOf; simp
theorem cByte_f (s : ByteArray) (e : Int) (hs : s.size ≤ 9223372036854775807) : tally_Cursor_Byte.f s e = some ((aByte (bytesOf s) e).1, strOfNums (aByte (bytesOf s) e).2.1, (aByte (bytesOf s) e).2.2) := by
 unfold tally_Cursor_Byte.f tally_Cursor_ok.f aByte
 simp only [Option.bind_some]
 by_cases c : e = 0
 ·rw [if_pos (by simpa using c), if_pos c]
  by_cases d : bytesOf s = []
  ·rw [if_pos ((toList_nil s).2 d), d, eq_nil_of_bytes d]; rfl
  ·rw [if_neg (fun h => d ((toList_nil s).1 h))]
   rcases hl : bytesOf s with _ | ⟨b, t⟩
   ·exact absurd hl d
   ·have hsz : s.size = t.length + 1 := by rw [size_eq, hl]; rfl
    rw [if_pos (by omega), if_pos (by omega)]
    have hb : bt s 0 = b := by rw [bt_rd, hl]; rfl
    have hr := bt_range s 0
    have ht : bytesOf (s.extract 1 s.size) = t := by rw [bytesOf_tail, hl]; rfl
    simp only
    rw [w64 (by omega) (by omega), hb, ← ht, strOfNums_bytesOf, c]
 ·rw [if_neg (by simpa using c), if_neg c]
  simp only
  rw [strOfNums_bytesOf]
theorem cDone_f (s : ByteArray) (e : Int) : tally_Cursor_Done.f s e = some (aDone (bytesOf s) e, s, e) := by
 unfold tally_Cursor_Done.f tally_Cursor_ok.f tally_Cursor_Err.f aDone
 simp only [Option.bind_some]
 by_cases c : e = 0
 ·rw [if_pos (by simpa using c), if_pos c]
  by_cases d : bytesOf s = []
  ·rw [if_pos ((toList_nil s).2 d), if_pos d, c]
  ·rw [if_neg (fun h => d ((toList_nil s).1 h)), if_neg d]
 ·rw [if_neg (by simpa using c), if_neg c]
theorem rd_drop (l : List Int) (a i : Nat) : rd (l.drop a) (i : Int) = rd l ((a + i : Nat) : Int) := by
 simp only [rd, List.getD_eq_getElem?_getD, List.getElem?_drop, Int.toNat_natCast]
theorem rd_B {l : List Int} (hl : Bs l) (i : Int) : 0 ≤ rd l i ∧ rd l i < 256 := by
 unfold rd
 by_cases h : i.toNat < l.length
 ·rw [List.getD_eq_getElem?_getD, List.getElem?_eq_getElem h]; exact hl _ (List.getElem_mem h)
 ·rw [List.getD_eq_getElem?_getD, List.getElem?_eq_none (by omega)]; simp
theorem peek_l0 (S : ByteArray) (a n : Nat) (e : Int) (b : Int) (hb0 : 0 ≤ b) (hn : n ≤ 9) (ha : a + n ≤ S.size) (hS : S.size ≤ 4611686018427387904) (hbn : (b + 1) * 256 ^ (n - 1) ≤ 18446744073709551616) (d : Nat) : ∀ (k i : Nat), 1 ≤ i → i + d = n → d + 13 ≤ k →
  tithebarnref01_Cursor_peek.l0 k n (numI b (((bytesOf S).drop (a + 1)).take (i - 1))) i S a e =
   (if ((encU (numI b (((bytesOf S).drop (a + 1)).take (n - 1)))).length : Int) = n then some (numI b (((bytesOf S).drop (a + 1)).take (n - 1)), (n : Int), 0, S, (a : Int), e) else some (0, 0, 5, S, (a : Int), e)) := by
 have hB := Bs.bytesOf S
 have hsz := bytesOf_size S
 have bd : ∀ j, j ≤ n - 1 → 0 ≤ numI b (((bytesOf S).drop (a + 1)).take j) ∧ numI b (((bytesOf S).drop (a + 1)).take j) < (b + 1) * 256 ^ j := by
  intro j hj
  have h := numI_bd hb0 (((bytesOf S).drop (a + 1)).take j) ((hB.drop _).take _)
  rw [List.length_take, List.length_drop, hsz, Nat.min_eq_left (by omega)] at h
  exact h
 have up : ∀ j, j ≤ n - 1 → (b + 1) * (256 : Int) ^ j ≤ 18446744073709551616 := by
  intro j hj
  have e1 : (256 : Int) ^ (n - 1) = 256 ^ j * 256 ^ (n - 1 - j) := by rw [← Int.pow_add]; congr 1; omega
  have p1 : (1 : Int) ≤ 256 ^ (n - 1 - j) := by have : (0 : Int) < 256 ^ (n - 1 - j) := Int.pow_pos (by omega); omega
  have p2 : (0 : Int) ≤ (b + 1) * 256 ^ j := Int.mul_nonneg (by omega) (Int.pow_nonneg (by omega))
  rw [e1, ← Int.mul_assoc] at hbn
  have := Int.mul_le_mul_of_nonneg_left p1 p2
  omega
 induction d with
 | zero =>
  intro k i h1 hi hk
  obtain ⟨k, rfl⟩ : ∃ m, k = m + 1 := ⟨k - 1, by omega⟩
  obtain rfl : i = n := by omega
  simp only [tithebarnref01_Cursor_peek.l0]
  have hu : u64 (numI b (((bytesOf S).drop (a + 1)).take (i - 1))) := by
   have := bd (i - 1) (Nat.le_refl _); unfold u64; omega
  rw [if_neg (by omega), rUint_f (by omega) hu]
  simp only [Option.bind_some, size_strOfNums]
 | succ d ih =>
  intro k i h1 hi hk
  obtain ⟨k, rfl⟩ : ∃ m, k = m + 1 := ⟨k - 1, by omega⟩
  have IH := ih k (i + 1) (by omega) (by omega) (by omega)
  rw [Nat.add_sub_cancel] at IH
  clear ih
  have IH' := Aside0.mk IH
  clear IH
  simp only [tithebarnref01_Cursor_peek.l0]
  have e1 : wrap64 ((a : Int) + (i : Int)) = ((a + i : Nat) : Int) := by rw [w64 (by omega) (by omega)]; omega
  rw [if_pos (by omega), e1, if_pos (by omega), if_pos (by omega)]
  have hbt : bt S ((a + i : Nat) : Int) = rd ((bytesOf S).drop (a + 1)) ((i - 1 : Nat) : Int) := by
   rw [bt_rd, rd_drop]; congr 2; omega
  have hr := rd_B (hB.drop (a + 1)) ((i - 1 : Nat) : Int)
  have b0 := bd (i - 1) (by omega)
  have b1 := up i (by omega)
  have ei : (256 : Int) ^ i = 256 ^ (i - 1) * 256 := by rw [← Int.pow_succ]; congr 1; omega
  have hs := numI_step b ((bytesOf S).drop (a + 1)) (i - 1) (by rw [List.length_drop, hsz]; omega)
  have ei2 : i - 1 + 1 = i := by omega
  rw [ei2] at hs
  have b2 := bd i (by omega)
  rw [hs] at b2
  have hx : IntKind.u64.wrap ((IntKind.u64.wrap (256 * numI b (((bytesOf S).drop (a + 1)).take (i - 1)))) + (IntKind.u64.wrap (bt S ((a + i : Nat) : Int)))) = numI b (((bytesOf S).drop (a + 1)).take i) := by
   rw [hbt, hs, wu64 (x := rd _ _) (by omega) (by omega), wu64 (x := 256 * _) (by omega) (by omega), wu64 (by omega) (by omega)]
   omega
  have hw : wrap64 ((i : Int) + 1) = ((i + 1 : Nat) : Int) := by rw [w64 (by omega) (by omega)]; omega
  rw [hx, hw]
  exact IH'.out
theorem len_least (b : Int) (r : List Int) (hb : 0 ≤ b) (hb2 : b ≤ 192) (hr : Bs r) (hl : r.length = szU b) : (((encU (numI (b % 64) r)).length : Int) = ((szU b + 1 : Nat) : Int)) ↔ ¬ numI (b % 64) r < leastU (szU b) := by
 have L : ∀ x : Int, (encU x).length = if x < 64 then 1 else if x < 16384 then 2 else if x < 1073741824 then 4 else 9 := by
  intro x; unfold encU
  split
  ·rfl
  ·split
   ·rfl
   ·split <;> rfl
 rw [L]
 have bd := numI_bd (x := b % 64) (by omega) r hr
 rw [hl] at bd
 generalize numI (b % 64) r = x at *
 unfold szU leastU at *
 by_cases c1 : b < 64
 ·simp only [if_pos c1] at *
  simp at bd ⊢
  rw [if_pos (by omega)]; omega
 ·simp only [if_neg c1] at *
  by_cases c2 : b < 128
  ·simp only [if_pos c2] at *
   simp at bd ⊢
   constructor
   ·intro h; split at h <;> omega
   ·intro h; rw [if_neg (by omega), if_pos (by omega)]; rfl
  ·simp only [if_neg c2] at *
   by_cases c3 : b < 192
   ·simp only [if_pos c3] at *
    simp at bd ⊢
    constructor
    ·intro h
     split at h
     ·omega
     ·split at h <;> omega
    ·intro h; rw [if_neg (by omega), if_neg (by omega), if_pos (by omega)]; rfl
   ·simp only [if_neg c3] at *
    simp at bd ⊢
    constructor
    ·intro h
     split at h
     ·omega
     ·split at h
      ·omega
      ·split at h <;> omega
    ·intro h; rw [if_neg (by omega), if_neg (by omega), if_neg (by omega)]; rfl
theorem rsize_f (b : Int) : tithebarnref01_size.f b = some ((szU b + 1 : Nat) : Int) := by
 unfold tithebarnref01_size.f szU
 split
 ·rfl
 ·split
  ·rfl
  ·split <;> rfl
theorem rpeek_f {k : Nat} (hk : 30 ≤ k) (S : ByteArray) (a : Nat) (e : Int) (ha : a ≤ S.size) (hS : S.size ≤ 4611686018427387904) :
  tithebarnref01_Cursor_peek.f k S a e = some ((decU ((bytesOf S).drop a)).1, ((decU ((bytesOf S).drop a)).2.1 : Int), (decU ((bytesOf S).drop a)).2.2, S, (a : Int), e) := by
 have hB := Bs.bytesOf S
 have hsz := bytesOf_size S
 have hleft : wrap64 ((S.size : Int) - (a : Int)) = ((S.size - a : Nat) : Int) := by rw [w64 (by omega) (by omega)]; omega
 unfold tithebarnref01_Cursor_peek.f tithebarnref01_Cursor_Left.f
 simp only [Option.bind_some, hleft]
 rcases hl : (bytesOf S).drop a with _ | ⟨b, r⟩
 ·have : S.size - a = 0 := by rw [← hsz, ← List.length_drop, hl]; rfl
  rw [if_pos (by omega)]; rfl
 ·have hlen : S.size - a = r.length + 1 := by rw [← hsz, ← List.length_drop, hl]; rfl
  rw [if_neg (by omega), if_pos (by omega), if_pos (by omega)]
  have hb : bt S (a : Int) = b := by
   have := rd_drop (bytesOf S) a 0
   rw [hl] at this
   rw [bt_rd]; exact this.symm
  have hbl := hB.drop a
  rw [hl] at hbl
  have hb' := hbl.head
  have hr : r = (bytesOf S).drop (a + 1) := by rw [← List.drop_drop, hl]; rfl
  rw [hb, rsize_f]
  simp only [Option.bind_some]
  have hsz9 : szU b ≤ 8 := by unfold szU; split <;> (try split) <;> (try split) <;> omega
  have body : ∀ k, 25 ≤ k → ¬ 192 < b → tithebarnref01_Cursor_peek.j0 k ((szU b + 1 : Nat) : Int) false S a e = some ((decU (b :: r)).1, ((decU (b :: r)).2.1 : Int), (decU (b :: r)).2.2, S, (a : Int), e) := by
   intro k hk hb3
   obtain ⟨k, rfl⟩ : ∃ m, k = m + 1 := ⟨k - 1, by omega⟩
   simp only [tithebarnref01_Cursor_peek.j0, tithebarnref01_Cursor_Left.f, Option.bind_some, hleft, decU]
   rw [if_neg (by simp), if_neg hb3]
   by_cases c : r.length < szU b
   ·rw [if_pos (by omega), if_pos c]; rfl
   ·rw [if_neg (by omega), if_pos (by omega), if_pos (by omega), if_neg c, hb]
    have e1 : IntKind.u64.wrap (Int.tmod b 64) = b % 64 := by
     rw [Int.tmod_eq_emod_of_nonneg (by omega), wu64 (by omega) (by omega)]
    have hbn : (b % 64 + 1) * 256 ^ (szU b + 1 - 1) ≤ 18446744073709551616 := by
     unfold szU
     split
     ·simp; omega
     ·split
      ·simp; omega
      ·split
       ·simp; omega
       ·have : b = 192 := by omega
        subst this; decide
    have h := peek_l0 S a (szU b + 1) e (b % 64) (by omega) (by omega) (by omega) hS hbn (szU b) k 1 (by omega) (by omega) (by omega)
    simp only [Nat.sub_self, List.take_zero, numI_nil, Nat.add_sub_cancel] at h
    rw [e1]
    refine h.trans ?_
    rw [← hr]
    have hll := len_least b (r.take (szU b)) hb'.1 (by omega) (hbl.tail.take _) (by rw [List.length_take]; omega)
    by_cases c2 : numI (b % 64) (r.take (szU b)) < leastU (szU b)
    ·rw [if_neg (fun hh => (hll.1 hh) c2), if_pos c2]; rfl
    ·rw [if_pos (hll.2 c2), if_neg c2]
  by_cases c9 : ((szU b + 1 : Nat) : Int) = 9
  ·rw [if_pos c9]
   by_cases cb : 192 < b
   ·obtain ⟨k, rfl⟩ : ∃ m, k = m + 1 := ⟨k - 1, by omega⟩
    have : (b != 192) = true := by rw [bne_iff_ne]; omega
    simp only [tithebarnref01_Cursor_peek.j0, this, decU]
    rw [if_pos trivial, if_pos cb]; rfl
   ·have h192 : b = 192 := by
     unfold szU at c9
     split at c9
     ·simp at c9
     ·split at c9
      ·simp at c9
      ·split at c9
       ·simp at c9
       ·omega
    have hf : (b != 192) = false := by rw [h192]; rfl
    rw [hf]
    exact body k (by omega) cb
  ·rw [if_neg c9]
   refine body k (by omega) ?_
   intro hb3
   apply c9
   unfold szU
   rw [if_neg (by omega), if_neg (by omega), if_neg (by omega)]; rfl
def pUint (r : List Int) (e : Int) : Nat := if e = 0 then (decU r).2.1 else 0
theorem aUint_drop (r : List Int) (e : Int) : (aUint r e).2.1 = r.drop (pUint r e) := by unfold aUint pUint; split <;> rfl
theorem pUint_le (r : List Int) (e : Int) : pUint r e ≤ r.length := by
 unfold pUint; split
 ·exact decU_le (x := (decU r).1) (n := (decU r).2.1) (e := (decU r).2.2) rfl
 ·omega
theorem rcUint_f {k : Nat} (hk : 30 ≤ k) (S : ByteArray) (a : Nat) (e : Int) (ha : a ≤ S.size) (hS : S.size ≤ 4611686018427387904) :
  tithebarnref01_Cursor_Uint.f k S a e = some ((aUint ((bytesOf S).drop a) e).1, S, ((a + pUint ((bytesOf S).drop a) e : Nat) : Int), (aUint ((bytesOf S).drop a) e).2.2) := by
 unfold tithebarnref01_Cursor_Uint.f aUint pUint
 have hle := decU_le (l := (bytesOf S).drop a) (x := (decU ((bytesOf S).drop a)).1) (n := (decU ((bytesOf S).drop a)).2.1) (e := (decU ((bytesOf S).drop a)).2.2) rfl
 rw [List.length_drop, bytesOf_size] at hle
 by_cases c : e = 0
 ·subst c
  rw [if_pos rfl, rpeek_f hk S a 0 ha hS, if_pos rfl, if_pos rfl]
  simp only [Option.bind_some]
  by_cases d : (decU ((bytesOf S).drop a)).2.2 = 0
  ·rw [if_pos d, w64 (by omega) (by omega), d]; rfl
  ·rw [if_neg d]
   rcases decU_err (l := (bytesOf S).drop a) (x := (decU ((bytesOf S).drop a)).1) (n := (decU ((bytesOf S).drop a)).2.1) (e := (decU ((bytesOf S).drop a)).2.2) rfl with ⟨h, _⟩ | ⟨_, h1, h2⟩
   ·exact absurd h d
   ·unfold tithebarnref01_Cursor_fail.f
    rw [if_pos rfl, h1, h2]; rfl
 ·rw [if_neg c, if_neg c, if_neg c]; rfl
theorem rOpen_f {x : Int} (h : u64 x) : tithebarnref01_Open.f x = some (unfold_ x) := by
 obtain ⟨h0, h1⟩ := h
 unfold tithebarnref01_Open.f unfold_
 rw [Int.tmod_eq_emod_of_nonneg h0, Int.tdiv_eq_ediv_of_nonneg h0, wu64 (x := x / 2) (by omega) (by omega), w64 (x := x / 2) (by omega) (by omega)]
 by_cases c : x % 2 = 1
 ·rw [if_pos c, if_pos c, w64 (x := -(x / 2)) (by omega) (by omega), w64 (by omega) (by omega)]
 ·rw [if_neg c, if_neg c]
theorem rcInt_f {k : Nat} (hk : 30 ≤ k) (S : ByteArray) (a : Nat) (e : Int) (ha : a ≤ S.size) (hS : S.size ≤ 4611686018427387904) :
  tithebarnref01_Cursor_Int.f k S a e = some ((aInt ((bytesOf S).drop a) e).1, S, ((a + pUint ((bytesOf S).drop a) e : Nat) : Int), (aUint ((bytesOf S).drop a) e).2.2) := by
 unfold tithebarnref01_Cursor_Int.f
 rw [rcUint_f hk S a e ha hS]
 simp only [Option.bind_some]
 rw [rOpen_f (aUint_u64 ((Bs.bytesOf S).drop a) e)]; rfl
def pByte (r : List Int) (e : Int) : Nat := if e = 0 ∧ r ≠ [] then 1 else 0
theorem aByte_drop (r : List Int) (e : Int) : (aByte r e).2.1 = r.drop (pByte r e) := by
 unfold aByte pByte
 by_cases c : e = 0
 ·rw [if_pos c]; cases r <;> simp [c]
 ·simp [c]
theorem rcByte_f (S : ByteArray) (a : Nat) (e : Int) (ha : a ≤ S.size) (hS : S.size ≤ 4611686018427387904) :
  tithebarnref01_Cursor_Byte.f S a e = some ((aByte ((bytesOf S).drop a) e).1, S, ((a + pByte ((bytesOf S).drop a) e : Nat) : Int), (aByte ((bytesOf S).drop a) e).2.2) := by
 have hB := Bs.bytesOf S
 have hsz := bytesOf_size S
 have hleft : wrap64 ((S.size : Int) - (a : Int)) = ((S.size - a : Nat) : Int) := by rw [w64 (by omega) (by omega)]; omega
 unfold tithebarnref01_Cursor_Byte.f tithebarnref01_Cursor_Left.f aByte pByte
 by_cases c : e = 0
 ·subst c
  rw [if_pos rfl, if_pos rfl]
  simp only [Option.bind_some, hleft]
  rcases hl : (bytesOf S).drop a with _ | ⟨b, r⟩
  ·have : S.size - a = 0 := by rw [← hsz, ← List.length_drop, hl]; rfl
   rw [if_pos (by omega)]
   unfold tithebarnref01_Cursor_fail.f
   rw [if_pos rfl]; rfl
  ·have hlen : S.size - a = r.length + 1 := by rw [← hsz, ← List.length_drop, hl]; rfl
   have hb : bt S (a : Int) = b := by
    have := rd_drop (bytesOf S) a 0
    rw [hl] at this
    rw [bt_rd]; exact this.symm
   have hbl := hB.drop a
   rw [hl] at hbl
   have hb' := hbl.head
   have e1 : wrap64 ((wrap64 ((a : Int) + 1)) - 1) = (a : Int) := by rw [w64 (x := (a : Int) + 1) (by omega) (by omega), w64 (by omega) (by omega)]; omega
   rw [if_neg (by omega), e1, if_pos (by omega), if_pos (by omega), hb, w64 (x := b) (by omega) (by omega), w64 (by omega) (by omega)]
   simp
 ·rw [if_neg c, if_neg c, if_neg (fun h => c h.1)]; rfl
theorem rcDone_f (S : ByteArray) (a : Nat) (e : Int) (ha : a ≤ S.size) (hS : S.size ≤ 4611686018427387904) :
  tithebarnref01_Cursor_Done.f S a e = some (aDone ((bytesOf S).drop a) e, S, (a : Int), e) := by
 have hsz := bytesOf_size S
 have hleft : wrap64 ((S.size : Int) - (a : Int)) = ((S.size - a : Nat) : Int) := by rw [w64 (by omega) (by omega)]; omega
 unfold tithebarnref01_Cursor_Done.f tithebarnref01_Cursor_Left.f aDone
 by_cases c : e = 0
 ·rw [if_pos c, if_pos c]
  simp only [Option.bind_some, hleft]
  by_cases d : (bytesOf S).drop a = []
  ·have : S.size - a = 0 := by rw [← hsz, ← List.length_drop, d]; rfl
   rw [if_neg (by omega), if_pos d, c]
  ·have : ((bytesOf S).drop a).length ≠ 0 := fun h => d (List.length_eq_zero_iff.1 h)
   rw [List.length_drop, hsz] at this
   rw [if_pos (by omega), if_neg d]
 ·rw [if_neg c, if_neg c]
end Go.Proofs.Ytgeddoklmcjdcaa.G
namespace Go.Proofs.Ytgeddoklmcjdcaa.G
open Go.RowKit Go.Proofs.YtgeddoklmcjdcaaQ Go.Proofs.YtgeddoklmcjdcaaW.PrintWords Go.Proofs.YtgeddoklmcjdcaaW.PrintLast Go.Proofs.YtgeddoklmcjdcaaW.PrintMore
attribute [local go_sem] max2_int min2_int max_two min_two max_three min_three max_four min_four   -- for this text's walks alone
set_option linter.unusedVariables false
set_option linter.unusedSimpArgs false
mutual
def tithebarnref03_Pack.j0 : Nat → List Int → Int → Bool → Option (ByteArray × Int)
 | 0, _, _, _ => none
 | k + 1, x0, x1, x14 => if x14 = true then (some ((⟨#[]⟩ : ByteArray), 1)) else (tithebarnref03_Pack.l0 k x0 x1 ([] : List Bool) 0)
def tithebarnref03_Pack.l0 : Nat → List Int → Int → List Bool → Int → Option (ByteArray × Int)
 | 0, _, _, _, _ => none
 | k + 1, x0, x1, x6, x7 => if x7 < (x0.length : Int) then (if 0 ≤ x7 then ((tithebarnref03_fits.f (rd x0 x7) x1).bind fun t341 => (if t341 = true then (tithebarnref03_Pack.l1 k x0 x1 x6 x7 0) else (some ((⟨#[]⟩ : ByteArray), 4)))) else (none)) else ((tithebarnref03_Bytes.f k x6).bind fun t339 => (some (t339, 0)))
def tithebarnref03_Pack.l1 : Nat → List Int → Int → List Bool → Int → Int → Option (ByteArray × Int)
 | 0, _, _, _, _, _ => none
 | k + 1, x0, x1, x6, x7, x8 => if x8 < x1 then (if 0 ≤ x7 then (if x7 < (x0.length : Int) then (if 0 ≤ (IntKind.u64.wrap (x8)) then (if x6.length < 140737488355328 then (tithebarnref03_Pack.l1 k x0 x1 (x6 ++ [((Int.tmod (shr .u64 (rd x0 x7) (IntKind.u64.wrap (x8))) 2) == 1)]) x7 (wrap64 (x8 + 1))) else (none)) else (none)) else (none)) else (none)) else (tithebarnref03_Pack.l0 k x0 x1 x6 (wrap64 (x7 + 1)))
end
def tithebarnref03_Pack.f (k : Nat) (l0 : List Int) (a1 : Int) : Option (ByteArray × Int) := if a1 < 0 then (tithebarnref03_Pack.j0 k l0 a1 true) else (tithebarnref03_Pack.j0 k l0 a1 (decide (a1 > 64)))
end Go.Proofs.Ytgeddoklmcjdcaa.G
namespace Go.Proofs.YtgeddoklmcjdcaaQ
open Go.Proofs.YtgeddoklmcjdcaaW.PrintWords
set_option linter.unusedVariables false
set_option linter.unusedSimpArgs false
theorem tb (N k : Nat) : N.testBit k = decide (N / 2 ^ k % 2 = 1) := Nat.testBit_eq_decide_div_mod_eq
theorem tb_nat (N k : Nat) : (N.testBit k).toNat = N / 2 ^ k % 2 := by
 rw [tb]
 rcases Nat.mod_two_eq_zero_or_one (N / 2 ^ k) with h | h <;> rw [h] <;> rfl
def bitsN (N m : Nat) : List Bool := (List.range m).map N.testBit
theorem bitsN_len (N m : Nat) : (bitsN N m).length = m := by simp [bitsN]
theorem bitsN_succ (N m : Nat) : bitsN N (m + 1) = bitsN N m ++ [N.testBit m] := by simp [bitsN, List.range_succ]
theorem bitsN_get {N m k : Nat} (h : k < m) : rdOf false (bitsN N m) (k : Int) = N.testBit k := by
 unfold rdOf bitsN
 rw [Int.toNat_natCast, List.getD_eq_getElem?_getD, List.getElem?_map, List.getElem?_range h]; rfl
theorem lt_of_bits {N m : Nat} (h : ∀ i, m ≤ i → N.testBit i = false) : N < 2 ^ m := Nat.lt_pow_two_of_testBit N h
theorem bit_big {N m i : Nat} (h : N.testBit i = true) (hi : m ≤ i) : ¬ N < 2 ^ m := by
 intro hl
 have h2 : N < 2 ^ i := Nat.lt_of_lt_of_le hl (Nat.pow_le_pow_right (by omega) hi)
 rw [Nat.testBit_lt_two_pow h2] at h
 cases h
theorem blen_or (a b : Nat) : blen (a ||| b) = max (blen a) (blen b) := by
 apply Nat.le_antisymm
 ·rw [blen_le, or_lt]
  exact ⟨blen_le.1 (Nat.le_max_left _ _), blen_le.1 (Nat.le_max_right _ _)⟩
 ·have h : (a ||| b) < 2 ^ blen (a ||| b) := blen_le.1 (Nat.le_refl _)
  rw [or_lt] at h
  exact Nat.max_le.2 ⟨blen_le.2 h.1, blen_le.2 h.2⟩
theorem wd_snoc (l : List Nat) (x : Nat) : wd (l ++ [x]) = max (wd l) (blen x) := by
 unfold wd
 rw [List.foldl_append, List.foldl_cons, List.foldl_nil, blen_or]
end Go.Proofs.YtgeddoklmcjdcaaQ
namespace Go.Proofs.Ytgeddoklmcjdcaa.G
open Go.RowKit Go.Proofs.YtgeddoklmcjdcaaQ Go.Proofs.YtgeddoklmcjdcaaW.PrintWords Go.Proofs.YtgeddoklmcjdcaaW.PrintLast Go.Proofs.YtgeddoklmcjdcaaW.PrintMore
set_option linter.unusedVariables false
set_option linter.unusedSimpArgs false
theorem natsOf_str {l : List Nat} (h : ∀ x ∈ l, x < 256) : natsOf (strOfNums (ints l)) = l := by
 have h1 := ints_natsOf (strOfNums (ints l))
 rw [bytesOf_strOfNums (ints_Bs h)] at h1
 rw [← unats_ints (natsOf (strOfNums (ints l))), h1, unats_ints]
theorem num_str {l : List Nat} (h : ∀ x ∈ l, x < 256) : num (strOfNums (ints l)) = val 256 l := by unfold num; rw [natsOf_str h]
theorem size_ints (l : List Nat) : (strOfNums (ints l)).size = l.length := by rw [size_strOfNums, ints_len]
theorem ints_U64 {l : List Nat} {w : Nat} (hw : w ≤ 64) (h : ∀ x ∈ l, x < 2 ^ w) : U64 (ints l) := by
 intro y hy
 obtain ⟨x, hx, rfl⟩ := List.mem_map.1 hy
 have h1 := h x hx
 have h2 : 2 ^ w ≤ 2 ^ 64 := Nat.pow_le_pow_right (by omega) hw
 omega
theorem Pack_ok {l : List Int} {w : Nat} (hl : l.length ≤ 17592186043904) (hU : U64 l) (hw : w ≤ 64) (h : wd (unats l) ≤ w) : bits_Pack.f l (w : Int) = some (strOfNums (ints (pk w (unats l))), 0) := by
 unfold bits_Pack.f; rw [if_pos ⟨hl, hU⟩, if_neg (by omega), if_pos (by omega), Int.toNat_natCast]
theorem Unpack_ok {s : ByteArray} {n w : Nat} (hs : s.size ≤ 140737488355328) (hn : n ≤ 65536) (hw : w ≤ 64) (h : fitE s (n * w) = 0) : bits_Unpack.f s (n : Int) (w : Int) = some (ints (dig (2 ^ w) n (num s)), 0) := by
 unfold bits_Unpack.f; rw [if_pos hs, if_neg (by omega), Int.toNat_natCast, Int.toNat_natCast, if_pos h]
theorem Unpack_bad {s : ByteArray} {n w : Nat} (hs : s.size ≤ 140737488355328) (hn : n ≤ 65536) (hw : w ≤ 64) (h : fitE s (n * w) ≠ 0) : bits_Unpack.f s (n : Int) (w : Int) = some ([], fitE s (n * w)) := by
 unfold bits_Unpack.f; rw [if_pos hs, if_neg (by omega), Int.toNat_natCast, Int.toNat_natCast, if_neg h]
theorem fitE_zero {s : ByteArray} {m : Nat} : fitE s m = 0 ↔ s.size = need m ∧ num s < 2 ^ m := by
 unfold fitE
 by_cases c1 : s.size < need m
 ·rw [if_pos c1]; exact ⟨fun h => absurd h (by decide), fun h => by omega⟩
 ·rw [if_neg c1]
  by_cases c2 : need m < s.size
  ·rw [if_pos c2]; exact ⟨fun h => absurd h (by decide), fun h => by omega⟩
  ·rw [if_neg c2]
   by_cases c3 : num s < 2 ^ m
   ·rw [if_pos c3]; exact ⟨fun _ => ⟨by omega, c3⟩, fun _ => rfl⟩
   ·rw [if_neg c3]; exact ⟨fun h => absurd h (by decide), fun h => absurd h.2 c3⟩
theorem fit_pk {w : Nat} {l : List Nat} (h : ∀ x ∈ l, x < 2 ^ w) : fitE (strOfNums (ints (pk w l))) (l.length * w) = 0 := by
 rw [fitE_zero, size_ints, pk_len, num_str (pk_lt w l)]
 exact ⟨rfl, pk_small h⟩
theorem back_pk {w : Nat} {l : List Nat} (h : ∀ x ∈ l, x < 2 ^ w) : dig (2 ^ w) l.length (num (strOfNums (ints (pk w l)))) = l := by
 rw [num_str (pk_lt w l)]; exact unpk_pk h
theorem rd_ints {l : List Nat} {i : Nat} (h : i < l.length) : rd (ints l) (i : Int) = ((l[i] : Nat) : Int) := by
 unfold rd ints
 rw [Int.toNat_natCast, List.getD_eq_getElem?_getD, List.getElem?_map, List.getElem?_eq_getElem h]; rfl
theorem u64wr (x : Int) : IntKind.u64.wrap x = x % 18446744073709551616 := by simp [IntKind.wrap, IntKind.bits, IntKind.signed]
theorem shr8 (x a : Nat) (ha : a ≤ 8) : shr .u8 (x : Int) (a : Int) = ((x / 2 ^ a : Nat) : Int) := by
 unfold shr
 rw [Int.toNat_natCast, Nat.min_eq_left (show a ≤ IntKind.u8.bits from ha)]
 simp
theorem shl64 (a : Nat) (ha : a ≤ 63) : shl .u64 1 (a : Int) = ((2 ^ a : Nat) : Int) := by
 unfold shl
 have h : 2 ^ a ≤ 2 ^ 63 := Nat.pow_le_pow_right (by omega) ha
 have e : (1 : Int) * 2 ^ a = ((2 ^ a : Nat) : Int) := by simp
 rw [Int.toNat_natCast, Nat.min_eq_left (show a ≤ IntKind.u64.bits from Nat.le_trans ha (by decide)), e, u64_nat (by omega)]
theorem mod2 (x : Nat) : (Int.tmod ((x : Nat) : Int) 2 == 1) = decide (x % 2 = 1) := by
 have e : Int.tmod ((x : Nat) : Int) 2 = ((x % 2 : Nat) : Int) := by rw [Int.tmod_eq_emod_of_nonneg (by omega)]; omega
 rw [e, Bool.eq_iff_iff, beq_iff_eq, decide_eq_true_iff]; omega
theorem Bit_f {s : ByteArray} {k : Nat} (hs : s.size ≤ 140737488355328) (hk : k < 8 * s.size) : tithebarnref03_Bit.f s (k : Int) = some ((num s).testBit k) := by
 have e1 : wrap64 (Int.tdiv (k : Int) 8) = ((k / 8 : Nat) : Int) := by rw [Int.tdiv_eq_ediv_of_nonneg (by omega), w64 (by omega) (by omega)]; omega
 have e2 : IntKind.u64.wrap (Int.tmod (k : Int) 8) = ((k % 8 : Nat) : Int) := by rw [Int.tmod_eq_emod_of_nonneg (by omega), u64wr]; omega
 have e3 : bt s ((k / 8 : Nat) : Int) = ((byt s (k / 8) : Nat) : Int) := by
  have h1 := byt_at s (k / 8) (by omega)
  have h2 := bt_at s ((k / 8 : Nat) : Int) (by rw [Int.toNat_natCast]; omega)
  rw [← h2, ← h1]; rfl
 unfold tithebarnref03_Bit.f
 rw [e1, e2, if_pos (by omega), if_pos (by omega), if_pos (by omega), e3, shr8 _ _ (by omega), mod2, tb]
 have e4 : byt s (k / 8) / 2 ^ (k % 8) % 2 = num s / 2 ^ k % 2 := by
  rw [num_byte s (k / 8) (by omega)]
  have h := mod_part (num s / 256 ^ (k / 8)) (k % 8) 1 (by omega)
  rw [Nat.pow_one] at h
  rw [h, pow8, Nat.div_div_eq_div_mul, ← Nat.pow_add, show 8 * (k / 8) + k % 8 = k by omega]
 rw [e4]
theorem unbits_l0 {s : ByteArray} {m : Nat} (hs : s.size = need m) (hm : m ≤ 4194304) : ∀ (d k i : Nat), i + d = 8 * need m → 2 * d + 1 < k → (∀ j, m ≤ j → j < i → (num s).testBit j = false) →
  tithebarnref03_unbits.l0 k s (m : Int) ((need m : Nat) : Int) (bitsN (num s) (min i m)) (i : Int) = some (if num s < 2 ^ m then (bitsN (num s) m, 0) else ([], 5)) := by
 have hn : need m ≤ 524288 + 1 := by unfold need; omega
 have hnl := need_le m
 have e8 : wrap64 (8 * ((need m : Nat) : Int)) = ((8 * need m : Nat) : Int) := by rw [w64 (by omega) (by omega)]; omega
 intro d
 induction d with
 | zero =>
  intro k i hi hk hz
  obtain ⟨k, rfl⟩ : ∃ m, k = m + 1 := ⟨k - 1, by omega⟩
  simp only [tithebarnref03_unbits.l0]
  have hlt : num s < 2 ^ m := lt_of_bits fun j hj => by
   by_cases c : j < i
   ·exact hz j hj c
   ·refine Nat.testBit_lt_two_pow (Nat.lt_of_lt_of_le (num_lt s) (Nat.pow_le_pow_right (by omega) ?_))
    rw [hs]; omega
  rw [e8, if_neg (by omega), if_pos hlt, Nat.min_eq_right (by omega)]
 | succ d ih =>
  intro k i hi hk hz
  obtain ⟨k, rfl⟩ : ∃ m, k = m + 2 := ⟨k - 2, by omega⟩
  have e : wrap64 ((i : Int) + 1) = ((i + 1 : Nat) : Int) := by rw [w64 (by omega) (by omega)]; omega
  simp only [tithebarnref03_unbits.l0]
  rw [e8, if_pos (by omega), Bit_f (by omega) (by rw [hs]; omega), Option.bind_some]
  by_cases c : m ≤ i
  ·rw [if_pos (by omega)]
   simp only [tithebarnref03_unbits.j1]
   cases hb : (num s).testBit i with
   | true => rw [if_pos rfl, if_neg (bit_big hb c)]
   | false =>
    rw [if_neg (by decide), if_neg (by omega), e, show min i m = min (i + 1) m by omega]
    exact ih k (i + 1) (by omega) (by omega) (fun j h1 h2 => by
     by_cases h3 : j = i
     ·rw [h3]; exact hb
     ·exact hz j h1 (by omega))
  ·rw [if_neg (by omega)]
   simp only [tithebarnref03_unbits.j1]
   rw [if_neg (by decide), if_pos (by omega), if_pos (by rw [bitsN_len]; omega), e, show min i m = i by omega, ← bitsN_succ]
   have := ih k (i + 1) (by omega) (by omega) (fun j h1 h2 => by omega)
   rw [show min (i + 1) m = i + 1 by omega] at this
   exact this
theorem unbits_f {s : ByteArray} {m k : Nat} (hss : s.size ≤ 140737488355328) (hm : m ≤ 4194304) (hk : 8388700 < k) : tithebarnref03_unbits.f k s (m : Int) = some (if fitE s m = 0 then (bitsN (num s) m, 0) else ([], fitE s m)) := by
 have hn : need m ≤ 524288 + 1 := by unfold need; omega
 have e1 : wrap64 ((m : Int) + 7) = ((m + 7 : Nat) : Int) := by rw [w64 (by omega) (by omega)]; omega
 have e2 : wrap64 (Int.tdiv ((m + 7 : Nat) : Int) 8) = ((need m : Nat) : Int) := by
  have : Int.tdiv ((m + 7 : Nat) : Int) 8 = ((need m : Nat) : Int) := by rw [Int.tdiv_eq_ediv_of_nonneg (by omega)]; unfold need; omega
  rw [this, w64 (by omega) (by omega)]
 unfold tithebarnref03_unbits.f
 rw [e1, e2]
 by_cases c1 : s.size < need m
 ·have hf : fitE s m = 2 := by unfold fitE; rw [if_pos c1]
  rw [if_pos (by omega), hf, if_neg (by decide)]
 ·rw [if_neg (by omega)]
  by_cases c2 : need m < s.size
  ·have hf : fitE s m = 3 := by unfold fitE; rw [if_neg c1, if_pos c2]
   rw [if_pos (by omega), hf, if_neg (by decide)]
  ·rw [if_neg (by omega)]
   have hs : s.size = need m := by omega
   have h := unbits_l0 hs hm (8 * need m) k 0 (by omega) (by omega) (fun j h1 h2 => by omega)
   rw [show min 0 m = 0 by omega] at h
   have hf : fitE s m = if num s < 2 ^ m then 0 else 5 := by unfold fitE; rw [if_neg c1, if_neg c2]
   rw [hf]
   refine h.trans ?_
   by_cases c3 : num s < 2 ^ m
   ·rw [if_pos c3, if_pos c3, if_pos rfl]
   ·rw [if_neg c3, if_neg c3, if_neg (by decide)]
theorem rUnpack_l1 {N n w : Nat} (hn : n ≤ 65536) (hw : w ≤ 64) {i : Nat} (hi : i < n) : ∀ (d k j : Nat), j + d = w → d < k →
  tithebarnref03_Unpack.l1 k (n : Int) (w : Int) (bitsN N (n * w)) (ints (dig (2 ^ w) i N)) (i : Int) ((N / 2 ^ (i * w) % 2 ^ j : Nat) : Int) (j : Int) = tithebarnref03_Unpack.l0 (k - d - 1) (n : Int) (w : Int) (bitsN N (n * w)) (ints (dig (2 ^ w) (i + 1) N)) ((i + 1 : Nat) : Int) := by
 have hnw : n * w ≤ 4194304 := Nat.le_trans (Nat.mul_le_mul hn hw) (by decide)
 have hiw : (i + 1) * w ≤ n * w := Nat.mul_le_mul_right _ hi
 rw [Nat.succ_mul] at hiw
 have em : Aside0 (wrap64 ((i : Int) * (w : Int)) = ((i * w : Nat) : Int)) := ⟨by rw [← Int.natCast_mul, w64 (by omega) (by omega)]⟩
 intro d
 induction d with
 | zero =>
  intro k j hj hk
  obtain ⟨k, rfl⟩ : ∃ m, k = m + 1 := ⟨k - 1, by omega⟩
  obtain rfl : j = w := by omega
  have e : wrap64 ((i : Int) + 1) = ((i + 1 : Nat) : Int) := by rw [w64 (by omega) (by omega)]; omega
  simp only [tithebarnref03_Unpack.l1]
  rw [if_neg (by omega), if_pos (by rw [ints_len, dig_len]; omega), e]
  have e2 : ints (dig (2 ^ j) i N) ++ [((N / 2 ^ (i * j) % 2 ^ j : Nat) : Int)] = ints (dig (2 ^ j) (i + 1) N) := by
   rw [dig_succ, ints_app, ← Nat.pow_mul, Nat.mul_comm j i]; rfl
  rw [e2]; rfl
 | succ d ih =>
  intro k j hj hk
  obtain ⟨k, rfl⟩ : ∃ m, k = m + 1 := ⟨k - 1, by omega⟩
  have e : Aside0 (wrap64 ((j : Int) + 1) = ((j + 1 : Nat) : Int)) := ⟨by rw [w64 (by omega) (by omega)]; omega⟩
  have e3 : Aside0 (wrap64 (((i * w : Nat) : Int) + (j : Int)) = ((i * w + j : Nat) : Int)) := ⟨by rw [w64 (by omega) (by omega)]; omega⟩
  have e4 : Aside0 (IntKind.u64.wrap (j : Int) = (j : Int)) := ⟨u64_nat (by omega)⟩
  have q1 : (j : Int) < (w : Int) := by omega
  have q2 : (0 : Int) ≤ ((i * w + j : Nat) : Int) := by omega
  have q3 : ((i * w + j : Nat) : Int) < ((bitsN N (n * w)).length : Int) := by rw [bitsN_len]; omega
  have q4 : i * w + j < n * w := by omega
  have q5 : (0 : Int) ≤ (j : Int) := by omega
  have q6 : j + 1 + d = w := by omega
  have q7 : d < k := by omega
  have q8 : j ≤ 63 := by omega
  have hr : k + 1 - (d + 1) - 1 = k - d - 1 := by omega
  have q9 : j + 1 ≤ 64 := by omega
  have hs := mod_step (N / 2 ^ (i * w)) j 1
  rw [Nat.pow_one] at hs
  have hb : (N.testBit (i * w + j)).toNat = N / 2 ^ (i * w) / 2 ^ j % 2 := by rw [tb_nat, div_step]
  have hl : N / 2 ^ (i * w) % 2 ^ (j + 1) < 2 ^ (j + 1) := Nat.mod_lt _ (p2 _)
  have hp : 2 ^ (j + 1) ≤ 2 ^ 64 := Nat.pow_le_pow_right (by decide) q9
  have hz : N / 2 ^ (i * w) % 2 ^ (j + 1) < 18446744073709551616 := Nat.lt_of_lt_of_le hl hp
  clear hl hp
  simp only [tithebarnref03_Unpack.l1]
  rw [em.out, e3.out, if_pos q1, if_pos q2, if_pos q3, bitsN_get q4, hr]
  rw [← hb] at hs
  cases hbit : N.testBit (i * w + j) with
  | true =>
   rw [hbit] at hs
   rw [show (true : Bool).toNat = 1 from rfl, Nat.one_mul] at hs
   rw [if_pos rfl, e4.out, if_pos q5, shl64 _ q8, e.out]
   have e5 : IntKind.u64.wrap (((N / 2 ^ (i * w) % 2 ^ j : Nat) : Int) + ((2 ^ j : Nat) : Int)) = ((N / 2 ^ (i * w) % 2 ^ (j + 1) : Nat) : Int) := by
    rw [← Int.natCast_add, hs]; exact u64_nat hz
   rw [e5]
   exact ih k (j + 1) q6 q7
  | false =>
   rw [hbit] at hs
   rw [show (false : Bool).toNat = 0 from rfl, Nat.zero_mul, Nat.add_zero] at hs
   rw [if_neg (by decide), e.out, hs]
   exact ih k (j + 1) q6 q7
theorem rUnpack_l0 {N n w : Nat} (hn : n ≤ 65536) (hw : w ≤ 64) : ∀ (d k i : Nat), i + d = n → 70 * d + 1 < k →
  tithebarnref03_Unpack.l0 k (n : Int) (w : Int) (bitsN N (n * w)) (ints (dig (2 ^ w) i N)) (i : Int) = some (ints (dig (2 ^ w) n N), 0) := by
 intro d
 induction d with
 | zero =>
  intro k i hi hk
  obtain ⟨k, rfl⟩ : ∃ m, k = m + 1 := ⟨k - 1, by omega⟩
  obtain rfl : i = n := by omega
  simp only [tithebarnref03_Unpack.l0]
  rw [if_neg (by omega)]
 | succ d ih =>
  intro k i hi hk
  obtain ⟨k, rfl⟩ : ∃ m, k = m + 1 := ⟨k - 1, by omega⟩
  simp only [tithebarnref03_Unpack.l0]
  have h := rUnpack_l1 (N := N) hn hw (show i < n by omega) w k 0 (by omega) (by omega)
  rw [Nat.pow_zero, Nat.mod_one] at h
  rw [if_pos (by omega)]
  refine h.trans ?_
  exact ih (k - w - 1) (i + 1) (by omega) (by omega)
theorem rUnpack_f {k : Nat} {s : ByteArray} {n w : Nat} (hk : 8388800 < k) (hs : s.size ≤ 140737488355328) (hn : n ≤ 65536) (hw : w ≤ 64) : tithebarnref03_Unpack.f k s (n : Int) (w : Int) = bits_Unpack.f s (n : Int) (w : Int) := by
 obtain ⟨k, rfl⟩ : ∃ m, k = m + 1 := ⟨k - 1, by omega⟩
 have hnw : n * w ≤ 4194304 := Nat.le_trans (Nat.mul_le_mul hn hw) (by decide)
 have em : wrap64 ((n : Int) * (w : Int)) = ((n * w : Nat) : Int) := by rw [← Int.natCast_mul, w64 (by omega) (by omega)]
 unfold tithebarnref03_Unpack.f
 rw [if_neg (by omega), if_neg (by omega), if_neg (by omega), decide_eq_false (by omega)]
 simp only [tithebarnref03_Unpack.j0]
 rw [if_neg (by decide), em, unbits_f hs hnw (by omega), Option.bind_some]
 by_cases c : fitE s (n * w) = 0
 ·rw [if_pos c, if_pos rfl, Unpack_ok hs hn hw c]
  exact rUnpack_l0 hn hw n k 0 (by omega) (by omega)
 ·rw [if_neg c, if_neg c, Unpack_bad hs hn hw c]
theorem rfits_f {x w : Nat} (hx : x < 18446744073709551616) (hw : w ≤ 64) : tithebarnref03_fits.f (x : Int) (w : Int) = some (decide (x < 2 ^ w)) := by
 unfold tithebarnref03_fits.f
 by_cases c : w = 64
 ·subst c
  rw [if_pos (by omega), decide_eq_true (show x < 2 ^ 64 from hx)]
 ·have hw63 : w ≤ 63 := by omega
  have e : IntKind.u64.wrap (w : Int) = (w : Int) := u64_nat (by omega)
  have q1 : ¬ (w : Int) ≥ 64 := by omega
  have q2 : (0 : Int) ≤ (w : Int) := by omega
  rw [if_neg q1, e, if_pos q2, shl64 _ hw63]
  congr 1
  rw [Bool.eq_iff_iff, decide_eq_true_iff, decide_eq_true_iff]
  exact Int.ofNat_lt
theorem rWidth_l1 {l : List Int} (hU : U64 l) (hl : l.length ≤ 1048576) {i : Nat} (hi : i < l.length) : ∀ (d k v : Nat), v ≤ 64 → max v (blen ((unats l).getD i 0)) = v + d → d < k →
  tithebarnref03_Width.l1 k l (v : Int) (i : Int) = tithebarnref03_Width.l0 (k - d - 1) l ((max v (blen ((unats l).getD i 0)) : Nat) : Int) ((i + 1 : Nat) : Int) := by
 obtain ⟨hx1, hx2⟩ := rd_unats hU hi
 have hb := blen_64 hx2
 have e : Aside0 (wrap64 ((i : Int) + 1) = ((i + 1 : Nat) : Int)) := ⟨by rw [w64 (by omega) (by omega)]; omega⟩
 have q1 : (0 : Int) ≤ (i : Int) := by omega
 have q2 : (i : Int) < (l.length : Int) := by omega
 intro d
 induction d with
 | zero =>
  intro k v hv hm hk
  obtain ⟨k, rfl⟩ : ∃ m, k = m + 1 := ⟨k - 1, by omega⟩
  have hle : blen ((unats l).getD i 0) ≤ v := by omega
  simp only [tithebarnref03_Width.l1]
  rw [if_pos q1, if_pos q2, hx1, rfits_f hx2 hv, Option.bind_some, decide_eq_true (blen_le.1 hle), if_pos rfl, e.out, Nat.max_eq_left hle]
  rfl
 | succ d ih =>
  intro k v hv hm hk
  obtain ⟨k, rfl⟩ : ∃ m, k = m + 1 := ⟨k - 1, by omega⟩
  have hgt : v < blen ((unats l).getD i 0) := by omega
  have e2 : wrap64 ((v : Int) + 1) = ((v + 1 : Nat) : Int) := by rw [w64 (by omega) (by omega)]; omega
  have hr : k + 1 - (d + 1) - 1 = k - d - 1 := by omega
  have hmx : max v (blen ((unats l).getD i 0)) = max (v + 1) (blen ((unats l).getD i 0)) := by omega
  have hnl : ¬ (unats l).getD i 0 < 2 ^ v := fun h => by have := blen_le.2 h; omega
  simp only [tithebarnref03_Width.l1]
  rw [if_pos q1, if_pos q2, hx1, rfits_f hx2 hv, Option.bind_some, decide_eq_false hnl, if_neg (by decide), e2, hr, hmx]
  exact ih k (v + 1) (by omega) (by omega) (by omega)
theorem rWidth_l0 {l : List Int} (hU : U64 l) (hl : l.length ≤ 1048576) : ∀ (d k i : Nat), i + d = l.length → 70 * d + 1 < k →
  tithebarnref03_Width.l0 k l ((wd ((unats l).take i) : Nat) : Int) (i : Int) = some ((wd (unats l) : Nat) : Int) := by
 intro d
 induction d with
 | zero =>
  intro k i hi hk
  obtain ⟨k, rfl⟩ : ∃ m, k = m + 1 := ⟨k - 1, by omega⟩
  simp only [tithebarnref03_Width.l0]
  rw [if_neg (by omega), List.take_of_length_le (by rw [unats_len]; omega)]
 | succ d ih =>
  intro k i hi hk
  obtain ⟨k, rfl⟩ : ∃ m, k = m + 1 := ⟨k - 1, by omega⟩
  have hil : i < l.length := by omega
  obtain ⟨hx1, hx2⟩ := rd_unats hU hil
  have hb := blen_64 hx2
  have hw : wd ((unats l).take i) ≤ 64 := wd_le.2 (take_lt (unats_64 hU))
  have hsn := wd_snoc ((unats l).take i) ((unats l).getD i 0)
  rw [← take_unats hil] at hsn
  have h := rWidth_l1 hU hl hil (max (wd ((unats l).take i)) (blen ((unats l).getD i 0)) - wd ((unats l).take i)) k (wd ((unats l).take i)) hw (by omega) (by omega)
  simp only [tithebarnref03_Width.l0]
  rw [if_pos (by omega)]
  refine h.trans ?_
  rw [← hsn]
  exact ih _ (i + 1) (by omega) (by omega)
theorem rWidth_f {l : List Int} {k : Nat} (hU : U64 l) (hl : l.length ≤ 1048576) (hk : 70 * l.length + 1 < k) : tithebarnref03_Width.f k l = some ((wd (unats l) : Nat) : Int) := by
 unfold tithebarnref03_Width.f
 exact rWidth_l0 hU hl l.length k 0 (by omega) hk
end Go.Proofs.Ytgeddoklmcjdcaa.G
namespace Go.Proofs.Ytgeddoklmcjdcaa.G
open Go.RowKit Go.Proofs.YtgeddoklmcjdcaaQ Go.Proofs.YtgeddoklmcjdcaaW.PrintWords Go.Proofs.YtgeddoklmcjdcaaW.PrintLast Go.Proofs.YtgeddoklmcjdcaaW.PrintMore
set_option linter.unusedVariables false
set_option linter.unusedSimpArgs false
def I64 (l : List Int) : Prop := ∀ x ∈ l, i64 x
theorem I64.nil : I64 [] := fun _ h => by cases h
theorem I64.cons {x : Int} {l : List Int} (hx : i64 x) (h : I64 l) : I64 (x :: l) := fun y hy => (List.mem_cons.1 hy).elim (fun e => e ▸ hx) (h y)
theorem I64.head {x : Int} {l : List Int} (h : I64 (x :: l)) : i64 x := h x List.mem_cons_self
theorem I64.tail {x : Int} {l : List Int} (h : I64 (x :: l)) : I64 l := fun y hy => h y (List.mem_cons_of_mem _ hy)
theorem I64.app {a b : List Int} (ha : I64 a) (hb : I64 b) : I64 (a ++ b) := fun y hy => (List.mem_append.1 hy).elim (ha y) (hb y)
theorem wrap_i64 (x : Int) : i64 (wrap64 x) := by unfold i64 wrap64; omega
theorem aUint_enc {x : Int} (h : u64 x) (r : List Int) : aUint (encU x ++ r) 0 = (x, r, 0) := by
 unfold aUint
 rw [if_pos rfl, decU_enc h r]
 simp
theorem aInt_enc {x : Int} (h : i64 x) (r : List Int) : aInt (encI x ++ r) 0 = (x, r, 0) := by
 unfold aInt encI
 rw [aUint_enc (fold_u64 h), unfold_fold]
theorem aUint_dec {r r' : List Int} {x : Int} (hB : Bs r) (h : aUint r 0 = (x, r', 0)) : r = encU x ++ r' ∧ u64 x := by
 unfold aUint at h
 rw [if_pos rfl] at h
 rcases hd : decU r with ⟨y, n, e⟩
 rw [hd] at h
 simp only [Prod.mk.injEq] at h
 obtain ⟨rfl, rfl, rfl⟩ := h
 obtain ⟨h1, h2, h3⟩ := decU_bytes hB hd
 exact ⟨by rw [← h3, List.take_append_drop], h2⟩
theorem aInt_dec {r r' : List Int} {x : Int} (hB : Bs r) (h : aInt r 0 = (x, r', 0)) : r = encI x ++ r' ∧ i64 x := by
 unfold aInt at h
 rcases hu : aUint r 0 with ⟨u, s⟩
 rw [hu] at h
 simp only [Prod.mk.injEq] at h
 obtain ⟨rfl, rfl⟩ := h
 obtain ⟨h1, h2⟩ := aUint_dec hB hu
 refine ⟨?_, unfold_i64 h2⟩
 unfold encI
 rw [fold_unfold h2.1]
 exact h1
theorem aInt_i64 {r : List Int} (hB : Bs r) (e : Int) : i64 (aInt r e).1 := unfold_i64 (aUint_u64 hB e)
def encL (l : List Int) : List Int := l.flatMap encI
def rp : Nat → List Int → Int → List Int → List Int × List Int × Int
 | 0, r, e, acc => (acc, r, e)
 | n + 1, r, e, acc => if e = 0 then rp n (aInt r e).2.1 (aInt r e).2.2 (acc ++ [(aInt r e).1]) else (acc, r, e)
theorem rp_err {e : Int} (he : e ≠ 0) (n : Nat) (r acc : List Int) : rp n r e acc = (acc, r, e) := by
 cases n with
 | zero => rfl
 | succ n => unfold rp; rw [if_neg he]
theorem rp_len : ∀ (n : Nat) (r : List Int) (e : Int) (acc : List Int), (rp n r e acc).1.length ≤ acc.length + n := by
 intro n
 induction n with
 | zero => intro r e acc; exact Nat.le_refl _
 | succ n ih =>
  intro r e acc
  unfold rp
  split
  ·have := ih (aInt r e).2.1 (aInt r e).2.2 (acc ++ [(aInt r e).1])
   simp at this; omega
  ·simp
theorem rp_enc : ∀ (l : List Int) (rest acc : List Int), I64 l → rp l.length (encL l ++ rest) 0 acc = (acc ++ l, rest, 0)
 | [], rest, acc, _ => by simp [rp, encL]
 | x :: l, rest, acc, h => by
  have e : encL (x :: l) ++ rest = encI x ++ (encL l ++ rest) := by simp [encL]
  rw [List.length_cons, rp, if_pos rfl, e, aInt_enc h.head]
  simp only
  rw [rp_enc l rest (acc ++ [x]) h.tail]
  simp
theorem rp_dec : ∀ (n : Nat) (r acc out r' : List Int), Bs r → rp n r 0 acc = (out, r', 0) → ∃ l, out = acc ++ l ∧ l.length = n ∧ I64 l ∧ r = encL l ++ r'
 | 0, r, acc, out, r', hB, h => by
  unfold rp at h
  simp only [Prod.mk.injEq] at h
  exact ⟨[], by simp [h.1], rfl, I64.nil, by simp [encL, h.2.1]⟩
 | n + 1, r, acc, out, r', hB, h => by
  unfold rp at h
  rw [if_pos rfl] at h
  rcases hi : aInt r 0 with ⟨x, r1, e1⟩
  rw [hi] at h
  simp only at h
  by_cases he : e1 = 0
  ·subst he
   obtain ⟨h1, h2⟩ := aInt_dec hB hi
   have hB1 : Bs r1 := by have := aInt_Bs hB 0; rw [hi] at this; exact this
   obtain ⟨l, h3, h4, h5, h6⟩ := rp_dec n r1 _ out r' hB1 h
   refine ⟨x :: l, by simp [h3], by simp [h4], I64.cons h2 h5, ?_⟩
   rw [h1, h6]; simp [encL]
  ·rw [rp_err he] at h
   simp only [Prod.mk.injEq] at h
   exact absurd h.2.2 he
def deltas : Int → List Int → List Int
 | _, [] => []
 | a, x :: l => wrap64 (x - a) :: deltas x l
def psum : Int → List Int → List Int
 | _, [] => []
 | a, x :: l => wrap64 (a + x) :: psum (wrap64 (a + x)) l
theorem wrap_add_sub {a x : Int} (hx : i64 x) : wrap64 (a + wrap64 (x - a)) = x := by
 obtain ⟨h0, h1⟩ := hx
 unfold wrap64; omega
theorem wrap_sub_add {a x : Int} (hx : i64 x) : wrap64 (wrap64 (a + x) - a) = x := by
 obtain ⟨h0, h1⟩ := hx
 unfold wrap64; omega
theorem psum_deltas : ∀ (l : List Int) (a : Int), I64 l → psum a (deltas a l) = l
 | [], a, _ => rfl
 | x :: l, a, h => by rw [deltas, psum, wrap_add_sub h.head, psum_deltas l x h.tail]
theorem deltas_psum : ∀ (l : List Int) (a : Int), I64 l → deltas a (psum a l) = l
 | [], a, _ => rfl
 | x :: l, a, h => by rw [psum, deltas, wrap_sub_add h.head, deltas_psum l _ h.tail]
theorem deltas_I64 : ∀ (l : List Int) (a : Int), I64 (deltas a l)
 | [], _ => I64.nil
 | x :: l, a => I64.cons (wrap_i64 _) (deltas_I64 l x)
theorem psum_I64 : ∀ (l : List Int) (a : Int), I64 (psum a l)
 | [], _ => I64.nil
 | x :: l, a => I64.cons (wrap_i64 _) (psum_I64 l _)
theorem deltas_len : ∀ (l : List Int) (a : Int), (deltas a l).length = l.length
 | [], _ => rfl
 | x :: l, a => by rw [deltas, List.length_cons, List.length_cons, deltas_len l]
theorem psum_len : ∀ (l : List Int) (a : Int), (psum a l).length = l.length
 | [], _ => rfl
 | x :: l, a => by rw [psum, List.length_cons, List.length_cons, psum_len l]
theorem psum_snoc : ∀ (l : List Int) (a x : Int), psum a (l ++ [x]) = psum a l ++ [wrap64 ((psum a l).getLastD a + x)]
 | [], a, x => rfl
 | y :: l, a, x => by
  rw [List.cons_append, psum, psum, psum_snoc l, List.cons_append]
  congr 2
  cases psum (wrap64 (a + y)) l <;> simp [List.getLastD]
def lead (x : Int) : List Int → Nat
 | [] => 0
 | y :: l => if y = x then lead x l + 1 else 0
theorem lead_le (x : Int) : ∀ l, lead x l ≤ l.length
 | [] => Nat.le_refl _
 | y :: l => by unfold lead; split <;> simp; exact lead_le x l
theorem lead_split (x : Int) : ∀ l, l = List.replicate (lead x l) x ++ l.drop (lead x l)
 | [] => rfl
 | y :: l => by
  unfold lead
  split
  ·rename_i h
   subst h
   rw [List.replicate_succ, List.cons_append, List.drop_succ_cons, ← lead_split y l]
  ·simp
theorem lead_next (x : Int) : ∀ l : List Int, (l.drop (lead x l)).head? ≠ some x
 | [] => by simp
 | y :: l => by
  unfold lead
  split
  ·rw [List.drop_succ_cons]; exact lead_next x l
  ·rename_i h; simpa using h
theorem lead_rep (x : Int) (m : List Int) (hm : m.head? ≠ some x) : ∀ t, lead x (List.replicate t x ++ m) = t
 | 0 => by
  cases m with
  | nil => rfl
  | cons y m => simp at hm; simp [lead, hm]
 | t + 1 => by rw [List.replicate_succ, List.cons_append, lead, if_pos rfl, lead_rep x m hm t]
def runsF : Nat → List Int → List Int
 | 0, _ => []
 | f + 1, [] => []
 | f + 1, x :: l => encU ((lead x l + 1 : Nat) : Int) ++ encI x ++ runsF f (l.drop (lead x l))
def runsB (l : List Int) : List Int := runsF l.length l
theorem runsF_more : ∀ (f : Nat) (l : List Int), l.length ≤ f → runsF f l = runsF (f + 1) l
 | 0, l, h => by
  have : l = [] := List.length_eq_zero_iff.1 (by omega)
  subst this; rfl
 | f + 1, [], h => rfl
 | f + 1, x :: l, h => by
  rw [runsF, runsF, runsF_more f (l.drop (lead x l)) (by rw [List.length_drop]; simp at h; omega)]
theorem runsF_eq (l : List Int) : ∀ f, l.length ≤ f → runsF f l = runsB l := by
 intro f h
 induction f with
 | zero =>
  have : l = [] := List.length_eq_zero_iff.1 (by omega)
  subst this; rfl
 | succ f ih =>
  by_cases hl : l.length ≤ f
  ·rw [← runsF_more f l hl]; exact ih hl
  ·have : l.length = f + 1 := by omega
   unfold runsB; rw [this]
theorem runsB_cons (x : Int) (l : List Int) : runsB (x :: l) = encU ((lead x l + 1 : Nat) : Int) ++ encI x ++ runsB (l.drop (lead x l)) := by
 have h : runsB (x :: l) = runsF (l.length + 1) (x :: l) := rfl
 rw [h, runsF, runsF_eq _ l.length (by rw [List.length_drop]; omega)]
theorem runsB_rep {t : Nat} (ht : 1 ≤ t) (x : Int) (m : List Int) (hm : m.head? ≠ some x) : runsB (List.replicate t x ++ m) = encU (t : Int) ++ encI x ++ runsB m := by
 obtain ⟨t, rfl⟩ : ∃ s, t = s + 1 := ⟨t - 1, by omega⟩
 rw [List.replicate_succ, List.cons_append, runsB_cons, lead_rep x m hm t, List.drop_left' (by simp)]
def rr (n : Nat) : Nat → List Int → List Int → List Int × Int × List Int
 | 0, r, out => (out, 0, r)
 | f + 1, r, out => if out.length < n then
   if (aUint r 0).2.2 = 0 then
    if (aUint r 0).1 = 0 ∨ ((n - out.length : Nat) : Int) < (aUint r 0).1 then ([], 4, [])
    else if (aInt (aUint r 0).2.1 0).2.2 = 0 then
     if out.getLast? = some (aInt (aUint r 0).2.1 0).1 then ([], 4, [])
     else rr n f (aInt (aUint r 0).2.1 0).2.1 (out ++ List.replicate (aUint r 0).1.toNat (aInt (aUint r 0).2.1 0).1)
    else ([], (aInt (aUint r 0).2.1 0).2.2, [])
   else ([], (aUint r 0).2.2, [])
  else (out, 0, r)
theorem rr_done {n f : Nat} {r out : List Int} (h : n ≤ out.length) : rr n f r out = (out, 0, r) := by
 cases f with
 | zero => rfl
 | succ f => rw [rr, if_neg (by omega)]
theorem rr_enc (n : Nat) (hn : n ≤ 65536) (rest : List Int) : ∀ (d : Nat) (l out : List Int) (f : Nat), l.length ≤ d → out.length + l.length = n → l.length ≤ f → I64 l → (∀ x, l.head? = some x → out.getLast? ≠ some x) → rr n f (runsB l ++ rest) out = (out ++ l, 0, rest) := by
 intro d
 induction d with
 | zero =>
  intro l out f hd hl hf hI hb
  have : l = [] := List.length_eq_zero_iff.1 (by omega)
  subst this
  rw [rr_done (by simp at hl; omega)]
  simp [runsB, runsF]
 | succ d ih =>
  intro l out f hd hl hf hI hb
  cases l with
  | nil =>
   rw [rr_done (by simp at hl; omega)]
   simp [runsB, runsF]
  | cons x l =>
   simp only [List.length_cons] at hd hl hf
   obtain ⟨f, rfl⟩ : ∃ g, f = g + 1 := ⟨f - 1, by omega⟩
   have hle := lead_le x l
   have hu : u64 ((lead x l + 1 : Nat) : Int) := by unfold u64; omega
   rw [runsB_cons, rr, if_pos (by omega), List.append_assoc, List.append_assoc, aUint_enc hu]
   simp only
   rw [if_pos trivial, if_neg (by omega), aInt_enc hI.head]
   simp only
   rw [if_pos trivial, if_neg (hb x rfl)]
   have hs := lead_split x l
   have hnx := lead_next x l
   have hdl : (l.drop (lead x l)).length = l.length - lead x l := List.length_drop
   generalize hm : l.drop (lead x l) = m at *
   rw [ih m _ f (by omega) (by simp; omega) (by omega) (fun y hy => hI y (by rw [hs]; simp [hy])) ?_]
   ·rw [Int.toNat_natCast, List.replicate_succ, List.append_assoc, List.cons_append]
    rw [← hs]
   ·intro y hy he
    rw [Int.toNat_natCast, List.getLast?_append] at he
    simp [List.getLast?_replicate] at he
    exact hnx (he ▸ hy)
theorem rr_dec (n : Nat) : ∀ (f : Nat) (r out l r' : List Int), Bs r → out.length ≤ n → n ≤ out.length + f → rr n f r out = (l, 0, r') → ∃ m, l = out ++ m ∧ l.length = n ∧ I64 m ∧ r = runsB m ++ r' ∧ (∀ x, m.head? = some x → out.getLast? ≠ some x) := by
 intro f
 induction f with
 | zero =>
  intro r out l r' hB h1 h2 h
  rw [rr] at h
  simp only [Prod.mk.injEq] at h
  obtain ⟨rfl, _, rfl⟩ := h
  exact ⟨[], by simp, by omega, I64.nil, by simp [runsB, runsF], by simp⟩
 | succ f ih =>
  intro r out l r' hB h1 h2 h
  by_cases hlt : out.length < n
  ·rw [rr, if_pos hlt] at h
   rcases hu : aUint r 0 with ⟨t, r1, e1⟩
   have hB1 : Bs r1 := by have := aUint_Bs hB 0; rw [hu] at this; exact this
   rw [hu] at h
   simp only at h
   by_cases he : e1 = 0
   ·subst he
    obtain ⟨hr, hut⟩ := aUint_dec hB hu
    obtain ⟨u0, u1⟩ := hut
    rw [if_pos rfl] at h
    by_cases hc : t = 0 ∨ ((n - out.length : Nat) : Int) < t
    ·rw [if_pos hc] at h; simp at h
    ·rw [if_neg hc] at h
     rcases hi : aInt r1 0 with ⟨x, r2, e2⟩
     have hB2 : Bs r2 := by have := aInt_Bs hB1 0; rw [hi] at this; exact this
     rw [hi] at h
     simp only at h
     by_cases he2 : e2 = 0
     ·subst he2
      obtain ⟨hr1, hx⟩ := aInt_dec hB1 hi
      rw [if_pos rfl] at h
      by_cases hl : out.getLast? = some x
      ·rw [if_pos hl] at h; simp at h
      ·rw [if_neg hl] at h
       have ht1 : 1 ≤ t.toNat := by omega
       obtain ⟨m, a1, a2, a3, a4, a5⟩ := ih r2 (out ++ List.replicate t.toNat x) l r' hB2 (by simp; omega) (by simp; omega) h
       have hmx : m.head? ≠ some x := by
        intro e
        refine a5 x e ?_
        rw [List.getLast?_append]
        simp [List.getLast?_replicate]; omega
       refine ⟨List.replicate t.toNat x ++ m, by rw [a1, List.append_assoc], a2, I64.app (fun y hy => by rw [(List.mem_replicate.1 hy).2]; exact hx) a3, ?_, ?_⟩
       ·rw [runsB_rep ht1 x m hmx, Int.toNat_of_nonneg u0, hr, hr1, a4]; simp [List.append_assoc]
       ·intro y hy
        obtain ⟨s, hs⟩ : ∃ s, t.toNat = s + 1 := ⟨t.toNat - 1, by omega⟩
        rw [hs, List.replicate_succ] at hy
        simp at hy
        exact hy ▸ hl
     ·rw [if_neg he2] at h; simp at h; exact absurd h.2.1 he2
   ·rw [if_neg he] at h; simp at h; exact absurd h.2.1 he
  ·rw [rr, if_neg hlt] at h
   simp only [Prod.mk.injEq] at h
   obtain ⟨rfl, _, rfl⟩ := h
   exact ⟨[], by simp, by omega, I64.nil, by simp [runsB, runsF], by simp⟩
end Go.Proofs.Ytgeddoklmcjdcaa.G
namespace Go.Proofs.Ytgeddoklmcjdcaa.G
open Go.RowKit Go.Proofs.YtgeddoklmcjdcaaQ Go.Proofs.YtgeddoklmcjdcaaW.PrintWords Go.Proofs.YtgeddoklmcjdcaaW.PrintLast Go.Proofs.YtgeddoklmcjdcaaW.PrintMore
set_option linter.unusedVariables false
set_option linter.unusedSimpArgs false
theorem mn_le (a b : Int) : mn a b ≤ a ∧ mn a b ≤ b ∧ (mn a b = a ∨ mn a b = b) := by unfold mn; split <;> omega
theorem fold_mn : ∀ (l : List Int) (x : Int), l.foldl mn x ≤ x ∧ (∀ y ∈ l, l.foldl mn x ≤ y) ∧ (l.foldl mn x = x ∨ l.foldl mn x ∈ l)
 | [], x => ⟨Int.le_refl _, (fun _ h => by cases h), .inl rfl⟩
 | y :: l, x => by
  obtain ⟨h1, h2, h3⟩ := fold_mn l (mn x y)
  obtain ⟨m1, m2, m3⟩ := mn_le x y
  rw [List.foldl_cons]
  refine ⟨by omega, fun z hz => ?_, ?_⟩
  ·rcases List.mem_cons.1 hz with rfl | hz
   ·omega
   ·exact h2 z hz
  ·rcases h3 with h3 | h3
   ·rcases m3 with m3 | m3
    ·left; omega
    ·right; rw [h3, m3]; exact List.mem_cons_self
   ·right; exact List.mem_cons_of_mem _ h3
def minL : List Int → Int
 | [] => 0
 | x :: l => l.foldl mn x
theorem minL_le {l : List Int} {x : Int} (h : x ∈ l) : minL l ≤ x := by
 cases l with
 | nil => cases h
 | cons y l =>
  obtain ⟨h1, h2, _⟩ := fold_mn l y
  rcases List.mem_cons.1 h with rfl | h
  ·exact h1
  ·exact h2 x h
theorem minL_mem {l : List Int} (h : l ≠ []) : minL l ∈ l := by
 cases l with
 | nil => exact absurd rfl h
 | cons y l =>
  obtain ⟨_, _, h3⟩ := fold_mn l y
  rcases h3 with h3 | h3
  ·show l.foldl mn y ∈ _; rw [h3]; exact List.mem_cons_self
  ·exact List.mem_cons_of_mem _ h3
theorem minL_i64 {l : List Int} (h : l ≠ []) (hI : I64 l) : i64 (minL l) := hI _ (minL_mem h)
def offs (a : Int) (l : List Int) : List Nat := l.map fun x => (x - a).toNat
def back (a : Int) (o : List Nat) : List Int := o.map fun (x : Nat) => wrap64 (a + (x : Int))
theorem offs_len (a : Int) (l : List Int) : (offs a l).length = l.length := by simp [offs]
theorem back_len (a : Int) (o : List Nat) : (back a o).length = o.length := by simp [back]
theorem back_I64 (a : Int) (o : List Nat) : I64 (back a o) := by
 intro x hx
 obtain ⟨y, _, rfl⟩ := List.mem_map.1 hx
 exact wrap_i64 _
theorem back_offs {a : Int} {l : List Int} (hI : I64 l) (ha : ∀ x ∈ l, a ≤ x) : back a (offs a l) = l := by
 unfold back offs
 rw [List.map_map]
 refine (List.map_congr_left (fun x hx => ?_)).trans (List.map_id l)
 have h1 := ha x hx
 obtain ⟨h2, h3⟩ := hI x hx
 simp only [Function.comp, id]
 rw [Int.toNat_of_nonneg (by omega)]
 unfold wrap64; omega
theorem offs_back {a : Int} (hi : i64 a) {o : List Nat} (ho : ∀ x ∈ o, x < 2 ^ 64) (ha : ∀ x ∈ back a o, a ≤ x) : offs a (back a o) = o := by
 unfold offs
 have e : ∀ x ∈ o, ((wrap64 (a + (x : Int))) - a).toNat = x := by
  intro x hx
  have h1 := ha _ (List.mem_map.2 ⟨x, hx, rfl⟩)
  have h2 := ho x hx
  obtain ⟨i0, i1⟩ := hi
  unfold wrap64 at *; omega
 unfold back
 rw [List.map_map]
 exact (List.map_congr_left (fun x hx => e x hx)).trans (List.map_id o)
theorem offs_64 {l : List Int} (hI : I64 l) : ∀ x ∈ offs (minL l) l, x < 2 ^ 64 := by
 intro x hx
 obtain ⟨y, hy, rfl⟩ := List.mem_map.1 hx
 have h1 := minL_le hy
 obtain ⟨a0, a1⟩ := hI y hy
 have hne : l ≠ [] := by rintro rfl; cases hy
 obtain ⟨b0, b1⟩ := minL_i64 hne hI
 omega
theorem wd_offs {l : List Int} (hI : I64 l) : wd (offs (minL l) l) ≤ 64 := wd_le.2 (offs_64 hI)
def packB (l : List Int) : List Int := if l = [] then [] else encI (minL l) ++ ((wd (offs (minL l) l) : Nat) : Int) :: ints (pk (wd (offs (minL l) l)) (offs (minL l) l))
def bp (n : Nat) (r : List Int) : List Int × Int × List Int :=
 if n = 0 then ([], 0, r)
 else if (aByte (aInt r 0).2.1 (aInt r 0).2.2).2.2 ≠ 0 then ([], (aByte (aInt r 0).2.1 (aInt r 0).2.2).2.2, [])
 else if 64 < (aByte (aInt r 0).2.1 (aInt r 0).2.2).1 then ([], 4, [])
 else bq n (aInt r 0).1 (aByte (aInt r 0).2.1 (aInt r 0).2.2).1.toNat (aByte (aInt r 0).2.1 (aInt r 0).2.2).2.1
where bq (n : Nat) (a : Int) (w : Nat) (r : List Int) : List Int × Int × List Int :=
 if r.length < need (n * w) then ([], 2, [])
 else if fitE (strOfNums (r.take (need (n * w)))) (n * w) ≠ 0 then ([], fitE (strOfNums (r.take (need (n * w)))) (n * w), [])
 else if minL (back a (dig (2 ^ w) n (num (strOfNums (r.take (need (n * w))))))) = a ∧ wd (dig (2 ^ w) n (num (strOfNums (r.take (need (n * w)))))) = w then
  (back a (dig (2 ^ w) n (num (strOfNums (r.take (need (n * w)))))), 0, r.drop (need (n * w))) else ([], 4, [])
theorem aByte_cons (b : Int) (r : List Int) : aByte (b :: r) 0 = (b, r, 0) := by unfold aByte; rw [if_pos rfl]
theorem aByte_err {r : List Int} {e : Int} (he : e ≠ 0) : aByte r e = (0, r, e) := by unfold aByte; rw [if_neg he]
theorem bp_enc {l : List Int} (hI : I64 l) (hl : l.length ≤ 65536) (rest : List Int) : bp l.length (packB l ++ rest) = (l, 0, rest) := by
 by_cases h0 : l = []
 ·subst h0; simp [bp, packB]
 ·have hn : l.length ≠ 0 := fun h => h0 (List.length_eq_zero_iff.1 h)
  have hw := wd_offs hI
  have ho := offs_64 hI
  have hlt : ∀ x ∈ offs (minL l) l, x < 2 ^ wd (offs (minL l) l) := wd_le.1 (Nat.le_refl _)
  have hb := back_offs hI (fun x hx => minL_le hx)
  have hln := offs_len (minL l) l
  have hmi := minL_i64 h0 hI
  have hp : packB l = encI (minL l) ++ ((wd (offs (minL l) l) : Nat) : Int) :: ints (pk (wd (offs (minL l) l)) (offs (minL l) l)) := by unfold packB; rw [if_neg h0]
  obtain ⟨o, hoo⟩ : ∃ o, offs (minL l) l = o := ⟨_, rfl⟩
  obtain ⟨a, haa⟩ : ∃ a, minL l = a := ⟨_, rfl⟩
  rw [haa] at hoo
  rw [haa, hoo] at hw ho hlt hb hln hp
  rw [haa] at hmi
  obtain ⟨w, hww⟩ : ∃ w, wd o = w := ⟨_, rfl⟩
  rw [hww] at hw hlt hp
  have hfit := fit_pk hlt
  have hback := back_pk hlt
  rw [hln] at hfit hback
  have hpl : (ints (pk w o)).length = need (l.length * w) := by rw [ints_len, pk_len, hln]
  rw [hp, List.append_assoc, List.cons_append]
  unfold bp
  rw [if_neg hn, aInt_enc hmi]
  simp only
  rw [aByte_cons]
  simp only
  rw [if_neg (by simp), if_neg (by omega), Int.toNat_natCast]
  unfold bp.bq
  have ht : (ints (pk w o) ++ rest).take (need (l.length * w)) = ints (pk w o) := by rw [← hpl, List.take_left]
  have hd : (ints (pk w o) ++ rest).drop (need (l.length * w)) = rest := by rw [← hpl, List.drop_left]
  rw [ht, hd, if_neg (by rw [List.length_append, hpl]; omega), if_neg (by rw [hfit]; simp), hback, hb, if_pos ⟨haa, hww⟩]
theorem bp_dec {n : Nat} {r l r' : List Int} (hB : Bs r) (hn : n ≤ 65536) (h : bp n r = (l, 0, r')) : l.length = n ∧ I64 l ∧ r = packB l ++ r' := by
 unfold bp at h
 by_cases h0 : n = 0
 ·rw [if_pos h0] at h
  simp only [Prod.mk.injEq] at h
  obtain ⟨rfl, _, rfl⟩ := h
  exact ⟨h0.symm, I64.nil, by simp [packB]⟩
 ·rw [if_neg h0] at h
  rcases hi : aInt r 0 with ⟨a, r1, e1⟩
  have hB1 : Bs r1 := by have := aInt_Bs hB 0; rw [hi] at this; exact this
  rw [hi] at h
  simp only at h
  by_cases he1 : e1 = 0
  ·subst he1
   obtain ⟨hr, hia⟩ := aInt_dec hB hi
   cases r1 with
   | nil => rw [show aByte [] 0 = (0, [], 2) from rfl] at h; simp at h
   | cons b r2 =>
    obtain ⟨b0, b1⟩ := hB1.head
    have hB2 := hB1.tail
    rw [aByte_cons] at h
    simp only at h
    rw [if_neg (by simp)] at h
    by_cases hw : 64 < b
    ·rw [if_pos hw] at h; simp at h
    ·rw [if_neg hw] at h
     obtain ⟨w, rfl⟩ : ∃ w : Nat, b = (w : Int) := ⟨b.toNat, by omega⟩
     rw [Int.toNat_natCast] at h
     unfold bp.bq at h
     by_cases c1 : r2.length < need (n * w)
     ·rw [if_pos c1] at h; simp at h
     ·rw [if_neg c1] at h
      by_cases c2 : fitE (strOfNums (r2.take (need (n * w)))) (n * w) ≠ 0
      ·rw [if_pos c2] at h; simp at h; exact absurd h.2.1 c2
      ·rw [if_neg c2] at h
       by_cases c3 : minL (back a (dig (2 ^ w) n (num (strOfNums (r2.take (need (n * w))))))) = a ∧ wd (dig (2 ^ w) n (num (strOfNums (r2.take (need (n * w)))))) = w
       ·rw [if_pos c3] at h
        obtain ⟨c3, c4⟩ := c3
        simp only [Prod.mk.injEq] at h
        obtain ⟨hl, _, hr'⟩ := h
        have hBt := hB2.take (need (n * w))
        obtain ⟨f1, f2⟩ := fitE_zero.1 (Classical.not_not.1 c2)
        obtain ⟨s, hs⟩ : ∃ s, strOfNums (r2.take (need (n * w))) = s := ⟨_, rfl⟩
        rw [hs] at c3 c4 hl f1 f2
        have hsb : bytesOf s = r2.take (need (n * w)) := by rw [← hs, bytesOf_strOfNums hBt]
        have hpk : pk w (dig (2 ^ w) n (num s)) = natsOf s := by
         unfold num at f2 ⊢
         exact pk_unpk (natsOf_lt s) (by rw [natsOf_len]; exact f1) f2
        have hdl : (dig (2 ^ w) n (num s)).length = n := dig_len _ _ _
        have hdlt := dig_lt (p2 w) n (num s)
        obtain ⟨o, ho⟩ : ∃ o, dig (2 ^ w) n (num s) = o := ⟨_, rfl⟩
        rw [ho] at c3 c4 hl hpk hdl hdlt
        have hll : l.length = n := by rw [← hl, back_len, hdl]
        have hne : l ≠ [] := by rintro rfl; simp at hll; omega
        have h64 : ∀ x ∈ o, x < 2 ^ 64 := fun x hx => Nat.lt_of_lt_of_le (hdlt x hx) (Nat.pow_le_pow_right (by omega) (by omega))
        rw [hl] at c3
        have hof : offs a l = o := by rw [← hl]; exact offs_back hia h64 (fun x hx => by rw [hl] at hx; have := minL_le hx; omega)
        refine ⟨hll, by rw [← hl]; exact back_I64 _ _, ?_⟩
        unfold packB
        rw [if_neg hne, c3, hof, c4, hpk, ints_natsOf, hsb, hr, ← hr', List.append_assoc, List.cons_append, List.take_append_drop]
       ·rw [if_neg c3] at h; simp at h
  ·rw [aByte_err he1] at h
   simp only at h
   rw [if_pos he1] at h
   simp at h; exact absurd h.2.1 he1
def body (a : Int) (n : Nat) (r : List Int) : List Int × Int × List Int :=
 if a = 0 then ((rp n r 0 []).1, (rp n r 0 []).2.2, (rp n r 0 []).2.1)
 else if a = 1 then (psum 0 (rp n r 0 []).1, (rp n r 0 []).2.2, (rp n r 0 []).2.1)
 else if a = 2 then rr n n r [] else bp n r
def enc (a : Int) (l : List Int) : List Int := if a = 0 then encL l else if a = 1 then encL (deltas 0 l) else if a = 2 then runsB l else packB l
theorem body_enc (a : Int) {l : List Int} (hI : I64 l) (hl : l.length ≤ 65536) (rest : List Int) : body a l.length (enc a l ++ rest) = (l, 0, rest) := by
 unfold body enc
 by_cases c0 : a = 0
 ·rw [if_pos c0, if_pos c0, rp_enc l rest [] hI]; rfl
 ·rw [if_neg c0, if_neg c0]
  by_cases c1 : a = 1
  ·have h := rp_enc (deltas 0 l) rest [] (deltas_I64 l 0)
   rw [deltas_len] at h
   rw [if_pos c1, if_pos c1, h, List.nil_append, psum_deltas l 0 hI]
  ·rw [if_neg c1, if_neg c1]
   by_cases c2 : a = 2
   ·rw [if_pos c2, if_pos c2]
    have := rr_enc l.length hl rest l.length l [] l.length (Nat.le_refl _) (by simp) (Nat.le_refl _) hI (by simp)
    simpa using this
   ·rw [if_neg c2, if_neg c2]; exact bp_enc hI hl rest
theorem body_dec (a : Int) {n : Nat} {r l r' : List Int} (hB : Bs r) (hn : n ≤ 65536) (h : body a n r = (l, 0, r')) : l.length = n ∧ I64 l ∧ r = enc a l ++ r' := by
 unfold body at h
 unfold enc
 by_cases c0 : a = 0
 ·rw [if_pos c0] at h ⊢
  simp only [Prod.mk.injEq] at h
  obtain ⟨h1, h2, h3⟩ := h
  obtain ⟨m, h4, h5, h6, h7⟩ := rp_dec n r [] l r' hB (Prod.ext h1 (Prod.ext h3 h2))
  rw [List.nil_append] at h4
  subst h4
  exact ⟨h5, h6, h7⟩
 ·rw [if_neg c0] at h ⊢
  by_cases c1 : a = 1
  ·rw [if_pos c1] at h ⊢
   simp only [Prod.mk.injEq] at h
   obtain ⟨h1, h2, h3⟩ := h
   obtain ⟨m, h4, h5, h6, h7⟩ := rp_dec n r [] _ r' hB (Prod.ext rfl (Prod.ext h3 h2))
   rw [List.nil_append] at h4
   replace h4 : (rp n r 0 []).fst = m := h4
   rw [h4] at h1
   subst h1
   exact ⟨by rw [psum_len, h5], psum_I64 m 0, by rw [deltas_psum m 0 h6]; exact h7⟩
  ·rw [if_neg c1] at h ⊢
   by_cases c2 : a = 2
   ·rw [if_pos c2] at h ⊢
    obtain ⟨m, h1, h2, h3, h4, _⟩ := rr_dec n n r [] l r' hB (by simp) (by simp) h
    rw [List.nil_append] at h1
    subst h1
    exact ⟨h2, h3, h4⟩
   ·rw [if_neg c2] at h ⊢
    exact bp_dec hB hn h
def EN (a : Int) (l : List Int) : List Int := a :: (encU (l.length : Int) ++ enc a l)
def DR (bs : List Int) : List Int × Int :=
 if (aByte bs 0).2.2 = 0 ∧ 4 ≤ (aByte bs 0).1 then ([], 4)
 else if (aUint (aByte bs 0).2.1 (aByte bs 0).2.2).2.2 ≠ 0 then ([], (aUint (aByte bs 0).2.1 (aByte bs 0).2.2).2.2)
 else if 65536 < (aUint (aByte bs 0).2.1 (aByte bs 0).2.2).1 then ([], 3)
 else DB (body (aByte bs 0).1 (aUint (aByte bs 0).2.1 (aByte bs 0).2.2).1.toNat (aUint (aByte bs 0).2.1 (aByte bs 0).2.2).2.1)
where DB (t : List Int × Int × List Int) : List Int × Int := if t.2.1 ≠ 0 then ([], t.2.1) else if t.2.2 = [] then (t.1, 0) else ([], 5)
theorem DR_EN {a : Int} (h0 : 0 ≤ a) (h4 : a < 4) {l : List Int} (hI : I64 l) (hl : l.length ≤ 65536) : DR (EN a l) = (l, 0) := by
 have hu : u64 (l.length : Int) := by unfold u64; omega
 have hb := body_enc a hI hl []
 rw [List.append_nil] at hb
 unfold DR EN
 rw [aByte_cons]
 simp only
 rw [if_neg (by omega), aUint_enc hu]
 simp only
 rw [if_neg (by simp), if_neg (by omega), Int.toNat_natCast, hb]
 rfl
theorem EN_DR {bs l : List Int} (hB : Bs bs) (h : DR bs = (l, 0)) : ∃ a, 0 ≤ a ∧ a < 4 ∧ I64 l ∧ l.length ≤ 65536 ∧ bs = EN a l := by
 unfold DR at h
 cases bs with
 | nil => rw [show aByte [] 0 = (0, [], 2) from rfl] at h; simp [aUint] at h
 | cons a r =>
  obtain ⟨a0, a1⟩ := hB.head
  have hB1 := hB.tail
  rw [aByte_cons] at h
  simp only at h
  by_cases c : a < 4
  ·rw [if_neg (by omega)] at h
   rcases hu : aUint r 0 with ⟨n, r1, e1⟩
   rw [hu] at h
   simp only at h
   by_cases he : e1 = 0
   ·subst he
    obtain ⟨h1, h2⟩ := aUint_dec hB1 hu
    obtain ⟨n0, n1⟩ := h2
    have hB2 : Bs r1 := by have := aUint_Bs hB1 0; rw [hu] at this; exact this
    rw [if_neg (by simp)] at h
    by_cases hn : 65536 < n
    ·rw [if_pos hn] at h; simp at h
    ·rw [if_neg hn] at h
     rcases hb : body a n.toNat r1 with ⟨l', e2, r2⟩
     rw [hb] at h
     unfold DR.DB at h
     simp only at h
     by_cases he2 : e2 = 0
     ·subst he2
      rw [if_neg (by simp)] at h
      by_cases hr : r2 = []
      ·subst hr
       rw [if_pos rfl] at h
       simp only [Prod.mk.injEq] at h
       obtain ⟨rfl, _⟩ := h
       obtain ⟨k1, k2, k3⟩ := body_dec a hB2 (by omega) hb
       refine ⟨a, a0, c, k2, by omega, ?_⟩
       unfold EN
       rw [k1, Int.toNat_of_nonneg n0, h1, k3, List.append_nil]
      ·rw [if_neg hr] at h; simp at h
     ·rw [if_pos he2] at h; simp at h; exact absurd h.2 he2
   ·rw [if_pos he] at h; simp at h; exact absurd h.2 he
  ·rw [if_pos ⟨trivial, by omega⟩] at h; simp at h
end Go.Proofs.Ytgeddoklmcjdcaa.G
