import Derived.Test.YtgeddoklmcjdcaaZQA
import Derived.Test.YtgeddoklmcjdcaaZG17
namespace Go.Proofs.Ytgeddoklmcjdcaa.G
open Go.RowKit Go.Proofs.YtgeddoklmcjdcaaQ Go.Proofs.YtgeddoklmcjdcaaW.PrintWords Go.Proofs.YtgeddoklmcjdcaaW.PrintLast Go.Proofs.YtgeddoklmcjdcaaW.PrintMore
attribute [local go_sem] max2_int min2_int max_two min_two max_three min_three max_four min_four   -- for this text's walks alone
set_option linter.unusedVariables false
set_option linter.unusedSimpArgs false
def tithebarnref04_raw.l0 : Nat → Int → List Int → Int → ByteArray → Int → Int → Option (ByteArray × ByteArray × Int × Int)
 | 0, _, _, _, _, _, _ => none
 | k + 1, x1, x5, x6, x1000, x1001, x1002 => if x6 < x1 then (if x1002 = 0 then ((tithebarnref01_Cursor_Byte.f x1000 x1001 x1002).bind fun bt417 => (if x5.length < 140737488355328 then (tithebarnref04_raw.l0 k x1 (x5 ++ [(bt417.1) % 256]) (wrap64 (x6 + 1)) bt417.2.1 bt417.2.2.1 bt417.2.2.2) else (none))) else (some (strOfNums x5, x1000, x1001, x1002))) else (some (strOfNums x5, x1000, x1001, x1002))
def tithebarnref04_raw.f (k : Nat) (s0_0 : ByteArray) (s0_1 : Int) (s0_2 : Int) (a1 : Int) : Option (ByteArray × ByteArray × Int × Int) := tithebarnref04_raw.l0 k a1 ([] : List Int) 0 s0_0 s0_1 s0_2
theorem tithebarnref04_raw.mono_l : ∀ k, (∀ y0 y1 y2 y3 y4 y5, LeO (tithebarnref04_raw.l0 k y0 y1 y2 y3 y4 y5) (tithebarnref04_raw.l0 (k + 1) y0 y1 y2 y3 y4 y5))
 | 0 => fun _ _ _ _ _ _ r h => by simp [tithebarnref04_raw.l0] at h
 | k + 1 => by
  have ih0 := tithebarnref04_raw.mono_l k
  ·intro y0 y1 y2 y3 y4 y5
   unfold tithebarnref04_raw.l0
   repeat' first
   | (with_reducible exact ih0 _ _ _ _ _ _)
   | (with_reducible exact LeO.refl _)
   | (with_reducible exact LeO.none _)
   | (with_reducible refine LeO.ite ?_ ?_)
   | (with_reducible refine LeO.bind ?_ (fun _ => ?_))
   | exact ih0 _ _ _ _ _ _
   | exact LeO.none _
   | refine LeO.ite ?_ ?_
   | refine LeO.bind ?_ (fun _ => ?_)
theorem tithebarnref04_raw.mono : ∀ a0 a1 a2 a3 k, LeO (tithebarnref04_raw.f k a0 a1 a2 a3) (tithebarnref04_raw.f (k + 1) a0 a1 a2 a3) := by
 intro a0 a1 a2 a3 k
 have ih0 := tithebarnref04_raw.mono_l k
 unfold tithebarnref04_raw.f
 repeat' first
   | (with_reducible exact ih0 _ _ _ _ _ _)
   | (with_reducible exact LeO.refl _)
   | (with_reducible exact LeO.none _)
   | (with_reducible refine LeO.ite ?_ ?_)
   | (with_reducible refine LeO.bind ?_ (fun _ => ?_))
   | exact ih0 _ _ _ _ _ _
   | exact LeO.none _
   | refine LeO.ite ?_ ?_
   | refine LeO.bind ?_ (fun _ => ?_)
set_option maxHeartbeats 8000000 in
set_option maxRecDepth 100000 in
theorem tithebarnref04_raw.calls (k : Nat) (g : Nat) (s0_0 : ByteArray) (s0_1 : Int) (s0_2 : Int) (a1 : Int) (r1 : ByteArray) (r2 : ByteArray) (r3 : Int) (r4 : Int) (w0 w : World) (hI : IsS55 w0 w g s0_0 s0_1 s0_2) (hB : Below w0.heap.size w0 w) (h : tithebarnref04_raw.f k s0_0 s0_1 s0_2 a1 = some (r1, r2, r3, r4)) :
  Calls Try.prog 52 #[.pointer (some ⟨g, 0, none⟩), .int .i64 a1] w fun e w' => e = .returned (.string r1) ∧ IsS55 w0 w' g r2 r3 r4 ∧ Below w0.heap.size w0 w' ∧ KeepBut w w' g none := by
 have HI0 := Aside0.mk hI
 have HK := Aside0.mk (KeepBut.refl w g none)
 have HL := Aside0.mk hB.size
 clear hI
 have HW0 := Aside0.mk hB.size
 have HB := Aside0.mk hB
 clear hB
 have H : (tithebarnref04_raw.l0 k a1 ([] : List Int) 0 s0_0 s0_1 s0_2) = some (r1, r2, r3, r4) := h
 clear h
 have H' := Aside0.mk H
 clear H
 go_enter Try.func52, Try.ntmps52
 go_wp2
 go_loopg [5, 6] k (fun kq v5 v6 w' => ∃ (x5_1 : List Int) (x6_1 : Int) (x1000_1 : ByteArray) (x1001_1 : Int) (x1002_1 : Int), v6 = .int .i64 x6_1 ∧ Aside0 (tithebarnref04_raw.l0 kq a1 x5_1 x6_1 x1000_1 x1001_1 x1002_1 = some (r1, r2, r3, r4)) ∧ Aside0 (kq ≤ k) ∧ Aside0 (Kd.R (Kd.int .u8) 5 w' w.heap.size (fun _ => True) v5 x5_1) ∧ Aside0 (IsS55 w0 w' g x1000_1 x1001_1 x1002_1) ∧ Aside0 (KeepBut w w' g none) ∧ Aside0 (Below w0.heap.size w0 w'))
 case atStart => exact ⟨(([] : List Int)), (0), (s0_0), (s0_1), (s0_2), z11_, H', ⟨Nat.le_refl _⟩, ⟨z10_⟩, ⟨z2_⟩, ⟨z0_⟩, ⟨z3_⟩⟩
 case round =>
  clear H'
  try clear p2
  obtain ⟨x5_1, x6_1, x1000_1, x1001_1, x1002_1, rfl, HA, HK1, HO_5, HI0, HK, HB⟩ := hrel
  cases gk with
  | zero => exact absurd HA.out (by simp [tithebarnref04_raw.l0])
  | succ k1 =>
   have H := HA.out
   clear HA
   simp only [tithebarnref04_raw.l0] at H
   by_cases c3 : x6_1 < a1
   ·rw [if_pos c3] at H
    have c3b0 : decide (x6_1 < a1) = true := decide_eq_true c3
    clear c3
    by_cases c4 : x1002_1 = 0
    ·rw [if_pos c4] at H
     have c4b0 : (x1002_1 == 0) = true := beq_iff_eq.mpr c4
     have c4b1 : (x1002_1 != 0) = false := bne_eq_false_iff_eq.mpr c4
     clear c4
     replace H := Option.bind_eq_some_iff.mp H
     obtain ⟨⟨t417, t418, t419, t420⟩, A50, H⟩ := H
     replace H : (if x5_1.length < 140737488355328 then (tithebarnref04_raw.l0 k1 a1 (x5_1 ++ [(t417) % 256]) (wrap64 (x6_1 + 1)) t418 t419 t420) else (none)) = some (r1, r2, r3, r4) := H
     have A5 := Aside0.mk A50
     clear A50
     by_cases c6 : x5_1.length < 140737488355328
     ·rw [if_pos c6] at H
      have LMc6 := Aside0.mk c6
      clear c6
      obtain ⟨y421, hy421⟩ : ∃ y_ : List Int, y_ = (x5_1 ++ [(t417) % 256]) := ⟨_, rfl⟩
      replace H : (tithebarnref04_raw.l0 k1 a1 y421 (wrap64 (x6_1 + 1)) t418 t419 t420) = some (r1, r2, r3, r4) := by first | (rw [hy421]; with_reducible exact H) | (have H2_ := (Option.bind_some _ _).symm.trans H; rw [hy421]; with_reducible exact H2_) | (have H2_ := (Option.bind_some _ _).symm.trans H; with_reducible exact H2_) | with_reducible exact H | (rw [hy421]; exact H) | exact H
      have Ny421 := Aside0.mk hy421
      clear hy421
      have H' := Aside0.mk H
      clear H
      obtain ⟨HGz7, hgz7⟩ := HI0.out
      have hcz7_0 := cellS55_0 HGz7
      have hcz7_1 := cellS55_1 HGz7
      have hcz7_2 := cellS55_2 HGz7
      have hfz7_0 := blk_frozen HGz7 0
      have hfz7_1 := blk_frozen HGz7 1
      have hfz7_2 := blk_frozen HGz7 2
      clear HGz7 hgz7
      go_wp2_with (first | ((with_reducible refine gate_callee (f := 28) rfl ?_); refine goesL_ (some 21) rfl rfl Try.func28 (by kernel_rfl) rfl #[.pointer (some ⟨g, 0, none⟩)] rfl (by (try simp only [List.map_toArray, List.map_cons, List.map_nil]); first | done | rfl | (simp only [List.length_drop, List.length_take]; rfl) | (go_simp; simp [IntKind.wrap, IntKind.bits, IntKind.signed]; omega)) ?_; (with_reducible refine (tithebarnref01_Cursor_Byte.calls g x1000_1 x1001_1 x1002_1 t417 t418 t419 t420 w0 _ ?side1 ?side2 A5.out).mono ?_); (case side1 => repeat (first | (with_reducible first | exact HI0.out | apply IsS55.alloc | apply IsS55.drewN | apply IsS55.drew | apply IsS55.set_0 | apply IsS55.set_1 | apply IsS55.set_2) | exact HI0.out)); (case side2 => repeat (first | (with_reducible first | exact HB.out | apply below_alloc | apply pw_below_drewN | apply below_drew1 | refine below_set ?_ (IsS55.ge HI0.out)) | exact HB.out)); rintro e w8 ⟨rfl, hi, hb, hk⟩; refine ⟨_, rfl, ?_⟩; have n0_ := Aside0.mk (Kd.R_mono (Kd.R_keep (IsS55.apart (show IsS55 w0 _ g x1000_1 x1001_1 x1002_1 from z2_) (by (with_reducible repeat (first | apply Kd.R_alloc | apply Kd.R_drewN | apply Kd.R_drew)); exact HO_5.out) (by decide)) hk (fun _ h => h.2)) (fun _ h => h.1)); have n1_ := Aside0.mk (KeepBut.trans z0_ hk (.inl rfl)); have n2_ := Aside0.mk (hb); have n3_ := Aside0.mk (hi); clear HO_5; clear HK; clear HB; clear HI0; have HO_5 := n0_; have HK := n1_; have HB := n2_; have HI0 := n3_; clear n0_ n1_ n2_ n3_; (try clear hb); (try clear hb2); (try clear hk); (try clear hi)) | ((with_reducible refine gate_builtin (b := .append) (xs := #[.tmp 22, .tmp 25]) rfl ?_); at_builtin; refine Kd.R_append (Kd.int .u8) w.heap.size rfl (.tmp 22) (.tmp 25) 38 5 (.int .u8 0) 1 rfl Try.underlying38 info5 rfl (by decide) (by omega) u5 x5_1 ((t417) % 256) [.int .u8 ((t417) % 256)] (fun _ => True) (fun _ => False) rfl rfl ?aP (fun _ hk => hk.elim) ?aF ?aO (Below.refl _ _) ?aS ?aL ?_; (case aP => exact rfl); (case aF => exact (fun _ _ => trivial)); (case aO => exact (by (with_reducible repeat (first | apply Kd.R_alloc | apply Kd.R_drewN | apply Kd.R_drew)); exact HO_5.out)); (case aS => exact (keep_size (w := w) (g := g) (row := none) z0_)); (case aL => have := LMc6.out; omega); intro v422 w9 ho hb hg hat; rw [← Ny421.out] at ho; have n0_ := Aside0.mk (IsS55.grown z2_ hg (IsS55.own_ne HI0.out HO_5.out (by decide))); have n1_ := Aside0.mk (below_weaken z3_ HL.out hb); have n2_ := Aside0.mk (KeepBut.trans z0_ (KeepBut.of_grown hg g) (Kd.R_base2 HO_5.out)); have n3_ := Aside0.mk (ho); clear HI0; clear HB; clear HK; clear HO_5; have HI0 := n0_; have HB := n1_; have HK := n2_; have HO423 := n3_; clear n0_ n1_ n2_ n3_; clear ho hb hg hat))
      go_roundg k1
      case measure => have := HK1.out; omega
      case rel => exact ⟨(y421), (wrap64 (x6_1 + 1)), (t418), (t419), (t420), z11_, H', ⟨by have := HK1.out; omega⟩, ⟨by (with_reducible repeat (first | apply Kd.R_alloc | apply Kd.R_drewN | apply Kd.R_drew)); exact HO423.out⟩, ⟨z2_⟩, ⟨z0_⟩, ⟨z3_⟩⟩
     ·rw [if_neg c6] at H
      exact absurd H (by simp)
    ·rw [if_neg c4] at H
     have c4b0 : (x1002_1 == 0) = false := beq_eq_false_iff_ne.mpr c4
     have c4b1 : (x1002_1 != 0) = true := bne_iff_ne.mpr c4
     simp only [Option.some.injEq, Prod.mk.injEq] at H
     obtain ⟨rfl, rfl, rfl, rfl⟩ := H
     obtain ⟨HGz10, hgz10⟩ := HI0.out
     have hcz10_0 := cellS55_0 HGz10
     have hcz10_1 := cellS55_1 HGz10
     have hcz10_2 := cellS55_2 HGz10
     have hfz10_0 := blk_frozen HGz10 0
     have hfz10_1 := blk_frozen HGz10 1
     have hfz10_2 := blk_frozen HGz10 2
     clear HGz10 hgz10
     have hcv11 := own_string (P := Try.prog) Try.underlying38 Try.underlying5 Try.underlying9 (Kd.own_of_R HO_5.out)
     go_wp2
     go_ret
     exact ⟨z6_, z2_, z3_, z0_⟩
   ·rw [if_neg c3] at H
    have c3b0 : decide (x6_1 < a1) = false := decide_eq_false c3
    clear c3
    simp only [Option.some.injEq, Prod.mk.injEq] at H
    obtain ⟨rfl, rfl, rfl, rfl⟩ := H
    have hcv12 := own_string (P := Try.prog) Try.underlying38 Try.underlying5 Try.underlying9 (Kd.own_of_R HO_5.out)
    go_wp2
    go_ret
    exact ⟨z6_, z2_, z3_, z0_⟩
def tithebarnref03_Bit.f (a0 : ByteArray) (a1 : Int) : Option (Bool) := if 0 ≤ (wrap64 (Int.tdiv a1 8)) then (if (wrap64 (Int.tdiv a1 8)) < (a0.size : Int) then (if 0 ≤ (IntKind.u64.wrap (Int.tmod a1 8)) then (some ((Int.tmod (shr .u8 (bt a0 (wrap64 (Int.tdiv a1 8))) (IntKind.u64.wrap (Int.tmod a1 8))) 2) == 1)) else (none)) else (none)) else (none)
set_option maxHeartbeats 8000000 in
set_option maxRecDepth 100000 in
theorem tithebarnref03_Bit.calls (a0 : ByteArray) (a1 : Int) (r : Bool) (w : World) (h : tithebarnref03_Bit.f a0 a1 = some r) :
  Calls Try.prog 73 #[.string a0, .int .i64 a1] w fun e w' => e = .returned (.bool r) ∧ Drawn0 w w' := by
 have H : (if 0 ≤ (wrap64 (Int.tdiv a1 8)) then (if (wrap64 (Int.tdiv a1 8)) < (a0.size : Int) then (if 0 ≤ (IntKind.u64.wrap (Int.tmod a1 8)) then (some ((Int.tmod (shr .u8 (bt a0 (wrap64 (Int.tdiv a1 8))) (IntKind.u64.wrap (Int.tmod a1 8))) 2) == 1)) else (none)) else (none)) else (none)) = some r := h
 clear h
 obtain ⟨ji3, hji3⟩ : ∃ j_ : Int, (wrap64 (Int.tdiv a1 8)) = j_ := ⟨_, rfl⟩
 replace H : (if 0 ≤ (ji3) then (if (ji3) < (a0.size : Int) then (if 0 ≤ (IntKind.u64.wrap (Int.tmod a1 8)) then (some ((Int.tmod (shr .u8 (bt a0 (ji3)) (IntKind.u64.wrap (Int.tmod a1 8))) 2) == 1)) else (none)) else (none)) else (none)) = some r := by first | (rw [hji3] at H; exact H) | (simp only [hji3] at H ⊢; exact H)
 have hji3w : (IntKind.i64.wrap (Int.tdiv a1 8)) = ji3 := (i64_w _).trans hji3
 by_cases c4 : 0 ≤ (ji3)
 ·rw [if_pos c4] at H
  have c4b0 : decide (0 ≤ (ji3)) = true := decide_eq_true c4
  clear c4
  by_cases c5 : (ji3) < (a0.size : Int)
  ·rw [if_pos c5] at H
   have c5b0 : decide ((ji3) < (a0.size : Int)) = true := decide_eq_true c5
   clear c5
   obtain ⟨ji7, hji7⟩ : ∃ j_ : Int, (IntKind.u64.wrap (Int.tmod a1 8)) = j_ := ⟨_, rfl⟩
   replace H : (if 0 ≤ (ji7) then (some ((Int.tmod (shr .u8 (bt a0 (ji3)) (ji7)) 2) == 1)) else (none)) = some r := by first | (rw [hji7] at H; exact H) | (simp only [hji7] at H ⊢; exact H)
   by_cases c8 : 0 ≤ (ji7)
   ·rw [if_pos c8] at H
    have c8b0 := eq_true c8
    have c8b1 : decide (0 ≤ (ji7)) = true := decide_eq_true c8
    clear c8
    obtain ⟨ji9, hji9⟩ : ∃ j_ : Int, (shr .u8 (bt a0 (ji3)) (ji7)) = j_ := ⟨_, rfl⟩
    replace H : (some ((Int.tmod (ji9) 2) == 1)) = some r := by first | (rw [hji9] at H; exact H) | (simp only [hji9] at H ⊢; exact H)
    have hji9_ : ((bt a0 (ji3)) / 2 ^ min (ji7).toNat 8) = ji9 := hji9
    have hji9z : (ji7) ≤ 8 → ((bt a0 (ji3)) / 2 ^ (ji7).toNat) = ji9 := shr_small hji9
    obtain rfl := Option.some.inj H
    have p6 : 0 ≤ ((ji3) : Int) := of_decide_eq_true z12_
    have q6 : (ji3) < (a0.size : Int) := of_decide_eq_true z12_
    have hx6 := bt_at a0 (ji3)
    replace p6 := eq_true p6
    replace q6 := eq_true q6
    go_enter Try.func73, Try.ntmps73
    go_wp2
    go_ret
    exact ⟨by first | rfl | (simp; done) | (simp only [← hji3, ← hji7, ← hji9] <;> (first | rfl | simp)) | (simp [*]; done), z13_⟩
   ·rw [if_neg c8] at H
    exact absurd H (by simp)
  ·rw [if_neg c5] at H
   exact absurd H (by simp)
 ·rw [if_neg c4] at H
  exact absurd H (by simp)
end Go.Proofs.Ytgeddoklmcjdcaa.G
namespace Go.Proofs.Ytgeddoklmcjdcaa.G
open Go.RowKit Go.Proofs.YtgeddoklmcjdcaaQ Go.Proofs.YtgeddoklmcjdcaaW.PrintWords Go.Proofs.YtgeddoklmcjdcaaW.PrintLast Go.Proofs.YtgeddoklmcjdcaaW.PrintMore
attribute [local go_sem] max2_int min2_int max_two min_two max_three min_three max_four min_four   -- for this text's walks alone
set_option linter.unusedVariables false
set_option linter.unusedSimpArgs false
mutual
def tithebarnref03_unbits.l0 : Nat → ByteArray → Int → Int → List Bool → Int → Option (List Bool × Int)
 | 0, _, _, _, _, _ => none
 | k + 1, x0, x1, x6, x7, x8 => if x8 < (wrap64 (8 * x6)) then ((tithebarnref03_Bit.f x0 x8).bind fun t424 => (if x8 ≥ x1 then (tithebarnref03_unbits.j1 k x0 x1 x6 x7 x8 t424 t424) else (tithebarnref03_unbits.j1 k x0 x1 x6 x7 x8 t424 false))) else (some (x7, 0))
def tithebarnref03_unbits.j1 : Nat → ByteArray → Int → Int → List Bool → Int → Bool → Bool → Option (List Bool × Int)
 | 0, _, _, _, _, _, _, _ => none
 | k + 1, x0, x1, x6, x7, x8, x9, x35 => if x35 = true then (some (([] : List Bool), 5)) else (if x8 < x1 then (if x7.length < 140737488355328 then (tithebarnref03_unbits.l0 k x0 x1 x6 (x7 ++ [x9]) (wrap64 (x8 + 1))) else (none)) else (tithebarnref03_unbits.l0 k x0 x1 x6 x7 (wrap64 (x8 + 1))))
end
def tithebarnref03_unbits.f (k : Nat) (a0 : ByteArray) (a1 : Int) : Option (List Bool × Int) := if (a0.size : Int) < (wrap64 (Int.tdiv (wrap64 (a1 + 7)) 8)) then (some (([] : List Bool), 2)) else (if (a0.size : Int) > (wrap64 (Int.tdiv (wrap64 (a1 + 7)) 8)) then (some (([] : List Bool), 3)) else (tithebarnref03_unbits.l0 k a0 a1 (wrap64 (Int.tdiv (wrap64 (a1 + 7)) 8)) ([] : List Bool) 0))
theorem tithebarnref03_unbits.mono_l : ∀ k, (∀ y0 y1 y2 y3 y4, LeO (tithebarnref03_unbits.l0 k y0 y1 y2 y3 y4) (tithebarnref03_unbits.l0 (k + 1) y0 y1 y2 y3 y4)) ∧ (∀ y0 y1 y2 y3 y4 y5 y6, LeO (tithebarnref03_unbits.j1 k y0 y1 y2 y3 y4 y5 y6) (tithebarnref03_unbits.j1 (k + 1) y0 y1 y2 y3 y4 y5 y6))
 | 0 => ⟨fun _ _ _ _ _ r h => by simp [tithebarnref03_unbits.l0] at h, fun _ _ _ _ _ _ _ r h => by simp [tithebarnref03_unbits.j1] at h⟩
 | k + 1 => by
  obtain ⟨ih0, ih1⟩ := tithebarnref03_unbits.mono_l k
  refine ⟨?_, ?_⟩
  ·intro y0 y1 y2 y3 y4
   unfold tithebarnref03_unbits.l0
   repeat' first
   | (with_reducible exact ih0 _ _ _ _ _)
   | (with_reducible exact ih1 _ _ _ _ _ _ _)
   | (with_reducible exact LeO.refl _)
   | (with_reducible exact LeO.none _)
   | (with_reducible refine LeO.ite ?_ ?_)
   | (with_reducible refine LeO.bind ?_ (fun _ => ?_))
   | exact ih0 _ _ _ _ _
   | exact ih1 _ _ _ _ _ _ _
   | exact LeO.none _
   | refine LeO.ite ?_ ?_
   | refine LeO.bind ?_ (fun _ => ?_)
  ·intro y0 y1 y2 y3 y4 y5 y6
   unfold tithebarnref03_unbits.j1
   repeat' first
   | (with_reducible exact ih0 _ _ _ _ _)
   | (with_reducible exact ih1 _ _ _ _ _ _ _)
   | (with_reducible exact LeO.refl _)
   | (with_reducible exact LeO.none _)
   | (with_reducible refine LeO.ite ?_ ?_)
   | (with_reducible refine LeO.bind ?_ (fun _ => ?_))
   | exact ih0 _ _ _ _ _
   | exact ih1 _ _ _ _ _ _ _
   | exact LeO.none _
   | refine LeO.ite ?_ ?_
   | refine LeO.bind ?_ (fun _ => ?_)
theorem tithebarnref03_unbits.mono : ∀ a0 a1 k, LeO (tithebarnref03_unbits.f k a0 a1) (tithebarnref03_unbits.f (k + 1) a0 a1) := by
 intro a0 a1 k
 obtain ⟨ih0, ih1⟩ := tithebarnref03_unbits.mono_l k
 unfold tithebarnref03_unbits.f
 repeat' first
   | (with_reducible exact ih0 _ _ _ _ _)
   | (with_reducible exact ih1 _ _ _ _ _ _ _)
   | (with_reducible exact LeO.refl _)
   | (with_reducible exact LeO.none _)
   | (with_reducible refine LeO.ite ?_ ?_)
   | (with_reducible refine LeO.bind ?_ (fun _ => ?_))
   | exact ih0 _ _ _ _ _
   | exact ih1 _ _ _ _ _ _ _
   | exact LeO.none _
   | refine LeO.ite ?_ ?_
   | refine LeO.bind ?_ (fun _ => ?_)
set_option maxHeartbeats 8000000 in
set_option maxRecDepth 100000 in
theorem tithebarnref03_unbits.calls (k : Nat) (a0 : ByteArray) (a1 : Int) (r1 : List Bool) (r2 : Int) (w : World) (h : tithebarnref03_unbits.f k a0 a1 = some (r1, r2)) :
  Calls Try.prog 67 #[.string a0, .int .i64 a1] w fun e w' => ∃ v0_ : Value, e = .returned (.tuple #[v0_, .int .i64 r2]) ∧ Kd.R Kd.bool 4 w' w.heap.size (fun _ => True) v0_ r1 ∧ Below w.heap.size w w' := by
 have HB := Aside0.mk (Below.refl w.heap.size w)
 have H : (if (a0.size : Int) < (wrap64 (Int.tdiv (wrap64 (a1 + 7)) 8)) then (some (([] : List Bool), 2)) else (if (a0.size : Int) > (wrap64 (Int.tdiv (wrap64 (a1 + 7)) 8)) then (some (([] : List Bool), 3)) else (tithebarnref03_unbits.l0 k a0 a1 (wrap64 (Int.tdiv (wrap64 (a1 + 7)) 8)) ([] : List Bool) 0))) = some (r1, r2) := h
 clear h
 by_cases c3 : (a0.size : Int) < (wrap64 (Int.tdiv (wrap64 (a1 + 7)) 8))
 ·rw [if_pos c3] at H
  have c3b0 : decide ((a0.size : Int) < (wrap64 (Int.tdiv (wrap64 (a1 + 7)) 8))) = true := decide_eq_true c3
  clear c3
  simp only [Option.some.injEq, Prod.mk.injEq] at H
  obtain ⟨rfl, rfl⟩ := H
  go_enter Try.func67, Try.ntmps67
  go_wp2
  go_ret2
  exact ⟨_, z6_, z10_, z1_⟩
 ·rw [if_neg c3] at H
  have c3b0 : decide ((a0.size : Int) < (wrap64 (Int.tdiv (wrap64 (a1 + 7)) 8))) = false := decide_eq_false c3
  clear c3
  by_cases c4 : (a0.size : Int) > (wrap64 (Int.tdiv (wrap64 (a1 + 7)) 8))
  ·rw [if_pos c4] at H
   have c4b0 : decide ((wrap64 (Int.tdiv (wrap64 (a1 + 7)) 8)) < (a0.size : Int)) = true := decide_eq_true c4
   clear c4
   simp only [Option.some.injEq, Prod.mk.injEq] at H
   obtain ⟨rfl, rfl⟩ := H
   go_enter Try.func67, Try.ntmps67
   go_wp2
   go_ret2
   exact ⟨_, z6_, z10_, z1_⟩
  ·rw [if_neg c4] at H
   have c4b0 : decide ((wrap64 (Int.tdiv (wrap64 (a1 + 7)) 8)) < (a0.size : Int)) = false := decide_eq_false c4
   clear c4
   have H' := Aside0.mk H
   clear H
   go_enter Try.func67, Try.ntmps67
   go_wp2
   go_loopg [7, 8] k (fun kq v7 v8 w' => ∃ (x7_1 : List Bool) (x8_1 : Int), v8 = .int .i64 x8_1 ∧ Aside0 (tithebarnref03_unbits.l0 kq a0 a1 (wrap64 (Int.tdiv (wrap64 (a1 + 7)) 8)) x7_1 x8_1 = some (r1, r2)) ∧ Aside0 (kq ≤ k) ∧ Aside0 (Kd.R Kd.bool 4 w' w.heap.size (fun _ => True) v7 x7_1) ∧ Aside0 (Below w.heap.size w w'))
   case atStart => exact ⟨(([] : List Bool)), (0), z11_, H', ⟨Nat.le_refl _⟩, ⟨z10_⟩, ⟨z1_⟩⟩
   case round =>
    clear H'
    try clear p2
    try clear c3
    try clear c3b0
    try clear c4
    try clear c4b0
    obtain ⟨x7_1, x8_1, rfl, HA, HK1, HO_7, HB⟩ := hrel
    cases gk with
    | zero => exact absurd HA.out (by simp [tithebarnref03_unbits.l0])
    | succ k1 =>
     have H := HA.out
     clear HA
     simp only [tithebarnref03_unbits.l0] at H
     by_cases c5 : x8_1 < (wrap64 (8 * (wrap64 (Int.tdiv (wrap64 (a1 + 7)) 8))))
     ·rw [if_pos c5] at H
      have c5b0 : decide (x8_1 < (wrap64 (8 * (wrap64 (Int.tdiv (wrap64 (a1 + 7)) 8))))) = true := decide_eq_true c5
      clear c5
      replace H := Option.bind_eq_some_iff.mp H
      obtain ⟨t424, A60, H⟩ := H
      replace H : (if x8_1 ≥ a1 then (tithebarnref03_unbits.j1 k1 a0 a1 (wrap64 (Int.tdiv (wrap64 (a1 + 7)) 8)) x7_1 x8_1 t424 t424) else (tithebarnref03_unbits.j1 k1 a0 a1 (wrap64 (Int.tdiv (wrap64 (a1 + 7)) 8)) x7_1 x8_1 t424 false)) = some (r1, r2) := H
      have A6 := Aside0.mk A60
      clear A60
      have HC7 := Aside0.mk H
      clear H
      go_upto_region 11 with (first | ((with_reducible refine gate_callee (f := 73) rfl ?_); refine goesL_ (some 29) rfl rfl Try.func73 (by kernel_rfl) rfl #[.string a0, .int .i64 x8_1] rfl (by (try simp only [List.map_toArray, List.map_cons, List.map_nil]); first | done | rfl | (simp only [List.length_drop, List.length_take]; rfl) | (go_simp; simp [IntKind.wrap, IntKind.bits, IntKind.signed]; omega)) ?_; (with_reducible refine (tithebarnref03_Bit.calls a0 x8_1 t424 _ A6.out).mono ?_); rintro e w' ⟨rfl, ⟨nd, rfl⟩⟩; refine ⟨_, rfl, ?_⟩))
      (try simp only [Act.put, List.setIfInBounds_toArray, List.set_cons_zero, List.set_cons_succ])
      go_cut [35] (fun v35 wc => ∃ (kq : Nat) (x35_6 : Bool), v35 = .bool x35_6 ∧ Aside0 (tithebarnref03_unbits.j1 kq a0 a1 (wrap64 (Int.tdiv (wrap64 (a1 + 7)) 8)) x7_1 x8_1 t424 x35_6 = some (r1, r2)) ∧ Aside0 (kq ≤ k1) ∧ Aside0 (Kd.R Kd.bool 4 wc w.heap.size (fun _ => True) u7 x7_1) ∧ Aside0 (Below w.heap.size w wc))
      case first =>
       have H := HC7.out
       clear HC7
       by_cases c8 : x8_1 ≥ a1
       ·rw [if_pos c8] at H
        have c8b0 : decide (a1 ≤ x8_1) = true := decide_eq_true c8
        clear c8
        (first | rw [c8b0] | (simp only [i64_w, i32_w]; rw [c8b0]) | skip)
        have H' := Aside0.mk H
        clear H
        go_wp2
        go_meet
        case rel => exact ⟨_, (t424), z11_, H', ⟨by have := HK1.out; first | omega | exact Nat.le_refl _⟩, ⟨by (with_reducible repeat (first | apply Kd.R_alloc | apply Kd.R_drewN | apply Kd.R_drew)); exact HO_7.out⟩, ⟨z1_⟩⟩
       ·rw [if_neg c8] at H
        have c8b0 : decide (a1 ≤ x8_1) = false := decide_eq_false c8
        clear c8
        (first | rw [c8b0] | (simp only [i64_w, i32_w]; rw [c8b0]) | skip)
        have H' := Aside0.mk H
        clear H
        go_wp2
        go_meet
        case rel => exact ⟨_, (false), z11_, H', ⟨by have := HK1.out; first | omega | exact Nat.le_refl _⟩, ⟨by (with_reducible repeat (first | apply Kd.R_alloc | apply Kd.R_drewN | apply Kd.R_drew)); exact HO_7.out⟩, ⟨z1_⟩⟩
      case rest =>
       clear HC7
       try clear p2
       try clear c3
       try clear c3b0
       try clear c4
       try clear c4b0
       try clear c5
       try clear c5b0
       try clear c6
       try clear p6
       try clear c7
       try clear c8
       try clear c8b0
       try clear p2
       obtain ⟨kq, x35_6, rfl, HA, HJ6, HO_7, HB⟩ := hcut
       cases kq with
       | zero => exact absurd HA.out (by simp [tithebarnref03_unbits.j1])
       | succ kj6 =>
        have H := HA.out
        clear HA
        simp only [tithebarnref03_unbits.j1] at H
        by_cases c9 : x35_6 = true
        ·subst c9
         have H1 : (some (([] : List Bool), 5)) = some (r1, r2) := by rw [if_pos rfl] at H; exact H
         clear H
         have H := H1
         clear H1
         simp only [Option.some.injEq, Prod.mk.injEq] at H
         obtain ⟨rfl, rfl⟩ := H
         go_wp2
         go_ret2
         exact ⟨_, z6_, z10_, z1_⟩
        ·replace c9 := Bool.eq_false_iff.mpr c9
         subst c9
         have H1 : (if x8_1 < a1 then (if x7_1.length < 140737488355328 then (tithebarnref03_unbits.l0 kj6 a0 a1 (wrap64 (Int.tdiv (wrap64 (a1 + 7)) 8)) (x7_1 ++ [t424]) (wrap64 (x8_1 + 1))) else (none)) else (tithebarnref03_unbits.l0 kj6 a0 a1 (wrap64 (Int.tdiv (wrap64 (a1 + 7)) 8)) x7_1 (wrap64 (x8_1 + 1)))) = some (r1, r2) := by rw [if_neg (show ¬ (false = true) by decide)] at H; exact H
         clear H
         have H := H1
         clear H1
         by_cases c10 : x8_1 < a1
         ·rw [if_pos c10] at H
          have c10b0 : decide (x8_1 < a1) = true := decide_eq_true c10
          clear c10
          by_cases c11 : x7_1.length < 140737488355328
          ·rw [if_pos c11] at H
           have LMc11 := Aside0.mk c11
           clear c11
           obtain ⟨y425, hy425⟩ : ∃ y_ : List Bool, y_ = (x7_1 ++ [t424]) := ⟨_, rfl⟩
           replace H : (tithebarnref03_unbits.l0 kj6 a0 a1 (wrap64 (Int.tdiv (wrap64 (a1 + 7)) 8)) y425 (wrap64 (x8_1 + 1))) = some (r1, r2) := by first | (rw [hy425]; with_reducible exact H) | (have H2_ := (Option.bind_some _ _).symm.trans H; rw [hy425]; with_reducible exact H2_) | (have H2_ := (Option.bind_some _ _).symm.trans H; with_reducible exact H2_) | with_reducible exact H | (rw [hy425]; exact H) | exact H
           have Ny425 := Aside0.mk hy425
           clear hy425
           have H' := Aside0.mk H
           clear H
           go_wp2_with (first | ((with_reducible refine gate_builtin (b := .append) (xs := #[.tmp 39, .tmp 41]) rfl ?_); at_builtin; refine Kd.R_append Kd.bool (w0 := w) w.heap.size rfl (.tmp 39) (.tmp 41) 81 4 (.bool false) 1 rfl Try.underlying81 info4 rfl (by decide) (by omega) u7 x7_1 t424 [.bool t424] (fun _ => True) (fun _ => False) rfl rfl ?aP (fun _ hk => hk.elim) ?aF ?aO ?aB ?aS ?aL ?_; (case aP => exact rfl); (case aB => exact z1_); (case aF => exact (fun _ _ => trivial)); (case aO => exact (by (with_reducible repeat (first | apply Kd.R_alloc | apply Kd.R_drewN | apply Kd.R_drew)); exact HO_7.out)); (case aS => exact (below_size z1_)); (case aL => have := LMc11.out; omega); intro v426 w12 ho hb hg hat; rw [← Ny425.out] at ho; have n0_ := Aside0.mk (hb); have n1_ := Aside0.mk (ho); clear HB; clear HO_7; have HB := n0_; have HO427 := n1_; clear n0_ n1_; clear ho hb hg hat))
           go_roundg kj6
           case measure => have := HK1.out; have := HJ6.out; omega
           case rel => exact ⟨(y425), (wrap64 (x8_1 + 1)), z11_, H', ⟨by have := HK1.out; have := HJ6.out; omega⟩, ⟨by (with_reducible repeat (first | apply Kd.R_alloc | apply Kd.R_drewN | apply Kd.R_drew)); exact HO427.out⟩, ⟨z1_⟩⟩
          ·rw [if_neg c11] at H
           exact absurd H (by simp)
         ·rw [if_neg c10] at H
          have c10b0 : decide (x8_1 < a1) = false := decide_eq_false c10
          clear c10
          have H' := Aside0.mk H
          clear H
          go_wp2
          go_roundg kj6
          case measure => have := HK1.out; have := HJ6.out; omega
          case rel => exact ⟨(x7_1), (wrap64 (x8_1 + 1)), z11_, H', ⟨by have := HK1.out; have := HJ6.out; omega⟩, ⟨by (with_reducible repeat (first | apply Kd.R_alloc | apply Kd.R_drewN | apply Kd.R_drew)); exact HO_7.out⟩, ⟨z1_⟩⟩
     ·rw [if_neg c5] at H
      have c5b0 : decide (x8_1 < (wrap64 (8 * (wrap64 (Int.tdiv (wrap64 (a1 + 7)) 8))))) = false := decide_eq_false c5
      clear c5
      simp only [Option.some.injEq, Prod.mk.injEq] at H
      obtain ⟨rfl, rfl⟩ := H
      go_wp2
      go_ret2
      exact ⟨_, z6_, by (with_reducible repeat (first | apply Kd.R_alloc | apply Kd.R_drewN | apply Kd.R_drew)); exact HO_7.out, z1_⟩
mutual
def tithebarnref03_Unpack.j0 : Nat → ByteArray → Int → Int → Bool → Option (List Int × Int)
 | 0, _, _, _, _ => none
 | k + 1, x0, x1, x2, x27 => if x27 = true then (some (([] : List Int), 1)) else ((tithebarnref03_unbits.f k x0 (wrap64 (x1 * x2))).bind fun bt428 => (if bt428.2 = 0 then (tithebarnref03_Unpack.l0 k x1 x2 bt428.1 ([] : List Int) 0) else (some (([] : List Int), bt428.2))))
def tithebarnref03_Unpack.l0 : Nat → Int → Int → List Bool → List Int → Int → Option (List Int × Int)
 | 0, _, _, _, _, _ => none
 | k + 1, x1, x2, x8, x10, x11 => if x11 < x1 then (tithebarnref03_Unpack.l1 k x1 x2 x8 x10 x11 0 0) else (some (x10, 0))
def tithebarnref03_Unpack.l1 : Nat → Int → Int → List Bool → List Int → Int → Int → Int → Option (List Int × Int)
 | 0, _, _, _, _, _, _, _ => none
 | k + 1, x1, x2, x8, x10, x11, x12, x13 => if x13 < x2 then (if 0 ≤ (wrap64 ((wrap64 (x11 * x2)) + x13)) then (if (wrap64 ((wrap64 (x11 * x2)) + x13)) < (x8.length : Int) then (if rdOf false x8 (wrap64 ((wrap64 (x11 * x2)) + x13)) = true then (if 0 ≤ (IntKind.u64.wrap (x13)) then (tithebarnref03_Unpack.l1 k x1 x2 x8 x10 x11 (IntKind.u64.wrap (x12 + (shl .u64 1 (IntKind.u64.wrap (x13))))) (wrap64 (x13 + 1))) else (none)) else (tithebarnref03_Unpack.l1 k x1 x2 x8 x10 x11 x12 (wrap64 (x13 + 1)))) else (none)) else (none)) else (if x10.length < 17592186044416 then (tithebarnref03_Unpack.l0 k x1 x2 x8 (x10 ++ [x12]) (wrap64 (x11 + 1))) else (none))
end
def tithebarnref03_Unpack.f (k : Nat) (a0 : ByteArray) (a1 : Int) (a2 : Int) : Option (List Int × Int) := if a2 < 0 then (tithebarnref03_Unpack.j0 k a0 a1 a2 true) else (if a2 > 64 then (tithebarnref03_Unpack.j0 k a0 a1 a2 true) else (if a1 < 0 then (tithebarnref03_Unpack.j0 k a0 a1 a2 true) else (tithebarnref03_Unpack.j0 k a0 a1 a2 (decide (a1 > 65536)))))
theorem tithebarnref03_Unpack.mono_l : ∀ k, (∀ y0 y1 y2 y3, LeO (tithebarnref03_Unpack.j0 k y0 y1 y2 y3) (tithebarnref03_Unpack.j0 (k + 1) y0 y1 y2 y3)) ∧ (∀ y0 y1 y2 y3 y4, LeO (tithebarnref03_Unpack.l0 k y0 y1 y2 y3 y4) (tithebarnref03_Unpack.l0 (k + 1) y0 y1 y2 y3 y4)) ∧ (∀ y0 y1 y2 y3 y4 y5 y6, LeO (tithebarnref03_Unpack.l1 k y0 y1 y2 y3 y4 y5 y6) (tithebarnref03_Unpack.l1 (k + 1) y0 y1 y2 y3 y4 y5 y6))
 | 0 => ⟨fun _ _ _ _ r h => by simp [tithebarnref03_Unpack.j0] at h, fun _ _ _ _ _ r h => by simp [tithebarnref03_Unpack.l0] at h, fun _ _ _ _ _ _ _ r h => by simp [tithebarnref03_Unpack.l1] at h⟩
 | k + 1 => by
  obtain ⟨ih0, ih1, ih2⟩ := tithebarnref03_Unpack.mono_l k
  refine ⟨?_, ?_, ?_⟩
  ·intro y0 y1 y2 y3
   unfold tithebarnref03_Unpack.j0
   repeat' first
   | (with_reducible exact ih0 _ _ _ _)
   | (with_reducible exact ih1 _ _ _ _ _)
   | (with_reducible exact ih2 _ _ _ _ _ _ _)
   | (with_reducible exact tithebarnref03_unbits.mono _ _ _)
   | (with_reducible exact LeO.refl _)
   | (with_reducible exact LeO.none _)
   | (with_reducible refine LeO.ite ?_ ?_)
   | (with_reducible refine LeO.bind ?_ (fun _ => ?_))
   | exact ih0 _ _ _ _
   | exact ih1 _ _ _ _ _
   | exact ih2 _ _ _ _ _ _ _
   | exact tithebarnref03_unbits.mono _ _ _
   | exact LeO.none _
   | refine LeO.ite ?_ ?_
   | refine LeO.bind ?_ (fun _ => ?_)
  ·intro y0 y1 y2 y3 y4
   unfold tithebarnref03_Unpack.l0
   repeat' first
   | (with_reducible exact ih0 _ _ _ _)
   | (with_reducible exact ih1 _ _ _ _ _)
   | (with_reducible exact ih2 _ _ _ _ _ _ _)
   | (with_reducible exact tithebarnref03_unbits.mono _ _ _)
   | (with_reducible exact LeO.refl _)
   | (with_reducible exact LeO.none _)
   | (with_reducible refine LeO.ite ?_ ?_)
   | (with_reducible refine LeO.bind ?_ (fun _ => ?_))
   | exact ih0 _ _ _ _
   | exact ih1 _ _ _ _ _
   | exact ih2 _ _ _ _ _ _ _
   | exact tithebarnref03_unbits.mono _ _ _
   | exact LeO.none _
   | refine LeO.ite ?_ ?_
   | refine LeO.bind ?_ (fun _ => ?_)
  ·intro y0 y1 y2 y3 y4 y5 y6
   unfold tithebarnref03_Unpack.l1
   repeat' first
   | (with_reducible exact ih0 _ _ _ _)
   | (with_reducible exact ih1 _ _ _ _ _)
   | (with_reducible exact ih2 _ _ _ _ _ _ _)
   | (with_reducible exact tithebarnref03_unbits.mono _ _ _)
   | (with_reducible exact LeO.refl _)
   | (with_reducible exact LeO.none _)
   | (with_reducible refine LeO.ite ?_ ?_)
   | (with_reducible refine LeO.bind ?_ (fun _ => ?_))
   | exact ih0 _ _ _ _
   | exact ih1 _ _ _ _ _
   | exact ih2 _ _ _ _ _ _ _
   | exact tithebarnref03_unbits.mono _ _ _
   | exact LeO.none _
   | refine LeO.ite ?_ ?_
   | refine LeO.bind ?_ (fun _ => ?_)
theorem tithebarnref03_Unpack.mono : ∀ a0 a1 a2 k, LeO (tithebarnref03_Unpack.f k a0 a1 a2) (tithebarnref03_Unpack.f (k + 1) a0 a1 a2) := by
 intro a0 a1 a2 k
 obtain ⟨ih0, ih1, ih2⟩ := tithebarnref03_Unpack.mono_l k
 unfold tithebarnref03_Unpack.f
 repeat' first
   | (with_reducible exact ih0 _ _ _ _)
   | (with_reducible exact ih1 _ _ _ _ _)
   | (with_reducible exact ih2 _ _ _ _ _ _ _)
   | (with_reducible exact tithebarnref03_unbits.mono _ _ _)
   | (with_reducible exact LeO.refl _)
   | (with_reducible exact LeO.none _)
   | (with_reducible refine LeO.ite ?_ ?_)
   | (with_reducible refine LeO.bind ?_ (fun _ => ?_))
   | exact ih0 _ _ _ _
   | exact ih1 _ _ _ _ _
   | exact ih2 _ _ _ _ _ _ _
   | exact tithebarnref03_unbits.mono _ _ _
   | exact LeO.none _
   | refine LeO.ite ?_ ?_
   | refine LeO.bind ?_ (fun _ => ?_)
set_option maxHeartbeats 8000000 in
set_option maxRecDepth 100000 in
theorem tithebarnref03_Unpack.calls (k : Nat) (a0 : ByteArray) (a1 : Int) (a2 : Int) (r1 : List Int) (r2 : Int) (w : World) (h : tithebarnref03_Unpack.f k a0 a1 a2 = some (r1, r2)) :
  Calls Try.prog 53 #[.string a0, .int .i64 a1, .int .i64 a2] w fun e w' => ∃ v0_ : Value, e = .returned (.tuple #[v0_, .int .i64 r2]) ∧ Kd.R (Kd.int .u64) 44 w' w.heap.size (fun _ => True) v0_ r1 ∧ Below w.heap.size w w' := by
 have HB := Aside0.mk (Below.refl w.heap.size w)
 have H : (if a2 < 0 then (tithebarnref03_Unpack.j0 k a0 a1 a2 true) else (if a2 > 64 then (tithebarnref03_Unpack.j0 k a0 a1 a2 true) else (if a1 < 0 then (tithebarnref03_Unpack.j0 k a0 a1 a2 true) else (tithebarnref03_Unpack.j0 k a0 a1 a2 (decide (a1 > 65536)))))) = some (r1, r2) := h
 clear h
 have HC4 := Aside0.mk H
 clear H
 go_enter Try.func53, Try.ntmps53
 go_upto_region 1 with (fail)
 go_cut [27] (fun v27 wc => ∃ (kq : Nat) (x27_3 : Bool), v27 = .bool x27_3 ∧ Aside0 (tithebarnref03_Unpack.j0 kq a0 a1 a2 x27_3 = some (r1, r2)) ∧ Aside0 (kq ≤ k) ∧ Aside0 (Below w.heap.size w wc))
 case first =>
  have H := HC4.out
  clear HC4
  by_cases c5 : a2 < 0
  ·rw [if_pos c5] at H
   have c5b0 : decide (a2 < 0) = true := decide_eq_true c5
   clear c5
   (first | rw [c5b0] | (simp only [i64_w, i32_w]; rw [c5b0]) | skip)
   have H' := Aside0.mk H
   clear H
   go_wp2
   go_meet
   case rel => exact ⟨_, (true), z11_, H', ⟨by first | omega | exact Nat.le_refl _⟩, ⟨z1_⟩⟩
  ·rw [if_neg c5] at H
   have c5b0 : decide (a2 < 0) = false := decide_eq_false c5
   clear c5
   (first | rw [c5b0] | (simp only [i64_w, i32_w]; rw [c5b0]) | skip)
   by_cases c6 : a2 > 64
   ·rw [if_pos c6] at H
    have c6b0 : decide (64 < a2) = true := decide_eq_true c6
    clear c6
    have H' := Aside0.mk H
    clear H
    go_wp2
    go_meet
    case rel => exact ⟨_, (true), z11_, H', ⟨by first | omega | exact Nat.le_refl _⟩, ⟨z1_⟩⟩
   ·rw [if_neg c6] at H
    have c6b0 : decide (64 < a2) = false := decide_eq_false c6
    clear c6
    by_cases c7 : a1 < 0
    ·rw [if_pos c7] at H
     have c7b0 : decide (a1 < 0) = true := decide_eq_true c7
     clear c7
     have H' := Aside0.mk H
     clear H
     go_wp2
     go_meet
     case rel => exact ⟨_, (true), z11_, H', ⟨by first | omega | exact Nat.le_refl _⟩, ⟨z1_⟩⟩
    ·rw [if_neg c7] at H
     have c7b0 : decide (a1 < 0) = false := decide_eq_false c7
     clear c7
     have H' := Aside0.mk H
     clear H
     go_wp2
     go_meet
     case rel => exact ⟨_, (decide (a1 > 65536)), z11_, H', ⟨by first | omega | exact Nat.le_refl _⟩, ⟨z1_⟩⟩
 case rest =>
  clear HC4
  try clear p2
  try clear c5
  try clear c5b0
  try clear c6
  try clear c6b0
  try clear c7
  try clear c7b0
  obtain ⟨kq, x27_3, rfl, HA, HJ3, HB⟩ := hcut
  cases kq with
  | zero => exact absurd HA.out (by simp [tithebarnref03_Unpack.j0])
  | succ kj3 =>
   have H := HA.out
   clear HA
   simp only [tithebarnref03_Unpack.j0] at H
   by_cases c8 : x27_3 = true
   ·subst c8
    have H1 : (some (([] : List Int), 1)) = some (r1, r2) := by rw [if_pos rfl] at H; exact H
    clear H
    have H := H1
    clear H1
    simp only [Option.some.injEq, Prod.mk.injEq] at H
    obtain ⟨rfl, rfl⟩ := H
    go_wp2
    go_ret2
    exact ⟨_, z6_, z10_, z1_⟩
   ·replace c8 := Bool.eq_false_iff.mpr c8
    subst c8
    have H1 : ((tithebarnref03_unbits.f kj3 a0 (wrap64 (a1 * a2))).bind fun bt428 => (if bt428.2 = 0 then (tithebarnref03_Unpack.l0 kj3 a1 a2 bt428.1 ([] : List Int) 0) else (some (([] : List Int), bt428.2)))) = some (r1, r2) := by rw [if_neg (show ¬ (false = true) by decide)] at H; exact H
    clear H
    have H := H1
    clear H1
    replace H := Option.bind_eq_some_iff.mp H
    obtain ⟨⟨t428, t429⟩, A90, H⟩ := H
    replace H : (if t429 = 0 then (tithebarnref03_Unpack.l0 kj3 a1 a2 t428 ([] : List Int) 0) else (some (([] : List Int), t429))) = some (r1, r2) := H
    have A9 := Aside0.mk A90
    clear A90
    by_cases c10 : t429 = 0
    ·rw [if_pos c10] at H
     have c10b0 : (t429 == 0) = true := beq_iff_eq.mpr c10
     have c10b1 : (t429 != 0) = false := bne_eq_false_iff_eq.mpr c10
     clear c10
     have H' := Aside0.mk H
     clear H
     go_wp2_with (first | ((with_reducible refine gate_callee (f := 67) rfl ?_); refine goesL_ (some 33) rfl rfl Try.func67 (by kernel_rfl) rfl #[.string a0, .int .i64 (wrap64 (a1 * a2))] rfl (by (try simp only [List.map_toArray, List.map_cons, List.map_nil]); first | done | rfl | (simp only [List.length_drop, List.length_take]; rfl) | (go_simp; simp [IntKind.wrap, IntKind.bits, IntKind.signed]; omega)) ?_; (with_reducible refine (tithebarnref03_unbits.calls kj3 a0 (wrap64 (a1 * a2)) t428 t429 _ A9.out).mono ?_); rintro e w11 ⟨v430, rfl, ho0, hb⟩; refine ⟨_, rfl, ?_⟩; have n0_ := Aside0.mk (Kd.R_lower ho0 (below_size z1_)); have n1_ := Aside0.mk (below_step z1_ hb); clear HB; have HO431 := n0_; have HB := n1_; clear n0_ n1_; (try clear hb); (try clear hb2); (try clear hk); (try clear hi); (try clear ho0)))
     go_loopg [10, 11] kj3 (fun kq v10 v11 w' => ∃ (x10_2 : List Int) (x11_2 : Int), v11 = .int .i64 x11_2 ∧ Aside0 (tithebarnref03_Unpack.l0 kq a1 a2 t428 x10_2 x11_2 = some (r1, r2)) ∧ Aside0 (kq ≤ kj3) ∧ Aside0 (Kd.R Kd.bool 4 w' w.heap.size (fun _ => True) v430 t428) ∧ Aside0 (Kd.R (Kd.int .u64) 44 w' w.heap.size (fun _ => True) v10 x10_2) ∧ Aside0 (Below w.heap.size w w'))
     case atStart => exact ⟨(([] : List Int)), (0), z11_, H', ⟨Nat.le_refl _⟩, ⟨by (with_reducible repeat (first | apply Kd.R_alloc | apply Kd.R_drewN | apply Kd.R_drew)); exact HO431.out⟩, ⟨z10_⟩, ⟨z1_⟩⟩
     case round =>
      clear H'
      try clear c1
      try clear p2
      try clear c5
      try clear c5b0
      try clear c6
      try clear c6b0
      try clear p6
      try clear c7
      try clear c7b0
      try clear c8
      try clear c10
      try clear c10b0
      try clear c10b1
      try clear p2
      obtain ⟨x10_2, x11_2, rfl, HA, HK2, HO_8, HO_10, HB⟩ := hrel
      cases gk with
      | zero => exact absurd HA.out (by simp [tithebarnref03_Unpack.l0])
      | succ k2 =>
       have H := HA.out
       clear HA
       simp only [tithebarnref03_Unpack.l0] at H
       by_cases c12 : x11_2 < a1
       ·rw [if_pos c12] at H
        have c12b0 : decide (x11_2 < a1) = true := decide_eq_true c12
        clear c12
        have H' := Aside0.mk H
        clear H
        go_wp2
        go_loopg [12, 13] k2 (fun kq v12 v13 w' => ∃ (x12_3 : Int) (x13_3 : Int), v12 = .int .u64 x12_3 ∧ v13 = .int .i64 x13_3 ∧ Aside0 (tithebarnref03_Unpack.l1 kq a1 a2 t428 x10_2 x11_2 x12_3 x13_3 = some (r1, r2)) ∧ Aside0 (kq ≤ k2) ∧ Aside0 (Kd.R Kd.bool 4 w' w.heap.size (fun _ => True) v430 t428) ∧ Aside0 (Kd.R (Kd.int .u64) 44 w' w.heap.size (fun _ => True) u10 x10_2) ∧ Aside0 (Below w.heap.size w w'))
        case atStart => exact ⟨(0), (0), z11_, z11_, H', ⟨Nat.le_refl _⟩, ⟨by (with_reducible repeat (first | apply Kd.R_alloc | apply Kd.R_drewN | apply Kd.R_drew)); exact HO_8.out⟩, ⟨by (with_reducible repeat (first | apply Kd.R_alloc | apply Kd.R_drewN | apply Kd.R_drew)); exact HO_10.out⟩, ⟨z1_⟩⟩
        case round =>
         clear H'
         try clear c1
         try clear p2
         try clear c5
         try clear c5b0
         try clear c6
         try clear c6b0
         try clear p6
         try clear c7
         try clear c7b0
         try clear c8
         try clear c10
         try clear c10b0
         try clear c10b1
         try clear c12
         try clear c12b0
         try clear p2
         try clear p6
         obtain ⟨x12_3, x13_3, rfl, rfl, HA, HK3, HO_8, HO_10, HB⟩ := hrel
         cases gk with
         | zero => exact absurd HA.out (by simp [tithebarnref03_Unpack.l1])
         | succ k3 =>
          have H := HA.out
          clear HA
          simp only [tithebarnref03_Unpack.l1] at H
          by_cases c13 : x13_3 < a2
          ·rw [if_pos c13] at H
           have c13b0 : decide (x13_3 < a2) = true := decide_eq_true c13
           clear c13
           obtain ⟨ji14, hji14⟩ : ∃ j_ : Int, (wrap64 ((wrap64 (x11_2 * a2)) + x13_3)) = j_ := ⟨_, rfl⟩
           replace H : (if 0 ≤ (ji14) then (if (ji14) < (t428.length : Int) then (if rdOf false t428 (ji14) = true then (if 0 ≤ (IntKind.u64.wrap (x13_3)) then (tithebarnref03_Unpack.l1 k3 a1 a2 t428 x10_2 x11_2 (IntKind.u64.wrap (x12_3 + (shl .u64 1 (IntKind.u64.wrap (x13_3))))) (wrap64 (x13_3 + 1))) else (none)) else (tithebarnref03_Unpack.l1 k3 a1 a2 t428 x10_2 x11_2 x12_3 (wrap64 (x13_3 + 1)))) else (none)) else (none)) = some (r1, r2) := by first | (rw [hji14] at H; exact H) | (simp only [hji14] at H ⊢; exact H)
           have hji14w : (IntKind.i64.wrap ((wrap64 (x11_2 * a2)) + x13_3)) = ji14 := (i64_w _).trans hji14
           by_cases c15 : 0 ≤ (ji14)
           ·rw [if_pos c15] at H
            have c15b0 : decide (0 ≤ (ji14)) = true := decide_eq_true c15
            clear c15
            by_cases c16 : (ji14) < (t428.length : Int)
            ·rw [if_pos c16] at H
             have c16b0 : decide ((ji14) < (t428.length : Int)) = true := decide_eq_true c16
             clear c16
             obtain ⟨bq17, hbq17⟩ : ∃ b_ : Bool, b_ = (rdOf false t428 (ji14)) := ⟨_, rfl⟩
             replace H : (if bq17 = true then (if 0 ≤ (IntKind.u64.wrap (x13_3)) then (tithebarnref03_Unpack.l1 k3 a1 a2 t428 x10_2 x11_2 (IntKind.u64.wrap (x12_3 + (shl .u64 1 (IntKind.u64.wrap (x13_3))))) (wrap64 (x13_3 + 1))) else (none)) else (tithebarnref03_Unpack.l1 k3 a1 a2 t428 x10_2 x11_2 x12_3 (wrap64 (x13_3 + 1)))) = some (r1, r2) := by rw [← hbq17] at H; exact H
             have Nbq17 := Aside0.mk hbq17
             clear hbq17
             by_cases c18 : bq17 = true
             ·subst c18
              have H1 : (if 0 ≤ (IntKind.u64.wrap (x13_3)) then (tithebarnref03_Unpack.l1 k3 a1 a2 t428 x10_2 x11_2 (IntKind.u64.wrap (x12_3 + (shl .u64 1 (IntKind.u64.wrap (x13_3))))) (wrap64 (x13_3 + 1))) else (none)) = some (r1, r2) := by rw [if_pos rfl] at H; exact H
              clear H
              have H := H1
              clear H1
              obtain ⟨ji19, hji19⟩ : ∃ j_ : Int, (IntKind.u64.wrap (x13_3)) = j_ := ⟨_, rfl⟩
              replace H : (if 0 ≤ (ji19) then (tithebarnref03_Unpack.l1 k3 a1 a2 t428 x10_2 x11_2 (IntKind.u64.wrap (x12_3 + (shl .u64 1 (ji19)))) (wrap64 (x13_3 + 1))) else (none)) = some (r1, r2) := by first | (rw [hji19] at H; exact H) | (simp only [hji19] at H ⊢; exact H)
              by_cases c20 : 0 ≤ (ji19)
              ·rw [if_pos c20] at H
               have c20b0 := eq_true c20
               have c20b1 : decide (0 ≤ (ji19)) = true := decide_eq_true c20
               clear c20
               obtain ⟨ji21, hji21⟩ : ∃ j_ : Int, (shl .u64 1 (ji19)) = j_ := ⟨_, rfl⟩
               replace H : (tithebarnref03_Unpack.l1 k3 a1 a2 t428 x10_2 x11_2 (IntKind.u64.wrap (x12_3 + (ji21))) (wrap64 (x13_3 + 1))) = some (r1, r2) := by first | (rw [hji21] at H; exact H) | (simp only [hji21] at H ⊢; exact H)
               have hji21_ : (IntKind.u64.wrap (1 * 2 ^ min (ji19).toNat 64)) = ji21 := hji21
               have hji21z : (ji19) ≤ 64 → (IntKind.u64.wrap (1 * 2 ^ (ji19).toNat)) = ji21 := shl_small hji21
               have hji21u : (IntKind.u64.wrap (2 ^ min (ji19).toNat 64)) = ji21 := by have h_ := hji21_; rw [Int.one_mul] at h_; exact h_
               have hji21v : (ji19) ≤ 64 → (IntKind.u64.wrap (2 ^ (ji19).toNat)) = ji21 := fun hle_ => by have h_ := hji21z hle_; rw [Int.one_mul] at h_; exact h_
               have H' := Aside0.mk H
               clear H
               obtain ⟨Ao22, co22, eo22⟩ := Kd.R_slice HO_8.out
               subst eo22
               have p432 : 0 ≤ ((ji14) : Int) := of_decide_eq_true z12_
               have q432 : (ji14) < (t428.length : Int) := of_decide_eq_true z12_
               obtain ⟨ad432, e432, hx432_0⟩ := Kd.at_bool (Kd.R_reads' HO_8.out).2.2 (ji14) p432 q432
               (try rw [← Nbq17.out] at hx432_0)
               cases e432
               replace p432 := eq_true p432
               replace q432 := eq_true q432
               go_wp2
               go_roundg k3
               case measure => have := HJ3.out; have := HK2.out; have := HK3.out; omega
               case rel => exact ⟨(IntKind.u64.wrap (x12_3 + (ji21))), (wrap64 (x13_3 + 1)), (by first | rfl | (simp; done) | (simp only [← hji21] <;> (first | rfl | simp)) | (simp [*]; done)), z11_, H', ⟨by have := HJ3.out; have := HK2.out; have := HK3.out; omega⟩, ⟨by (with_reducible repeat (first | apply Kd.R_alloc | apply Kd.R_drewN | apply Kd.R_drew)); exact HO_8.out⟩, ⟨by (with_reducible repeat (first | apply Kd.R_alloc | apply Kd.R_drewN | apply Kd.R_drew)); exact HO_10.out⟩, ⟨z1_⟩⟩
              ·rw [if_neg c20] at H
               exact absurd H (by simp)
             ·replace c18 := Bool.eq_false_iff.mpr c18
              subst c18
              have H1 : (tithebarnref03_Unpack.l1 k3 a1 a2 t428 x10_2 x11_2 x12_3 (wrap64 (x13_3 + 1))) = some (r1, r2) := by rw [if_neg (show ¬ (false = true) by decide)] at H; exact H
              clear H
              have H := H1
              clear H1
              have H' := Aside0.mk H
              clear H
              obtain ⟨Ao23, co23, eo23⟩ := Kd.R_slice HO_8.out
              subst eo23
              have p432 : 0 ≤ ((ji14) : Int) := of_decide_eq_true z12_
              have q432 : (ji14) < (t428.length : Int) := of_decide_eq_true z12_
              obtain ⟨ad432, e432, hx432_0⟩ := Kd.at_bool (Kd.R_reads' HO_8.out).2.2 (ji14) p432 q432
              (try rw [← Nbq17.out] at hx432_0)
              cases e432
              replace p432 := eq_true p432
              replace q432 := eq_true q432
              go_wp2
              go_roundg k3
              case measure => have := HJ3.out; have := HK2.out; have := HK3.out; omega
              case rel => exact ⟨(x12_3), (wrap64 (x13_3 + 1)), z11_, z11_, H', ⟨by have := HJ3.out; have := HK2.out; have := HK3.out; omega⟩, ⟨by (with_reducible repeat (first | apply Kd.R_alloc | apply Kd.R_drewN | apply Kd.R_drew)); exact HO_8.out⟩, ⟨by (with_reducible repeat (first | apply Kd.R_alloc | apply Kd.R_drewN | apply Kd.R_drew)); exact HO_10.out⟩, ⟨z1_⟩⟩
            ·rw [if_neg c16] at H
             exact absurd H (by simp)
           ·rw [if_neg c15] at H
            exact absurd H (by simp)
          ·rw [if_neg c13] at H
           have c13b0 : decide (x13_3 < a2) = false := decide_eq_false c13
           clear c13
           by_cases c24 : x10_2.length < 17592186044416
           ·rw [if_pos c24] at H
            have LMc24 := Aside0.mk c24
            clear c24
            obtain ⟨y433, hy433⟩ : ∃ y_ : List Int, y_ = (x10_2 ++ [x12_3]) := ⟨_, rfl⟩
            replace H : (tithebarnref03_Unpack.l0 k3 a1 a2 t428 y433 (wrap64 (x11_2 + 1))) = some (r1, r2) := by first | (rw [hy433]; with_reducible exact H) | (have H2_ := (Option.bind_some _ _).symm.trans H; rw [hy433]; with_reducible exact H2_) | (have H2_ := (Option.bind_some _ _).symm.trans H; with_reducible exact H2_) | with_reducible exact H | (rw [hy433]; exact H) | exact H
            have Ny433 := Aside0.mk hy433
            clear hy433
            have H' := Aside0.mk H
            clear H
            go_wp2_with (first | ((with_reducible refine gate_builtin (b := .append) (xs := #[.tmp 62, .tmp 64]) rfl ?_); at_builtin; refine Kd.R_append (Kd.int .u64) (w0 := w) w.heap.size rfl (.tmp 62) (.tmp 64) 59 44 (.int .u64 0) 8 rfl Try.underlying59 info44 rfl (by decide) (by omega) u10 x10_2 x12_3 [.int .u64 x12_3] (fun _ => True) (fun _ => False) rfl rfl ?aP (fun _ hk => hk.elim) ?aF ?aO ?aB ?aS ?aL ?_; (case aP => exact rfl); (case aB => exact z1_); (case aF => exact (fun _ _ => trivial)); (case aO => exact (by (with_reducible repeat (first | apply Kd.R_alloc | apply Kd.R_drewN | apply Kd.R_drew)); exact HO_10.out)); (case aS => exact (below_size z1_)); (case aL => have := LMc24.out; omega); intro v434 w25 ho hb hg hat; rw [← Ny433.out] at ho; have n0_ := Aside0.mk (Kd.R_over' (by (with_reducible repeat (first | apply Kd.R_alloc | apply Kd.R_drewN | apply Kd.R_drew)); exact HO_8.out) (Kd.R_typed (by (with_reducible repeat (first | apply Kd.R_alloc | apply Kd.R_drewN | apply Kd.R_drew)); exact HO_10.out)) (by decide) hg); have n1_ := Aside0.mk (hb); have n2_ := Aside0.mk (ho); clear HO_8; clear HB; clear HO_10; have HO_8 := n0_; have HB := n1_; have HO435 := n2_; clear n0_ n1_ n2_; clear ho hb hg hat))
            go_roundg k3
            case measure => have := HJ3.out; have := HK2.out; have := HK3.out; omega
            case rel => exact ⟨(y433), (wrap64 (x11_2 + 1)), z11_, H', ⟨by have := HJ3.out; have := HK2.out; have := HK3.out; omega⟩, ⟨by (with_reducible repeat (first | apply Kd.R_alloc | apply Kd.R_drewN | apply Kd.R_drew)); exact HO_8.out⟩, ⟨by (with_reducible repeat (first | apply Kd.R_alloc | apply Kd.R_drewN | apply Kd.R_drew)); exact HO435.out⟩, ⟨z1_⟩⟩
           ·rw [if_neg c24] at H
            exact absurd H (by simp)
       ·rw [if_neg c12] at H
        have c12b0 : decide (x11_2 < a1) = false := decide_eq_false c12
        clear c12
        simp only [Option.some.injEq, Prod.mk.injEq] at H
        obtain ⟨rfl, rfl⟩ := H
        go_wp2
        go_ret2
        exact ⟨_, z6_, by (with_reducible repeat (first | apply Kd.R_alloc | apply Kd.R_drewN | apply Kd.R_drew)); exact HO_10.out, z1_⟩
    ·rw [if_neg c10] at H
     have c10b0 : (t429 == 0) = false := beq_eq_false_iff_ne.mpr c10
     have c10b1 : (t429 != 0) = true := bne_iff_ne.mpr c10
     simp only [Option.some.injEq, Prod.mk.injEq] at H
     obtain ⟨rfl, rfl⟩ := H
     go_wp2_with (first | ((with_reducible refine gate_callee (f := 67) rfl ?_); refine goesL_ (some 33) rfl rfl Try.func67 (by kernel_rfl) rfl #[.string a0, .int .i64 (wrap64 (a1 * a2))] rfl (by (try simp only [List.map_toArray, List.map_cons, List.map_nil]); first | done | rfl | (simp only [List.length_drop, List.length_take]; rfl) | (go_simp; simp [IntKind.wrap, IntKind.bits, IntKind.signed]; omega)) ?_; (with_reducible refine (tithebarnref03_unbits.calls kj3 a0 (wrap64 (a1 * a2)) t428 t429 _ A9.out).mono ?_); rintro e w26 ⟨v430, rfl, ho0, hb⟩; refine ⟨_, rfl, ?_⟩; have n0_ := Aside0.mk (Kd.R_lower ho0 (below_size z1_)); have n1_ := Aside0.mk (below_step z1_ hb); clear HB; have HO431 := n0_; have HB := n1_; clear n0_ n1_; (try clear hb); (try clear hb2); (try clear hk); (try clear hi); (try clear ho0)))
     go_ret2
     exact ⟨_, z6_, z10_, z1_⟩
end Go.Proofs.Ytgeddoklmcjdcaa.G
namespace Go.Proofs.Ytgeddoklmcjdcaa.G
open Go.RowKit Go.Proofs.YtgeddoklmcjdcaaQ Go.Proofs.YtgeddoklmcjdcaaW.PrintWords Go.Proofs.YtgeddoklmcjdcaaW.PrintLast Go.Proofs.YtgeddoklmcjdcaaW.PrintMore
attribute [local go_sem] max2_int min2_int max_two min_two max_three min_three max_four min_four   -- for this text's walks alone
set_option linter.unusedVariables false
set_option linter.unusedSimpArgs false
def tithebarnref04_readPacked.l0 : Nat → Int → Int → Int → List Int → List Int → Bool → Int → ByteArray → Int → Int → Option (List Int × Int × ByteArray × Int × Int)
 | 0, _, _, _, _, _, _, _, _, _, _ => none
 | k + 1, x1, x6, x7, x9, x11, x12, x13, x1000, x1001, x1002 => if x13 < x1 then (if x12 = true then (if 0 ≤ x13 then (if x13 < (x9.length : Int) then (if x11.length < 17592186044416 then (tithebarnref04_readPacked.l0 k x1 x6 x7 x9 (x11 ++ [wrap64 (IntKind.u64.wrap ((IntKind.u64.wrap (x6)) + (rd x9 x13)))]) true (wrap64 (x13 + 1)) x1000 x1001 x1002) else (none)) else (none)) else (none)) else (if 0 ≤ x13 then (if x13 < (x9.length : Int) then (if x11.length < 17592186044416 then (tithebarnref04_readPacked.l0 k x1 x6 x7 x9 (x11 ++ [wrap64 (IntKind.u64.wrap ((IntKind.u64.wrap (x6)) + (rd x9 x13)))]) ((rd x9 x13) == 0) (wrap64 (x13 + 1)) x1000 x1001 x1002) else (none)) else (none)) else (none))) else ((tithebarnref04_offsets.f k x11).bind fun bt461 => (if x12 = true then ((tithebarnref03_Width.f k x9).bind fun t465 => (if t465 = x7 then (if bt461.1 = x6 then (some (x11, 0, x1000, x1001, x1002)) else (some (([] : List Int), 4, x1000, x1001, x1002))) else (some (([] : List Int), 4, x1000, x1001, x1002)))) else (some (([] : List Int), 4, x1000, x1001, x1002))))
def tithebarnref04_readPacked.f (k : Nat) (s0_0 : ByteArray) (s0_1 : Int) (s0_2 : Int) (a1 : Int) : Option (List Int × Int × ByteArray × Int × Int) := (tithebarnref01_Cursor_Int.f k s0_0 s0_1 s0_2).bind fun bt436 => ((tithebarnref01_Cursor_Byte.f bt436.2.1 bt436.2.2.1 bt436.2.2.2).bind fun bt440 => (if bt440.2.2.2 = 0 then (if bt440.1 > 64 then (some (([] : List Int), 4, bt440.2.1, bt440.2.2.1, bt440.2.2.2)) else ((tithebarnref04_raw.f k bt440.2.1 bt440.2.2.1 bt440.2.2.2 (wrap64 (Int.tdiv (wrap64 ((wrap64 (a1 * bt440.1)) + 7)) 8))).bind fun bt444 => (if bt444.2.2.2 = 0 then ((tithebarnref03_Unpack.f k bt444.1 a1 bt440.1).bind fun bt448 => (if bt448.2 = 0 then (tithebarnref04_readPacked.l0 k a1 bt436.1 bt440.1 bt448.1 ([] : List Int) false 0 bt444.2.1 bt444.2.2.1 bt444.2.2.2) else (some (([] : List Int), bt448.2, bt444.2.1, bt444.2.2.1, bt444.2.2.2)))) else (some (([] : List Int), bt444.2.2.2, bt444.2.1, bt444.2.2.1, bt444.2.2.2))))) else (some (([] : List Int), bt440.2.2.2, bt440.2.1, bt440.2.2.1, bt440.2.2.2))))
theorem tithebarnref04_readPacked.mono_l : ∀ k, (∀ y0 y1 y2 y3 y4 y5 y6 y7 y8 y9, LeO (tithebarnref04_readPacked.l0 k y0 y1 y2 y3 y4 y5 y6 y7 y8 y9) (tithebarnref04_readPacked.l0 (k + 1) y0 y1 y2 y3 y4 y5 y6 y7 y8 y9))
 | 0 => fun _ _ _ _ _ _ _ _ _ _ r h => by simp [tithebarnref04_readPacked.l0] at h
 | k + 1 => by
  have ih0 := tithebarnref04_readPacked.mono_l k
  ·intro y0 y1 y2 y3 y4 y5 y6 y7 y8 y9
   unfold tithebarnref04_readPacked.l0
   repeat' first
   | (with_reducible exact ih0 _ _ _ _ _ _ _ _ _ _)
   | (with_reducible exact tithebarnref01_Cursor_Int.mono _ _ _ _)
   | (with_reducible exact tithebarnref03_Unpack.mono _ _ _ _)
   | (with_reducible exact tithebarnref03_Width.mono _ _)
   | (with_reducible exact tithebarnref04_offsets.mono _ _)
   | (with_reducible exact tithebarnref04_raw.mono _ _ _ _ _)
   | (with_reducible exact LeO.refl _)
   | (with_reducible exact LeO.none _)
   | (with_reducible refine LeO.ite ?_ ?_)
   | (with_reducible refine LeO.bind ?_ (fun _ => ?_))
   | exact ih0 _ _ _ _ _ _ _ _ _ _
   | exact tithebarnref01_Cursor_Int.mono _ _ _ _
   | exact tithebarnref03_Unpack.mono _ _ _ _
   | exact tithebarnref03_Width.mono _ _
   | exact tithebarnref04_offsets.mono _ _
   | exact tithebarnref04_raw.mono _ _ _ _ _
   | exact LeO.none _
   | refine LeO.ite ?_ ?_
   | refine LeO.bind ?_ (fun _ => ?_)
theorem tithebarnref04_readPacked.mono : ∀ a0 a1 a2 a3 k, LeO (tithebarnref04_readPacked.f k a0 a1 a2 a3) (tithebarnref04_readPacked.f (k + 1) a0 a1 a2 a3) := by
 intro a0 a1 a2 a3 k
 have ih0 := tithebarnref04_readPacked.mono_l k
 unfold tithebarnref04_readPacked.f
 repeat' first
   | (with_reducible exact ih0 _ _ _ _ _ _ _ _ _ _)
   | (with_reducible exact tithebarnref01_Cursor_Int.mono _ _ _ _)
   | (with_reducible exact tithebarnref03_Unpack.mono _ _ _ _)
   | (with_reducible exact tithebarnref03_Width.mono _ _)
   | (with_reducible exact tithebarnref04_offsets.mono _ _)
   | (with_reducible exact tithebarnref04_raw.mono _ _ _ _ _)
   | (with_reducible exact LeO.refl _)
   | (with_reducible exact LeO.none _)
   | (with_reducible refine LeO.ite ?_ ?_)
   | (with_reducible refine LeO.bind ?_ (fun _ => ?_))
   | exact ih0 _ _ _ _ _ _ _ _ _ _
   | exact tithebarnref01_Cursor_Int.mono _ _ _ _
   | exact tithebarnref03_Unpack.mono _ _ _ _
   | exact tithebarnref03_Width.mono _ _
   | exact tithebarnref04_offsets.mono _ _
   | exact tithebarnref04_raw.mono _ _ _ _ _
   | exact LeO.none _
   | refine LeO.ite ?_ ?_
   | refine LeO.bind ?_ (fun _ => ?_)
set_option maxHeartbeats 8000000 in
set_option maxRecDepth 100000 in
theorem tithebarnref04_readPacked.calls (k : Nat) (g : Nat) (s0_0 : ByteArray) (s0_1 : Int) (s0_2 : Int) (a1 : Int) (r1 : List Int) (r2 : Int) (r3 : ByteArray) (r4 : Int) (r5 : Int) (w0 w : World) (hI : IsS55 w0 w g s0_0 s0_1 s0_2) (hB : Below w0.heap.size w0 w) (h : tithebarnref04_readPacked.f k s0_0 s0_1 s0_2 a1 = some (r1, r2, r3, r4, r5)) :
  Calls Try.prog 31 #[.pointer (some ⟨g, 0, none⟩), .int .i64 a1] w fun e w' => ∃ v0_ : Value, e = .returned (.tuple #[v0_, .int .i64 r2]) ∧ Kd.R (Kd.int .i64) 2 w' w.heap.size (fun _ => True) v0_ r1 ∧ IsS55 w0 w' g r3 r4 r5 ∧ Below w0.heap.size w0 w' ∧ KeepBut w w' g none := by
 have HI0 := Aside0.mk hI
 have HK := Aside0.mk (KeepBut.refl w g none)
 have HL := Aside0.mk hB.size
 clear hI
 have HW0 := Aside0.mk hB.size
 have HB := Aside0.mk hB
 clear hB
 have H : ((tithebarnref01_Cursor_Int.f k s0_0 s0_1 s0_2).bind fun bt436 => ((tithebarnref01_Cursor_Byte.f bt436.2.1 bt436.2.2.1 bt436.2.2.2).bind fun bt440 => (if bt440.2.2.2 = 0 then (if bt440.1 > 64 then (some (([] : List Int), 4, bt440.2.1, bt440.2.2.1, bt440.2.2.2)) else ((tithebarnref04_raw.f k bt440.2.1 bt440.2.2.1 bt440.2.2.2 (wrap64 (Int.tdiv (wrap64 ((wrap64 (a1 * bt440.1)) + 7)) 8))).bind fun bt444 => (if bt444.2.2.2 = 0 then ((tithebarnref03_Unpack.f k bt444.1 a1 bt440.1).bind fun bt448 => (if bt448.2 = 0 then (tithebarnref04_readPacked.l0 k a1 bt436.1 bt440.1 bt448.1 ([] : List Int) false 0 bt444.2.1 bt444.2.2.1 bt444.2.2.2) else (some (([] : List Int), bt448.2, bt444.2.1, bt444.2.2.1, bt444.2.2.2)))) else (some (([] : List Int), bt444.2.2.2, bt444.2.1, bt444.2.2.1, bt444.2.2.2))))) else (some (([] : List Int), bt440.2.2.2, bt440.2.1, bt440.2.2.1, bt440.2.2.2))))) = some (r1, r2, r3, r4, r5) := h
 clear h
 replace H := Option.bind_eq_some_iff.mp H
 obtain ⟨⟨t436, t437, t438, t439⟩, A30, H⟩ := H
 replace H : ((tithebarnref01_Cursor_Byte.f t437 t438 t439).bind fun bt440 => (if bt440.2.2.2 = 0 then (if bt440.1 > 64 then (some (([] : List Int), 4, bt440.2.1, bt440.2.2.1, bt440.2.2.2)) else ((tithebarnref04_raw.f k bt440.2.1 bt440.2.2.1 bt440.2.2.2 (wrap64 (Int.tdiv (wrap64 ((wrap64 (a1 * bt440.1)) + 7)) 8))).bind fun bt444 => (if bt444.2.2.2 = 0 then ((tithebarnref03_Unpack.f k bt444.1 a1 bt440.1).bind fun bt448 => (if bt448.2 = 0 then (tithebarnref04_readPacked.l0 k a1 t436 bt440.1 bt448.1 ([] : List Int) false 0 bt444.2.1 bt444.2.2.1 bt444.2.2.2) else (some (([] : List Int), bt448.2, bt444.2.1, bt444.2.2.1, bt444.2.2.2)))) else (some (([] : List Int), bt444.2.2.2, bt444.2.1, bt444.2.2.1, bt444.2.2.2))))) else (some (([] : List Int), bt440.2.2.2, bt440.2.1, bt440.2.2.1, bt440.2.2.2)))) = some (r1, r2, r3, r4, r5) := H
 have A3 := Aside0.mk A30
 clear A30
 replace H := Option.bind_eq_some_iff.mp H
 obtain ⟨⟨t440, t441, t442, t443⟩, A40, H⟩ := H
 replace H : (if t443 = 0 then (if t440 > 64 then (some (([] : List Int), 4, t441, t442, t443)) else ((tithebarnref04_raw.f k t441 t442 t443 (wrap64 (Int.tdiv (wrap64 ((wrap64 (a1 * t440)) + 7)) 8))).bind fun bt444 => (if bt444.2.2.2 = 0 then ((tithebarnref03_Unpack.f k bt444.1 a1 t440).bind fun bt448 => (if bt448.2 = 0 then (tithebarnref04_readPacked.l0 k a1 t436 t440 bt448.1 ([] : List Int) false 0 bt444.2.1 bt444.2.2.1 bt444.2.2.2) else (some (([] : List Int), bt448.2, bt444.2.1, bt444.2.2.1, bt444.2.2.2)))) else (some (([] : List Int), bt444.2.2.2, bt444.2.1, bt444.2.2.1, bt444.2.2.2))))) else (some (([] : List Int), t443, t441, t442, t443))) = some (r1, r2, r3, r4, r5) := H
 have A4 := Aside0.mk A40
 clear A40
 by_cases c5 : t443 = 0
 ·rw [if_pos c5] at H
  have c5b0 : (t443 == 0) = true := beq_iff_eq.mpr c5
  have c5b1 : (t443 != 0) = false := bne_eq_false_iff_eq.mpr c5
  clear c5
  by_cases c6 : t440 > 64
  ·rw [if_pos c6] at H
   have c6b0 : decide (64 < t440) = true := decide_eq_true c6
   clear c6
   simp only [Option.some.injEq, Prod.mk.injEq] at H
   obtain ⟨rfl, rfl, rfl, rfl, rfl⟩ := H
   go_enter Try.func31, Try.ntmps31
   go_wp2_with (first | (go_at_call 32; (with_reducible refine (tithebarnref01_Cursor_Int.calls k g s0_0 s0_1 s0_2 t436 t437 t438 t439 w0 _ ?side1 ?side2 A3.out).mono ?_); (case side1 => repeat (first | (with_reducible first | exact HI0.out | apply IsS55.alloc | apply IsS55.drewN | apply IsS55.drew | apply IsS55.set_0 | apply IsS55.set_1 | apply IsS55.set_2) | exact HI0.out)); (case side2 => repeat (first | (with_reducible first | exact HB.out | apply below_alloc | apply pw_below_drewN | apply below_drew1 | refine below_set ?_ (IsS55.ge HI0.out)) | exact HB.out)); rintro e w7 ⟨rfl, hi, hb, hk⟩; have n0_ := Aside0.mk (KeepBut.trans z0_ hk (.inl rfl)); have n1_ := Aside0.mk (hb); have n2_ := Aside0.mk (hi); clear HK; clear HB; clear HI0; have HK := n0_; have HB := n1_; have HI0 := n2_; clear n0_ n1_ n2_; (try clear hb); (try clear hb2); (try clear hk); (try clear hi)) | (go_at_call 28; (with_reducible refine (tithebarnref01_Cursor_Byte.calls g t437 t438 t439 t440 t441 t442 t443 w0 _ ?side1 ?side2 A4.out).mono ?_); (case side1 => repeat (first | (with_reducible first | exact HI0.out | apply IsS55.alloc | apply IsS55.drewN | apply IsS55.drew | apply IsS55.set_0 | apply IsS55.set_1 | apply IsS55.set_2) | exact HI0.out)); (case side2 => repeat (first | (with_reducible first | exact HB.out | apply below_alloc | apply pw_below_drewN | apply below_drew1 | refine below_set ?_ (IsS55.ge HI0.out)) | exact HB.out)); rintro e w8 ⟨rfl, hi, hb, hk⟩; have n0_ := Aside0.mk (KeepBut.trans z0_ hk (.inl rfl)); have n1_ := Aside0.mk (hb); have n2_ := Aside0.mk (hi); clear HK; clear HB; clear HI0; have HK := n0_; have HB := n1_; have HI0 := n2_; clear n0_ n1_ n2_; (try clear hb); (try clear hb2); (try clear hk); (try clear hi); obtain ⟨HGz9, hgz9⟩ := HI0.out; have hcz9_0 := cellS55_0 HGz9; have hcz9_1 := cellS55_1 HGz9; have hcz9_2 := cellS55_2 HGz9; have hfz9_0 := blk_frozen HGz9 0; have hfz9_1 := blk_frozen HGz9 1; have hfz9_2 := blk_frozen HGz9 2; clear HGz9 hgz9))
   repeat (go_quiet (first | (go_at_call 32; (with_reducible refine (tithebarnref01_Cursor_Int.calls k g s0_0 s0_1 s0_2 t436 t437 t438 t439 w0 _ ?side1 ?side2 A3.out).mono ?_); (case side1 => repeat (first | (with_reducible first | exact HI0.out | apply IsS55.alloc | apply IsS55.drewN | apply IsS55.drew | apply IsS55.set_0 | apply IsS55.set_1 | apply IsS55.set_2) | exact HI0.out)); (case side2 => repeat (first | (with_reducible first | exact HB.out | apply below_alloc | apply pw_below_drewN | apply below_drew1 | refine below_set ?_ (IsS55.ge HI0.out)) | exact HB.out)); rintro e w7 ⟨rfl, hi, hb, hk⟩; have n0_ := Aside0.mk (KeepBut.trans z0_ hk (.inl rfl)); have n1_ := Aside0.mk (hb); have n2_ := Aside0.mk (hi); clear HK; clear HB; clear HI0; have HK := n0_; have HB := n1_; have HI0 := n2_; clear n0_ n1_ n2_; (try clear hb); (try clear hb2); (try clear hk); (try clear hi)) | (go_at_call 28; (with_reducible refine (tithebarnref01_Cursor_Byte.calls g t437 t438 t439 t440 t441 t442 t443 w0 _ ?side1 ?side2 A4.out).mono ?_); (case side1 => repeat (first | (with_reducible first | exact HI0.out | apply IsS55.alloc | apply IsS55.drewN | apply IsS55.drew | apply IsS55.set_0 | apply IsS55.set_1 | apply IsS55.set_2) | exact HI0.out)); (case side2 => repeat (first | (with_reducible first | exact HB.out | apply below_alloc | apply pw_below_drewN | apply below_drew1 | refine below_set ?_ (IsS55.ge HI0.out)) | exact HB.out)); rintro e w8 ⟨rfl, hi, hb, hk⟩; have n0_ := Aside0.mk (KeepBut.trans z0_ hk (.inl rfl)); have n1_ := Aside0.mk (hb); have n2_ := Aside0.mk (hi); clear HK; clear HB; clear HI0; have HK := n0_; have HB := n1_; have HI0 := n2_; clear n0_ n1_ n2_; (try clear hb); (try clear hb2); (try clear hk); (try clear hi); obtain ⟨HGz9, hgz9⟩ := HI0.out; have hcz9_0 := cellS55_0 HGz9; have hcz9_1 := cellS55_1 HGz9; have hcz9_2 := cellS55_2 HGz9; have hfz9_0 := blk_frozen HGz9 0; have hfz9_1 := blk_frozen HGz9 1; have hfz9_2 := blk_frozen HGz9 2; clear HGz9 hgz9)); try go_wp2_with (first | (go_at_call 32; (with_reducible refine (tithebarnref01_Cursor_Int.calls k g s0_0 s0_1 s0_2 t436 t437 t438 t439 w0 _ ?side1 ?side2 A3.out).mono ?_); (case side1 => repeat (first | (with_reducible first | exact HI0.out | apply IsS55.alloc | apply IsS55.drewN | apply IsS55.drew | apply IsS55.set_0 | apply IsS55.set_1 | apply IsS55.set_2) | exact HI0.out)); (case side2 => repeat (first | (with_reducible first | exact HB.out | apply below_alloc | apply pw_below_drewN | apply below_drew1 | refine below_set ?_ (IsS55.ge HI0.out)) | exact HB.out)); rintro e w7 ⟨rfl, hi, hb, hk⟩; have n0_ := Aside0.mk (KeepBut.trans z0_ hk (.inl rfl)); have n1_ := Aside0.mk (hb); have n2_ := Aside0.mk (hi); clear HK; clear HB; clear HI0; have HK := n0_; have HB := n1_; have HI0 := n2_; clear n0_ n1_ n2_; (try clear hb); (try clear hb2); (try clear hk); (try clear hi)) | (go_at_call 28; (with_reducible refine (tithebarnref01_Cursor_Byte.calls g t437 t438 t439 t440 t441 t442 t443 w0 _ ?side1 ?side2 A4.out).mono ?_); (case side1 => repeat (first | (with_reducible first | exact HI0.out | apply IsS55.alloc | apply IsS55.drewN | apply IsS55.drew | apply IsS55.set_0 | apply IsS55.set_1 | apply IsS55.set_2) | exact HI0.out)); (case side2 => repeat (first | (with_reducible first | exact HB.out | apply below_alloc | apply pw_below_drewN | apply below_drew1 | refine below_set ?_ (IsS55.ge HI0.out)) | exact HB.out)); rintro e w8 ⟨rfl, hi, hb, hk⟩; have n0_ := Aside0.mk (KeepBut.trans z0_ hk (.inl rfl)); have n1_ := Aside0.mk (hb); have n2_ := Aside0.mk (hi); clear HK; clear HB; clear HI0; have HK := n0_; have HB := n1_; have HI0 := n2_; clear n0_ n1_ n2_; (try clear hb); (try clear hb2); (try clear hk); (try clear hi); obtain ⟨HGz9, hgz9⟩ := HI0.out; have hcz9_0 := cellS55_0 HGz9; have hcz9_1 := cellS55_1 HGz9; have hcz9_2 := cellS55_2 HGz9; have hfz9_0 := blk_frozen HGz9 0; have hfz9_1 := blk_frozen HGz9 1; have hfz9_2 := blk_frozen HGz9 2; clear HGz9 hgz9)))
   go_ret2
   exact ⟨_, z6_, z10_, z2_, z3_, z0_⟩
  ·rw [if_neg c6] at H
   have c6b0 : decide (64 < t440) = false := decide_eq_false c6
   clear c6
   replace H := Option.bind_eq_some_iff.mp H
   obtain ⟨⟨t444, t445, t446, t447⟩, A100, H⟩ := H
   replace H : (if t447 = 0 then ((tithebarnref03_Unpack.f k t444 a1 t440).bind fun bt448 => (if bt448.2 = 0 then (tithebarnref04_readPacked.l0 k a1 t436 t440 bt448.1 ([] : List Int) false 0 t445 t446 t447) else (some (([] : List Int), bt448.2, t445, t446, t447)))) else (some (([] : List Int), t447, t445, t446, t447))) = some (r1, r2, r3, r4, r5) := H
   have A10 := Aside0.mk A100
   clear A100
   by_cases c11 : t447 = 0
   ·rw [if_pos c11] at H
    have c11b0 : (t447 == 0) = true := beq_iff_eq.mpr c11
    have c11b1 : (t447 != 0) = false := bne_eq_false_iff_eq.mpr c11
    clear c11
    replace H := Option.bind_eq_some_iff.mp H
    obtain ⟨⟨t448, t449⟩, A120, H⟩ := H
    replace H : (if t449 = 0 then (tithebarnref04_readPacked.l0 k a1 t436 t440 t448 ([] : List Int) false 0 t445 t446 t447) else (some (([] : List Int), t449, t445, t446, t447))) = some (r1, r2, r3, r4, r5) := H
    have A12 := Aside0.mk A120
    clear A120
    by_cases c13 : t449 = 0
    ·rw [if_pos c13] at H
     have c13b0 : (t449 == 0) = true := beq_iff_eq.mpr c13
     have c13b1 : (t449 != 0) = false := bne_eq_false_iff_eq.mpr c13
     clear c13
     have H' := Aside0.mk H
     clear H
     go_enter Try.func31, Try.ntmps31
     go_wp2_with (first | (go_at_call 32; (with_reducible refine (tithebarnref01_Cursor_Int.calls k g s0_0 s0_1 s0_2 t436 t437 t438 t439 w0 _ ?side1 ?side2 A3.out).mono ?_); (case side1 => repeat (first | (with_reducible first | exact HI0.out | apply IsS55.alloc | apply IsS55.drewN | apply IsS55.drew | apply IsS55.set_0 | apply IsS55.set_1 | apply IsS55.set_2) | exact HI0.out)); (case side2 => repeat (first | (with_reducible first | exact HB.out | apply below_alloc | apply pw_below_drewN | apply below_drew1 | refine below_set ?_ (IsS55.ge HI0.out)) | exact HB.out)); rintro e w14 ⟨rfl, hi, hb, hk⟩; have n0_ := Aside0.mk (KeepBut.trans z0_ hk (.inl rfl)); have n1_ := Aside0.mk (hb); have n2_ := Aside0.mk (hi); clear HK; clear HB; clear HI0; have HK := n0_; have HB := n1_; have HI0 := n2_; clear n0_ n1_ n2_; (try clear hb); (try clear hb2); (try clear hk); (try clear hi)) | (go_at_call 28; (with_reducible refine (tithebarnref01_Cursor_Byte.calls g t437 t438 t439 t440 t441 t442 t443 w0 _ ?side1 ?side2 A4.out).mono ?_); (case side1 => repeat (first | (with_reducible first | exact HI0.out | apply IsS55.alloc | apply IsS55.drewN | apply IsS55.drew | apply IsS55.set_0 | apply IsS55.set_1 | apply IsS55.set_2) | exact HI0.out)); (case side2 => repeat (first | (with_reducible first | exact HB.out | apply below_alloc | apply pw_below_drewN | apply below_drew1 | refine below_set ?_ (IsS55.ge HI0.out)) | exact HB.out)); rintro e w15 ⟨rfl, hi, hb, hk⟩; have n0_ := Aside0.mk (KeepBut.trans z0_ hk (.inl rfl)); have n1_ := Aside0.mk (hb); have n2_ := Aside0.mk (hi); clear HK; clear HB; clear HI0; have HK := n0_; have HB := n1_; have HI0 := n2_; clear n0_ n1_ n2_; (try clear hb); (try clear hb2); (try clear hk); (try clear hi); obtain ⟨HGz16, hgz16⟩ := HI0.out; have hcz16_0 := cellS55_0 HGz16; have hcz16_1 := cellS55_1 HGz16; have hcz16_2 := cellS55_2 HGz16; have hfz16_0 := blk_frozen HGz16 0; have hfz16_1 := blk_frozen HGz16 1; have hfz16_2 := blk_frozen HGz16 2; clear HGz16 hgz16) | (go_at_call 52; (with_reducible refine (tithebarnref04_raw.calls k g t441 t442 t443 (wrap64 (Int.tdiv (wrap64 ((wrap64 (a1 * t440)) + 7)) 8)) t444 t445 t446 t447 w0 _ ?side1 ?side2 A10.out).mono ?_); (case side1 => repeat (first | (with_reducible first | exact HI0.out | apply IsS55.alloc | apply IsS55.drewN | apply IsS55.drew | apply IsS55.set_0 | apply IsS55.set_1 | apply IsS55.set_2) | exact HI0.out)); (case side2 => repeat (first | (with_reducible first | exact HB.out | apply below_alloc | apply pw_below_drewN | apply below_drew1 | refine below_set ?_ (IsS55.ge HI0.out)) | exact HB.out)); rintro e w17 ⟨rfl, hi, hb, hk⟩; have n0_ := Aside0.mk (KeepBut.trans z0_ hk (.inl rfl)); have n1_ := Aside0.mk (hb); have n2_ := Aside0.mk (hi); clear HK; clear HB; clear HI0; have HK := n0_; have HB := n1_; have HI0 := n2_; clear n0_ n1_ n2_; (try clear hb); (try clear hb2); (try clear hk); (try clear hi); obtain ⟨HGz18, hgz18⟩ := HI0.out; have hcz18_0 := cellS55_0 HGz18; have hcz18_1 := cellS55_1 HGz18; have hcz18_2 := cellS55_2 HGz18; have hfz18_0 := blk_frozen HGz18 0; have hfz18_1 := blk_frozen HGz18 1; have hfz18_2 := blk_frozen HGz18 2; clear HGz18 hgz18) | (go_at_call 53; (with_reducible refine (tithebarnref03_Unpack.calls k t444 a1 t440 t448 t449 _ A12.out).mono ?_); rintro e w19 ⟨v450, rfl, ho0, hb⟩; have n0_ := Aside0.mk (Kd.R_lower ho0 (keep_size (w := w) (g := g) (row := none) z0_)); have n1_ := Aside0.mk (IsS55.below z2_ hb); have n2_ := Aside0.mk (KeepBut.trans z0_ (KeepBut.of_below hb g none) (.inl rfl)); have n3_ := Aside0.mk (below_step z3_ hb); clear HI0; clear HK; clear HB; have HO451 := n0_; have HI0 := n1_; have HK := n2_; have HB := n3_; clear n0_ n1_ n2_ n3_; (try clear hb); (try clear hb2); (try clear hk); (try clear hi); (try clear ho0)))
     repeat (go_quiet (first | (go_at_call 32; (with_reducible refine (tithebarnref01_Cursor_Int.calls k g s0_0 s0_1 s0_2 t436 t437 t438 t439 w0 _ ?side1 ?side2 A3.out).mono ?_); (case side1 => repeat (first | (with_reducible first | exact HI0.out | apply IsS55.alloc | apply IsS55.drewN | apply IsS55.drew | apply IsS55.set_0 | apply IsS55.set_1 | apply IsS55.set_2) | exact HI0.out)); (case side2 => repeat (first | (with_reducible first | exact HB.out | apply below_alloc | apply pw_below_drewN | apply below_drew1 | refine below_set ?_ (IsS55.ge HI0.out)) | exact HB.out)); rintro e w14 ⟨rfl, hi, hb, hk⟩; have n0_ := Aside0.mk (KeepBut.trans z0_ hk (.inl rfl)); have n1_ := Aside0.mk (hb); have n2_ := Aside0.mk (hi); clear HK; clear HB; clear HI0; have HK := n0_; have HB := n1_; have HI0 := n2_; clear n0_ n1_ n2_; (try clear hb); (try clear hb2); (try clear hk); (try clear hi)) | (go_at_call 28; (with_reducible refine (tithebarnref01_Cursor_Byte.calls g t437 t438 t439 t440 t441 t442 t443 w0 _ ?side1 ?side2 A4.out).mono ?_); (case side1 => repeat (first | (with_reducible first | exact HI0.out | apply IsS55.alloc | apply IsS55.drewN | apply IsS55.drew | apply IsS55.set_0 | apply IsS55.set_1 | apply IsS55.set_2) | exact HI0.out)); (case side2 => repeat (first | (with_reducible first | exact HB.out | apply below_alloc | apply pw_below_drewN | apply below_drew1 | refine below_set ?_ (IsS55.ge HI0.out)) | exact HB.out)); rintro e w15 ⟨rfl, hi, hb, hk⟩; have n0_ := Aside0.mk (KeepBut.trans z0_ hk (.inl rfl)); have n1_ := Aside0.mk (hb); have n2_ := Aside0.mk (hi); clear HK; clear HB; clear HI0; have HK := n0_; have HB := n1_; have HI0 := n2_; clear n0_ n1_ n2_; (try clear hb); (try clear hb2); (try clear hk); (try clear hi); obtain ⟨HGz16, hgz16⟩ := HI0.out; have hcz16_0 := cellS55_0 HGz16; have hcz16_1 := cellS55_1 HGz16; have hcz16_2 := cellS55_2 HGz16; have hfz16_0 := blk_frozen HGz16 0; have hfz16_1 := blk_frozen HGz16 1; have hfz16_2 := blk_frozen HGz16 2; clear HGz16 hgz16) | (go_at_call 52; (with_reducible refine (tithebarnref04_raw.calls k g t441 t442 t443 (wrap64 (Int.tdiv (wrap64 ((wrap64 (a1 * t440)) + 7)) 8)) t444 t445 t446 t447 w0 _ ?side1 ?side2 A10.out).mono ?_); (case side1 => repeat (first | (with_reducible first | exact HI0.out | apply IsS55.alloc | apply IsS55.drewN | apply IsS55.drew | apply IsS55.set_0 | apply IsS55.set_1 | apply IsS55.set_2) | exact HI0.out)); (case side2 => repeat (first | (with_reducible first | exact HB.out | apply below_alloc | apply pw_below_drewN | apply below_drew1 | refine below_set ?_ (IsS55.ge HI0.out)) | exact HB.out)); rintro e w17 ⟨rfl, hi, hb, hk⟩; have n0_ := Aside0.mk (KeepBut.trans z0_ hk (.inl rfl)); have n1_ := Aside0.mk (hb); have n2_ := Aside0.mk (hi); clear HK; clear HB; clear HI0; have HK := n0_; have HB := n1_; have HI0 := n2_; clear n0_ n1_ n2_; (try clear hb); (try clear hb2); (try clear hk); (try clear hi); obtain ⟨HGz18, hgz18⟩ := HI0.out; have hcz18_0 := cellS55_0 HGz18; have hcz18_1 := cellS55_1 HGz18; have hcz18_2 := cellS55_2 HGz18; have hfz18_0 := blk_frozen HGz18 0; have hfz18_1 := blk_frozen HGz18 1; have hfz18_2 := blk_frozen HGz18 2; clear HGz18 hgz18) | (go_at_call 53; (with_reducible refine (tithebarnref03_Unpack.calls k t444 a1 t440 t448 t449 _ A12.out).mono ?_); rintro e w19 ⟨v450, rfl, ho0, hb⟩; have n0_ := Aside0.mk (Kd.R_lower ho0 (keep_size (w := w) (g := g) (row := none) z0_)); have n1_ := Aside0.mk (IsS55.below z2_ hb); have n2_ := Aside0.mk (KeepBut.trans z0_ (KeepBut.of_below hb g none) (.inl rfl)); have n3_ := Aside0.mk (below_step z3_ hb); clear HI0; clear HK; clear HB; have HO451 := n0_; have HI0 := n1_; have HK := n2_; have HB := n3_; clear n0_ n1_ n2_ n3_; (try clear hb); (try clear hb2); (try clear hk); (try clear hi); (try clear ho0))); try go_wp2_with (first | (go_at_call 32; (with_reducible refine (tithebarnref01_Cursor_Int.calls k g s0_0 s0_1 s0_2 t436 t437 t438 t439 w0 _ ?side1 ?side2 A3.out).mono ?_); (case side1 => repeat (first | (with_reducible first | exact HI0.out | apply IsS55.alloc | apply IsS55.drewN | apply IsS55.drew | apply IsS55.set_0 | apply IsS55.set_1 | apply IsS55.set_2) | exact HI0.out)); (case side2 => repeat (first | (with_reducible first | exact HB.out | apply below_alloc | apply pw_below_drewN | apply below_drew1 | refine below_set ?_ (IsS55.ge HI0.out)) | exact HB.out)); rintro e w14 ⟨rfl, hi, hb, hk⟩; have n0_ := Aside0.mk (KeepBut.trans z0_ hk (.inl rfl)); have n1_ := Aside0.mk (hb); have n2_ := Aside0.mk (hi); clear HK; clear HB; clear HI0; have HK := n0_; have HB := n1_; have HI0 := n2_; clear n0_ n1_ n2_; (try clear hb); (try clear hb2); (try clear hk); (try clear hi)) | (go_at_call 28; (with_reducible refine (tithebarnref01_Cursor_Byte.calls g t437 t438 t439 t440 t441 t442 t443 w0 _ ?side1 ?side2 A4.out).mono ?_); (case side1 => repeat (first | (with_reducible first | exact HI0.out | apply IsS55.alloc | apply IsS55.drewN | apply IsS55.drew | apply IsS55.set_0 | apply IsS55.set_1 | apply IsS55.set_2) | exact HI0.out)); (case side2 => repeat (first | (with_reducible first | exact HB.out | apply below_alloc | apply pw_below_drewN | apply below_drew1 | refine below_set ?_ (IsS55.ge HI0.out)) | exact HB.out)); rintro e w15 ⟨rfl, hi, hb, hk⟩; have n0_ := Aside0.mk (KeepBut.trans z0_ hk (.inl rfl)); have n1_ := Aside0.mk (hb); have n2_ := Aside0.mk (hi); clear HK; clear HB; clear HI0; have HK := n0_; have HB := n1_; have HI0 := n2_; clear n0_ n1_ n2_; (try clear hb); (try clear hb2); (try clear hk); (try clear hi); obtain ⟨HGz16, hgz16⟩ := HI0.out; have hcz16_0 := cellS55_0 HGz16; have hcz16_1 := cellS55_1 HGz16; have hcz16_2 := cellS55_2 HGz16; have hfz16_0 := blk_frozen HGz16 0; have hfz16_1 := blk_frozen HGz16 1; have hfz16_2 := blk_frozen HGz16 2; clear HGz16 hgz16) | (go_at_call 52; (with_reducible refine (tithebarnref04_raw.calls k g t441 t442 t443 (wrap64 (Int.tdiv (wrap64 ((wrap64 (a1 * t440)) + 7)) 8)) t444 t445 t446 t447 w0 _ ?side1 ?side2 A10.out).mono ?_); (case side1 => repeat (first | (with_reducible first | exact HI0.out | apply IsS55.alloc | apply IsS55.drewN | apply IsS55.drew | apply IsS55.set_0 | apply IsS55.set_1 | apply IsS55.set_2) | exact HI0.out)); (case side2 => repeat (first | (with_reducible first | exact HB.out | apply below_alloc | apply pw_below_drewN | apply below_drew1 | refine below_set ?_ (IsS55.ge HI0.out)) | exact HB.out)); rintro e w17 ⟨rfl, hi, hb, hk⟩; have n0_ := Aside0.mk (KeepBut.trans z0_ hk (.inl rfl)); have n1_ := Aside0.mk (hb); have n2_ := Aside0.mk (hi); clear HK; clear HB; clear HI0; have HK := n0_; have HB := n1_; have HI0 := n2_; clear n0_ n1_ n2_; (try clear hb); (try clear hb2); (try clear hk); (try clear hi); obtain ⟨HGz18, hgz18⟩ := HI0.out; have hcz18_0 := cellS55_0 HGz18; have hcz18_1 := cellS55_1 HGz18; have hcz18_2 := cellS55_2 HGz18; have hfz18_0 := blk_frozen HGz18 0; have hfz18_1 := blk_frozen HGz18 1; have hfz18_2 := blk_frozen HGz18 2; clear HGz18 hgz18) | (go_at_call 53; (with_reducible refine (tithebarnref03_Unpack.calls k t444 a1 t440 t448 t449 _ A12.out).mono ?_); rintro e w19 ⟨v450, rfl, ho0, hb⟩; have n0_ := Aside0.mk (Kd.R_lower ho0 (keep_size (w := w) (g := g) (row := none) z0_)); have n1_ := Aside0.mk (IsS55.below z2_ hb); have n2_ := Aside0.mk (KeepBut.trans z0_ (KeepBut.of_below hb g none) (.inl rfl)); have n3_ := Aside0.mk (below_step z3_ hb); clear HI0; clear HK; clear HB; have HO451 := n0_; have HI0 := n1_; have HK := n2_; have HB := n3_; clear n0_ n1_ n2_ n3_; (try clear hb); (try clear hb2); (try clear hk); (try clear hi); (try clear ho0))))
     go_loopg [11, 12, 13] k (fun kq v11 v12 v13 w' => ∃ (x11_1 : List Int) (x12_1 : Bool) (x13_1 : Int), v12 = .bool x12_1 ∧ v13 = .int .i64 x13_1 ∧ Aside0 (tithebarnref04_readPacked.l0 kq a1 t436 t440 t448 x11_1 x12_1 x13_1 t445 t446 t447 = some (r1, r2, r3, r4, r5)) ∧ Aside0 (kq ≤ k) ∧ Aside0 (Kd.R (Kd.int .u64) 44 w' w.heap.size (fun _ => True) v450 t448) ∧ Aside0 (Kd.R (Kd.int .i64) 2 w' w.heap.size (fun _ => True) v11 x11_1) ∧ Aside0 (IsS55 w0 w' g t445 t446 t447) ∧ Aside0 (KeepBut w w' g none) ∧ Aside0 (Below w0.heap.size w0 w'))
     case atStart => exact ⟨(([] : List Int)), (false), (0), z11_, z11_, H', ⟨Nat.le_refl _⟩, ⟨by (with_reducible repeat (first | apply Kd.R_alloc | apply Kd.R_drewN | apply Kd.R_drew)); exact HO451.out⟩, ⟨z10_⟩, ⟨z2_⟩, ⟨z0_⟩, ⟨z3_⟩⟩
     case round =>
      clear H'
      try clear c1
      try clear p2
      try clear c3
      try clear c5
      try clear c5b0
      try clear c5b1
      try clear c6
      try clear c6b0
      try clear p6
      try clear c11
      try clear c11b0
      try clear c11b1
      try clear c13
      try clear c13b0
      try clear c13b1
      try clear hcz16_0
      try clear hcz16_1
      try clear hcz16_2
      try clear hcz18_0
      try clear hcz18_1
      try clear hcz18_2
      try clear hcz9_0
      try clear hcz9_1
      try clear hcz9_2
      try clear hfz16_0
      try clear hfz16_1
      try clear hfz16_2
      try clear hfz18_0
      try clear hfz18_1
      try clear hfz18_2
      try clear hfz9_0
      try clear hfz9_1
      try clear hfz9_2
      obtain ⟨x11_1, x12_1, x13_1, rfl, rfl, HA, HK1, HO_9, HO_11, HI0, HK, HB⟩ := hrel
      cases gk with
      | zero => exact absurd HA.out (by simp [tithebarnref04_readPacked.l0])
      | succ k1 =>
       have H := HA.out
       clear HA
       simp only [tithebarnref04_readPacked.l0] at H
       by_cases c20 : x13_1 < a1
       ·rw [if_pos c20] at H
        have c20b0 : decide (x13_1 < a1) = true := decide_eq_true c20
        clear c20
        by_cases c21 : x12_1 = true
        ·subst c21
         have H1 : (if 0 ≤ x13_1 then (if x13_1 < (t448.length : Int) then (if x11_1.length < 17592186044416 then (tithebarnref04_readPacked.l0 k1 a1 t436 t440 t448 (x11_1 ++ [wrap64 (IntKind.u64.wrap ((IntKind.u64.wrap (t436)) + (rd t448 x13_1)))]) true (wrap64 (x13_1 + 1)) t445 t446 t447) else (none)) else (none)) else (none)) = some (r1, r2, r3, r4, r5) := by rw [if_pos rfl] at H; exact H
         clear H
         have H := H1
         clear H1
         by_cases c22 : 0 ≤ x13_1
         ·rw [if_pos c22] at H
          have c22b0 : decide (0 ≤ x13_1) = true := decide_eq_true c22
          clear c22
          by_cases c23 : x13_1 < (t448.length : Int)
          ·rw [if_pos c23] at H
           have c23b0 : decide (x13_1 < (t448.length : Int)) = true := decide_eq_true c23
           clear c23
           by_cases c24 : x11_1.length < 17592186044416
           ·rw [if_pos c24] at H
            have LMc24 := Aside0.mk c24
            clear c24
            obtain ⟨y453, hy453⟩ : ∃ y_ : List Int, y_ = (x11_1 ++ [wrap64 (IntKind.u64.wrap ((IntKind.u64.wrap (t436)) + (rd t448 x13_1)))]) := ⟨_, rfl⟩
            replace H : (tithebarnref04_readPacked.l0 k1 a1 t436 t440 t448 y453 true (wrap64 (x13_1 + 1)) t445 t446 t447) = some (r1, r2, r3, r4, r5) := by first | (rw [hy453]; with_reducible exact H) | (have H2_ := (Option.bind_some _ _).symm.trans H; rw [hy453]; with_reducible exact H2_) | (have H2_ := (Option.bind_some _ _).symm.trans H; with_reducible exact H2_) | with_reducible exact H | (rw [hy453]; exact H) | exact H
            have Ny453 := Aside0.mk hy453
            clear hy453
            have H' := Aside0.mk H
            clear H
            obtain ⟨Ao25, co25, eo25⟩ := Kd.R_slice HO_9.out
            subst eo25
            have p452 : 0 ≤ (x13_1 : Int) := of_decide_eq_true z12_
            have q452 : x13_1 < (t448.length : Int) := of_decide_eq_true z12_
            obtain ⟨ad452, e452, hx452_0⟩ := Kd.at_int (Kd.R_reads' HO_9.out).2.2 x13_1 p452 q452
            cases e452
            replace p452 := eq_true p452
            replace q452 := eq_true q452
            go_wp2_with (first | ((with_reducible refine gate_builtin (b := .append) (xs := #[.tmp 70, .tmp 79]) rfl ?_); at_builtin; refine Kd.R_append (Kd.int .i64) w.heap.size rfl (.tmp 70) (.tmp 79) 22 2 (.int .i64 0) 8 rfl Try.underlying22 info2 rfl (by decide) (by omega) u11 x11_1 (wrap64 (IntKind.u64.wrap ((IntKind.u64.wrap (t436)) + (rd t448 x13_1)))) [.int .i64 (wrap64 (IntKind.u64.wrap ((IntKind.u64.wrap (t436)) + (rd t448 x13_1))))] (fun _ => True) (fun _ => False) rfl rfl ?aP (fun _ hk => hk.elim) ?aF ?aO (Below.refl _ _) ?aS ?aL ?_; (case aP => exact rfl); (case aF => exact (fun _ _ => trivial)); (case aO => exact (by (with_reducible repeat (first | apply Kd.R_alloc | apply Kd.R_drewN | apply Kd.R_drew)); exact HO_11.out)); (case aS => exact (keep_size (w := w) (g := g) (row := none) z0_)); (case aL => have := LMc24.out; omega); intro v454 w26 ho hb hg hat; rw [← Ny453.out] at ho; have n0_ := Aside0.mk (Kd.R_over' (by (with_reducible repeat (first | apply Kd.R_alloc | apply Kd.R_drewN | apply Kd.R_drew)); exact HO_9.out) (Kd.R_typed (by (with_reducible repeat (first | apply Kd.R_alloc | apply Kd.R_drewN | apply Kd.R_drew)); exact HO_11.out)) (by decide) hg); have n1_ := Aside0.mk (IsS55.grown z2_ hg (IsS55.own_ne HI0.out HO_11.out (by decide))); have n2_ := Aside0.mk (below_weaken z3_ HL.out hb); have n3_ := Aside0.mk (KeepBut.trans z0_ (KeepBut.of_grown hg g) (Kd.R_base2 HO_11.out)); have n4_ := Aside0.mk (ho); clear HO_9; clear HI0; clear HB; clear HK; clear HO_11; have HO_9 := n0_; have HI0 := n1_; have HB := n2_; have HK := n3_; have HO455 := n4_; clear n0_ n1_ n2_ n3_ n4_; clear ho hb hg hat))
            repeat (go_quiet (first | ((with_reducible refine gate_builtin (b := .append) (xs := #[.tmp 70, .tmp 79]) rfl ?_); at_builtin; refine Kd.R_append (Kd.int .i64) w.heap.size rfl (.tmp 70) (.tmp 79) 22 2 (.int .i64 0) 8 rfl Try.underlying22 info2 rfl (by decide) (by omega) u11 x11_1 (wrap64 (IntKind.u64.wrap ((IntKind.u64.wrap (t436)) + (rd t448 x13_1)))) [.int .i64 (wrap64 (IntKind.u64.wrap ((IntKind.u64.wrap (t436)) + (rd t448 x13_1))))] (fun _ => True) (fun _ => False) rfl rfl ?aP (fun _ hk => hk.elim) ?aF ?aO (Below.refl _ _) ?aS ?aL ?_; (case aP => exact rfl); (case aF => exact (fun _ _ => trivial)); (case aO => exact (by (with_reducible repeat (first | apply Kd.R_alloc | apply Kd.R_drewN | apply Kd.R_drew)); exact HO_11.out)); (case aS => exact (keep_size (w := w) (g := g) (row := none) z0_)); (case aL => have := LMc24.out; omega); intro v454 w26 ho hb hg hat; rw [← Ny453.out] at ho; have n0_ := Aside0.mk (Kd.R_over' (by (with_reducible repeat (first | apply Kd.R_alloc | apply Kd.R_drewN | apply Kd.R_drew)); exact HO_9.out) (Kd.R_typed (by (with_reducible repeat (first | apply Kd.R_alloc | apply Kd.R_drewN | apply Kd.R_drew)); exact HO_11.out)) (by decide) hg); have n1_ := Aside0.mk (IsS55.grown z2_ hg (IsS55.own_ne HI0.out HO_11.out (by decide))); have n2_ := Aside0.mk (below_weaken z3_ HL.out hb); have n3_ := Aside0.mk (KeepBut.trans z0_ (KeepBut.of_grown hg g) (Kd.R_base2 HO_11.out)); have n4_ := Aside0.mk (ho); clear HO_9; clear HI0; clear HB; clear HK; clear HO_11; have HO_9 := n0_; have HI0 := n1_; have HB := n2_; have HK := n3_; have HO455 := n4_; clear n0_ n1_ n2_ n3_ n4_; clear ho hb hg hat)); try go_wp2_with (first | ((with_reducible refine gate_builtin (b := .append) (xs := #[.tmp 70, .tmp 79]) rfl ?_); at_builtin; refine Kd.R_append (Kd.int .i64) w.heap.size rfl (.tmp 70) (.tmp 79) 22 2 (.int .i64 0) 8 rfl Try.underlying22 info2 rfl (by decide) (by omega) u11 x11_1 (wrap64 (IntKind.u64.wrap ((IntKind.u64.wrap (t436)) + (rd t448 x13_1)))) [.int .i64 (wrap64 (IntKind.u64.wrap ((IntKind.u64.wrap (t436)) + (rd t448 x13_1))))] (fun _ => True) (fun _ => False) rfl rfl ?aP (fun _ hk => hk.elim) ?aF ?aO (Below.refl _ _) ?aS ?aL ?_; (case aP => exact rfl); (case aF => exact (fun _ _ => trivial)); (case aO => exact (by (with_reducible repeat (first | apply Kd.R_alloc | apply Kd.R_drewN | apply Kd.R_drew)); exact HO_11.out)); (case aS => exact (keep_size (w := w) (g := g) (row := none) z0_)); (case aL => have := LMc24.out; omega); intro v454 w26 ho hb hg hat; rw [← Ny453.out] at ho; have n0_ := Aside0.mk (Kd.R_over' (by (with_reducible repeat (first | apply Kd.R_alloc | apply Kd.R_drewN | apply Kd.R_drew)); exact HO_9.out) (Kd.R_typed (by (with_reducible repeat (first | apply Kd.R_alloc | apply Kd.R_drewN | apply Kd.R_drew)); exact HO_11.out)) (by decide) hg); have n1_ := Aside0.mk (IsS55.grown z2_ hg (IsS55.own_ne HI0.out HO_11.out (by decide))); have n2_ := Aside0.mk (below_weaken z3_ HL.out hb); have n3_ := Aside0.mk (KeepBut.trans z0_ (KeepBut.of_grown hg g) (Kd.R_base2 HO_11.out)); have n4_ := Aside0.mk (ho); clear HO_9; clear HI0; clear HB; clear HK; clear HO_11; have HO_9 := n0_; have HI0 := n1_; have HB := n2_; have HK := n3_; have HO455 := n4_; clear n0_ n1_ n2_ n3_ n4_; clear ho hb hg hat)))
            go_roundg k1
            case measure => have := HK1.out; omega
            case rel => exact ⟨(y453), (true), (wrap64 (x13_1 + 1)), z11_, z11_, H', ⟨by have := HK1.out; omega⟩, ⟨by (with_reducible repeat (first | apply Kd.R_alloc | apply Kd.R_drewN | apply Kd.R_drew)); exact HO_9.out⟩, ⟨by (with_reducible repeat (first | apply Kd.R_alloc | apply Kd.R_drewN | apply Kd.R_drew)); exact HO455.out⟩, ⟨z2_⟩, ⟨z0_⟩, ⟨z3_⟩⟩
           ·rw [if_neg c24] at H
            exact absurd H (by simp)
          ·rw [if_neg c23] at H
           exact absurd H (by simp)
         ·rw [if_neg c22] at H
          exact absurd H (by simp)
        ·replace c21 := Bool.eq_false_iff.mpr c21
         subst c21
         have H1 : (if 0 ≤ x13_1 then (if x13_1 < (t448.length : Int) then (if x11_1.length < 17592186044416 then (tithebarnref04_readPacked.l0 k1 a1 t436 t440 t448 (x11_1 ++ [wrap64 (IntKind.u64.wrap ((IntKind.u64.wrap (t436)) + (rd t448 x13_1)))]) ((rd t448 x13_1) == 0) (wrap64 (x13_1 + 1)) t445 t446 t447) else (none)) else (none)) else (none)) = some (r1, r2, r3, r4, r5) := by rw [if_neg (show ¬ (false = true) by decide)] at H; exact H
         clear H
         have H := H1
         clear H1
         by_cases c27 : 0 ≤ x13_1
         ·rw [if_pos c27] at H
          have c27b0 : decide (0 ≤ x13_1) = true := decide_eq_true c27
          clear c27
          by_cases c28 : x13_1 < (t448.length : Int)
          ·rw [if_pos c28] at H
           have c28b0 : decide (x13_1 < (t448.length : Int)) = true := decide_eq_true c28
           clear c28
           by_cases c29 : x11_1.length < 17592186044416
           ·rw [if_pos c29] at H
            have LMc29 := Aside0.mk c29
            clear c29
            obtain ⟨y458, hy458⟩ : ∃ y_ : List Int, y_ = (x11_1 ++ [wrap64 (IntKind.u64.wrap ((IntKind.u64.wrap (t436)) + (rd t448 x13_1)))]) := ⟨_, rfl⟩
            replace H : (tithebarnref04_readPacked.l0 k1 a1 t436 t440 t448 y458 ((rd t448 x13_1) == 0) (wrap64 (x13_1 + 1)) t445 t446 t447) = some (r1, r2, r3, r4, r5) := by first | (rw [hy458]; with_reducible exact H) | (have H2_ := (Option.bind_some _ _).symm.trans H; rw [hy458]; with_reducible exact H2_) | (have H2_ := (Option.bind_some _ _).symm.trans H; with_reducible exact H2_) | with_reducible exact H | (rw [hy458]; exact H) | exact H
            have Ny458 := Aside0.mk hy458
            clear hy458
            have H' := Aside0.mk H
            clear H
            obtain ⟨Ao30, co30, eo30⟩ := Kd.R_slice HO_9.out
            subst eo30
            have p456 : 0 ≤ (x13_1 : Int) := of_decide_eq_true z12_
            have q456 : x13_1 < (t448.length : Int) := of_decide_eq_true z12_
            obtain ⟨ad456, e456, hx456_0⟩ := Kd.at_int (Kd.R_reads' HO_9.out).2.2 x13_1 p456 q456
            cases e456
            replace p456 := eq_true p456
            replace q456 := eq_true q456
            have p457 : 0 ≤ (x13_1 : Int) := of_decide_eq_true z12_
            have q457 : x13_1 < (t448.length : Int) := of_decide_eq_true z12_
            obtain ⟨ad457, e457, hx457_0⟩ := Kd.at_int (Kd.R_reads' HO_9.out).2.2 x13_1 p457 q457
            obtain rfl : ad456 = ad457 := (by injection e457)
            replace p457 := eq_true p457
            replace q457 := eq_true q457
            go_wp2_with (first | ((with_reducible refine gate_builtin (b := .append) (xs := #[.tmp 70, .tmp 79]) rfl ?_); at_builtin; refine Kd.R_append (Kd.int .i64) w.heap.size rfl (.tmp 70) (.tmp 79) 22 2 (.int .i64 0) 8 rfl Try.underlying22 info2 rfl (by decide) (by omega) u11 x11_1 (wrap64 (IntKind.u64.wrap ((IntKind.u64.wrap (t436)) + (rd t448 x13_1)))) [.int .i64 (wrap64 (IntKind.u64.wrap ((IntKind.u64.wrap (t436)) + (rd t448 x13_1))))] (fun _ => True) (fun _ => False) rfl rfl ?aP (fun _ hk => hk.elim) ?aF ?aO (Below.refl _ _) ?aS ?aL ?_; (case aP => exact rfl); (case aF => exact (fun _ _ => trivial)); (case aO => exact (by (with_reducible repeat (first | apply Kd.R_alloc | apply Kd.R_drewN | apply Kd.R_drew)); exact HO_11.out)); (case aS => exact (keep_size (w := w) (g := g) (row := none) z0_)); (case aL => have := LMc29.out; omega); intro v459 w31 ho hb hg hat; rw [← Ny458.out] at ho; have n0_ := Aside0.mk (Kd.R_over' (by (with_reducible repeat (first | apply Kd.R_alloc | apply Kd.R_drewN | apply Kd.R_drew)); exact HO_9.out) (Kd.R_typed (by (with_reducible repeat (first | apply Kd.R_alloc | apply Kd.R_drewN | apply Kd.R_drew)); exact HO_11.out)) (by decide) hg); have n1_ := Aside0.mk (IsS55.grown z2_ hg (IsS55.own_ne HI0.out HO_11.out (by decide))); have n2_ := Aside0.mk (below_weaken z3_ HL.out hb); have n3_ := Aside0.mk (KeepBut.trans z0_ (KeepBut.of_grown hg g) (Kd.R_base2 HO_11.out)); have n4_ := Aside0.mk (ho); clear HO_9; clear HI0; clear HB; clear HK; clear HO_11; have HO_9 := n0_; have HI0 := n1_; have HB := n2_; have HK := n3_; have HO460 := n4_; clear n0_ n1_ n2_ n3_ n4_; clear ho hb hg hat))
            repeat (go_quiet (first | ((with_reducible refine gate_builtin (b := .append) (xs := #[.tmp 70, .tmp 79]) rfl ?_); at_builtin; refine Kd.R_append (Kd.int .i64) w.heap.size rfl (.tmp 70) (.tmp 79) 22 2 (.int .i64 0) 8 rfl Try.underlying22 info2 rfl (by decide) (by omega) u11 x11_1 (wrap64 (IntKind.u64.wrap ((IntKind.u64.wrap (t436)) + (rd t448 x13_1)))) [.int .i64 (wrap64 (IntKind.u64.wrap ((IntKind.u64.wrap (t436)) + (rd t448 x13_1))))] (fun _ => True) (fun _ => False) rfl rfl ?aP (fun _ hk => hk.elim) ?aF ?aO (Below.refl _ _) ?aS ?aL ?_; (case aP => exact rfl); (case aF => exact (fun _ _ => trivial)); (case aO => exact (by (with_reducible repeat (first | apply Kd.R_alloc | apply Kd.R_drewN | apply Kd.R_drew)); exact HO_11.out)); (case aS => exact (keep_size (w := w) (g := g) (row := none) z0_)); (case aL => have := LMc29.out; omega); intro v459 w31 ho hb hg hat; rw [← Ny458.out] at ho; have n0_ := Aside0.mk (Kd.R_over' (by (with_reducible repeat (first | apply Kd.R_alloc | apply Kd.R_drewN | apply Kd.R_drew)); exact HO_9.out) (Kd.R_typed (by (with_reducible repeat (first | apply Kd.R_alloc | apply Kd.R_drewN | apply Kd.R_drew)); exact HO_11.out)) (by decide) hg); have n1_ := Aside0.mk (IsS55.grown z2_ hg (IsS55.own_ne HI0.out HO_11.out (by decide))); have n2_ := Aside0.mk (below_weaken z3_ HL.out hb); have n3_ := Aside0.mk (KeepBut.trans z0_ (KeepBut.of_grown hg g) (Kd.R_base2 HO_11.out)); have n4_ := Aside0.mk (ho); clear HO_9; clear HI0; clear HB; clear HK; clear HO_11; have HO_9 := n0_; have HI0 := n1_; have HB := n2_; have HK := n3_; have HO460 := n4_; clear n0_ n1_ n2_ n3_ n4_; clear ho hb hg hat)); try go_wp2_with (first | ((with_reducible refine gate_builtin (b := .append) (xs := #[.tmp 70, .tmp 79]) rfl ?_); at_builtin; refine Kd.R_append (Kd.int .i64) w.heap.size rfl (.tmp 70) (.tmp 79) 22 2 (.int .i64 0) 8 rfl Try.underlying22 info2 rfl (by decide) (by omega) u11 x11_1 (wrap64 (IntKind.u64.wrap ((IntKind.u64.wrap (t436)) + (rd t448 x13_1)))) [.int .i64 (wrap64 (IntKind.u64.wrap ((IntKind.u64.wrap (t436)) + (rd t448 x13_1))))] (fun _ => True) (fun _ => False) rfl rfl ?aP (fun _ hk => hk.elim) ?aF ?aO (Below.refl _ _) ?aS ?aL ?_; (case aP => exact rfl); (case aF => exact (fun _ _ => trivial)); (case aO => exact (by (with_reducible repeat (first | apply Kd.R_alloc | apply Kd.R_drewN | apply Kd.R_drew)); exact HO_11.out)); (case aS => exact (keep_size (w := w) (g := g) (row := none) z0_)); (case aL => have := LMc29.out; omega); intro v459 w31 ho hb hg hat; rw [← Ny458.out] at ho; have n0_ := Aside0.mk (Kd.R_over' (by (with_reducible repeat (first | apply Kd.R_alloc | apply Kd.R_drewN | apply Kd.R_drew)); exact HO_9.out) (Kd.R_typed (by (with_reducible repeat (first | apply Kd.R_alloc | apply Kd.R_drewN | apply Kd.R_drew)); exact HO_11.out)) (by decide) hg); have n1_ := Aside0.mk (IsS55.grown z2_ hg (IsS55.own_ne HI0.out HO_11.out (by decide))); have n2_ := Aside0.mk (below_weaken z3_ HL.out hb); have n3_ := Aside0.mk (KeepBut.trans z0_ (KeepBut.of_grown hg g) (Kd.R_base2 HO_11.out)); have n4_ := Aside0.mk (ho); clear HO_9; clear HI0; clear HB; clear HK; clear HO_11; have HO_9 := n0_; have HI0 := n1_; have HB := n2_; have HK := n3_; have HO460 := n4_; clear n0_ n1_ n2_ n3_ n4_; clear ho hb hg hat)))
            go_roundg k1
            case measure => have := HK1.out; omega
            case rel => exact ⟨(y458), (((rd t448 x13_1) == 0)), (wrap64 (x13_1 + 1)), z11_, z11_, H', ⟨by have := HK1.out; omega⟩, ⟨by (with_reducible repeat (first | apply Kd.R_alloc | apply Kd.R_drewN | apply Kd.R_drew)); exact HO_9.out⟩, ⟨by (with_reducible repeat (first | apply Kd.R_alloc | apply Kd.R_drewN | apply Kd.R_drew)); exact HO460.out⟩, ⟨z2_⟩, ⟨z0_⟩, ⟨z3_⟩⟩
           ·rw [if_neg c29] at H
            exact absurd H (by simp)
          ·rw [if_neg c28] at H
           exact absurd H (by simp)
         ·rw [if_neg c27] at H
          exact absurd H (by simp)
       ·rw [if_neg c20] at H
        have c20b0 : decide (x13_1 < a1) = false := decide_eq_false c20
        clear c20
        replace H := Option.bind_eq_some_iff.mp H
        obtain ⟨⟨t461, t462⟩, A320, H⟩ := H
        replace H : (if x12_1 = true then ((tithebarnref03_Width.f k1 t448).bind fun t465 => (if t465 = t440 then (if t461 = t436 then (some (x11_1, 0, t445, t446, t447)) else (some (([] : List Int), 4, t445, t446, t447))) else (some (([] : List Int), 4, t445, t446, t447)))) else (some (([] : List Int), 4, t445, t446, t447))) = some (r1, r2, r3, r4, r5) := H
        have A32 := Aside0.mk A320
        clear A320
        by_cases c33 : x12_1 = true
        ·subst c33
         have H1 : ((tithebarnref03_Width.f k1 t448).bind fun t465 => (if t465 = t440 then (if t461 = t436 then (some (x11_1, 0, t445, t446, t447)) else (some (([] : List Int), 4, t445, t446, t447))) else (some (([] : List Int), 4, t445, t446, t447)))) = some (r1, r2, r3, r4, r5) := by rw [if_pos rfl] at H; exact H
         clear H
         have H := H1
         clear H1
         replace H := Option.bind_eq_some_iff.mp H
         obtain ⟨t465, A340, H⟩ := H
         replace H : (if t465 = t440 then (if t461 = t436 then (some (x11_1, 0, t445, t446, t447)) else (some (([] : List Int), 4, t445, t446, t447))) else (some (([] : List Int), 4, t445, t446, t447))) = some (r1, r2, r3, r4, r5) := H
         have A34 := Aside0.mk A340
         clear A340
         by_cases c35 : t465 = t440
         ·rw [if_pos c35] at H
          have c35b0 : (t465 == t440) = true := beq_iff_eq.mpr c35
          have c35b1 : (t465 != t440) = false := bne_eq_false_iff_eq.mpr c35
          clear c35
          by_cases c36 : t461 = t436
          ·rw [if_pos c36] at H
           have c36b0 : (t461 == t436) = true := beq_iff_eq.mpr c36
           have c36b1 : (t461 != t436) = false := bne_eq_false_iff_eq.mpr c36
           clear c36
           simp only [Option.some.injEq, Prod.mk.injEq] at H
           obtain ⟨rfl, rfl, rfl, rfl, rfl⟩ := H
           obtain ⟨Ao37, co37, eo37⟩ := Kd.R_slice HO_11.out
           subst eo37
           go_wp2_with (first | (go_at_call 43; (with_reducible refine (tithebarnref04_offsets.calls k1 _ _ x11_1 t461 t462 _ ?side1 ?side2 A32.out).mono ?_); (case side1 => repeat (first | exact (Kd.R_reads' HO_11.out).2.2 | (with_reducible refine Kd.C_alloc ?_ _) | (with_reducible refine Kd.C_drewN ?_ _) | (with_reducible refine Kd.C_drew ?_))); (case side2 => exact (Kd.R_reads' HO_11.out).2.1); rintro e w38 ⟨v463, rfl, ho0, hb⟩; have n0_ := Aside0.mk (Kd.R_elder' (by (with_reducible repeat (first | apply Kd.R_alloc | apply Kd.R_drewN | apply Kd.R_drew)); exact HO_9.out) (Kd.R_base ho0) hb); have n1_ := Aside0.mk (Kd.R_below (by (with_reducible repeat (first | apply Kd.R_alloc | apply Kd.R_drewN | apply Kd.R_drew)); exact HO_11.out) hb); have n2_ := Aside0.mk (Kd.R_lower (Kd.R_new' ho0 (Kd.R_lt (by (with_reducible repeat (first | apply Kd.R_alloc | apply Kd.R_drewN | apply Kd.R_drew)); exact HO_9.out))) (keep_size (w := w) (g := g) (row := none) z0_)); have n3_ := Aside0.mk (IsS55.below z2_ hb); have n4_ := Aside0.mk (KeepBut.trans z0_ (KeepBut.of_below hb g none) (.inl rfl)); have n5_ := Aside0.mk (below_step z3_ hb); clear HO_9; clear HO_11; clear HI0; clear HK; clear HB; have HO_9 := n0_; have HO_11 := n1_; have HO464 := n2_; have HI0 := n3_; have HK := n4_; have HB := n5_; clear n0_ n1_ n2_ n3_ n4_ n5_; (try clear hb); (try clear hb2); (try clear hk); (try clear hi); (try clear ho0); obtain ⟨Ao39, co39, eo39⟩ := Kd.R_slice HO_9.out; subst eo39) | (go_at_call 44; (with_reducible refine (tithebarnref03_Width.calls k1 _ _ t448 t465 _ ?side1 ?side2 A34.out).mono ?_); (case side1 => repeat (first | exact (Kd.R_reads' HO_9.out).2.2 | (with_reducible refine Kd.C_alloc ?_ _) | (with_reducible refine Kd.C_drewN ?_ _) | (with_reducible refine Kd.C_drew ?_))); (case side2 => exact (Kd.R_reads' HO_9.out).2.1); rintro e w' ⟨rfl, ⟨nd, rfl⟩⟩; (try first | exact ⟨rfl, _, World.drewN_drewN _ _ _⟩ | exact ⟨rfl, _, Eq.trans (World.drewN_drewN _ _ _) (congrArg (World.drewN _) (Nat.add_assoc _ _ _))⟩)))
           repeat (go_quiet (first | (go_at_call 43; (with_reducible refine (tithebarnref04_offsets.calls k1 _ _ x11_1 t461 t462 _ ?side1 ?side2 A32.out).mono ?_); (case side1 => repeat (first | exact (Kd.R_reads' HO_11.out).2.2 | (with_reducible refine Kd.C_alloc ?_ _) | (with_reducible refine Kd.C_drewN ?_ _) | (with_reducible refine Kd.C_drew ?_))); (case side2 => exact (Kd.R_reads' HO_11.out).2.1); rintro e w38 ⟨v463, rfl, ho0, hb⟩; have n0_ := Aside0.mk (Kd.R_elder' (by (with_reducible repeat (first | apply Kd.R_alloc | apply Kd.R_drewN | apply Kd.R_drew)); exact HO_9.out) (Kd.R_base ho0) hb); have n1_ := Aside0.mk (Kd.R_below (by (with_reducible repeat (first | apply Kd.R_alloc | apply Kd.R_drewN | apply Kd.R_drew)); exact HO_11.out) hb); have n2_ := Aside0.mk (Kd.R_lower (Kd.R_new' ho0 (Kd.R_lt (by (with_reducible repeat (first | apply Kd.R_alloc | apply Kd.R_drewN | apply Kd.R_drew)); exact HO_9.out))) (keep_size (w := w) (g := g) (row := none) z0_)); have n3_ := Aside0.mk (IsS55.below z2_ hb); have n4_ := Aside0.mk (KeepBut.trans z0_ (KeepBut.of_below hb g none) (.inl rfl)); have n5_ := Aside0.mk (below_step z3_ hb); clear HO_9; clear HO_11; clear HI0; clear HK; clear HB; have HO_9 := n0_; have HO_11 := n1_; have HO464 := n2_; have HI0 := n3_; have HK := n4_; have HB := n5_; clear n0_ n1_ n2_ n3_ n4_ n5_; (try clear hb); (try clear hb2); (try clear hk); (try clear hi); (try clear ho0); obtain ⟨Ao39, co39, eo39⟩ := Kd.R_slice HO_9.out; subst eo39) | (go_at_call 44; (with_reducible refine (tithebarnref03_Width.calls k1 _ _ t448 t465 _ ?side1 ?side2 A34.out).mono ?_); (case side1 => repeat (first | exact (Kd.R_reads' HO_9.out).2.2 | (with_reducible refine Kd.C_alloc ?_ _) | (with_reducible refine Kd.C_drewN ?_ _) | (with_reducible refine Kd.C_drew ?_))); (case side2 => exact (Kd.R_reads' HO_9.out).2.1); rintro e w' ⟨rfl, ⟨nd, rfl⟩⟩; (try first | exact ⟨rfl, _, World.drewN_drewN _ _ _⟩ | exact ⟨rfl, _, Eq.trans (World.drewN_drewN _ _ _) (congrArg (World.drewN _) (Nat.add_assoc _ _ _))⟩))); try go_wp2_with (first | (go_at_call 43; (with_reducible refine (tithebarnref04_offsets.calls k1 _ _ x11_1 t461 t462 _ ?side1 ?side2 A32.out).mono ?_); (case side1 => repeat (first | exact (Kd.R_reads' HO_11.out).2.2 | (with_reducible refine Kd.C_alloc ?_ _) | (with_reducible refine Kd.C_drewN ?_ _) | (with_reducible refine Kd.C_drew ?_))); (case side2 => exact (Kd.R_reads' HO_11.out).2.1); rintro e w38 ⟨v463, rfl, ho0, hb⟩; have n0_ := Aside0.mk (Kd.R_elder' (by (with_reducible repeat (first | apply Kd.R_alloc | apply Kd.R_drewN | apply Kd.R_drew)); exact HO_9.out) (Kd.R_base ho0) hb); have n1_ := Aside0.mk (Kd.R_below (by (with_reducible repeat (first | apply Kd.R_alloc | apply Kd.R_drewN | apply Kd.R_drew)); exact HO_11.out) hb); have n2_ := Aside0.mk (Kd.R_lower (Kd.R_new' ho0 (Kd.R_lt (by (with_reducible repeat (first | apply Kd.R_alloc | apply Kd.R_drewN | apply Kd.R_drew)); exact HO_9.out))) (keep_size (w := w) (g := g) (row := none) z0_)); have n3_ := Aside0.mk (IsS55.below z2_ hb); have n4_ := Aside0.mk (KeepBut.trans z0_ (KeepBut.of_below hb g none) (.inl rfl)); have n5_ := Aside0.mk (below_step z3_ hb); clear HO_9; clear HO_11; clear HI0; clear HK; clear HB; have HO_9 := n0_; have HO_11 := n1_; have HO464 := n2_; have HI0 := n3_; have HK := n4_; have HB := n5_; clear n0_ n1_ n2_ n3_ n4_ n5_; (try clear hb); (try clear hb2); (try clear hk); (try clear hi); (try clear ho0); obtain ⟨Ao39, co39, eo39⟩ := Kd.R_slice HO_9.out; subst eo39) | (go_at_call 44; (with_reducible refine (tithebarnref03_Width.calls k1 _ _ t448 t465 _ ?side1 ?side2 A34.out).mono ?_); (case side1 => repeat (first | exact (Kd.R_reads' HO_9.out).2.2 | (with_reducible refine Kd.C_alloc ?_ _) | (with_reducible refine Kd.C_drewN ?_ _) | (with_reducible refine Kd.C_drew ?_))); (case side2 => exact (Kd.R_reads' HO_9.out).2.1); rintro e w' ⟨rfl, ⟨nd, rfl⟩⟩; (try first | exact ⟨rfl, _, World.drewN_drewN _ _ _⟩ | exact ⟨rfl, _, Eq.trans (World.drewN_drewN _ _ _) (congrArg (World.drewN _) (Nat.add_assoc _ _ _))⟩))))
           go_ret2
           exact ⟨_, z6_, by (with_reducible repeat (first | apply Kd.R_alloc | apply Kd.R_drewN | apply Kd.R_drew)); exact HO_11.out, z2_, z3_, z0_⟩
          ·rw [if_neg c36] at H
           have c36b0 : (t461 == t436) = false := beq_eq_false_iff_ne.mpr c36
           have c36b1 : (t461 != t436) = true := bne_iff_ne.mpr c36
           simp only [Option.some.injEq, Prod.mk.injEq] at H
           obtain ⟨rfl, rfl, rfl, rfl, rfl⟩ := H
           obtain ⟨Ao40, co40, eo40⟩ := Kd.R_slice HO_11.out
           subst eo40
           go_wp2_with (first | (go_at_call 43; (with_reducible refine (tithebarnref04_offsets.calls k1 _ _ x11_1 t461 t462 _ ?side1 ?side2 A32.out).mono ?_); (case side1 => repeat (first | exact (Kd.R_reads' HO_11.out).2.2 | (with_reducible refine Kd.C_alloc ?_ _) | (with_reducible refine Kd.C_drewN ?_ _) | (with_reducible refine Kd.C_drew ?_))); (case side2 => exact (Kd.R_reads' HO_11.out).2.1); rintro e w41 ⟨v463, rfl, ho0, hb⟩; have n0_ := Aside0.mk (Kd.R_elder' (by (with_reducible repeat (first | apply Kd.R_alloc | apply Kd.R_drewN | apply Kd.R_drew)); exact HO_9.out) (Kd.R_base ho0) hb); have n1_ := Aside0.mk (Kd.R_below (by (with_reducible repeat (first | apply Kd.R_alloc | apply Kd.R_drewN | apply Kd.R_drew)); exact HO_11.out) hb); have n2_ := Aside0.mk (Kd.R_lower (Kd.R_new' ho0 (Kd.R_lt (by (with_reducible repeat (first | apply Kd.R_alloc | apply Kd.R_drewN | apply Kd.R_drew)); exact HO_9.out))) (keep_size (w := w) (g := g) (row := none) z0_)); have n3_ := Aside0.mk (IsS55.below z2_ hb); have n4_ := Aside0.mk (KeepBut.trans z0_ (KeepBut.of_below hb g none) (.inl rfl)); have n5_ := Aside0.mk (below_step z3_ hb); clear HO_9; clear HO_11; clear HI0; clear HK; clear HB; have HO_9 := n0_; have HO_11 := n1_; have HO464 := n2_; have HI0 := n3_; have HK := n4_; have HB := n5_; clear n0_ n1_ n2_ n3_ n4_ n5_; (try clear hb); (try clear hb2); (try clear hk); (try clear hi); (try clear ho0); obtain ⟨Ao42, co42, eo42⟩ := Kd.R_slice HO_9.out; subst eo42) | (go_at_call 44; (with_reducible refine (tithebarnref03_Width.calls k1 _ _ t448 t465 _ ?side1 ?side2 A34.out).mono ?_); (case side1 => repeat (first | exact (Kd.R_reads' HO_9.out).2.2 | (with_reducible refine Kd.C_alloc ?_ _) | (with_reducible refine Kd.C_drewN ?_ _) | (with_reducible refine Kd.C_drew ?_))); (case side2 => exact (Kd.R_reads' HO_9.out).2.1); rintro e w' ⟨rfl, ⟨nd, rfl⟩⟩; (try first | exact ⟨rfl, _, World.drewN_drewN _ _ _⟩ | exact ⟨rfl, _, Eq.trans (World.drewN_drewN _ _ _) (congrArg (World.drewN _) (Nat.add_assoc _ _ _))⟩)))
           repeat (go_quiet (first | (go_at_call 43; (with_reducible refine (tithebarnref04_offsets.calls k1 _ _ x11_1 t461 t462 _ ?side1 ?side2 A32.out).mono ?_); (case side1 => repeat (first | exact (Kd.R_reads' HO_11.out).2.2 | (with_reducible refine Kd.C_alloc ?_ _) | (with_reducible refine Kd.C_drewN ?_ _) | (with_reducible refine Kd.C_drew ?_))); (case side2 => exact (Kd.R_reads' HO_11.out).2.1); rintro e w41 ⟨v463, rfl, ho0, hb⟩; have n0_ := Aside0.mk (Kd.R_elder' (by (with_reducible repeat (first | apply Kd.R_alloc | apply Kd.R_drewN | apply Kd.R_drew)); exact HO_9.out) (Kd.R_base ho0) hb); have n1_ := Aside0.mk (Kd.R_below (by (with_reducible repeat (first | apply Kd.R_alloc | apply Kd.R_drewN | apply Kd.R_drew)); exact HO_11.out) hb); have n2_ := Aside0.mk (Kd.R_lower (Kd.R_new' ho0 (Kd.R_lt (by (with_reducible repeat (first | apply Kd.R_alloc | apply Kd.R_drewN | apply Kd.R_drew)); exact HO_9.out))) (keep_size (w := w) (g := g) (row := none) z0_)); have n3_ := Aside0.mk (IsS55.below z2_ hb); have n4_ := Aside0.mk (KeepBut.trans z0_ (KeepBut.of_below hb g none) (.inl rfl)); have n5_ := Aside0.mk (below_step z3_ hb); clear HO_9; clear HO_11; clear HI0; clear HK; clear HB; have HO_9 := n0_; have HO_11 := n1_; have HO464 := n2_; have HI0 := n3_; have HK := n4_; have HB := n5_; clear n0_ n1_ n2_ n3_ n4_ n5_; (try clear hb); (try clear hb2); (try clear hk); (try clear hi); (try clear ho0); obtain ⟨Ao42, co42, eo42⟩ := Kd.R_slice HO_9.out; subst eo42) | (go_at_call 44; (with_reducible refine (tithebarnref03_Width.calls k1 _ _ t448 t465 _ ?side1 ?side2 A34.out).mono ?_); (case side1 => repeat (first | exact (Kd.R_reads' HO_9.out).2.2 | (with_reducible refine Kd.C_alloc ?_ _) | (with_reducible refine Kd.C_drewN ?_ _) | (with_reducible refine Kd.C_drew ?_))); (case side2 => exact (Kd.R_reads' HO_9.out).2.1); rintro e w' ⟨rfl, ⟨nd, rfl⟩⟩; (try first | exact ⟨rfl, _, World.drewN_drewN _ _ _⟩ | exact ⟨rfl, _, Eq.trans (World.drewN_drewN _ _ _) (congrArg (World.drewN _) (Nat.add_assoc _ _ _))⟩))); try go_wp2_with (first | (go_at_call 43; (with_reducible refine (tithebarnref04_offsets.calls k1 _ _ x11_1 t461 t462 _ ?side1 ?side2 A32.out).mono ?_); (case side1 => repeat (first | exact (Kd.R_reads' HO_11.out).2.2 | (with_reducible refine Kd.C_alloc ?_ _) | (with_reducible refine Kd.C_drewN ?_ _) | (with_reducible refine Kd.C_drew ?_))); (case side2 => exact (Kd.R_reads' HO_11.out).2.1); rintro e w41 ⟨v463, rfl, ho0, hb⟩; have n0_ := Aside0.mk (Kd.R_elder' (by (with_reducible repeat (first | apply Kd.R_alloc | apply Kd.R_drewN | apply Kd.R_drew)); exact HO_9.out) (Kd.R_base ho0) hb); have n1_ := Aside0.mk (Kd.R_below (by (with_reducible repeat (first | apply Kd.R_alloc | apply Kd.R_drewN | apply Kd.R_drew)); exact HO_11.out) hb); have n2_ := Aside0.mk (Kd.R_lower (Kd.R_new' ho0 (Kd.R_lt (by (with_reducible repeat (first | apply Kd.R_alloc | apply Kd.R_drewN | apply Kd.R_drew)); exact HO_9.out))) (keep_size (w := w) (g := g) (row := none) z0_)); have n3_ := Aside0.mk (IsS55.below z2_ hb); have n4_ := Aside0.mk (KeepBut.trans z0_ (KeepBut.of_below hb g none) (.inl rfl)); have n5_ := Aside0.mk (below_step z3_ hb); clear HO_9; clear HO_11; clear HI0; clear HK; clear HB; have HO_9 := n0_; have HO_11 := n1_; have HO464 := n2_; have HI0 := n3_; have HK := n4_; have HB := n5_; clear n0_ n1_ n2_ n3_ n4_ n5_; (try clear hb); (try clear hb2); (try clear hk); (try clear hi); (try clear ho0); obtain ⟨Ao42, co42, eo42⟩ := Kd.R_slice HO_9.out; subst eo42) | (go_at_call 44; (with_reducible refine (tithebarnref03_Width.calls k1 _ _ t448 t465 _ ?side1 ?side2 A34.out).mono ?_); (case side1 => repeat (first | exact (Kd.R_reads' HO_9.out).2.2 | (with_reducible refine Kd.C_alloc ?_ _) | (with_reducible refine Kd.C_drewN ?_ _) | (with_reducible refine Kd.C_drew ?_))); (case side2 => exact (Kd.R_reads' HO_9.out).2.1); rintro e w' ⟨rfl, ⟨nd, rfl⟩⟩; (try first | exact ⟨rfl, _, World.drewN_drewN _ _ _⟩ | exact ⟨rfl, _, Eq.trans (World.drewN_drewN _ _ _) (congrArg (World.drewN _) (Nat.add_assoc _ _ _))⟩))))
           go_ret2
           exact ⟨_, z6_, z10_, z2_, z3_, z0_⟩
         ·rw [if_neg c35] at H
          have c35b0 : (t465 == t440) = false := beq_eq_false_iff_ne.mpr c35
          have c35b1 : (t465 != t440) = true := bne_iff_ne.mpr c35
          simp only [Option.some.injEq, Prod.mk.injEq] at H
          obtain ⟨rfl, rfl, rfl, rfl, rfl⟩ := H
          obtain ⟨Ao43, co43, eo43⟩ := Kd.R_slice HO_11.out
          subst eo43
          go_wp2_with (first | (go_at_call 43; (with_reducible refine (tithebarnref04_offsets.calls k1 _ _ x11_1 t461 t462 _ ?side1 ?side2 A32.out).mono ?_); (case side1 => repeat (first | exact (Kd.R_reads' HO_11.out).2.2 | (with_reducible refine Kd.C_alloc ?_ _) | (with_reducible refine Kd.C_drewN ?_ _) | (with_reducible refine Kd.C_drew ?_))); (case side2 => exact (Kd.R_reads' HO_11.out).2.1); rintro e w44 ⟨v463, rfl, ho0, hb⟩; have n0_ := Aside0.mk (Kd.R_elder' (by (with_reducible repeat (first | apply Kd.R_alloc | apply Kd.R_drewN | apply Kd.R_drew)); exact HO_9.out) (Kd.R_base ho0) hb); have n1_ := Aside0.mk (Kd.R_below (by (with_reducible repeat (first | apply Kd.R_alloc | apply Kd.R_drewN | apply Kd.R_drew)); exact HO_11.out) hb); have n2_ := Aside0.mk (Kd.R_lower (Kd.R_new' ho0 (Kd.R_lt (by (with_reducible repeat (first | apply Kd.R_alloc | apply Kd.R_drewN | apply Kd.R_drew)); exact HO_9.out))) (keep_size (w := w) (g := g) (row := none) z0_)); have n3_ := Aside0.mk (IsS55.below z2_ hb); have n4_ := Aside0.mk (KeepBut.trans z0_ (KeepBut.of_below hb g none) (.inl rfl)); have n5_ := Aside0.mk (below_step z3_ hb); clear HO_9; clear HO_11; clear HI0; clear HK; clear HB; have HO_9 := n0_; have HO_11 := n1_; have HO464 := n2_; have HI0 := n3_; have HK := n4_; have HB := n5_; clear n0_ n1_ n2_ n3_ n4_ n5_; (try clear hb); (try clear hb2); (try clear hk); (try clear hi); (try clear ho0); obtain ⟨Ao45, co45, eo45⟩ := Kd.R_slice HO_9.out; subst eo45) | (go_at_call 44; (with_reducible refine (tithebarnref03_Width.calls k1 _ _ t448 t465 _ ?side1 ?side2 A34.out).mono ?_); (case side1 => repeat (first | exact (Kd.R_reads' HO_9.out).2.2 | (with_reducible refine Kd.C_alloc ?_ _) | (with_reducible refine Kd.C_drewN ?_ _) | (with_reducible refine Kd.C_drew ?_))); (case side2 => exact (Kd.R_reads' HO_9.out).2.1); rintro e w' ⟨rfl, ⟨nd, rfl⟩⟩; (try first | exact ⟨rfl, _, World.drewN_drewN _ _ _⟩ | exact ⟨rfl, _, Eq.trans (World.drewN_drewN _ _ _) (congrArg (World.drewN _) (Nat.add_assoc _ _ _))⟩)))
          repeat (go_quiet (first | (go_at_call 43; (with_reducible refine (tithebarnref04_offsets.calls k1 _ _ x11_1 t461 t462 _ ?side1 ?side2 A32.out).mono ?_); (case side1 => repeat (first | exact (Kd.R_reads' HO_11.out).2.2 | (with_reducible refine Kd.C_alloc ?_ _) | (with_reducible refine Kd.C_drewN ?_ _) | (with_reducible refine Kd.C_drew ?_))); (case side2 => exact (Kd.R_reads' HO_11.out).2.1); rintro e w44 ⟨v463, rfl, ho0, hb⟩; have n0_ := Aside0.mk (Kd.R_elder' (by (with_reducible repeat (first | apply Kd.R_alloc | apply Kd.R_drewN | apply Kd.R_drew)); exact HO_9.out) (Kd.R_base ho0) hb); have n1_ := Aside0.mk (Kd.R_below (by (with_reducible repeat (first | apply Kd.R_alloc | apply Kd.R_drewN | apply Kd.R_drew)); exact HO_11.out) hb); have n2_ := Aside0.mk (Kd.R_lower (Kd.R_new' ho0 (Kd.R_lt (by (with_reducible repeat (first | apply Kd.R_alloc | apply Kd.R_drewN | apply Kd.R_drew)); exact HO_9.out))) (keep_size (w := w) (g := g) (row := none) z0_)); have n3_ := Aside0.mk (IsS55.below z2_ hb); have n4_ := Aside0.mk (KeepBut.trans z0_ (KeepBut.of_below hb g none) (.inl rfl)); have n5_ := Aside0.mk (below_step z3_ hb); clear HO_9; clear HO_11; clear HI0; clear HK; clear HB; have HO_9 := n0_; have HO_11 := n1_; have HO464 := n2_; have HI0 := n3_; have HK := n4_; have HB := n5_; clear n0_ n1_ n2_ n3_ n4_ n5_; (try clear hb); (try clear hb2); (try clear hk); (try clear hi); (try clear ho0); obtain ⟨Ao45, co45, eo45⟩ := Kd.R_slice HO_9.out; subst eo45) | (go_at_call 44; (with_reducible refine (tithebarnref03_Width.calls k1 _ _ t448 t465 _ ?side1 ?side2 A34.out).mono ?_); (case side1 => repeat (first | exact (Kd.R_reads' HO_9.out).2.2 | (with_reducible refine Kd.C_alloc ?_ _) | (with_reducible refine Kd.C_drewN ?_ _) | (with_reducible refine Kd.C_drew ?_))); (case side2 => exact (Kd.R_reads' HO_9.out).2.1); rintro e w' ⟨rfl, ⟨nd, rfl⟩⟩; (try first | exact ⟨rfl, _, World.drewN_drewN _ _ _⟩ | exact ⟨rfl, _, Eq.trans (World.drewN_drewN _ _ _) (congrArg (World.drewN _) (Nat.add_assoc _ _ _))⟩))); try go_wp2_with (first | (go_at_call 43; (with_reducible refine (tithebarnref04_offsets.calls k1 _ _ x11_1 t461 t462 _ ?side1 ?side2 A32.out).mono ?_); (case side1 => repeat (first | exact (Kd.R_reads' HO_11.out).2.2 | (with_reducible refine Kd.C_alloc ?_ _) | (with_reducible refine Kd.C_drewN ?_ _) | (with_reducible refine Kd.C_drew ?_))); (case side2 => exact (Kd.R_reads' HO_11.out).2.1); rintro e w44 ⟨v463, rfl, ho0, hb⟩; have n0_ := Aside0.mk (Kd.R_elder' (by (with_reducible repeat (first | apply Kd.R_alloc | apply Kd.R_drewN | apply Kd.R_drew)); exact HO_9.out) (Kd.R_base ho0) hb); have n1_ := Aside0.mk (Kd.R_below (by (with_reducible repeat (first | apply Kd.R_alloc | apply Kd.R_drewN | apply Kd.R_drew)); exact HO_11.out) hb); have n2_ := Aside0.mk (Kd.R_lower (Kd.R_new' ho0 (Kd.R_lt (by (with_reducible repeat (first | apply Kd.R_alloc | apply Kd.R_drewN | apply Kd.R_drew)); exact HO_9.out))) (keep_size (w := w) (g := g) (row := none) z0_)); have n3_ := Aside0.mk (IsS55.below z2_ hb); have n4_ := Aside0.mk (KeepBut.trans z0_ (KeepBut.of_below hb g none) (.inl rfl)); have n5_ := Aside0.mk (below_step z3_ hb); clear HO_9; clear HO_11; clear HI0; clear HK; clear HB; have HO_9 := n0_; have HO_11 := n1_; have HO464 := n2_; have HI0 := n3_; have HK := n4_; have HB := n5_; clear n0_ n1_ n2_ n3_ n4_ n5_; (try clear hb); (try clear hb2); (try clear hk); (try clear hi); (try clear ho0); obtain ⟨Ao45, co45, eo45⟩ := Kd.R_slice HO_9.out; subst eo45) | (go_at_call 44; (with_reducible refine (tithebarnref03_Width.calls k1 _ _ t448 t465 _ ?side1 ?side2 A34.out).mono ?_); (case side1 => repeat (first | exact (Kd.R_reads' HO_9.out).2.2 | (with_reducible refine Kd.C_alloc ?_ _) | (with_reducible refine Kd.C_drewN ?_ _) | (with_reducible refine Kd.C_drew ?_))); (case side2 => exact (Kd.R_reads' HO_9.out).2.1); rintro e w' ⟨rfl, ⟨nd, rfl⟩⟩; (try first | exact ⟨rfl, _, World.drewN_drewN _ _ _⟩ | exact ⟨rfl, _, Eq.trans (World.drewN_drewN _ _ _) (congrArg (World.drewN _) (Nat.add_assoc _ _ _))⟩))))
          go_ret2
          exact ⟨_, z6_, z10_, z2_, z3_, z0_⟩
        ·replace c33 := Bool.eq_false_iff.mpr c33
         subst c33
         have H1 : (some (([] : List Int), 4, t445, t446, t447)) = some (r1, r2, r3, r4, r5) := by rw [if_neg (show ¬ (false = true) by decide)] at H; exact H
         clear H
         have H := H1
         clear H1
         simp only [Option.some.injEq, Prod.mk.injEq] at H
         obtain ⟨rfl, rfl, rfl, rfl, rfl⟩ := H
         obtain ⟨Ao46, co46, eo46⟩ := Kd.R_slice HO_11.out
         subst eo46
         go_wp2_with (first | (go_at_call 43; (with_reducible refine (tithebarnref04_offsets.calls k1 _ _ x11_1 t461 t462 _ ?side1 ?side2 A32.out).mono ?_); (case side1 => repeat (first | exact (Kd.R_reads' HO_11.out).2.2 | (with_reducible refine Kd.C_alloc ?_ _) | (with_reducible refine Kd.C_drewN ?_ _) | (with_reducible refine Kd.C_drew ?_))); (case side2 => exact (Kd.R_reads' HO_11.out).2.1); rintro e w47 ⟨v463, rfl, ho0, hb⟩; have n0_ := Aside0.mk (Kd.R_elder' (by (with_reducible repeat (first | apply Kd.R_alloc | apply Kd.R_drewN | apply Kd.R_drew)); exact HO_9.out) (Kd.R_base ho0) hb); have n1_ := Aside0.mk (Kd.R_below (by (with_reducible repeat (first | apply Kd.R_alloc | apply Kd.R_drewN | apply Kd.R_drew)); exact HO_11.out) hb); have n2_ := Aside0.mk (Kd.R_lower (Kd.R_new' ho0 (Kd.R_lt (by (with_reducible repeat (first | apply Kd.R_alloc | apply Kd.R_drewN | apply Kd.R_drew)); exact HO_9.out))) (keep_size (w := w) (g := g) (row := none) z0_)); have n3_ := Aside0.mk (IsS55.below z2_ hb); have n4_ := Aside0.mk (KeepBut.trans z0_ (KeepBut.of_below hb g none) (.inl rfl)); have n5_ := Aside0.mk (below_step z3_ hb); clear HO_9; clear HO_11; clear HI0; clear HK; clear HB; have HO_9 := n0_; have HO_11 := n1_; have HO464 := n2_; have HI0 := n3_; have HK := n4_; have HB := n5_; clear n0_ n1_ n2_ n3_ n4_ n5_; (try clear hb); (try clear hb2); (try clear hk); (try clear hi); (try clear ho0)))
         repeat (go_quiet (first | (go_at_call 43; (with_reducible refine (tithebarnref04_offsets.calls k1 _ _ x11_1 t461 t462 _ ?side1 ?side2 A32.out).mono ?_); (case side1 => repeat (first | exact (Kd.R_reads' HO_11.out).2.2 | (with_reducible refine Kd.C_alloc ?_ _) | (with_reducible refine Kd.C_drewN ?_ _) | (with_reducible refine Kd.C_drew ?_))); (case side2 => exact (Kd.R_reads' HO_11.out).2.1); rintro e w47 ⟨v463, rfl, ho0, hb⟩; have n0_ := Aside0.mk (Kd.R_elder' (by (with_reducible repeat (first | apply Kd.R_alloc | apply Kd.R_drewN | apply Kd.R_drew)); exact HO_9.out) (Kd.R_base ho0) hb); have n1_ := Aside0.mk (Kd.R_below (by (with_reducible repeat (first | apply Kd.R_alloc | apply Kd.R_drewN | apply Kd.R_drew)); exact HO_11.out) hb); have n2_ := Aside0.mk (Kd.R_lower (Kd.R_new' ho0 (Kd.R_lt (by (with_reducible repeat (first | apply Kd.R_alloc | apply Kd.R_drewN | apply Kd.R_drew)); exact HO_9.out))) (keep_size (w := w) (g := g) (row := none) z0_)); have n3_ := Aside0.mk (IsS55.below z2_ hb); have n4_ := Aside0.mk (KeepBut.trans z0_ (KeepBut.of_below hb g none) (.inl rfl)); have n5_ := Aside0.mk (below_step z3_ hb); clear HO_9; clear HO_11; clear HI0; clear HK; clear HB; have HO_9 := n0_; have HO_11 := n1_; have HO464 := n2_; have HI0 := n3_; have HK := n4_; have HB := n5_; clear n0_ n1_ n2_ n3_ n4_ n5_; (try clear hb); (try clear hb2); (try clear hk); (try clear hi); (try clear ho0))); try go_wp2_with (first | (go_at_call 43; (with_reducible refine (tithebarnref04_offsets.calls k1 _ _ x11_1 t461 t462 _ ?side1 ?side2 A32.out).mono ?_); (case side1 => repeat (first | exact (Kd.R_reads' HO_11.out).2.2 | (with_reducible refine Kd.C_alloc ?_ _) | (with_reducible refine Kd.C_drewN ?_ _) | (with_reducible refine Kd.C_drew ?_))); (case side2 => exact (Kd.R_reads' HO_11.out).2.1); rintro e w47 ⟨v463, rfl, ho0, hb⟩; have n0_ := Aside0.mk (Kd.R_elder' (by (with_reducible repeat (first | apply Kd.R_alloc | apply Kd.R_drewN | apply Kd.R_drew)); exact HO_9.out) (Kd.R_base ho0) hb); have n1_ := Aside0.mk (Kd.R_below (by (with_reducible repeat (first | apply Kd.R_alloc | apply Kd.R_drewN | apply Kd.R_drew)); exact HO_11.out) hb); have n2_ := Aside0.mk (Kd.R_lower (Kd.R_new' ho0 (Kd.R_lt (by (with_reducible repeat (first | apply Kd.R_alloc | apply Kd.R_drewN | apply Kd.R_drew)); exact HO_9.out))) (keep_size (w := w) (g := g) (row := none) z0_)); have n3_ := Aside0.mk (IsS55.below z2_ hb); have n4_ := Aside0.mk (KeepBut.trans z0_ (KeepBut.of_below hb g none) (.inl rfl)); have n5_ := Aside0.mk (below_step z3_ hb); clear HO_9; clear HO_11; clear HI0; clear HK; clear HB; have HO_9 := n0_; have HO_11 := n1_; have HO464 := n2_; have HI0 := n3_; have HK := n4_; have HB := n5_; clear n0_ n1_ n2_ n3_ n4_ n5_; (try clear hb); (try clear hb2); (try clear hk); (try clear hi); (try clear ho0))))
         go_ret2
         exact ⟨_, z6_, z10_, z2_, z3_, z0_⟩
    ·rw [if_neg c13] at H
     have c13b0 : (t449 == 0) = false := beq_eq_false_iff_ne.mpr c13
     have c13b1 : (t449 != 0) = true := bne_iff_ne.mpr c13
     simp only [Option.some.injEq, Prod.mk.injEq] at H
     obtain ⟨rfl, rfl, rfl, rfl, rfl⟩ := H
     go_enter Try.func31, Try.ntmps31
     go_wp2_with (first | (go_at_call 32; (with_reducible refine (tithebarnref01_Cursor_Int.calls k g s0_0 s0_1 s0_2 t436 t437 t438 t439 w0 _ ?side1 ?side2 A3.out).mono ?_); (case side1 => repeat (first | (with_reducible first | exact HI0.out | apply IsS55.alloc | apply IsS55.drewN | apply IsS55.drew | apply IsS55.set_0 | apply IsS55.set_1 | apply IsS55.set_2) | exact HI0.out)); (case side2 => repeat (first | (with_reducible first | exact HB.out | apply below_alloc | apply pw_below_drewN | apply below_drew1 | refine below_set ?_ (IsS55.ge HI0.out)) | exact HB.out)); rintro e w48 ⟨rfl, hi, hb, hk⟩; have n0_ := Aside0.mk (KeepBut.trans z0_ hk (.inl rfl)); have n1_ := Aside0.mk (hb); have n2_ := Aside0.mk (hi); clear HK; clear HB; clear HI0; have HK := n0_; have HB := n1_; have HI0 := n2_; clear n0_ n1_ n2_; (try clear hb); (try clear hb2); (try clear hk); (try clear hi)) | (go_at_call 28; (with_reducible refine (tithebarnref01_Cursor_Byte.calls g t437 t438 t439 t440 t441 t442 t443 w0 _ ?side1 ?side2 A4.out).mono ?_); (case side1 => repeat (first | (with_reducible first | exact HI0.out | apply IsS55.alloc | apply IsS55.drewN | apply IsS55.drew | apply IsS55.set_0 | apply IsS55.set_1 | apply IsS55.set_2) | exact HI0.out)); (case side2 => repeat (first | (with_reducible first | exact HB.out | apply below_alloc | apply pw_below_drewN | apply below_drew1 | refine below_set ?_ (IsS55.ge HI0.out)) | exact HB.out)); rintro e w49 ⟨rfl, hi, hb, hk⟩; have n0_ := Aside0.mk (KeepBut.trans z0_ hk (.inl rfl)); have n1_ := Aside0.mk (hb); have n2_ := Aside0.mk (hi); clear HK; clear HB; clear HI0; have HK := n0_; have HB := n1_; have HI0 := n2_; clear n0_ n1_ n2_; (try clear hb); (try clear hb2); (try clear hk); (try clear hi); obtain ⟨HGz50, hgz50⟩ := HI0.out; have hcz50_0 := cellS55_0 HGz50; have hcz50_1 := cellS55_1 HGz50; have hcz50_2 := cellS55_2 HGz50; have hfz50_0 := blk_frozen HGz50 0; have hfz50_1 := blk_frozen HGz50 1; have hfz50_2 := blk_frozen HGz50 2; clear HGz50 hgz50) | (go_at_call 52; (with_reducible refine (tithebarnref04_raw.calls k g t441 t442 t443 (wrap64 (Int.tdiv (wrap64 ((wrap64 (a1 * t440)) + 7)) 8)) t444 t445 t446 t447 w0 _ ?side1 ?side2 A10.out).mono ?_); (case side1 => repeat (first | (with_reducible first | exact HI0.out | apply IsS55.alloc | apply IsS55.drewN | apply IsS55.drew | apply IsS55.set_0 | apply IsS55.set_1 | apply IsS55.set_2) | exact HI0.out)); (case side2 => repeat (first | (with_reducible first | exact HB.out | apply below_alloc | apply pw_below_drewN | apply below_drew1 | refine below_set ?_ (IsS55.ge HI0.out)) | exact HB.out)); rintro e w51 ⟨rfl, hi, hb, hk⟩; have n0_ := Aside0.mk (KeepBut.trans z0_ hk (.inl rfl)); have n1_ := Aside0.mk (hb); have n2_ := Aside0.mk (hi); clear HK; clear HB; clear HI0; have HK := n0_; have HB := n1_; have HI0 := n2_; clear n0_ n1_ n2_; (try clear hb); (try clear hb2); (try clear hk); (try clear hi); obtain ⟨HGz52, hgz52⟩ := HI0.out; have hcz52_0 := cellS55_0 HGz52; have hcz52_1 := cellS55_1 HGz52; have hcz52_2 := cellS55_2 HGz52; have hfz52_0 := blk_frozen HGz52 0; have hfz52_1 := blk_frozen HGz52 1; have hfz52_2 := blk_frozen HGz52 2; clear HGz52 hgz52) | (go_at_call 53; (with_reducible refine (tithebarnref03_Unpack.calls k t444 a1 t440 t448 t449 _ A12.out).mono ?_); rintro e w53 ⟨v450, rfl, ho0, hb⟩; have n0_ := Aside0.mk (Kd.R_lower ho0 (keep_size (w := w) (g := g) (row := none) z0_)); have n1_ := Aside0.mk (IsS55.below z2_ hb); have n2_ := Aside0.mk (KeepBut.trans z0_ (KeepBut.of_below hb g none) (.inl rfl)); have n3_ := Aside0.mk (below_step z3_ hb); clear HI0; clear HK; clear HB; have HO451 := n0_; have HI0 := n1_; have HK := n2_; have HB := n3_; clear n0_ n1_ n2_ n3_; (try clear hb); (try clear hb2); (try clear hk); (try clear hi); (try clear ho0)))
     repeat (go_quiet (first | (go_at_call 32; (with_reducible refine (tithebarnref01_Cursor_Int.calls k g s0_0 s0_1 s0_2 t436 t437 t438 t439 w0 _ ?side1 ?side2 A3.out).mono ?_); (case side1 => repeat (first | (with_reducible first | exact HI0.out | apply IsS55.alloc | apply IsS55.drewN | apply IsS55.drew | apply IsS55.set_0 | apply IsS55.set_1 | apply IsS55.set_2) | exact HI0.out)); (case side2 => repeat (first | (with_reducible first | exact HB.out | apply below_alloc | apply pw_below_drewN | apply below_drew1 | refine below_set ?_ (IsS55.ge HI0.out)) | exact HB.out)); rintro e w48 ⟨rfl, hi, hb, hk⟩; have n0_ := Aside0.mk (KeepBut.trans z0_ hk (.inl rfl)); have n1_ := Aside0.mk (hb); have n2_ := Aside0.mk (hi); clear HK; clear HB; clear HI0; have HK := n0_; have HB := n1_; have HI0 := n2_; clear n0_ n1_ n2_; (try clear hb); (try clear hb2); (try clear hk); (try clear hi)) | (go_at_call 28; (with_reducible refine (tithebarnref01_Cursor_Byte.calls g t437 t438 t439 t440 t441 t442 t443 w0 _ ?side1 ?side2 A4.out).mono ?_); (case side1 => repeat (first | (with_reducible first | exact HI0.out | apply IsS55.alloc | apply IsS55.drewN | apply IsS55.drew | apply IsS55.set_0 | apply IsS55.set_1 | apply IsS55.set_2) | exact HI0.out)); (case side2 => repeat (first | (with_reducible first | exact HB.out | apply below_alloc | apply pw_below_drewN | apply below_drew1 | refine below_set ?_ (IsS55.ge HI0.out)) | exact HB.out)); rintro e w49 ⟨rfl, hi, hb, hk⟩; have n0_ := Aside0.mk (KeepBut.trans z0_ hk (.inl rfl)); have n1_ := Aside0.mk (hb); have n2_ := Aside0.mk (hi); clear HK; clear HB; clear HI0; have HK := n0_; have HB := n1_; have HI0 := n2_; clear n0_ n1_ n2_; (try clear hb); (try clear hb2); (try clear hk); (try clear hi); obtain ⟨HGz50, hgz50⟩ := HI0.out; have hcz50_0 := cellS55_0 HGz50; have hcz50_1 := cellS55_1 HGz50; have hcz50_2 := cellS55_2 HGz50; have hfz50_0 := blk_frozen HGz50 0; have hfz50_1 := blk_frozen HGz50 1; have hfz50_2 := blk_frozen HGz50 2; clear HGz50 hgz50) | (go_at_call 52; (with_reducible refine (tithebarnref04_raw.calls k g t441 t442 t443 (wrap64 (Int.tdiv (wrap64 ((wrap64 (a1 * t440)) + 7)) 8)) t444 t445 t446 t447 w0 _ ?side1 ?side2 A10.out).mono ?_); (case side1 => repeat (first | (with_reducible first | exact HI0.out | apply IsS55.alloc | apply IsS55.drewN | apply IsS55.drew | apply IsS55.set_0 | apply IsS55.set_1 | apply IsS55.set_2) | exact HI0.out)); (case side2 => repeat (first | (with_reducible first | exact HB.out | apply below_alloc | apply pw_below_drewN | apply below_drew1 | refine below_set ?_ (IsS55.ge HI0.out)) | exact HB.out)); rintro e w51 ⟨rfl, hi, hb, hk⟩; have n0_ := Aside0.mk (KeepBut.trans z0_ hk (.inl rfl)); have n1_ := Aside0.mk (hb); have n2_ := Aside0.mk (hi); clear HK; clear HB; clear HI0; have HK := n0_; have HB := n1_; have HI0 := n2_; clear n0_ n1_ n2_; (try clear hb); (try clear hb2); (try clear hk); (try clear hi); obtain ⟨HGz52, hgz52⟩ := HI0.out; have hcz52_0 := cellS55_0 HGz52; have hcz52_1 := cellS55_1 HGz52; have hcz52_2 := cellS55_2 HGz52; have hfz52_0 := blk_frozen HGz52 0; have hfz52_1 := blk_frozen HGz52 1; have hfz52_2 := blk_frozen HGz52 2; clear HGz52 hgz52) | (go_at_call 53; (with_reducible refine (tithebarnref03_Unpack.calls k t444 a1 t440 t448 t449 _ A12.out).mono ?_); rintro e w53 ⟨v450, rfl, ho0, hb⟩; have n0_ := Aside0.mk (Kd.R_lower ho0 (keep_size (w := w) (g := g) (row := none) z0_)); have n1_ := Aside0.mk (IsS55.below z2_ hb); have n2_ := Aside0.mk (KeepBut.trans z0_ (KeepBut.of_below hb g none) (.inl rfl)); have n3_ := Aside0.mk (below_step z3_ hb); clear HI0; clear HK; clear HB; have HO451 := n0_; have HI0 := n1_; have HK := n2_; have HB := n3_; clear n0_ n1_ n2_ n3_; (try clear hb); (try clear hb2); (try clear hk); (try clear hi); (try clear ho0))); try go_wp2_with (first | (go_at_call 32; (with_reducible refine (tithebarnref01_Cursor_Int.calls k g s0_0 s0_1 s0_2 t436 t437 t438 t439 w0 _ ?side1 ?side2 A3.out).mono ?_); (case side1 => repeat (first | (with_reducible first | exact HI0.out | apply IsS55.alloc | apply IsS55.drewN | apply IsS55.drew | apply IsS55.set_0 | apply IsS55.set_1 | apply IsS55.set_2) | exact HI0.out)); (case side2 => repeat (first | (with_reducible first | exact HB.out | apply below_alloc | apply pw_below_drewN | apply below_drew1 | refine below_set ?_ (IsS55.ge HI0.out)) | exact HB.out)); rintro e w48 ⟨rfl, hi, hb, hk⟩; have n0_ := Aside0.mk (KeepBut.trans z0_ hk (.inl rfl)); have n1_ := Aside0.mk (hb); have n2_ := Aside0.mk (hi); clear HK; clear HB; clear HI0; have HK := n0_; have HB := n1_; have HI0 := n2_; clear n0_ n1_ n2_; (try clear hb); (try clear hb2); (try clear hk); (try clear hi)) | (go_at_call 28; (with_reducible refine (tithebarnref01_Cursor_Byte.calls g t437 t438 t439 t440 t441 t442 t443 w0 _ ?side1 ?side2 A4.out).mono ?_); (case side1 => repeat (first | (with_reducible first | exact HI0.out | apply IsS55.alloc | apply IsS55.drewN | apply IsS55.drew | apply IsS55.set_0 | apply IsS55.set_1 | apply IsS55.set_2) | exact HI0.out)); (case side2 => repeat (first | (with_reducible first | exact HB.out | apply below_alloc | apply pw_below_drewN | apply below_drew1 | refine below_set ?_ (IsS55.ge HI0.out)) | exact HB.out)); rintro e w49 ⟨rfl, hi, hb, hk⟩; have n0_ := Aside0.mk (KeepBut.trans z0_ hk (.inl rfl)); have n1_ := Aside0.mk (hb); have n2_ := Aside0.mk (hi); clear HK; clear HB; clear HI0; have HK := n0_; have HB := n1_; have HI0 := n2_; clear n0_ n1_ n2_; (try clear hb); (try clear hb2); (try clear hk); (try clear hi); obtain ⟨HGz50, hgz50⟩ := HI0.out; have hcz50_0 := cellS55_0 HGz50; have hcz50_1 := cellS55_1 HGz50; have hcz50_2 := cellS55_2 HGz50; have hfz50_0 := blk_frozen HGz50 0; have hfz50_1 := blk_frozen HGz50 1; have hfz50_2 := blk_frozen HGz50 2; clear HGz50 hgz50) | (go_at_call 52; (with_reducible refine (tithebarnref04_raw.calls k g t441 t442 t443 (wrap64 (Int.tdiv (wrap64 ((wrap64 (a1 * t440)) + 7)) 8)) t444 t445 t446 t447 w0 _ ?side1 ?side2 A10.out).mono ?_); (case side1 => repeat (first | (with_reducible first | exact HI0.out | apply IsS55.alloc | apply IsS55.drewN | apply IsS55.drew | apply IsS55.set_0 | apply IsS55.set_1 | apply IsS55.set_2) | exact HI0.out)); (case side2 => repeat (first | (with_reducible first | exact HB.out | apply below_alloc | apply pw_below_drewN | apply below_drew1 | refine below_set ?_ (IsS55.ge HI0.out)) | exact HB.out)); rintro e w51 ⟨rfl, hi, hb, hk⟩; have n0_ := Aside0.mk (KeepBut.trans z0_ hk (.inl rfl)); have n1_ := Aside0.mk (hb); have n2_ := Aside0.mk (hi); clear HK; clear HB; clear HI0; have HK := n0_; have HB := n1_; have HI0 := n2_; clear n0_ n1_ n2_; (try clear hb); (try clear hb2); (try clear hk); (try clear hi); obtain ⟨HGz52, hgz52⟩ := HI0.out; have hcz52_0 := cellS55_0 HGz52; have hcz52_1 := cellS55_1 HGz52; have hcz52_2 := cellS55_2 HGz52; have hfz52_0 := blk_frozen HGz52 0; have hfz52_1 := blk_frozen HGz52 1; have hfz52_2 := blk_frozen HGz52 2; clear HGz52 hgz52) | (go_at_call 53; (with_reducible refine (tithebarnref03_Unpack.calls k t444 a1 t440 t448 t449 _ A12.out).mono ?_); rintro e w53 ⟨v450, rfl, ho0, hb⟩; have n0_ := Aside0.mk (Kd.R_lower ho0 (keep_size (w := w) (g := g) (row := none) z0_)); have n1_ := Aside0.mk (IsS55.below z2_ hb); have n2_ := Aside0.mk (KeepBut.trans z0_ (KeepBut.of_below hb g none) (.inl rfl)); have n3_ := Aside0.mk (below_step z3_ hb); clear HI0; clear HK; clear HB; have HO451 := n0_; have HI0 := n1_; have HK := n2_; have HB := n3_; clear n0_ n1_ n2_ n3_; (try clear hb); (try clear hb2); (try clear hk); (try clear hi); (try clear ho0))))
     go_ret2
     exact ⟨_, z6_, z10_, z2_, z3_, z0_⟩
   ·rw [if_neg c11] at H
    have c11b0 : (t447 == 0) = false := beq_eq_false_iff_ne.mpr c11
    have c11b1 : (t447 != 0) = true := bne_iff_ne.mpr c11
    simp only [Option.some.injEq, Prod.mk.injEq] at H
    obtain ⟨rfl, rfl, rfl, rfl, rfl⟩ := H
    go_enter Try.func31, Try.ntmps31
    go_wp2_with (first | (go_at_call 32; (with_reducible refine (tithebarnref01_Cursor_Int.calls k g s0_0 s0_1 s0_2 t436 t437 t438 t439 w0 _ ?side1 ?side2 A3.out).mono ?_); (case side1 => repeat (first | (with_reducible first | exact HI0.out | apply IsS55.alloc | apply IsS55.drewN | apply IsS55.drew | apply IsS55.set_0 | apply IsS55.set_1 | apply IsS55.set_2) | exact HI0.out)); (case side2 => repeat (first | (with_reducible first | exact HB.out | apply below_alloc | apply pw_below_drewN | apply below_drew1 | refine below_set ?_ (IsS55.ge HI0.out)) | exact HB.out)); rintro e w54 ⟨rfl, hi, hb, hk⟩; have n0_ := Aside0.mk (KeepBut.trans z0_ hk (.inl rfl)); have n1_ := Aside0.mk (hb); have n2_ := Aside0.mk (hi); clear HK; clear HB; clear HI0; have HK := n0_; have HB := n1_; have HI0 := n2_; clear n0_ n1_ n2_; (try clear hb); (try clear hb2); (try clear hk); (try clear hi)) | (go_at_call 28; (with_reducible refine (tithebarnref01_Cursor_Byte.calls g t437 t438 t439 t440 t441 t442 t443 w0 _ ?side1 ?side2 A4.out).mono ?_); (case side1 => repeat (first | (with_reducible first | exact HI0.out | apply IsS55.alloc | apply IsS55.drewN | apply IsS55.drew | apply IsS55.set_0 | apply IsS55.set_1 | apply IsS55.set_2) | exact HI0.out)); (case side2 => repeat (first | (with_reducible first | exact HB.out | apply below_alloc | apply pw_below_drewN | apply below_drew1 | refine below_set ?_ (IsS55.ge HI0.out)) | exact HB.out)); rintro e w55 ⟨rfl, hi, hb, hk⟩; have n0_ := Aside0.mk (KeepBut.trans z0_ hk (.inl rfl)); have n1_ := Aside0.mk (hb); have n2_ := Aside0.mk (hi); clear HK; clear HB; clear HI0; have HK := n0_; have HB := n1_; have HI0 := n2_; clear n0_ n1_ n2_; (try clear hb); (try clear hb2); (try clear hk); (try clear hi); obtain ⟨HGz56, hgz56⟩ := HI0.out; have hcz56_0 := cellS55_0 HGz56; have hcz56_1 := cellS55_1 HGz56; have hcz56_2 := cellS55_2 HGz56; have hfz56_0 := blk_frozen HGz56 0; have hfz56_1 := blk_frozen HGz56 1; have hfz56_2 := blk_frozen HGz56 2; clear HGz56 hgz56) | (go_at_call 52; (with_reducible refine (tithebarnref04_raw.calls k g t441 t442 t443 (wrap64 (Int.tdiv (wrap64 ((wrap64 (a1 * t440)) + 7)) 8)) t444 t445 t446 t447 w0 _ ?side1 ?side2 A10.out).mono ?_); (case side1 => repeat (first | (with_reducible first | exact HI0.out | apply IsS55.alloc | apply IsS55.drewN | apply IsS55.drew | apply IsS55.set_0 | apply IsS55.set_1 | apply IsS55.set_2) | exact HI0.out)); (case side2 => repeat (first | (with_reducible first | exact HB.out | apply below_alloc | apply pw_below_drewN | apply below_drew1 | refine below_set ?_ (IsS55.ge HI0.out)) | exact HB.out)); rintro e w57 ⟨rfl, hi, hb, hk⟩; have n0_ := Aside0.mk (KeepBut.trans z0_ hk (.inl rfl)); have n1_ := Aside0.mk (hb); have n2_ := Aside0.mk (hi); clear HK; clear HB; clear HI0; have HK := n0_; have HB := n1_; have HI0 := n2_; clear n0_ n1_ n2_; (try clear hb); (try clear hb2); (try clear hk); (try clear hi); obtain ⟨HGz58, hgz58⟩ := HI0.out; have hcz58_0 := cellS55_0 HGz58; have hcz58_1 := cellS55_1 HGz58; have hcz58_2 := cellS55_2 HGz58; have hfz58_0 := blk_frozen HGz58 0; have hfz58_1 := blk_frozen HGz58 1; have hfz58_2 := blk_frozen HGz58 2; clear HGz58 hgz58))
    repeat (go_quiet (first | (go_at_call 32; (with_reducible refine (tithebarnref01_Cursor_Int.calls k g s0_0 s0_1 s0_2 t436 t437 t438 t439 w0 _ ?side1 ?side2 A3.out).mono ?_); (case side1 => repeat (first | (with_reducible first | exact HI0.out | apply IsS55.alloc | apply IsS55.drewN | apply IsS55.drew | apply IsS55.set_0 | apply IsS55.set_1 | apply IsS55.set_2) | exact HI0.out)); (case side2 => repeat (first | (with_reducible first | exact HB.out | apply below_alloc | apply pw_below_drewN | apply below_drew1 | refine below_set ?_ (IsS55.ge HI0.out)) | exact HB.out)); rintro e w54 ⟨rfl, hi, hb, hk⟩; have n0_ := Aside0.mk (KeepBut.trans z0_ hk (.inl rfl)); have n1_ := Aside0.mk (hb); have n2_ := Aside0.mk (hi); clear HK; clear HB; clear HI0; have HK := n0_; have HB := n1_; have HI0 := n2_; clear n0_ n1_ n2_; (try clear hb); (try clear hb2); (try clear hk); (try clear hi)) | (go_at_call 28; (with_reducible refine (tithebarnref01_Cursor_Byte.calls g t437 t438 t439 t440 t441 t442 t443 w0 _ ?side1 ?side2 A4.out).mono ?_); (case side1 => repeat (first | (with_reducible first | exact HI0.out | apply IsS55.alloc | apply IsS55.drewN | apply IsS55.drew | apply IsS55.set_0 | apply IsS55.set_1 | apply IsS55.set_2) | exact HI0.out)); (case side2 => repeat (first | (with_reducible first | exact HB.out | apply below_alloc | apply pw_below_drewN | apply below_drew1 | refine below_set ?_ (IsS55.ge HI0.out)) | exact HB.out)); rintro e w55 ⟨rfl, hi, hb, hk⟩; have n0_ := Aside0.mk (KeepBut.trans z0_ hk (.inl rfl)); have n1_ := Aside0.mk (hb); have n2_ := Aside0.mk (hi); clear HK; clear HB; clear HI0; have HK := n0_; have HB := n1_; have HI0 := n2_; clear n0_ n1_ n2_; (try clear hb); (try clear hb2); (try clear hk); (try clear hi); obtain ⟨HGz56, hgz56⟩ := HI0.out; have hcz56_0 := cellS55_0 HGz56; have hcz56_1 := cellS55_1 HGz56; have hcz56_2 := cellS55_2 HGz56; have hfz56_0 := blk_frozen HGz56 0; have hfz56_1 := blk_frozen HGz56 1; have hfz56_2 := blk_frozen HGz56 2; clear HGz56 hgz56) | (go_at_call 52; (with_reducible refine (tithebarnref04_raw.calls k g t441 t442 t443 (wrap64 (Int.tdiv (wrap64 ((wrap64 (a1 * t440)) + 7)) 8)) t444 t445 t446 t447 w0 _ ?side1 ?side2 A10.out).mono ?_); (case side1 => repeat (first | (with_reducible first | exact HI0.out | apply IsS55.alloc | apply IsS55.drewN | apply IsS55.drew | apply IsS55.set_0 | apply IsS55.set_1 | apply IsS55.set_2) | exact HI0.out)); (case side2 => repeat (first | (with_reducible first | exact HB.out | apply below_alloc | apply pw_below_drewN | apply below_drew1 | refine below_set ?_ (IsS55.ge HI0.out)) | exact HB.out)); rintro e w57 ⟨rfl, hi, hb, hk⟩; have n0_ := Aside0.mk (KeepBut.trans z0_ hk (.inl rfl)); have n1_ := Aside0.mk (hb); have n2_ := Aside0.mk (hi); clear HK; clear HB; clear HI0; have HK := n0_; have HB := n1_; have HI0 := n2_; clear n0_ n1_ n2_; (try clear hb); (try clear hb2); (try clear hk); (try clear hi); obtain ⟨HGz58, hgz58⟩ := HI0.out; have hcz58_0 := cellS55_0 HGz58; have hcz58_1 := cellS55_1 HGz58; have hcz58_2 := cellS55_2 HGz58; have hfz58_0 := blk_frozen HGz58 0; have hfz58_1 := blk_frozen HGz58 1; have hfz58_2 := blk_frozen HGz58 2; clear HGz58 hgz58)); try go_wp2_with (first | (go_at_call 32; (with_reducible refine (tithebarnref01_Cursor_Int.calls k g s0_0 s0_1 s0_2 t436 t437 t438 t439 w0 _ ?side1 ?side2 A3.out).mono ?_); (case side1 => repeat (first | (with_reducible first | exact HI0.out | apply IsS55.alloc | apply IsS55.drewN | apply IsS55.drew | apply IsS55.set_0 | apply IsS55.set_1 | apply IsS55.set_2) | exact HI0.out)); (case side2 => repeat (first | (with_reducible first | exact HB.out | apply below_alloc | apply pw_below_drewN | apply below_drew1 | refine below_set ?_ (IsS55.ge HI0.out)) | exact HB.out)); rintro e w54 ⟨rfl, hi, hb, hk⟩; have n0_ := Aside0.mk (KeepBut.trans z0_ hk (.inl rfl)); have n1_ := Aside0.mk (hb); have n2_ := Aside0.mk (hi); clear HK; clear HB; clear HI0; have HK := n0_; have HB := n1_; have HI0 := n2_; clear n0_ n1_ n2_; (try clear hb); (try clear hb2); (try clear hk); (try clear hi)) | (go_at_call 28; (with_reducible refine (tithebarnref01_Cursor_Byte.calls g t437 t438 t439 t440 t441 t442 t443 w0 _ ?side1 ?side2 A4.out).mono ?_); (case side1 => repeat (first | (with_reducible first | exact HI0.out | apply IsS55.alloc | apply IsS55.drewN | apply IsS55.drew | apply IsS55.set_0 | apply IsS55.set_1 | apply IsS55.set_2) | exact HI0.out)); (case side2 => repeat (first | (with_reducible first | exact HB.out | apply below_alloc | apply pw_below_drewN | apply below_drew1 | refine below_set ?_ (IsS55.ge HI0.out)) | exact HB.out)); rintro e w55 ⟨rfl, hi, hb, hk⟩; have n0_ := Aside0.mk (KeepBut.trans z0_ hk (.inl rfl)); have n1_ := Aside0.mk (hb); have n2_ := Aside0.mk (hi); clear HK; clear HB; clear HI0; have HK := n0_; have HB := n1_; have HI0 := n2_; clear n0_ n1_ n2_; (try clear hb); (try clear hb2); (try clear hk); (try clear hi); obtain ⟨HGz56, hgz56⟩ := HI0.out; have hcz56_0 := cellS55_0 HGz56; have hcz56_1 := cellS55_1 HGz56; have hcz56_2 := cellS55_2 HGz56; have hfz56_0 := blk_frozen HGz56 0; have hfz56_1 := blk_frozen HGz56 1; have hfz56_2 := blk_frozen HGz56 2; clear HGz56 hgz56) | (go_at_call 52; (with_reducible refine (tithebarnref04_raw.calls k g t441 t442 t443 (wrap64 (Int.tdiv (wrap64 ((wrap64 (a1 * t440)) + 7)) 8)) t444 t445 t446 t447 w0 _ ?side1 ?side2 A10.out).mono ?_); (case side1 => repeat (first | (with_reducible first | exact HI0.out | apply IsS55.alloc | apply IsS55.drewN | apply IsS55.drew | apply IsS55.set_0 | apply IsS55.set_1 | apply IsS55.set_2) | exact HI0.out)); (case side2 => repeat (first | (with_reducible first | exact HB.out | apply below_alloc | apply pw_below_drewN | apply below_drew1 | refine below_set ?_ (IsS55.ge HI0.out)) | exact HB.out)); rintro e w57 ⟨rfl, hi, hb, hk⟩; have n0_ := Aside0.mk (KeepBut.trans z0_ hk (.inl rfl)); have n1_ := Aside0.mk (hb); have n2_ := Aside0.mk (hi); clear HK; clear HB; clear HI0; have HK := n0_; have HB := n1_; have HI0 := n2_; clear n0_ n1_ n2_; (try clear hb); (try clear hb2); (try clear hk); (try clear hi); obtain ⟨HGz58, hgz58⟩ := HI0.out; have hcz58_0 := cellS55_0 HGz58; have hcz58_1 := cellS55_1 HGz58; have hcz58_2 := cellS55_2 HGz58; have hfz58_0 := blk_frozen HGz58 0; have hfz58_1 := blk_frozen HGz58 1; have hfz58_2 := blk_frozen HGz58 2; clear HGz58 hgz58)))
    go_ret2
    exact ⟨_, z6_, z10_, z2_, z3_, z0_⟩
 ·rw [if_neg c5] at H
  have c5b0 : (t443 == 0) = false := beq_eq_false_iff_ne.mpr c5
  have c5b1 : (t443 != 0) = true := bne_iff_ne.mpr c5
  simp only [Option.some.injEq, Prod.mk.injEq] at H
  obtain ⟨rfl, rfl, rfl, rfl, rfl⟩ := H
  go_enter Try.func31, Try.ntmps31
  go_wp2_with (first | (go_at_call 32; (with_reducible refine (tithebarnref01_Cursor_Int.calls k g s0_0 s0_1 s0_2 t436 t437 t438 t439 w0 _ ?side1 ?side2 A3.out).mono ?_); (case side1 => repeat (first | (with_reducible first | exact HI0.out | apply IsS55.alloc | apply IsS55.drewN | apply IsS55.drew | apply IsS55.set_0 | apply IsS55.set_1 | apply IsS55.set_2) | exact HI0.out)); (case side2 => repeat (first | (with_reducible first | exact HB.out | apply below_alloc | apply pw_below_drewN | apply below_drew1 | refine below_set ?_ (IsS55.ge HI0.out)) | exact HB.out)); rintro e w59 ⟨rfl, hi, hb, hk⟩; have n0_ := Aside0.mk (KeepBut.trans z0_ hk (.inl rfl)); have n1_ := Aside0.mk (hb); have n2_ := Aside0.mk (hi); clear HK; clear HB; clear HI0; have HK := n0_; have HB := n1_; have HI0 := n2_; clear n0_ n1_ n2_; (try clear hb); (try clear hb2); (try clear hk); (try clear hi)) | (go_at_call 28; (with_reducible refine (tithebarnref01_Cursor_Byte.calls g t437 t438 t439 t440 t441 t442 t443 w0 _ ?side1 ?side2 A4.out).mono ?_); (case side1 => repeat (first | (with_reducible first | exact HI0.out | apply IsS55.alloc | apply IsS55.drewN | apply IsS55.drew | apply IsS55.set_0 | apply IsS55.set_1 | apply IsS55.set_2) | exact HI0.out)); (case side2 => repeat (first | (with_reducible first | exact HB.out | apply below_alloc | apply pw_below_drewN | apply below_drew1 | refine below_set ?_ (IsS55.ge HI0.out)) | exact HB.out)); rintro e w60 ⟨rfl, hi, hb, hk⟩; have n0_ := Aside0.mk (KeepBut.trans z0_ hk (.inl rfl)); have n1_ := Aside0.mk (hb); have n2_ := Aside0.mk (hi); clear HK; clear HB; clear HI0; have HK := n0_; have HB := n1_; have HI0 := n2_; clear n0_ n1_ n2_; (try clear hb); (try clear hb2); (try clear hk); (try clear hi); obtain ⟨HGz61, hgz61⟩ := HI0.out; have hcz61_0 := cellS55_0 HGz61; have hcz61_1 := cellS55_1 HGz61; have hcz61_2 := cellS55_2 HGz61; have hfz61_0 := blk_frozen HGz61 0; have hfz61_1 := blk_frozen HGz61 1; have hfz61_2 := blk_frozen HGz61 2; clear HGz61 hgz61))
  repeat (go_quiet (first | (go_at_call 32; (with_reducible refine (tithebarnref01_Cursor_Int.calls k g s0_0 s0_1 s0_2 t436 t437 t438 t439 w0 _ ?side1 ?side2 A3.out).mono ?_); (case side1 => repeat (first | (with_reducible first | exact HI0.out | apply IsS55.alloc | apply IsS55.drewN | apply IsS55.drew | apply IsS55.set_0 | apply IsS55.set_1 | apply IsS55.set_2) | exact HI0.out)); (case side2 => repeat (first | (with_reducible first | exact HB.out | apply below_alloc | apply pw_below_drewN | apply below_drew1 | refine below_set ?_ (IsS55.ge HI0.out)) | exact HB.out)); rintro e w59 ⟨rfl, hi, hb, hk⟩; have n0_ := Aside0.mk (KeepBut.trans z0_ hk (.inl rfl)); have n1_ := Aside0.mk (hb); have n2_ := Aside0.mk (hi); clear HK; clear HB; clear HI0; have HK := n0_; have HB := n1_; have HI0 := n2_; clear n0_ n1_ n2_; (try clear hb); (try clear hb2); (try clear hk); (try clear hi)) | (go_at_call 28; (with_reducible refine (tithebarnref01_Cursor_Byte.calls g t437 t438 t439 t440 t441 t442 t443 w0 _ ?side1 ?side2 A4.out).mono ?_); (case side1 => repeat (first | (with_reducible first | exact HI0.out | apply IsS55.alloc | apply IsS55.drewN | apply IsS55.drew | apply IsS55.set_0 | apply IsS55.set_1 | apply IsS55.set_2) | exact HI0.out)); (case side2 => repeat (first | (with_reducible first | exact HB.out | apply below_alloc | apply pw_below_drewN | apply below_drew1 | refine below_set ?_ (IsS55.ge HI0.out)) | exact HB.out)); rintro e w60 ⟨rfl, hi, hb, hk⟩; have n0_ := Aside0.mk (KeepBut.trans z0_ hk (.inl rfl)); have n1_ := Aside0.mk (hb); have n2_ := Aside0.mk (hi); clear HK; clear HB; clear HI0; have HK := n0_; have HB := n1_; have HI0 := n2_; clear n0_ n1_ n2_; (try clear hb); (try clear hb2); (try clear hk); (try clear hi); obtain ⟨HGz61, hgz61⟩ := HI0.out; have hcz61_0 := cellS55_0 HGz61; have hcz61_1 := cellS55_1 HGz61; have hcz61_2 := cellS55_2 HGz61; have hfz61_0 := blk_frozen HGz61 0; have hfz61_1 := blk_frozen HGz61 1; have hfz61_2 := blk_frozen HGz61 2; clear HGz61 hgz61)); try go_wp2_with (first | (go_at_call 32; (with_reducible refine (tithebarnref01_Cursor_Int.calls k g s0_0 s0_1 s0_2 t436 t437 t438 t439 w0 _ ?side1 ?side2 A3.out).mono ?_); (case side1 => repeat (first | (with_reducible first | exact HI0.out | apply IsS55.alloc | apply IsS55.drewN | apply IsS55.drew | apply IsS55.set_0 | apply IsS55.set_1 | apply IsS55.set_2) | exact HI0.out)); (case side2 => repeat (first | (with_reducible first | exact HB.out | apply below_alloc | apply pw_below_drewN | apply below_drew1 | refine below_set ?_ (IsS55.ge HI0.out)) | exact HB.out)); rintro e w59 ⟨rfl, hi, hb, hk⟩; have n0_ := Aside0.mk (KeepBut.trans z0_ hk (.inl rfl)); have n1_ := Aside0.mk (hb); have n2_ := Aside0.mk (hi); clear HK; clear HB; clear HI0; have HK := n0_; have HB := n1_; have HI0 := n2_; clear n0_ n1_ n2_; (try clear hb); (try clear hb2); (try clear hk); (try clear hi)) | (go_at_call 28; (with_reducible refine (tithebarnref01_Cursor_Byte.calls g t437 t438 t439 t440 t441 t442 t443 w0 _ ?side1 ?side2 A4.out).mono ?_); (case side1 => repeat (first | (with_reducible first | exact HI0.out | apply IsS55.alloc | apply IsS55.drewN | apply IsS55.drew | apply IsS55.set_0 | apply IsS55.set_1 | apply IsS55.set_2) | exact HI0.out)); (case side2 => repeat (first | (with_reducible first | exact HB.out | apply below_alloc | apply pw_below_drewN | apply below_drew1 | refine below_set ?_ (IsS55.ge HI0.out)) | exact HB.out)); rintro e w60 ⟨rfl, hi, hb, hk⟩; have n0_ := Aside0.mk (KeepBut.trans z0_ hk (.inl rfl)); have n1_ := Aside0.mk (hb); have n2_ := Aside0.mk (hi); clear HK; clear HB; clear HI0; have HK := n0_; have HB := n1_; have HI0 := n2_; clear n0_ n1_ n2_; (try clear hb); (try clear hb2); (try clear hk); (try clear hi); obtain ⟨HGz61, hgz61⟩ := HI0.out; have hcz61_0 := cellS55_0 HGz61; have hcz61_1 := cellS55_1 HGz61; have hcz61_2 := cellS55_2 HGz61; have hfz61_0 := blk_frozen HGz61 0; have hfz61_1 := blk_frozen HGz61 1; have hfz61_2 := blk_frozen HGz61 2; clear HGz61 hgz61)))
  go_ret2
  exact ⟨_, z6_, z10_, z2_, z3_, z0_⟩
def tithebarnref01_Cursor_Done.f (s0_0 : ByteArray) (s0_1 : Int) (s0_2 : Int) : Option (Int × ByteArray × Int × Int) := if s0_2 = 0 then ((tithebarnref01_Cursor_Left.f s0_0 s0_1 s0_2).bind fun bt466 => (if bt466.1 > 0 then (some (5, bt466.2.1, bt466.2.2.1, bt466.2.2.2)) else (some (bt466.2.2.2, bt466.2.1, bt466.2.2.1, bt466.2.2.2)))) else (some (s0_2, s0_0, s0_1, s0_2))
set_option maxHeartbeats 8000000 in
set_option maxRecDepth 100000 in
theorem tithebarnref01_Cursor_Done.calls (g : Nat) (s0_0 : ByteArray) (s0_1 : Int) (s0_2 : Int) (r1 : Int) (r2 : ByteArray) (r3 : Int) (r4 : Int) (w0 w : World) (hI : IsS55 w0 w g s0_0 s0_1 s0_2) (hB : Below w0.heap.size w0 w) (h : tithebarnref01_Cursor_Done.f s0_0 s0_1 s0_2 = some (r1, r2, r3, r4)) :
  Calls Try.prog 33 #[.pointer (some ⟨g, 0, none⟩)] w fun e w' => e = .returned (.int .i64 r1) ∧ IsS55 w0 w' g r2 r3 r4 ∧ Below w0.heap.size w0 w' ∧ KeepBut w w' g none := by
 have HI0 := Aside0.mk hI
 have HK := Aside0.mk (KeepBut.refl w g none)
 have HL := Aside0.mk hB.size
 clear hI
 have HW0 := Aside0.mk hB.size
 have HB := Aside0.mk hB
 clear hB
 have H : (if s0_2 = 0 then ((tithebarnref01_Cursor_Left.f s0_0 s0_1 s0_2).bind fun bt466 => (if bt466.1 > 0 then (some (5, bt466.2.1, bt466.2.2.1, bt466.2.2.2)) else (some (bt466.2.2.2, bt466.2.1, bt466.2.2.1, bt466.2.2.2)))) else (some (s0_2, s0_0, s0_1, s0_2))) = some (r1, r2, r3, r4) := h
 clear h
 by_cases c2 : s0_2 = 0
 ·rw [if_pos c2] at H
  have c2b0 : (s0_2 == 0) = true := beq_iff_eq.mpr c2
  have c2b1 : (s0_2 != 0) = false := bne_eq_false_iff_eq.mpr c2
  clear c2
  replace H := Option.bind_eq_some_iff.mp H
  obtain ⟨⟨t466, t467, t468, t469⟩, A30, H⟩ := H
  replace H : (if t466 > 0 then (some (5, t467, t468, t469)) else (some (t469, t467, t468, t469))) = some (r1, r2, r3, r4) := H
  have A3 := Aside0.mk A30
  clear A30
  by_cases c4 : t466 > 0
  ·rw [if_pos c4] at H
   have c4b0 : decide (0 < t466) = true := decide_eq_true c4
   clear c4
   simp only [Option.some.injEq, Prod.mk.injEq] at H
   obtain ⟨rfl, rfl, rfl, rfl⟩ := H
   obtain ⟨HGz5, hgz5⟩ := HI0.out
   have hcz5_0 := cellS55_0 HGz5
   have hcz5_1 := cellS55_1 HGz5
   have hcz5_2 := cellS55_2 HGz5
   have hfz5_0 := blk_frozen HGz5 0
   have hfz5_1 := blk_frozen HGz5 1
   have hfz5_2 := blk_frozen HGz5 2
   clear HGz5 hgz5
   go_enter Try.func33, Try.ntmps33
   go_wp2_with (first | (go_at_call 49; (with_reducible refine (tithebarnref01_Cursor_Left.calls g s0_0 s0_1 s0_2 t466 t467 t468 t469 w0 _ ?side1 ?side2 A3.out).mono ?_); (case side1 => repeat (first | (with_reducible first | exact HI0.out | apply IsS55.alloc | apply IsS55.drewN | apply IsS55.drew | apply IsS55.set_0 | apply IsS55.set_1 | apply IsS55.set_2) | exact HI0.out)); (case side2 => repeat (first | (with_reducible first | exact HB.out | apply below_alloc | apply pw_below_drewN | apply below_drew1 | refine below_set ?_ (IsS55.ge HI0.out)) | exact HB.out)); rintro e w6 ⟨rfl, hi, hb, hk⟩; have n0_ := Aside0.mk (KeepBut.trans z0_ hk (.inl rfl)); have n1_ := Aside0.mk (hb); have n2_ := Aside0.mk (hi); clear HK; clear HB; clear HI0; have HK := n0_; have HB := n1_; have HI0 := n2_; clear n0_ n1_ n2_; (try clear hb); (try clear hb2); (try clear hk); (try clear hi)))
   go_ret
   exact ⟨z6_, z2_, z3_, z0_⟩
  ·rw [if_neg c4] at H
   have c4b0 : decide (0 < t466) = false := decide_eq_false c4
   clear c4
   simp only [Option.some.injEq, Prod.mk.injEq] at H
   obtain ⟨rfl, rfl, rfl, rfl⟩ := H
   obtain ⟨HGz7, hgz7⟩ := HI0.out
   have hcz7_0 := cellS55_0 HGz7
   have hcz7_1 := cellS55_1 HGz7
   have hcz7_2 := cellS55_2 HGz7
   have hfz7_0 := blk_frozen HGz7 0
   have hfz7_1 := blk_frozen HGz7 1
   have hfz7_2 := blk_frozen HGz7 2
   clear HGz7 hgz7
   go_enter Try.func33, Try.ntmps33
   go_wp2_with (first | (go_at_call 49; (with_reducible refine (tithebarnref01_Cursor_Left.calls g s0_0 s0_1 s0_2 t466 t467 t468 t469 w0 _ ?side1 ?side2 A3.out).mono ?_); (case side1 => repeat (first | (with_reducible first | exact HI0.out | apply IsS55.alloc | apply IsS55.drewN | apply IsS55.drew | apply IsS55.set_0 | apply IsS55.set_1 | apply IsS55.set_2) | exact HI0.out)); (case side2 => repeat (first | (with_reducible first | exact HB.out | apply below_alloc | apply pw_below_drewN | apply below_drew1 | refine below_set ?_ (IsS55.ge HI0.out)) | exact HB.out)); rintro e w8 ⟨rfl, hi, hb, hk⟩; have n0_ := Aside0.mk (KeepBut.trans z0_ hk (.inl rfl)); have n1_ := Aside0.mk (hb); have n2_ := Aside0.mk (hi); clear HK; clear HB; clear HI0; have HK := n0_; have HB := n1_; have HI0 := n2_; clear n0_ n1_ n2_; (try clear hb); (try clear hb2); (try clear hk); (try clear hi); obtain ⟨HGz9, hgz9⟩ := HI0.out; have hcz9_0 := cellS55_0 HGz9; have hcz9_1 := cellS55_1 HGz9; have hcz9_2 := cellS55_2 HGz9; have hfz9_0 := blk_frozen HGz9 0; have hfz9_1 := blk_frozen HGz9 1; have hfz9_2 := blk_frozen HGz9 2; clear HGz9 hgz9))
   go_ret
   exact ⟨z6_, z2_, z3_, z0_⟩
 ·rw [if_neg c2] at H
  have c2b0 : (s0_2 == 0) = false := beq_eq_false_iff_ne.mpr c2
  have c2b1 : (s0_2 != 0) = true := bne_iff_ne.mpr c2
  simp only [Option.some.injEq, Prod.mk.injEq] at H
  obtain ⟨rfl, rfl, rfl, rfl⟩ := H
  obtain ⟨HGz10, hgz10⟩ := HI0.out
  have hcz10_0 := cellS55_0 HGz10
  have hcz10_1 := cellS55_1 HGz10
  have hcz10_2 := cellS55_2 HGz10
  have hfz10_0 := blk_frozen HGz10 0
  have hfz10_1 := blk_frozen HGz10 1
  have hfz10_2 := blk_frozen HGz10 2
  clear HGz10 hgz10
  go_enter Try.func33, Try.ntmps33
  go_wp2
  go_ret
  exact ⟨z6_, z2_, z3_, z0_⟩
end Go.Proofs.Ytgeddoklmcjdcaa.G
