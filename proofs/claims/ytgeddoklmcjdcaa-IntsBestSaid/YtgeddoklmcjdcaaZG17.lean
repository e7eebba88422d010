import Derived.Test.YtgeddoklmcjdcaaZQA
import Derived.Test.YtgeddoklmcjdcaaZG4
import Derived.Test.YtgeddoklmcjdcaaZG7
namespace Go.Proofs.Ytgeddoklmcjdcaa.G
open Go.RowKit Go.Proofs.YtgeddoklmcjdcaaQ Go.Proofs.YtgeddoklmcjdcaaW.PrintWords Go.Proofs.YtgeddoklmcjdcaaW.PrintLast Go.Proofs.YtgeddoklmcjdcaaW.PrintMore
attribute [local go_sem] max2_int min2_int max_two min_two max_three min_three max_four min_four   -- for this text's walks alone
set_option linter.unusedVariables false
set_option linter.unusedSimpArgs false
def tithebarnlaw04_lives.f (k : Nat)  : Option (Bool) := (ints_With.f k (([7, 7, 7] : List Int)) 2).bind fun bt296 => ((ints_Read.f k (⟨#[2, 3, 3, 14]⟩ : ByteArray)).bind fun bt298 => (if bt296.2 = 0 then (if bt296.1.toList = ([2, 3, 3, 14] : List UInt8) then (if bt298.2 = 0 then (if (bt298.1.length : Int) = 3 then (if 2 < (bt298.1.length : Int) then (some ((rd bt298.1 2) == 7)) else (none)) else (some false)) else (some false)) else (some false)) else (some false)))
theorem tithebarnlaw04_lives.mono : ∀ k, LeO (tithebarnlaw04_lives.f k ) (tithebarnlaw04_lives.f (k + 1) ) := by
 intro  k
 unfold tithebarnlaw04_lives.f
 repeat' first
   | (with_reducible exact ints_Read.mono _ _)
   | (with_reducible exact ints_With.mono _ _ _)
   | (with_reducible exact LeO.refl _)
   | (with_reducible exact LeO.none _)
   | (with_reducible refine LeO.ite ?_ ?_)
   | (with_reducible refine LeO.bind ?_ (fun _ => ?_))
   | exact ints_Read.mono _ _
   | exact ints_With.mono _ _ _
   | exact LeO.none _
   | refine LeO.ite ?_ ?_
   | refine LeO.bind ?_ (fun _ => ?_)
set_option maxHeartbeats 8000000 in
set_option maxRecDepth 100000 in
theorem tithebarnlaw04_lives.calls (k : Nat)  (r : Bool) (w : World) (h : tithebarnlaw04_lives.f k  = some r) :
  Calls Try.prog 9 #[] w fun e w' => e = .returned (.bool r) ∧ Below w.heap.size w w' := by
 have HB := Aside0.mk (Below.refl w.heap.size w)
 have H : ((ints_With.f k (([7, 7, 7] : List Int)) 2).bind fun bt296 => ((ints_Read.f k (⟨#[2, 3, 3, 14]⟩ : ByteArray)).bind fun bt298 => (if bt296.2 = 0 then (if bt296.1.toList = ([2, 3, 3, 14] : List UInt8) then (if bt298.2 = 0 then (if (bt298.1.length : Int) = 3 then (if 2 < (bt298.1.length : Int) then (some ((rd bt298.1 2) == 7)) else (none)) else (some false)) else (some false)) else (some false)) else (some false)))) = some r := h
 clear h
 obtain ⟨y293, hy293⟩ : ∃ y_ : List Int, y_ = (([7, 7, 7] : List Int)) := ⟨_, rfl⟩
 replace H : ((ints_With.f k y293 2).bind fun bt296 => ((ints_Read.f k (⟨#[2, 3, 3, 14]⟩ : ByteArray)).bind fun bt298 => (if bt296.2 = 0 then (if bt296.1.toList = ([2, 3, 3, 14] : List UInt8) then (if bt298.2 = 0 then (if (bt298.1.length : Int) = 3 then (if 2 < (bt298.1.length : Int) then (some ((rd bt298.1 2) == 7)) else (none)) else (some false)) else (some false)) else (some false)) else (some false)))) = some r := by first | (rw [hy293]; with_reducible exact H) | (have H2_ := (Option.bind_some _ _).symm.trans H; rw [hy293]; with_reducible exact H2_) | (have H2_ := (Option.bind_some _ _).symm.trans H; with_reducible exact H2_) | with_reducible exact H | (rw [hy293]; exact H) | exact H
 have Ny293 := Aside0.mk hy293
 clear hy293
 replace H := Option.bind_eq_some_iff.mp H
 obtain ⟨⟨t296, t297⟩, A10, H⟩ := H
 replace H : ((ints_Read.f k (⟨#[2, 3, 3, 14]⟩ : ByteArray)).bind fun bt298 => (if t297 = 0 then (if t296.toList = ([2, 3, 3, 14] : List UInt8) then (if bt298.2 = 0 then (if (bt298.1.length : Int) = 3 then (if 2 < (bt298.1.length : Int) then (some ((rd bt298.1 2) == 7)) else (none)) else (some false)) else (some false)) else (some false)) else (some false))) = some r := H
 have A1 := Aside0.mk A10
 clear A10
 replace H := Option.bind_eq_some_iff.mp H
 obtain ⟨⟨t298, t299⟩, A20, H⟩ := H
 replace H : (if t297 = 0 then (if t296.toList = ([2, 3, 3, 14] : List UInt8) then (if t299 = 0 then (if (t298.length : Int) = 3 then (if 2 < (t298.length : Int) then (some ((rd t298 2) == 7)) else (none)) else (some false)) else (some false)) else (some false)) else (some false)) = some r := H
 have A2 := Aside0.mk A20
 clear A20
 by_cases c3 : t297 = 0
 ·rw [if_pos c3] at H
  have c3b0 : (t297 == 0) = true := beq_iff_eq.mpr c3
  have c3b1 : (t297 != 0) = false := bne_eq_false_iff_eq.mpr c3
  clear c3
  by_cases c4 : t296.toList = ([2, 3, 3, 14] : List UInt8)
  ·rw [if_pos c4] at H
   have c4b0 : (t296.toList == ([2, 3, 3, 14] : List UInt8)) = true := beq_iff_eq.mpr c4
   have c4b1 : (t296.toList != ([2, 3, 3, 14] : List UInt8)) = false := bne_eq_false_iff_eq.mpr c4
   clear c4
   by_cases c5 : t299 = 0
   ·rw [if_pos c5] at H
    have c5b0 : (t299 == 0) = true := beq_iff_eq.mpr c5
    have c5b1 : (t299 != 0) = false := bne_eq_false_iff_eq.mpr c5
    clear c5
    by_cases c6 : (t298.length : Int) = 3
    ·rw [if_pos c6] at H
     have c6b0 : ((t298.length : Int) == 3) = true := beq_iff_eq.mpr c6
     have c6b1 : ((t298.length : Int) != 3) = false := bne_eq_false_iff_eq.mpr c6
     clear c6
     by_cases c7 : 2 < (t298.length : Int)
     ·rw [if_pos c7] at H
      have c7b0 : decide (2 < (t298.length : Int)) = true := decide_eq_true c7
      have c7b1 : decide (2 < t298.length) = true := decide_eq_true (by omega)
      clear c7
      obtain rfl := Option.some.inj H
      go_enter Try.func9, Try.ntmps9
      go_wp2_with (first | ((with_reducible refine gate_dst (N := 6) rfl ?_); (try (refine gate_guard (by rfl) ?_; dsimp only)); refine Kd.R_lit (Kd.int .i64) _ 2 ?hg (N := 6) ?hd (xs := ([7, 7, 7] : List Int)) (inner := [.int .i64 7, .int .i64 7, .int .i64 7]) (ok := fun _ => True) (okp := fun _ => True) ?hr ?hp (fun _ hk => hk) trivial (Below.refl _ _) (Nat.le_refl _) (by simp) ?_; (case hd => rfl); (case hg => rfl); (case hr => first | (go_simp; done) | (go_simp; rfl)); (case hp => exact (Reps.one (show Kd.M (Kd.int .i64) _ _ _ 7 [.int .i64 7] from rfl) (Reps.one (show Kd.M (Kd.int .i64) _ _ _ 7 [.int .i64 7] from rfl) (Reps.one (show Kd.M (Kd.int .i64) _ _ _ 7 [.int .i64 7] from rfl) (Reps.none _ _))))); intro v294 w8 ho9 hb hg_ hnew_; clear hg_ hnew_; (first | rw [← Ny293.out] at ho9 | (simp only [Int.reduceToNat] at ho9; rw [← Ny293.out] at ho9)); have n0_ := Aside0.mk (Kd.R_lower ho9 (below_size z0_)); have n1_ := Aside0.mk (below_step z0_ hb); clear HB; have HO295 := n0_; have HB := n1_; clear n0_ n1_; clear hb ho9; obtain ⟨Ao10, co10, eo10⟩ := Kd.R_slice HO295.out; subst eo10) | ((with_reducible refine gate_callee (f := 10) rfl ?_); refine goesL_ (some 7) rfl rfl Try.func10 (by kernel_rfl) rfl #[.slice Ao10 y293.length co10, .int .i64 2] rfl (by (try simp only [List.map_toArray, List.map_cons, List.map_nil]); first | done | rfl | (simp only [List.length_drop, List.length_take]; rfl) | (go_simp; simp [IntKind.wrap, IntKind.bits, IntKind.signed]; omega)) ?_; (with_reducible refine (ints_With.calls k _ _ y293 2 t296 t297 _ ?side1 ?side2 A1.out).mono ?_); (case side1 => repeat (first | exact (Kd.R_reads' HO295.out).2.2 | (with_reducible refine Kd.C_alloc ?_ _) | (with_reducible refine Kd.C_drewN ?_ _) | (with_reducible refine Kd.C_drew ?_))); (case side2 => exact (Kd.R_reads' HO295.out).2.1); rintro e w11 ⟨rfl, hb⟩; refine ⟨_, rfl, ?_⟩; have n0_ := Aside0.mk (Kd.R_below (by (with_reducible repeat (first | apply Kd.R_alloc | apply Kd.R_drewN | apply Kd.R_drew)); exact HO295.out) hb); have n1_ := Aside0.mk (below_step z0_ hb); clear HO295; clear HB; have HO295 := n0_; have HB := n1_; clear n0_ n1_; (try clear hb); (try clear hb2); (try clear hk); (try clear hi)) | ((with_reducible refine gate_callee (f := 12) rfl ?_); refine goesL_ (some 11) rfl rfl Try.func12 (by kernel_rfl) rfl #[.string (⟨#[2, 3, 3, 14]⟩ : ByteArray)] rfl (by (try simp only [List.map_toArray, List.map_cons, List.map_nil]); first | done | rfl | (simp only [List.length_drop, List.length_take]; rfl) | (go_simp; simp [IntKind.wrap, IntKind.bits, IntKind.signed]; omega)) ?_; (with_reducible refine (ints_Read.calls k (⟨#[2, 3, 3, 14]⟩ : ByteArray) t298 t299 _ A2.out).mono ?_); rintro e w12 ⟨v300, rfl, ho0, hb⟩; refine ⟨_, rfl, ?_⟩; have n0_ := Aside0.mk (Kd.R_elder' (by (with_reducible repeat (first | apply Kd.R_alloc | apply Kd.R_drewN | apply Kd.R_drew)); exact HO295.out) (Kd.R_base ho0) hb); have n1_ := Aside0.mk (Kd.R_lower (Kd.R_new' ho0 (Kd.R_lt (by (with_reducible repeat (first | apply Kd.R_alloc | apply Kd.R_drewN | apply Kd.R_drew)); exact HO295.out))) (below_size z0_)); have n2_ := Aside0.mk (below_step z0_ hb); clear HO295; clear HB; have HO295 := n0_; have HO301 := n1_; have HB := n2_; clear n0_ n1_ n2_; (try clear hb); (try clear hb2); (try clear hk); (try clear hi); (try clear ho0); obtain ⟨Ao13, co13, eo13⟩ := Kd.R_slice HO301.out; subst eo13; have p302 : 0 ≤ (2 : Int) := (by omega); have q302 : 2 < (t298.length : Int) := of_decide_eq_true z7_; obtain ⟨ad302, e302, hx302_0⟩ := Kd.at_int (Kd.R_reads' HO301.out).2.2 2 p302 q302; cases e302; (try simp only [show (2 : Int).toNat = 2 from rfl, Nat.reduceMul, Nat.reduceEqDiff, Go.Addr.add, ↓reduceIte] at hx302_0); have qi302 : (2 < t298.length) = True := eq_true (by omega); (try rw [show ((2 : Int)).toNat = 2 from rfl] at hx302_0); replace p302 := eq_true p302; replace q302 := eq_true q302))
      go_ret
      exact ⟨z5_, z0_⟩
     ·rw [if_neg c7] at H
      exact absurd H (by simp)
    ·rw [if_neg c6] at H
     have c6b0 : ((t298.length : Int) == 3) = false := beq_eq_false_iff_ne.mpr c6
     have c6b1 : ((t298.length : Int) != 3) = true := bne_iff_ne.mpr c6
     obtain rfl := Option.some.inj H
     go_enter Try.func9, Try.ntmps9
     go_wp2_with (first | ((with_reducible refine gate_dst (N := 6) rfl ?_); (try (refine gate_guard (by rfl) ?_; dsimp only)); refine Kd.R_lit (Kd.int .i64) _ 2 ?hg (N := 6) ?hd (xs := ([7, 7, 7] : List Int)) (inner := [.int .i64 7, .int .i64 7, .int .i64 7]) (ok := fun _ => True) (okp := fun _ => True) ?hr ?hp (fun _ hk => hk) trivial (Below.refl _ _) (Nat.le_refl _) (by simp) ?_; (case hd => rfl); (case hg => rfl); (case hr => first | (go_simp; done) | (go_simp; rfl)); (case hp => exact (Reps.one (show Kd.M (Kd.int .i64) _ _ _ 7 [.int .i64 7] from rfl) (Reps.one (show Kd.M (Kd.int .i64) _ _ _ 7 [.int .i64 7] from rfl) (Reps.one (show Kd.M (Kd.int .i64) _ _ _ 7 [.int .i64 7] from rfl) (Reps.none _ _))))); intro v294 w14 ho15 hb hg_ hnew_; clear hg_ hnew_; (first | rw [← Ny293.out] at ho15 | (simp only [Int.reduceToNat] at ho15; rw [← Ny293.out] at ho15)); have n0_ := Aside0.mk (Kd.R_lower ho15 (below_size z0_)); have n1_ := Aside0.mk (below_step z0_ hb); clear HB; have HO295 := n0_; have HB := n1_; clear n0_ n1_; clear hb ho15; obtain ⟨Ao16, co16, eo16⟩ := Kd.R_slice HO295.out; subst eo16) | ((with_reducible refine gate_callee (f := 10) rfl ?_); refine goesL_ (some 7) rfl rfl Try.func10 (by kernel_rfl) rfl #[.slice Ao16 y293.length co16, .int .i64 2] rfl (by (try simp only [List.map_toArray, List.map_cons, List.map_nil]); first | done | rfl | (simp only [List.length_drop, List.length_take]; rfl) | (go_simp; simp [IntKind.wrap, IntKind.bits, IntKind.signed]; omega)) ?_; (with_reducible refine (ints_With.calls k _ _ y293 2 t296 t297 _ ?side1 ?side2 A1.out).mono ?_); (case side1 => repeat (first | exact (Kd.R_reads' HO295.out).2.2 | (with_reducible refine Kd.C_alloc ?_ _) | (with_reducible refine Kd.C_drewN ?_ _) | (with_reducible refine Kd.C_drew ?_))); (case side2 => exact (Kd.R_reads' HO295.out).2.1); rintro e w17 ⟨rfl, hb⟩; refine ⟨_, rfl, ?_⟩; have n0_ := Aside0.mk (Kd.R_below (by (with_reducible repeat (first | apply Kd.R_alloc | apply Kd.R_drewN | apply Kd.R_drew)); exact HO295.out) hb); have n1_ := Aside0.mk (below_step z0_ hb); clear HO295; clear HB; have HO295 := n0_; have HB := n1_; clear n0_ n1_; (try clear hb); (try clear hb2); (try clear hk); (try clear hi)) | ((with_reducible refine gate_callee (f := 12) rfl ?_); refine goesL_ (some 11) rfl rfl Try.func12 (by kernel_rfl) rfl #[.string (⟨#[2, 3, 3, 14]⟩ : ByteArray)] rfl (by (try simp only [List.map_toArray, List.map_cons, List.map_nil]); first | done | rfl | (simp only [List.length_drop, List.length_take]; rfl) | (go_simp; simp [IntKind.wrap, IntKind.bits, IntKind.signed]; omega)) ?_; (with_reducible refine (ints_Read.calls k (⟨#[2, 3, 3, 14]⟩ : ByteArray) t298 t299 _ A2.out).mono ?_); rintro e w18 ⟨v300, rfl, ho0, hb⟩; refine ⟨_, rfl, ?_⟩; have n0_ := Aside0.mk (Kd.R_elder' (by (with_reducible repeat (first | apply Kd.R_alloc | apply Kd.R_drewN | apply Kd.R_drew)); exact HO295.out) (Kd.R_base ho0) hb); have n1_ := Aside0.mk (Kd.R_lower (Kd.R_new' ho0 (Kd.R_lt (by (with_reducible repeat (first | apply Kd.R_alloc | apply Kd.R_drewN | apply Kd.R_drew)); exact HO295.out))) (below_size z0_)); have n2_ := Aside0.mk (below_step z0_ hb); clear HO295; clear HB; have HO295 := n0_; have HO301 := n1_; have HB := n2_; clear n0_ n1_ n2_; (try clear hb); (try clear hb2); (try clear hk); (try clear hi); (try clear ho0); obtain ⟨Ao19, co19, eo19⟩ := Kd.R_slice HO301.out; subst eo19))
     go_ret
     exact ⟨z5_, z0_⟩
   ·rw [if_neg c5] at H
    have c5b0 : (t299 == 0) = false := beq_eq_false_iff_ne.mpr c5
    have c5b1 : (t299 != 0) = true := bne_iff_ne.mpr c5
    obtain rfl := Option.some.inj H
    go_enter Try.func9, Try.ntmps9
    go_wp2_with (first | ((with_reducible refine gate_dst (N := 6) rfl ?_); (try (refine gate_guard (by rfl) ?_; dsimp only)); refine Kd.R_lit (Kd.int .i64) _ 2 ?hg (N := 6) ?hd (xs := ([7, 7, 7] : List Int)) (inner := [.int .i64 7, .int .i64 7, .int .i64 7]) (ok := fun _ => True) (okp := fun _ => True) ?hr ?hp (fun _ hk => hk) trivial (Below.refl _ _) (Nat.le_refl _) (by simp) ?_; (case hd => rfl); (case hg => rfl); (case hr => first | (go_simp; done) | (go_simp; rfl)); (case hp => exact (Reps.one (show Kd.M (Kd.int .i64) _ _ _ 7 [.int .i64 7] from rfl) (Reps.one (show Kd.M (Kd.int .i64) _ _ _ 7 [.int .i64 7] from rfl) (Reps.one (show Kd.M (Kd.int .i64) _ _ _ 7 [.int .i64 7] from rfl) (Reps.none _ _))))); intro v294 w20 ho21 hb hg_ hnew_; clear hg_ hnew_; (first | rw [← Ny293.out] at ho21 | (simp only [Int.reduceToNat] at ho21; rw [← Ny293.out] at ho21)); have n0_ := Aside0.mk (Kd.R_lower ho21 (below_size z0_)); have n1_ := Aside0.mk (below_step z0_ hb); clear HB; have HO295 := n0_; have HB := n1_; clear n0_ n1_; clear hb ho21; obtain ⟨Ao22, co22, eo22⟩ := Kd.R_slice HO295.out; subst eo22) | ((with_reducible refine gate_callee (f := 10) rfl ?_); refine goesL_ (some 7) rfl rfl Try.func10 (by kernel_rfl) rfl #[.slice Ao22 y293.length co22, .int .i64 2] rfl (by (try simp only [List.map_toArray, List.map_cons, List.map_nil]); first | done | rfl | (simp only [List.length_drop, List.length_take]; rfl) | (go_simp; simp [IntKind.wrap, IntKind.bits, IntKind.signed]; omega)) ?_; (with_reducible refine (ints_With.calls k _ _ y293 2 t296 t297 _ ?side1 ?side2 A1.out).mono ?_); (case side1 => repeat (first | exact (Kd.R_reads' HO295.out).2.2 | (with_reducible refine Kd.C_alloc ?_ _) | (with_reducible refine Kd.C_drewN ?_ _) | (with_reducible refine Kd.C_drew ?_))); (case side2 => exact (Kd.R_reads' HO295.out).2.1); rintro e w23 ⟨rfl, hb⟩; refine ⟨_, rfl, ?_⟩; have n0_ := Aside0.mk (Kd.R_below (by (with_reducible repeat (first | apply Kd.R_alloc | apply Kd.R_drewN | apply Kd.R_drew)); exact HO295.out) hb); have n1_ := Aside0.mk (below_step z0_ hb); clear HO295; clear HB; have HO295 := n0_; have HB := n1_; clear n0_ n1_; (try clear hb); (try clear hb2); (try clear hk); (try clear hi)) | ((with_reducible refine gate_callee (f := 12) rfl ?_); refine goesL_ (some 11) rfl rfl Try.func12 (by kernel_rfl) rfl #[.string (⟨#[2, 3, 3, 14]⟩ : ByteArray)] rfl (by (try simp only [List.map_toArray, List.map_cons, List.map_nil]); first | done | rfl | (simp only [List.length_drop, List.length_take]; rfl) | (go_simp; simp [IntKind.wrap, IntKind.bits, IntKind.signed]; omega)) ?_; (with_reducible refine (ints_Read.calls k (⟨#[2, 3, 3, 14]⟩ : ByteArray) t298 t299 _ A2.out).mono ?_); rintro e w24 ⟨v300, rfl, ho0, hb⟩; refine ⟨_, rfl, ?_⟩; have n0_ := Aside0.mk (Kd.R_elder' (by (with_reducible repeat (first | apply Kd.R_alloc | apply Kd.R_drewN | apply Kd.R_drew)); exact HO295.out) (Kd.R_base ho0) hb); have n1_ := Aside0.mk (Kd.R_lower (Kd.R_new' ho0 (Kd.R_lt (by (with_reducible repeat (first | apply Kd.R_alloc | apply Kd.R_drewN | apply Kd.R_drew)); exact HO295.out))) (below_size z0_)); have n2_ := Aside0.mk (below_step z0_ hb); clear HO295; clear HB; have HO295 := n0_; have HO301 := n1_; have HB := n2_; clear n0_ n1_ n2_; (try clear hb); (try clear hb2); (try clear hk); (try clear hi); (try clear ho0)))
    go_ret
    exact ⟨z5_, z0_⟩
  ·rw [if_neg c4] at H
   have c4b0 : (t296.toList == ([2, 3, 3, 14] : List UInt8)) = false := beq_eq_false_iff_ne.mpr c4
   have c4b1 : (t296.toList != ([2, 3, 3, 14] : List UInt8)) = true := bne_iff_ne.mpr c4
   obtain rfl := Option.some.inj H
   go_enter Try.func9, Try.ntmps9
   go_wp2_with (first | ((with_reducible refine gate_dst (N := 6) rfl ?_); (try (refine gate_guard (by rfl) ?_; dsimp only)); refine Kd.R_lit (Kd.int .i64) _ 2 ?hg (N := 6) ?hd (xs := ([7, 7, 7] : List Int)) (inner := [.int .i64 7, .int .i64 7, .int .i64 7]) (ok := fun _ => True) (okp := fun _ => True) ?hr ?hp (fun _ hk => hk) trivial (Below.refl _ _) (Nat.le_refl _) (by simp) ?_; (case hd => rfl); (case hg => rfl); (case hr => first | (go_simp; done) | (go_simp; rfl)); (case hp => exact (Reps.one (show Kd.M (Kd.int .i64) _ _ _ 7 [.int .i64 7] from rfl) (Reps.one (show Kd.M (Kd.int .i64) _ _ _ 7 [.int .i64 7] from rfl) (Reps.one (show Kd.M (Kd.int .i64) _ _ _ 7 [.int .i64 7] from rfl) (Reps.none _ _))))); intro v294 w25 ho26 hb hg_ hnew_; clear hg_ hnew_; (first | rw [← Ny293.out] at ho26 | (simp only [Int.reduceToNat] at ho26; rw [← Ny293.out] at ho26)); have n0_ := Aside0.mk (Kd.R_lower ho26 (below_size z0_)); have n1_ := Aside0.mk (below_step z0_ hb); clear HB; have HO295 := n0_; have HB := n1_; clear n0_ n1_; clear hb ho26; obtain ⟨Ao27, co27, eo27⟩ := Kd.R_slice HO295.out; subst eo27) | ((with_reducible refine gate_callee (f := 10) rfl ?_); refine goesL_ (some 7) rfl rfl Try.func10 (by kernel_rfl) rfl #[.slice Ao27 y293.length co27, .int .i64 2] rfl (by (try simp only [List.map_toArray, List.map_cons, List.map_nil]); first | done | rfl | (simp only [List.length_drop, List.length_take]; rfl) | (go_simp; simp [IntKind.wrap, IntKind.bits, IntKind.signed]; omega)) ?_; (with_reducible refine (ints_With.calls k _ _ y293 2 t296 t297 _ ?side1 ?side2 A1.out).mono ?_); (case side1 => repeat (first | exact (Kd.R_reads' HO295.out).2.2 | (with_reducible refine Kd.C_alloc ?_ _) | (with_reducible refine Kd.C_drewN ?_ _) | (with_reducible refine Kd.C_drew ?_))); (case side2 => exact (Kd.R_reads' HO295.out).2.1); rintro e w28 ⟨rfl, hb⟩; refine ⟨_, rfl, ?_⟩; have n0_ := Aside0.mk (Kd.R_below (by (with_reducible repeat (first | apply Kd.R_alloc | apply Kd.R_drewN | apply Kd.R_drew)); exact HO295.out) hb); have n1_ := Aside0.mk (below_step z0_ hb); clear HO295; clear HB; have HO295 := n0_; have HB := n1_; clear n0_ n1_; (try clear hb); (try clear hb2); (try clear hk); (try clear hi)) | ((with_reducible refine gate_callee (f := 12) rfl ?_); refine goesL_ (some 11) rfl rfl Try.func12 (by kernel_rfl) rfl #[.string (⟨#[2, 3, 3, 14]⟩ : ByteArray)] rfl (by (try simp only [List.map_toArray, List.map_cons, List.map_nil]); first | done | rfl | (simp only [List.length_drop, List.length_take]; rfl) | (go_simp; simp [IntKind.wrap, IntKind.bits, IntKind.signed]; omega)) ?_; (with_reducible refine (ints_Read.calls k (⟨#[2, 3, 3, 14]⟩ : ByteArray) t298 t299 _ A2.out).mono ?_); rintro e w29 ⟨v300, rfl, ho0, hb⟩; refine ⟨_, rfl, ?_⟩; have n0_ := Aside0.mk (Kd.R_elder' (by (with_reducible repeat (first | apply Kd.R_alloc | apply Kd.R_drewN | apply Kd.R_drew)); exact HO295.out) (Kd.R_base ho0) hb); have n1_ := Aside0.mk (Kd.R_lower (Kd.R_new' ho0 (Kd.R_lt (by (with_reducible repeat (first | apply Kd.R_alloc | apply Kd.R_drewN | apply Kd.R_drew)); exact HO295.out))) (below_size z0_)); have n2_ := Aside0.mk (below_step z0_ hb); clear HO295; clear HB; have HO295 := n0_; have HO301 := n1_; have HB := n2_; clear n0_ n1_ n2_; (try clear hb); (try clear hb2); (try clear hk); (try clear hi); (try clear ho0)))
   go_ret
   exact ⟨z5_, z0_⟩
 ·rw [if_neg c3] at H
  have c3b0 : (t297 == 0) = false := beq_eq_false_iff_ne.mpr c3
  have c3b1 : (t297 != 0) = true := bne_iff_ne.mpr c3
  obtain rfl := Option.some.inj H
  go_enter Try.func9, Try.ntmps9
  go_wp2_with (first | ((with_reducible refine gate_dst (N := 6) rfl ?_); (try (refine gate_guard (by rfl) ?_; dsimp only)); refine Kd.R_lit (Kd.int .i64) _ 2 ?hg (N := 6) ?hd (xs := ([7, 7, 7] : List Int)) (inner := [.int .i64 7, .int .i64 7, .int .i64 7]) (ok := fun _ => True) (okp := fun _ => True) ?hr ?hp (fun _ hk => hk) trivial (Below.refl _ _) (Nat.le_refl _) (by simp) ?_; (case hd => rfl); (case hg => rfl); (case hr => first | (go_simp; done) | (go_simp; rfl)); (case hp => exact (Reps.one (show Kd.M (Kd.int .i64) _ _ _ 7 [.int .i64 7] from rfl) (Reps.one (show Kd.M (Kd.int .i64) _ _ _ 7 [.int .i64 7] from rfl) (Reps.one (show Kd.M (Kd.int .i64) _ _ _ 7 [.int .i64 7] from rfl) (Reps.none _ _))))); intro v294 w30 ho31 hb hg_ hnew_; clear hg_ hnew_; (first | rw [← Ny293.out] at ho31 | (simp only [Int.reduceToNat] at ho31; rw [← Ny293.out] at ho31)); have n0_ := Aside0.mk (Kd.R_lower ho31 (below_size z0_)); have n1_ := Aside0.mk (below_step z0_ hb); clear HB; have HO295 := n0_; have HB := n1_; clear n0_ n1_; clear hb ho31; obtain ⟨Ao32, co32, eo32⟩ := Kd.R_slice HO295.out; subst eo32) | ((with_reducible refine gate_callee (f := 10) rfl ?_); refine goesL_ (some 7) rfl rfl Try.func10 (by kernel_rfl) rfl #[.slice Ao32 y293.length co32, .int .i64 2] rfl (by (try simp only [List.map_toArray, List.map_cons, List.map_nil]); first | done | rfl | (simp only [List.length_drop, List.length_take]; rfl) | (go_simp; simp [IntKind.wrap, IntKind.bits, IntKind.signed]; omega)) ?_; (with_reducible refine (ints_With.calls k _ _ y293 2 t296 t297 _ ?side1 ?side2 A1.out).mono ?_); (case side1 => repeat (first | exact (Kd.R_reads' HO295.out).2.2 | (with_reducible refine Kd.C_alloc ?_ _) | (with_reducible refine Kd.C_drewN ?_ _) | (with_reducible refine Kd.C_drew ?_))); (case side2 => exact (Kd.R_reads' HO295.out).2.1); rintro e w33 ⟨rfl, hb⟩; refine ⟨_, rfl, ?_⟩; have n0_ := Aside0.mk (Kd.R_below (by (with_reducible repeat (first | apply Kd.R_alloc | apply Kd.R_drewN | apply Kd.R_drew)); exact HO295.out) hb); have n1_ := Aside0.mk (below_step z0_ hb); clear HO295; clear HB; have HO295 := n0_; have HB := n1_; clear n0_ n1_; (try clear hb); (try clear hb2); (try clear hk); (try clear hi)) | ((with_reducible refine gate_callee (f := 12) rfl ?_); refine goesL_ (some 11) rfl rfl Try.func12 (by kernel_rfl) rfl #[.string (⟨#[2, 3, 3, 14]⟩ : ByteArray)] rfl (by (try simp only [List.map_toArray, List.map_cons, List.map_nil]); first | done | rfl | (simp only [List.length_drop, List.length_take]; rfl) | (go_simp; simp [IntKind.wrap, IntKind.bits, IntKind.signed]; omega)) ?_; (with_reducible refine (ints_Read.calls k (⟨#[2, 3, 3, 14]⟩ : ByteArray) t298 t299 _ A2.out).mono ?_); rintro e w34 ⟨v300, rfl, ho0, hb⟩; refine ⟨_, rfl, ?_⟩; have n0_ := Aside0.mk (Kd.R_elder' (by (with_reducible repeat (first | apply Kd.R_alloc | apply Kd.R_drewN | apply Kd.R_drew)); exact HO295.out) (Kd.R_base ho0) hb); have n1_ := Aside0.mk (Kd.R_lower (Kd.R_new' ho0 (Kd.R_lt (by (with_reducible repeat (first | apply Kd.R_alloc | apply Kd.R_drewN | apply Kd.R_drew)); exact HO295.out))) (below_size z0_)); have n2_ := Aside0.mk (below_step z0_ hb); clear HO295; clear HB; have HO295 := n0_; have HO301 := n1_; have HB := n2_; clear n0_ n1_ n2_; (try clear hb); (try clear hb2); (try clear hk); (try clear hi); (try clear ho0)))
  go_ret
  exact ⟨z5_, z0_⟩
end Go.Proofs.Ytgeddoklmcjdcaa.G
namespace Go.Proofs.Ytgeddoklmcjdcaa.G
open Go.RowKit Go.Proofs.YtgeddoklmcjdcaaQ Go.Proofs.YtgeddoklmcjdcaaW.PrintWords Go.Proofs.YtgeddoklmcjdcaaW.PrintLast Go.Proofs.YtgeddoklmcjdcaaW.PrintMore
attribute [local go_sem] max2_int min2_int max_two min_two max_three min_three max_four min_four   -- for this text's walks alone
set_option linter.unusedVariables false
set_option linter.unusedSimpArgs false
def ints_Best.rest (k : Nat) (l0 : List Int) : Nat → Nat → ByteArray → Option ByteArray
 | 0, _, b => some b
 | n + 1, i, b => (ints_With.f k l0 (i : Int)).bind fun t => ints_Best.rest k l0 n (i + 1) (if t.1.size < b.size then t.1 else b)
def ints_Best.f (k : Nat) (l0 : List Int) : Option (ByteArray × Int) := (ints_With.f k l0 0).bind fun t => if t.2 = 0 then (ints_Best.rest k l0 3 1 t.1).bind fun r => some (r, 0) else some (t.1, t.2)
theorem ints_Best.rest_mono (k : Nat) (l0 : List Int) : ∀ n i b, LeO (ints_Best.rest k l0 n i b) (ints_Best.rest (k + 1) l0 n i b) := by
 intro n
 induction n with
 | zero => intro i b; exact LeO.refl _
 | succ n ih => intro i b; exact LeO.bind (ints_With.mono _ _ k) (fun _ => ih _ _)
theorem ints_Best.mono : ∀ a0 k, LeO (ints_Best.f k a0) (ints_Best.f (k + 1) a0) := by
 intro a0 k
 unfold ints_Best.f
 exact LeO.bind (ints_With.mono _ _ k) (fun _ => LeO.ite (LeO.bind (ints_Best.rest_mono k _ _ _ _) (fun _ => LeO.refl _)) (LeO.refl _))
set_option maxHeartbeats 4000000 in
set_option maxRecDepth 100000 in
theorem ints_Best.no (k : Nat) (A0 : Option Addr) (c0 : Nat) (l0 : List Int) (s : ByteArray) (e0 : Int) (w : World) (hr0 : Kd.C (Kd.int .i64) w A0 l0.length l0) (hc0 : l0.length ≤ c0) (h0 : ints_With.f k l0 0 = some (s, e0)) (he : e0 ≠ 0) :
  Calls Try.prog 15 #[.slice A0 l0.length c0] w fun e w' => e = .returned (.tuple #[.string s, .int .i64 e0]) ∧ Below w.heap.size w w' := by
 have d1 : (e0 == 0) = false := beq_eq_false_iff_ne.mpr he
 have HR := Aside0.mk hr0; have HC := Aside0.mk hc0; have H0 := Aside0.mk h0; have HE := Aside0.mk he
 clear hr0 hc0 h0 he
 go_enter Try.func15, Try.ntmps15
 go_wp2_with fail
 refine (ints_With.calls k A0 c0 l0 0 s e0 _ HR.out HC.out H0.out).mono ?_; rintro e w1 ⟨rfl, hb⟩
 have HB := Aside0.mk hb; clear hb
 go_wp2
 go_loopg [4, 6] 0 (fun gq s4 s6 wx => s4 = .string s ∧ s6 = .int .i64 1 ∧ Aside0 (Below w.heap.size w wx))
 case atStart => exact ⟨rfl, rfl, HB⟩
 case round =>
  clear HB
  obtain ⟨rfl, rfl, HB⟩ := hrel
  go_wp2_with fail
  refine (ints_With.codecs _).mono ?_; rintro e w2 ⟨b, rfl, ht, hle, hb⟩
  have HB2 := Aside0.mk (below_then HB.out HB.out.size hb); clear hb hle ht HB
  go_wp2
  go_ret2
  exact ⟨rfl, HB2.out⟩
set_option maxHeartbeats 4000000 in
set_option maxRecDepth 100000 in
theorem ints_Best.yes (k : Nat) (A0 : Option Addr) (c0 : Nat) (l0 : List Int) (s r : ByteArray) (w : World) (hr0 : Kd.C (Kd.int .i64) w A0 l0.length l0) (hc0 : l0.length ≤ c0) (h0 : ints_With.f k l0 0 = some (s, 0)) (h1 : ints_Best.rest k l0 3 1 s = some r) :
  Calls Try.prog 15 #[.slice A0 l0.length c0] w fun e w' => e = .returned (.tuple #[.string r, .int .i64 0]) ∧ Below w.heap.size w w' := by
 have HR := Aside0.mk hr0; have HC := Aside0.mk hc0; have H0 := Aside0.mk h0; have H1 := Aside0.mk h1
 clear hr0 hc0 h0 h1
 go_enter Try.func15, Try.ntmps15
 go_wp2_with fail
 refine (ints_With.calls k A0 c0 l0 0 s 0 _ HR.out HC.out H0.out).mono ?_; rintro e w1 ⟨rfl, hb⟩
 have HB := Aside0.mk hb; clear hb
 go_wp2
 go_loopg [4, 6] 3 (fun gq s4 s6 wx => ∃ (i : Nat) (b : ByteArray), 1 ≤ i ∧ i ≤ 4 ∧ gq = 4 - i ∧ s4 = .string b ∧ s6 = .int .i64 (i : Int) ∧ Aside0 (ints_Best.rest k l0 (4 - i) i b = some r) ∧ Aside0 (Below w.heap.size w wx))
 case atStart => exact ⟨1, s, by omega, by omega, rfl, rfl, rfl, H1, HB⟩
 case round =>
  clear HB H1 H0
  obtain ⟨i, b, hi1, hi4, rfl, rfl, rfl, H1, HB⟩ := hrel
  by_cases hlt : i < 4
  ·have k1 : decide ((i : Int) < 4) = true := decide_eq_true (by omega)
   have k2 : decide (i < 4) = true := decide_eq_true hlt
   have b1 : (1 : Int) ≤ (i : Int) := by omega
   have b2 : (i : Int) < 4 := by omega
   have h1 := H1.out
   rw [show 4 - i = (4 - (i + 1)) + 1 by omega, ints_Best.rest] at h1
   obtain ⟨⟨t, et⟩, hw, h1⟩ := Option.bind_eq_some_iff.mp h1
   have HW := Aside0.mk hw; have HI := Aside0.mk hlt; have HI1 := Aside0.mk hi1
   clear hw H1 hlt hi4 hi1
   go_wp2_with fail
   refine (ints_With.codecs _).mono ?_; rintro e w2 ⟨bb, rfl, ht, hle, hb⟩
   have HB2 := Aside0.mk (below_then HB.out HB.out.size hb); clear hb hle ht HB
   go_wp2_with fail
   refine (ints_With.calls k A0 c0 l0 (i : Int) t et _ (Kd.C_below HR.out HB2.out) HC.out HW.out).mono ?_; rintro e w3 ⟨rfl, hb⟩
   have HB3 := Aside0.mk (below_then HB2.out HB2.out.size hb); clear hb HB2
   by_cases c : t.size < b.size
   ·have k3 : decide ((t.size : Int) < (b.size : Int)) = true := decide_eq_true (by omega)
    have k4 : decide (t.size < b.size) = true := decide_eq_true c
    have h2 : ints_Best.rest k l0 (4 - (i + 1)) (i + 1) t = some r := by simpa only [if_pos c] using h1
    have H2 := Aside0.mk h2; clear h1 h2 c
    go_wp2
    go_roundg (4 - (i + 1))
    case measure => have := HI.out; omega
    case rel => exact ⟨i + 1, t, by omega, by have := HI.out; omega, rfl, rfl, by go_num, H2, HB3⟩
   ·have k3 : decide ((t.size : Int) < (b.size : Int)) = false := decide_eq_false (by omega)
    have k4 : decide (t.size < b.size) = false := decide_eq_false c
    have h2 : ints_Best.rest k l0 (4 - (i + 1)) (i + 1) b = some r := by simpa only [if_neg c] using h1
    have H2 := Aside0.mk h2; clear h1 h2 c
    go_wp2
    go_roundg (4 - (i + 1))
    case measure => have := HI.out; omega
    case rel => exact ⟨i + 1, b, by omega, by have := HI.out; omega, rfl, rfl, by go_num, H2, HB3⟩
  ·obtain rfl : i = 4 := by omega
   obtain rfl : b = r := Option.some.inj H1.out
   have k1 : decide (((4 : Nat) : Int) < 4) = false := decide_eq_false (by omega)
   clear hlt hi1 hi4
   go_wp2_with fail
   refine (ints_With.codecs _).mono ?_; rintro e w2 ⟨bb, rfl, ht, hle, hb⟩
   have HB2 := Aside0.mk (below_then HB.out HB.out.size hb); clear hb hle ht HB
   go_wp2
   go_ret2
   exact ⟨rfl, HB2.out⟩
theorem ints_Best.calls (k : Nat) (A0 : Option Addr) (c0 : Nat) (l0 : List Int) (r1 : ByteArray) (r2 : Int) (w : World) (hr0 : Kd.C (Kd.int .i64) w A0 l0.length l0) (hc0 : l0.length ≤ c0) (h : ints_Best.f k l0 = some (r1, r2)) :
  Calls Try.prog 15 #[.slice A0 l0.length c0] w fun e w' => e = .returned (.tuple #[.string r1, .int .i64 r2]) ∧ Below w.heap.size w w' := by
 unfold ints_Best.f at h
 obtain ⟨⟨s, e0⟩, h0, h⟩ := Option.bind_eq_some_iff.mp h
 by_cases c : e0 = 0
 ·subst c
  rw [if_pos rfl] at h
  obtain ⟨r, h1, h⟩ := Option.bind_eq_some_iff.mp h
  injection h with h; injection h with h2 h3; subst h2 h3
  exact ints_Best.yes k A0 c0 l0 s r w hr0 hc0 h0 h1
 ·rw [if_neg c] at h
  injection h with h; injection h with h2 h3; subst h2 h3
  exact ints_Best.no k A0 c0 l0 s e0 w hr0 hc0 h0 c
end Go.Proofs.Ytgeddoklmcjdcaa.G
namespace Go.Proofs.Ytgeddoklmcjdcaa.G
open Go.RowKit Go.Proofs.YtgeddoklmcjdcaaQ Go.Proofs.YtgeddoklmcjdcaaW.PrintWords Go.Proofs.YtgeddoklmcjdcaaW.PrintLast Go.Proofs.YtgeddoklmcjdcaaW.PrintMore
attribute [local go_sem] max2_int min2_int max_two min_two max_three min_three max_four min_four   -- for this text's walks alone
set_option linter.unusedVariables false
set_option linter.unusedSimpArgs false
mutual
def tithebarnref01_Uint.j0 : Nat → Int → Int → Int → Option (ByteArray)
 | 0, _, _, _ => none
 | k + 1, x0, x3, x4 => tithebarnref01_Uint.l0 k x0 x3 x4 ([] : List Int) (wrap64 (x3 - 1))
def tithebarnref01_Uint.l0 : Nat → Int → Int → Int → List Int → Int → Option (ByteArray)
 | 0, _, _, _, _, _ => none
 | k + 1, x0, x3, x4, x5, x6 => if x6 ≥ 0 then (if x6 < 8 then (if 0 ≤ (IntKind.u64.wrap (wrap64 (8 * x6))) then (if x6 = (wrap64 (x3 - 1)) then (if x5.length < 140737488355328 then (tithebarnref01_Uint.l0 k x0 x3 x4 (x5 ++ [((shr .u64 x0 (IntKind.u64.wrap (wrap64 (8 * x6)))) + x4) % 256]) (wrap64 (x6 - 1))) else (none)) else (if x5.length < 140737488355328 then (tithebarnref01_Uint.l0 k x0 x3 x4 (x5 ++ [(shr .u64 x0 (IntKind.u64.wrap (wrap64 (8 * x6)))) % 256]) (wrap64 (x6 - 1))) else (none))) else (none)) else (if x6 = (wrap64 (x3 - 1)) then (if x5.length < 140737488355328 then (tithebarnref01_Uint.l0 k x0 x3 x4 (x5 ++ [(x4) % 256]) (wrap64 (x6 - 1))) else (none)) else (if x5.length < 140737488355328 then (tithebarnref01_Uint.l0 k x0 x3 x4 (x5 ++ [0]) (wrap64 (x6 - 1))) else (none)))) else (some (strOfNums x5))
end
def tithebarnref01_Uint.f (k : Nat) (a0 : Int) : Option (ByteArray) := if a0 < 64 then (tithebarnref01_Uint.j0 k a0 1 0) else (if a0 < 16384 then (tithebarnref01_Uint.j0 k a0 2 64) else (if a0 < 1073741824 then (tithebarnref01_Uint.j0 k a0 4 128) else (tithebarnref01_Uint.j0 k a0 9 192)))
theorem tithebarnref01_Uint.mono_l : ∀ k, (∀ y0 y1 y2, LeO (tithebarnref01_Uint.j0 k y0 y1 y2) (tithebarnref01_Uint.j0 (k + 1) y0 y1 y2)) ∧ (∀ y0 y1 y2 y3 y4, LeO (tithebarnref01_Uint.l0 k y0 y1 y2 y3 y4) (tithebarnref01_Uint.l0 (k + 1) y0 y1 y2 y3 y4))
 | 0 => ⟨fun _ _ _ r h => by simp [tithebarnref01_Uint.j0] at h, fun _ _ _ _ _ r h => by simp [tithebarnref01_Uint.l0] at h⟩
 | k + 1 => by
  obtain ⟨ih0, ih1⟩ := tithebarnref01_Uint.mono_l k
  refine ⟨?_, ?_⟩
  ·intro y0 y1 y2
   unfold tithebarnref01_Uint.j0
   repeat' first
   | (with_reducible exact ih0 _ _ _)
   | (with_reducible exact ih1 _ _ _ _ _)
   | (with_reducible exact LeO.refl _)
   | (with_reducible exact LeO.none _)
   | (with_reducible refine LeO.ite ?_ ?_)
   | (with_reducible refine LeO.bind ?_ (fun _ => ?_))
   | exact ih0 _ _ _
   | exact ih1 _ _ _ _ _
   | exact LeO.none _
   | refine LeO.ite ?_ ?_
   | refine LeO.bind ?_ (fun _ => ?_)
  ·intro y0 y1 y2 y3 y4
   unfold tithebarnref01_Uint.l0
   repeat' first
   | (with_reducible exact ih0 _ _ _)
   | (with_reducible exact ih1 _ _ _ _ _)
   | (with_reducible exact LeO.refl _)
   | (with_reducible exact LeO.none _)
   | (with_reducible refine LeO.ite ?_ ?_)
   | (with_reducible refine LeO.bind ?_ (fun _ => ?_))
   | exact ih0 _ _ _
   | exact ih1 _ _ _ _ _
   | exact LeO.none _
   | refine LeO.ite ?_ ?_
   | refine LeO.bind ?_ (fun _ => ?_)
theorem tithebarnref01_Uint.mono : ∀ a0 k, LeO (tithebarnref01_Uint.f k a0) (tithebarnref01_Uint.f (k + 1) a0) := by
 intro a0 k
 obtain ⟨ih0, ih1⟩ := tithebarnref01_Uint.mono_l k
 unfold tithebarnref01_Uint.f
 repeat' first
   | (with_reducible exact ih0 _ _ _)
   | (with_reducible exact ih1 _ _ _ _ _)
   | (with_reducible exact LeO.refl _)
   | (with_reducible exact LeO.none _)
   | (with_reducible refine LeO.ite ?_ ?_)
   | (with_reducible refine LeO.bind ?_ (fun _ => ?_))
   | exact ih0 _ _ _
   | exact ih1 _ _ _ _ _
   | exact LeO.none _
   | refine LeO.ite ?_ ?_
   | refine LeO.bind ?_ (fun _ => ?_)
set_option maxHeartbeats 8000000 in
set_option maxRecDepth 100000 in
theorem tithebarnref01_Uint.calls (k : Nat) (a0 : Int) (r : ByteArray) (w : World) (h : tithebarnref01_Uint.f k a0 = some r) :
  Calls Try.prog 19 #[.int .u64 a0] w fun e w' => e = .returned (.string r) ∧ Below w.heap.size w w' := by
 have HB := Aside0.mk (Below.refl w.heap.size w)
 have H : (if a0 < 64 then (tithebarnref01_Uint.j0 k a0 1 0) else (if a0 < 16384 then (tithebarnref01_Uint.j0 k a0 2 64) else (if a0 < 1073741824 then (tithebarnref01_Uint.j0 k a0 4 128) else (tithebarnref01_Uint.j0 k a0 9 192)))) = some r := h
 clear h
 have HC2 := Aside0.mk H
 clear H
 go_enter Try.func19, Try.ntmps19
 go_upto_block 0 with (fail)
 go_cut [3, 4] (fun v3 v4 wc => ∃ (kq : Nat) (x3_1 : Int) (x4_1 : Int), v3 = .int .i64 x3_1 ∧ v4 = .int .u64 x4_1 ∧ Aside0 (tithebarnref01_Uint.j0 kq a0 x3_1 x4_1 = some r) ∧ Aside0 (kq ≤ k) ∧ Aside0 (Below w.heap.size w wc))
 case first =>
  have H := HC2.out
  clear HC2
  by_cases c3 : a0 < 64
  ·rw [if_pos c3] at H
   have c3b0 : decide (a0 < 64) = true := decide_eq_true c3
   clear c3
   (first | rw [c3b0] | (simp only [i64_w, i32_w]; rw [c3b0]) | skip)
   have H' := Aside0.mk H
   clear H
   go_wp2
   go_meet
   case rel => exact ⟨_, (1), (0), z6_, z6_, H', ⟨by first | omega | exact Nat.le_refl _⟩, ⟨z0_⟩⟩
  ·rw [if_neg c3] at H
   have c3b0 : decide (a0 < 64) = false := decide_eq_false c3
   clear c3
   (first | rw [c3b0] | (simp only [i64_w, i32_w]; rw [c3b0]) | skip)
   by_cases c4 : a0 < 16384
   ·rw [if_pos c4] at H
    have c4b0 : decide (a0 < 16384) = true := decide_eq_true c4
    clear c4
    have H' := Aside0.mk H
    clear H
    go_wp2
    go_meet
    case rel => exact ⟨_, (2), (64), z6_, z6_, H', ⟨by first | omega | exact Nat.le_refl _⟩, ⟨z0_⟩⟩
   ·rw [if_neg c4] at H
    have c4b0 : decide (a0 < 16384) = false := decide_eq_false c4
    clear c4
    by_cases c5 : a0 < 1073741824
    ·rw [if_pos c5] at H
     have c5b0 : decide (a0 < 1073741824) = true := decide_eq_true c5
     clear c5
     have H' := Aside0.mk H
     clear H
     go_wp2
     go_meet
     case rel => exact ⟨_, (4), (128), z6_, z6_, H', ⟨by first | omega | exact Nat.le_refl _⟩, ⟨z0_⟩⟩
    ·rw [if_neg c5] at H
     have c5b0 : decide (a0 < 1073741824) = false := decide_eq_false c5
     clear c5
     have H' := Aside0.mk H
     clear H
     go_wp2
     go_meet
     case rel => exact ⟨_, (9), (192), z6_, z6_, H', ⟨by first | omega | exact Nat.le_refl _⟩, ⟨z0_⟩⟩
 case rest =>
  clear HC2
  try clear c1
  try clear p2
  try clear c3
  try clear c3b0
  try clear c4
  try clear c4b0
  try clear c5
  try clear c5b0
  obtain ⟨kq, x3_1, x4_1, rfl, rfl, HA, HJ1, HB⟩ := hcut
  cases kq with
  | zero => exact absurd HA.out (by simp [tithebarnref01_Uint.j0])
  | succ kj1 =>
   have H := HA.out
   clear HA
   simp only [tithebarnref01_Uint.j0] at H
   have H' := Aside0.mk H
   clear H
   go_wp2
   go_loopg [5, 6] kj1 (fun kq v5 v6 w' => ∃ (x5_2 : List Int) (x6_2 : Int), v6 = .int .i64 x6_2 ∧ Aside0 (tithebarnref01_Uint.l0 kq a0 x3_1 x4_1 x5_2 x6_2 = some r) ∧ Aside0 (kq ≤ kj1) ∧ Aside0 (Kd.R (Kd.int .u8) 5 w' w.heap.size (fun _ => True) v5 x5_2) ∧ Aside0 (Below w.heap.size w w'))
   case atStart => exact ⟨(([] : List Int)), (wrap64 (x3_1 - 1)), z6_, H', ⟨Nat.le_refl _⟩, ⟨z8_⟩, ⟨z0_⟩⟩
   case round =>
    clear H'
    try clear c1
    try clear p2
    try clear c3
    try clear c3b0
    try clear c4
    try clear c4b0
    try clear c5
    try clear c5b0
    try clear p2
    obtain ⟨x5_2, x6_2, rfl, HA, HK2, HO_5, HB⟩ := hrel
    cases gk with
    | zero => exact absurd HA.out (by simp [tithebarnref01_Uint.l0])
    | succ k2 =>
     have H := HA.out
     clear HA
     simp only [tithebarnref01_Uint.l0] at H
     by_cases c6 : x6_2 ≥ 0
     ·rw [if_pos c6] at H
      have c6b0 : decide (0 ≤ x6_2) = true := decide_eq_true c6
      clear c6
      by_cases c7 : x6_2 < 8
      ·rw [if_pos c7] at H
       have c7b0 : decide (x6_2 < 8) = true := decide_eq_true c7
       clear c7
       obtain ⟨ji8, hji8⟩ : ∃ j_ : Int, (IntKind.u64.wrap (wrap64 (8 * x6_2))) = j_ := ⟨_, rfl⟩
       replace H : (if 0 ≤ (ji8) then (if x6_2 = (wrap64 (x3_1 - 1)) then (if x5_2.length < 140737488355328 then (tithebarnref01_Uint.l0 k2 a0 x3_1 x4_1 (x5_2 ++ [((shr .u64 a0 (ji8)) + x4_1) % 256]) (wrap64 (x6_2 - 1))) else (none)) else (if x5_2.length < 140737488355328 then (tithebarnref01_Uint.l0 k2 a0 x3_1 x4_1 (x5_2 ++ [(shr .u64 a0 (ji8)) % 256]) (wrap64 (x6_2 - 1))) else (none))) else (none)) = some r := by first | (rw [hji8] at H; exact H) | (simp only [hji8] at H ⊢; exact H)
       by_cases c9 : 0 ≤ (ji8)
       ·rw [if_pos c9] at H
        have c9b0 := eq_true c9
        have c9b1 : decide (0 ≤ (ji8)) = true := decide_eq_true c9
        clear c9
        obtain ⟨ji10, hji10⟩ : ∃ j_ : Int, (shr .u64 a0 (ji8)) = j_ := ⟨_, rfl⟩
        replace H : (if x6_2 = (wrap64 (x3_1 - 1)) then (if x5_2.length < 140737488355328 then (tithebarnref01_Uint.l0 k2 a0 x3_1 x4_1 (x5_2 ++ [((ji10) + x4_1) % 256]) (wrap64 (x6_2 - 1))) else (none)) else (if x5_2.length < 140737488355328 then (tithebarnref01_Uint.l0 k2 a0 x3_1 x4_1 (x5_2 ++ [(ji10) % 256]) (wrap64 (x6_2 - 1))) else (none))) = some r := by first | (rw [hji10] at H; exact H) | (simp only [hji10] at H ⊢; exact H)
        have hji10_ : (a0 / 2 ^ min (ji8).toNat 64) = ji10 := hji10
        have hji10z : (ji8) ≤ 64 → (a0 / 2 ^ (ji8).toNat) = ji10 := shr_small hji10
        by_cases c11 : x6_2 = (wrap64 (x3_1 - 1))
        ·rw [if_pos c11] at H
         have c11b0 : (x6_2 == (wrap64 (x3_1 - 1))) = true := beq_iff_eq.mpr c11
         have c11b1 : (x6_2 != (wrap64 (x3_1 - 1))) = false := bne_eq_false_iff_eq.mpr c11
         clear c11
         by_cases c12 : x5_2.length < 140737488355328
         ·rw [if_pos c12] at H
          have LMc12 := Aside0.mk c12
          clear c12
          obtain ⟨y303, hy303⟩ : ∃ y_ : List Int, y_ = (x5_2 ++ [((ji10) + x4_1) % 256]) := ⟨_, rfl⟩
          replace H : (tithebarnref01_Uint.l0 k2 a0 x3_1 x4_1 y303 (wrap64 (x6_2 - 1))) = some r := by first | (rw [hy303]; with_reducible exact H) | (have H2_ := (Option.bind_some _ _).symm.trans H; rw [hy303]; with_reducible exact H2_) | (have H2_ := (Option.bind_some _ _).symm.trans H; with_reducible exact H2_) | with_reducible exact H | (rw [hy303]; exact H) | exact H
          have Ny303 := Aside0.mk hy303
          clear hy303
          have H' := Aside0.mk H
          clear H
          go_wp2_with (first | ((with_reducible refine gate_builtin (b := .append) (xs := #[.tmp 39, .tmp 41]) rfl ?_); at_builtin; refine Kd.R_append (Kd.int .u8) (w0 := w) w.heap.size rfl (.tmp 39) (.tmp 41) 38 5 (.int .u8 0) 1 rfl Try.underlying38 info5 rfl (by decide) (by omega) u5 x5_2 (((ji10) + x4_1) % 256) [.int .u8 (((ji10) + x4_1) % 256)] (fun _ => True) (fun _ => False) rfl rfl ?aP (fun _ hk => hk.elim) ?aF ?aO ?aB ?aS ?aL ?_; (case aP => exact rfl); (case aB => exact z0_); (case aF => exact (fun _ _ => trivial)); (case aO => exact (by (with_reducible repeat (first | apply Kd.R_alloc | apply Kd.R_drewN | apply Kd.R_drew)); exact HO_5.out)); (case aS => exact (below_size z0_)); (case aL => have := LMc12.out; omega); intro v304 w13 ho hb hg hat; rw [← Ny303.out] at ho; have n0_ := Aside0.mk (hb); have n1_ := Aside0.mk (ho); clear HB; clear HO_5; have HB := n0_; have HO305 := n1_; clear n0_ n1_; clear ho hb hg hat))
          go_roundg k2
          case measure => have := HJ1.out; have := HK2.out; omega
          case rel => exact ⟨(y303), (wrap64 (x6_2 - 1)), z6_, H', ⟨by have := HJ1.out; have := HK2.out; omega⟩, ⟨by (with_reducible repeat (first | apply Kd.R_alloc | apply Kd.R_drewN | apply Kd.R_drew)); exact HO305.out⟩, ⟨z0_⟩⟩
         ·rw [if_neg c12] at H
          exact absurd H (by simp)
        ·rw [if_neg c11] at H
         have c11b0 : (x6_2 == (wrap64 (x3_1 - 1))) = false := beq_eq_false_iff_ne.mpr c11
         have c11b1 : (x6_2 != (wrap64 (x3_1 - 1))) = true := bne_iff_ne.mpr c11
         by_cases c14 : x5_2.length < 140737488355328
         ·rw [if_pos c14] at H
          have LMc14 := Aside0.mk c14
          clear c14
          obtain ⟨y306, hy306⟩ : ∃ y_ : List Int, y_ = (x5_2 ++ [(ji10) % 256]) := ⟨_, rfl⟩
          replace H : (tithebarnref01_Uint.l0 k2 a0 x3_1 x4_1 y306 (wrap64 (x6_2 - 1))) = some r := by first | (rw [hy306]; with_reducible exact H) | (have H2_ := (Option.bind_some _ _).symm.trans H; rw [hy306]; with_reducible exact H2_) | (have H2_ := (Option.bind_some _ _).symm.trans H; with_reducible exact H2_) | with_reducible exact H | (rw [hy306]; exact H) | exact H
          have Ny306 := Aside0.mk hy306
          clear hy306
          have H' := Aside0.mk H
          clear H
          go_wp2_with (first | ((with_reducible refine gate_builtin (b := .append) (xs := #[.tmp 39, .tmp 41]) rfl ?_); at_builtin; refine Kd.R_append (Kd.int .u8) (w0 := w) w.heap.size rfl (.tmp 39) (.tmp 41) 38 5 (.int .u8 0) 1 rfl Try.underlying38 info5 rfl (by decide) (by omega) u5 x5_2 ((ji10) % 256) [.int .u8 ((ji10) % 256)] (fun _ => True) (fun _ => False) rfl rfl ?aP (fun _ hk => hk.elim) ?aF ?aO ?aB ?aS ?aL ?_; (case aP => exact rfl); (case aB => exact z0_); (case aF => exact (fun _ _ => trivial)); (case aO => exact (by (with_reducible repeat (first | apply Kd.R_alloc | apply Kd.R_drewN | apply Kd.R_drew)); exact HO_5.out)); (case aS => exact (below_size z0_)); (case aL => have := LMc14.out; omega); intro v307 w15 ho hb hg hat; rw [← Ny306.out] at ho; have n0_ := Aside0.mk (hb); have n1_ := Aside0.mk (ho); clear HB; clear HO_5; have HB := n0_; have HO308 := n1_; clear n0_ n1_; clear ho hb hg hat))
          go_roundg k2
          case measure => have := HJ1.out; have := HK2.out; omega
          case rel => exact ⟨(y306), (wrap64 (x6_2 - 1)), z6_, H', ⟨by have := HJ1.out; have := HK2.out; omega⟩, ⟨by (with_reducible repeat (first | apply Kd.R_alloc | apply Kd.R_drewN | apply Kd.R_drew)); exact HO308.out⟩, ⟨z0_⟩⟩
         ·rw [if_neg c14] at H
          exact absurd H (by simp)
       ·rw [if_neg c9] at H
        exact absurd H (by simp)
      ·rw [if_neg c7] at H
       have c7b0 : decide (x6_2 < 8) = false := decide_eq_false c7
       clear c7
       by_cases c16 : x6_2 = (wrap64 (x3_1 - 1))
       ·rw [if_pos c16] at H
        have c16b0 : (x6_2 == (wrap64 (x3_1 - 1))) = true := beq_iff_eq.mpr c16
        have c16b1 : (x6_2 != (wrap64 (x3_1 - 1))) = false := bne_eq_false_iff_eq.mpr c16
        clear c16
        by_cases c17 : x5_2.length < 140737488355328
        ·rw [if_pos c17] at H
         have LMc17 := Aside0.mk c17
         clear c17
         obtain ⟨y309, hy309⟩ : ∃ y_ : List Int, y_ = (x5_2 ++ [(x4_1) % 256]) := ⟨_, rfl⟩
         replace H : (tithebarnref01_Uint.l0 k2 a0 x3_1 x4_1 y309 (wrap64 (x6_2 - 1))) = some r := by first | (rw [hy309]; with_reducible exact H) | (have H2_ := (Option.bind_some _ _).symm.trans H; rw [hy309]; with_reducible exact H2_) | (have H2_ := (Option.bind_some _ _).symm.trans H; with_reducible exact H2_) | with_reducible exact H | (rw [hy309]; exact H) | exact H
         have Ny309 := Aside0.mk hy309
         clear hy309
         have H' := Aside0.mk H
         clear H
         go_wp2_with (first | ((with_reducible refine gate_builtin (b := .append) (xs := #[.tmp 39, .tmp 41]) rfl ?_); at_builtin; refine Kd.R_append (Kd.int .u8) (w0 := w) w.heap.size rfl (.tmp 39) (.tmp 41) 38 5 (.int .u8 0) 1 rfl Try.underlying38 info5 rfl (by decide) (by omega) u5 x5_2 ((x4_1) % 256) [.int .u8 ((x4_1) % 256)] (fun _ => True) (fun _ => False) rfl rfl ?aP (fun _ hk => hk.elim) ?aF ?aO ?aB ?aS ?aL ?_; (case aP => exact rfl); (case aB => exact z0_); (case aF => exact (fun _ _ => trivial)); (case aO => exact (by (with_reducible repeat (first | apply Kd.R_alloc | apply Kd.R_drewN | apply Kd.R_drew)); exact HO_5.out)); (case aS => exact (below_size z0_)); (case aL => have := LMc17.out; omega); intro v310 w18 ho hb hg hat; rw [← Ny309.out] at ho; have n0_ := Aside0.mk (hb); have n1_ := Aside0.mk (ho); clear HB; clear HO_5; have HB := n0_; have HO311 := n1_; clear n0_ n1_; clear ho hb hg hat))
         go_roundg k2
         case measure => have := HJ1.out; have := HK2.out; omega
         case rel => exact ⟨(y309), (wrap64 (x6_2 - 1)), z6_, H', ⟨by have := HJ1.out; have := HK2.out; omega⟩, ⟨by (with_reducible repeat (first | apply Kd.R_alloc | apply Kd.R_drewN | apply Kd.R_drew)); exact HO311.out⟩, ⟨z0_⟩⟩
        ·rw [if_neg c17] at H
         exact absurd H (by simp)
       ·rw [if_neg c16] at H
        have c16b0 : (x6_2 == (wrap64 (x3_1 - 1))) = false := beq_eq_false_iff_ne.mpr c16
        have c16b1 : (x6_2 != (wrap64 (x3_1 - 1))) = true := bne_iff_ne.mpr c16
        by_cases c19 : x5_2.length < 140737488355328
        ·rw [if_pos c19] at H
         have LMc19 := Aside0.mk c19
         clear c19
         obtain ⟨y312, hy312⟩ : ∃ y_ : List Int, y_ = (x5_2 ++ [0]) := ⟨_, rfl⟩
         replace H : (tithebarnref01_Uint.l0 k2 a0 x3_1 x4_1 y312 (wrap64 (x6_2 - 1))) = some r := by first | (rw [hy312]; with_reducible exact H) | (have H2_ := (Option.bind_some _ _).symm.trans H; rw [hy312]; with_reducible exact H2_) | (have H2_ := (Option.bind_some _ _).symm.trans H; with_reducible exact H2_) | with_reducible exact H | (rw [hy312]; exact H) | exact H
         have Ny312 := Aside0.mk hy312
         clear hy312
         have H' := Aside0.mk H
         clear H
         go_wp2_with (first | ((with_reducible refine gate_builtin (b := .append) (xs := #[.tmp 39, .tmp 41]) rfl ?_); at_builtin; refine Kd.R_append (Kd.int .u8) (w0 := w) w.heap.size rfl (.tmp 39) (.tmp 41) 38 5 (.int .u8 0) 1 rfl Try.underlying38 info5 rfl (by decide) (by omega) u5 x5_2 0 [.int .u8 0] (fun _ => True) (fun _ => False) rfl rfl ?aP (fun _ hk => hk.elim) ?aF ?aO ?aB ?aS ?aL ?_; (case aP => exact rfl); (case aB => exact z0_); (case aF => exact (fun _ _ => trivial)); (case aO => exact (by (with_reducible repeat (first | apply Kd.R_alloc | apply Kd.R_drewN | apply Kd.R_drew)); exact HO_5.out)); (case aS => exact (below_size z0_)); (case aL => have := LMc19.out; omega); intro v313 w20 ho hb hg hat; rw [← Ny312.out] at ho; have n0_ := Aside0.mk (hb); have n1_ := Aside0.mk (ho); clear HB; clear HO_5; have HB := n0_; have HO314 := n1_; clear n0_ n1_; clear ho hb hg hat))
         go_roundg k2
         case measure => have := HJ1.out; have := HK2.out; omega
         case rel => exact ⟨(y312), (wrap64 (x6_2 - 1)), z6_, H', ⟨by have := HJ1.out; have := HK2.out; omega⟩, ⟨by (with_reducible repeat (first | apply Kd.R_alloc | apply Kd.R_drewN | apply Kd.R_drew)); exact HO314.out⟩, ⟨z0_⟩⟩
        ·rw [if_neg c19] at H
         exact absurd H (by simp)
     ·rw [if_neg c6] at H
      have c6b0 : decide (0 ≤ x6_2) = false := decide_eq_false c6
      clear c6
      obtain rfl := Option.some.inj H
      have hcv21 := own_string (P := Try.prog) Try.underlying38 Try.underlying5 Try.underlying9 (Kd.own_of_R HO_5.out)
      go_wp2
      go_ret
      exact ⟨z5_, z0_⟩
def tithebarnref01_Fold.f (a0 : Int) : Option (Int) := if a0 < 0 then (some (IntKind.u64.wrap ((IntKind.u64.wrap (2 * (IntKind.u64.wrap (wrap64 (-(wrap64 (a0 + 1))))))) + 1))) else (some (IntKind.u64.wrap (2 * (IntKind.u64.wrap (a0)))))
set_option maxHeartbeats 8000000 in
set_option maxRecDepth 100000 in
theorem tithebarnref01_Fold.calls (a0 : Int) (r : Int) (w : World) (h : tithebarnref01_Fold.f a0 = some r) :
  Calls Try.prog 46 #[.int .i64 a0] w fun e w' => e = .returned (.int .u64 r) ∧ Drawn0 w w' := by
 have H : (if a0 < 0 then (some (IntKind.u64.wrap ((IntKind.u64.wrap (2 * (IntKind.u64.wrap (wrap64 (-(wrap64 (a0 + 1))))))) + 1))) else (some (IntKind.u64.wrap (2 * (IntKind.u64.wrap (a0)))))) = some r := h
 clear h
 by_cases c2 : a0 < 0
 ·rw [if_pos c2] at H
  have c2b0 : decide (a0 < 0) = true := decide_eq_true c2
  clear c2
  obtain rfl := Option.some.inj H
  go_enter Try.func46, Try.ntmps46
  go_wp2
  go_ret
  exact ⟨z6_, z9_⟩
 ·rw [if_neg c2] at H
  have c2b0 : decide (a0 < 0) = false := decide_eq_false c2
  clear c2
  obtain rfl := Option.some.inj H
  go_enter Try.func46, Try.ntmps46
  go_wp2
  go_ret
  exact ⟨z6_, z9_⟩
def tithebarnref01_Int.f (k : Nat) (a0 : Int) : Option (ByteArray) := (tithebarnref01_Fold.f a0).bind fun t315 => ((tithebarnref01_Uint.f k t315).bind fun t316 => (some t316))
theorem tithebarnref01_Int.mono : ∀ a0 k, LeO (tithebarnref01_Int.f k a0) (tithebarnref01_Int.f (k + 1) a0) := by
 intro a0 k
 unfold tithebarnref01_Int.f
 repeat' first
   | (with_reducible exact tithebarnref01_Uint.mono _ _)
   | (with_reducible exact LeO.refl _)
   | (with_reducible exact LeO.none _)
   | (with_reducible refine LeO.ite ?_ ?_)
   | (with_reducible refine LeO.bind ?_ (fun _ => ?_))
   | exact tithebarnref01_Uint.mono _ _
   | exact LeO.none _
   | refine LeO.ite ?_ ?_
   | refine LeO.bind ?_ (fun _ => ?_)
set_option maxHeartbeats 8000000 in
set_option maxRecDepth 100000 in
theorem tithebarnref01_Int.calls (k : Nat) (a0 : Int) (r : ByteArray) (w : World) (h : tithebarnref01_Int.f k a0 = some r) :
  Calls Try.prog 22 #[.int .i64 a0] w fun e w' => e = .returned (.string r) ∧ Below w.heap.size w w' := by
 have HB := Aside0.mk (Below.refl w.heap.size w)
 have H : ((tithebarnref01_Fold.f a0).bind fun t315 => ((tithebarnref01_Uint.f k t315).bind fun t316 => (some t316))) = some r := h
 clear h
 replace H := Option.bind_eq_some_iff.mp H
 obtain ⟨t315, A20, H⟩ := H
 replace H : ((tithebarnref01_Uint.f k t315).bind fun t316 => (some t316)) = some r := H
 have A2 := Aside0.mk A20
 clear A20
 replace H := Option.bind_eq_some_iff.mp H
 obtain ⟨t316, A30, H⟩ := H
 replace H : (some t316) = some r := H
 have A3 := Aside0.mk A30
 clear A30
 obtain rfl := Option.some.inj H
 go_enter Try.func22, Try.ntmps22
 go_wp2_with (first | ((with_reducible refine gate_callee (f := 46) rfl ?_); refine goesL_ (some 4) rfl rfl Try.func46 (by kernel_rfl) rfl #[.int .i64 a0] rfl (by (try simp only [List.map_toArray, List.map_cons, List.map_nil]); first | done | rfl | (simp only [List.length_drop, List.length_take]; rfl) | (go_simp; simp [IntKind.wrap, IntKind.bits, IntKind.signed]; omega)) ?_; (with_reducible refine (tithebarnref01_Fold.calls a0 t315 _ A2.out).mono ?_); rintro e w' ⟨rfl, ⟨nd, rfl⟩⟩; refine ⟨_, rfl, ?_⟩) | ((with_reducible refine gate_callee (f := 19) rfl ?_); refine goesL_ (some 5) rfl rfl Try.func19 (by kernel_rfl) rfl #[.int .u64 t315] rfl (by (try simp only [List.map_toArray, List.map_cons, List.map_nil]); first | done | rfl | (simp only [List.length_drop, List.length_take]; rfl) | (go_simp; simp [IntKind.wrap, IntKind.bits, IntKind.signed]; omega)) ?_; (with_reducible refine (tithebarnref01_Uint.calls k t315 t316 _ A3.out).mono ?_); rintro e w4 ⟨rfl, hb⟩; refine ⟨_, rfl, ?_⟩; have n0_ := Aside0.mk (below_step z0_ hb); clear HB; have HB := n0_; clear n0_; (try clear hb); (try clear hb2); (try clear hk); (try clear hi)))
 go_ret
 exact ⟨z5_, z0_⟩
end Go.Proofs.Ytgeddoklmcjdcaa.G
namespace Go.Proofs.Ytgeddoklmcjdcaa.G
open Go.RowKit Go.Proofs.YtgeddoklmcjdcaaQ Go.Proofs.YtgeddoklmcjdcaaW.PrintWords Go.Proofs.YtgeddoklmcjdcaaW.PrintLast Go.Proofs.YtgeddoklmcjdcaaW.PrintMore
attribute [local go_sem] max2_int min2_int max_two min_two max_three min_three max_four min_four   -- for this text's walks alone
set_option linter.unusedVariables false
set_option linter.unusedSimpArgs false
mutual
def tithebarnref04_runs.l0 : Nat → List Int → ByteArray → Int → Option (ByteArray)
 | 0, _, _, _ => none
 | k + 1, x0, x3, x4 => if x4 < (x0.length : Int) then (tithebarnref04_runs.l1 k x0 x3 x4 1) else (some x3)
def tithebarnref04_runs.l1 : Nat → List Int → ByteArray → Int → Int → Option (ByteArray)
 | 0, _, _, _, _ => none
 | k + 1, x0, x3, x4, x5 => if (wrap64 (x4 + x5)) < (x0.length : Int) then (if 0 ≤ (wrap64 (x4 + x5)) then (if 0 ≤ x4 then (if x4 < (x0.length : Int) then (if (rd x0 (wrap64 (x4 + x5))) = (rd x0 x4) then (tithebarnref04_runs.l1 k x0 x3 x4 (wrap64 (x5 + 1))) else ((tithebarnref01_Uint.f k (IntKind.u64.wrap (x5))).bind fun t319 => ((tithebarnref01_Int.f k (rd x0 x4)).bind fun t321 => (if t319.size + t321.size ≤ 9223372036854775807 then (if x3.size + (t319 ++ t321).size ≤ 9223372036854775807 then (tithebarnref04_runs.l0 k x0 (x3 ++ (t319 ++ t321)) (wrap64 (x4 + x5))) else (none)) else (none))))) else (none)) else (none)) else (none)) else ((tithebarnref01_Uint.f k (IntKind.u64.wrap (x5))).bind fun t322 => (if 0 ≤ x4 then (if x4 < (x0.length : Int) then ((tithebarnref01_Int.f k (rd x0 x4)).bind fun t324 => (if t322.size + t324.size ≤ 9223372036854775807 then (if x3.size + (t322 ++ t324).size ≤ 9223372036854775807 then (tithebarnref04_runs.l0 k x0 (x3 ++ (t322 ++ t324)) (wrap64 (x4 + x5))) else (none)) else (none))) else (none)) else (none)))
end
def tithebarnref04_runs.f (k : Nat) (l0 : List Int) : Option (ByteArray) := tithebarnref04_runs.l0 k l0 (⟨#[]⟩ : ByteArray) 0
theorem tithebarnref04_runs.mono_l : ∀ k, (∀ y0 y1 y2, LeO (tithebarnref04_runs.l0 k y0 y1 y2) (tithebarnref04_runs.l0 (k + 1) y0 y1 y2)) ∧ (∀ y0 y1 y2 y3, LeO (tithebarnref04_runs.l1 k y0 y1 y2 y3) (tithebarnref04_runs.l1 (k + 1) y0 y1 y2 y3))
 | 0 => ⟨fun _ _ _ r h => by simp [tithebarnref04_runs.l0] at h, fun _ _ _ _ r h => by simp [tithebarnref04_runs.l1] at h⟩
 | k + 1 => by
  obtain ⟨ih0, ih1⟩ := tithebarnref04_runs.mono_l k
  refine ⟨?_, ?_⟩
  ·intro y0 y1 y2
   unfold tithebarnref04_runs.l0
   repeat' first
   | (with_reducible exact ih0 _ _ _)
   | (with_reducible exact ih1 _ _ _ _)
   | (with_reducible exact tithebarnref01_Int.mono _ _)
   | (with_reducible exact tithebarnref01_Uint.mono _ _)
   | (with_reducible exact LeO.refl _)
   | (with_reducible exact LeO.none _)
   | (with_reducible refine LeO.ite ?_ ?_)
   | (with_reducible refine LeO.bind ?_ (fun _ => ?_))
   | exact ih0 _ _ _
   | exact ih1 _ _ _ _
   | exact tithebarnref01_Int.mono _ _
   | exact tithebarnref01_Uint.mono _ _
   | exact LeO.none _
   | refine LeO.ite ?_ ?_
   | refine LeO.bind ?_ (fun _ => ?_)
  ·intro y0 y1 y2 y3
   unfold tithebarnref04_runs.l1
   repeat' first
   | (with_reducible exact ih0 _ _ _)
   | (with_reducible exact ih1 _ _ _ _)
   | (with_reducible exact tithebarnref01_Int.mono _ _)
   | (with_reducible exact tithebarnref01_Uint.mono _ _)
   | (with_reducible exact LeO.refl _)
   | (with_reducible exact LeO.none _)
   | (with_reducible refine LeO.ite ?_ ?_)
   | (with_reducible refine LeO.bind ?_ (fun _ => ?_))
   | exact ih0 _ _ _
   | exact ih1 _ _ _ _
   | exact tithebarnref01_Int.mono _ _
   | exact tithebarnref01_Uint.mono _ _
   | exact LeO.none _
   | refine LeO.ite ?_ ?_
   | refine LeO.bind ?_ (fun _ => ?_)
theorem tithebarnref04_runs.mono : ∀ a0 k, LeO (tithebarnref04_runs.f k a0) (tithebarnref04_runs.f (k + 1) a0) := by
 intro a0 k
 obtain ⟨ih0, ih1⟩ := tithebarnref04_runs.mono_l k
 unfold tithebarnref04_runs.f
 repeat' first
   | (with_reducible exact ih0 _ _ _)
   | (with_reducible exact ih1 _ _ _ _)
   | (with_reducible exact tithebarnref01_Int.mono _ _)
   | (with_reducible exact tithebarnref01_Uint.mono _ _)
   | (with_reducible exact LeO.refl _)
   | (with_reducible exact LeO.none _)
   | (with_reducible refine LeO.ite ?_ ?_)
   | (with_reducible refine LeO.bind ?_ (fun _ => ?_))
   | exact ih0 _ _ _
   | exact ih1 _ _ _ _
   | exact tithebarnref01_Int.mono _ _
   | exact tithebarnref01_Uint.mono _ _
   | exact LeO.none _
   | refine LeO.ite ?_ ?_
   | refine LeO.bind ?_ (fun _ => ?_)
def tithebarnref04_runs.T5 : Bool × List (List Nat × List Nat) := (true, [([], []), ([], []), ([0, 1], [0, 1]), ([], []), ([3], [3]), ([2, 4], [2, 4]), ([5], [5]), ([6], [6]), ([6], [6]), ([6], [6]), ([8, 9, 6], [6, 8, 9]), ([7, 10, 6], [6, 7, 10]), ([11, 6], [6, 11]), ([6], [6]), ([6], [6]), ([13, 14, 6], [6, 13, 14]), ([15, 6], [6, 15]), ([12, 16, 6], [6, 12, 16]), ([6, 17], [6, 17])])
def tithebarnref04_runs.B5 : List Nat := [0, 0, 3, 0, 8, 31, 63, 127, 127, 127, 895, 2047, 4095, 127, 127, 24703, 57471, 131071, 262143]
theorem tithebarnref04_runs.tab5 : rtab .any (opsOf Try.f20 5) = tithebarnref04_runs.T5 := by kernel_rfl
theorem tithebarnref04_runs.bits5 : waitsOk tithebarnref04_runs.T5.2 tithebarnref04_runs.B5 = true := by kernel_rfl
def tithebarnref04_runs.T7 : Bool × List (List Nat × List Nat) := (true, [([], []), ([], []), ([1], [1]), ([2], [2]), ([], []), ([], []), ([4, 5], [4, 5]), ([6], [6]), ([7, 3], [7]), ([3, 8], [3, 8]), ([0, 9], [0, 9]), ([10, 8, 0, 1, 2, 3, 4, 5, 6, 7, 8, 9, 10], [0, 10])])
def tithebarnref04_runs.B7 : List Nat := [0, 0, 2, 6, 0, 0, 48, 112, 254, 510, 1023, 2047]
theorem tithebarnref04_runs.tab7 : rtab .any (opsOf Try.f20 7) = tithebarnref04_runs.T7 := by kernel_rfl
theorem tithebarnref04_runs.bits7 : waitsOk tithebarnref04_runs.T7.2 tithebarnref04_runs.B7 = true := by kernel_rfl
set_option maxHeartbeats 8000000 in
set_option maxRecDepth 100000 in
theorem tithebarnref04_runs.calls (k : Nat) (A0 : Option Addr) (c0 : Nat) (l0 : List Int) (r : ByteArray) (w : World) (hr0 : Kd.C (Kd.int .i64) w A0 l0.length l0) (hc0 : l0.length ≤ c0) (h : tithebarnref04_runs.f k l0 = some r) :
  Calls Try.prog 20 #[.slice A0 l0.length c0] w fun e w' => e = .returned (.string r) ∧ Below w.heap.size w w' := by
 have HR0 := Aside0.mk hr0
 have HC0 := Aside0.mk hc0
 clear hr0 hc0
 have HB := Aside0.mk (Below.refl w.heap.size w)
 have H : (tithebarnref04_runs.l0 k l0 (⟨#[]⟩ : ByteArray) 0) = some r := h
 clear h
 have H' := Aside0.mk H
 clear H
 go_enter Try.func20, Try.ntmps20
 go_wp2
 go_loopg [3, 4] k (fun kq v3 v4 w' => ∃ (x3_1 : ByteArray) (x4_1 : Int), v3 = .string x3_1 ∧ v4 = .int .i64 x4_1 ∧ Aside0 (tithebarnref04_runs.l0 kq l0 x3_1 x4_1 = some r) ∧ Aside0 (kq ≤ k) ∧ Aside0 (Below w.heap.size w w'))
 case atStart => exact ⟨((⟨#[]⟩ : ByteArray)), (0), z6_, z6_, H', ⟨Nat.le_refl _⟩, ⟨z0_⟩⟩
 case round =>
  clear H'
  obtain ⟨x3_1, x4_1, rfl, rfl, HA, HK1, HB⟩ := hrel
  cases gk with
  | zero => exact absurd HA.out (by simp [tithebarnref04_runs.l0])
  | succ k1 =>
   have H := HA.out
   clear HA
   simp only [tithebarnref04_runs.l0] at H
   by_cases c2 : x4_1 < (l0.length : Int)
   ·rw [if_pos c2] at H
    have c2b0 : decide (x4_1 < (l0.length : Int)) = true := decide_eq_true c2
    clear c2
    have H' := Aside0.mk H
    clear H
    go_wp2
    go_loopg [5] k1 (fun kq v5 w' => ∃ (x5_2 : Int), v5 = .int .i64 x5_2 ∧ Aside0 (tithebarnref04_runs.l1 kq l0 x3_1 x4_1 x5_2 = some r) ∧ Aside0 (kq ≤ k1) ∧ Aside0 (Below w.heap.size w w'))
    case atStart => exact ⟨(1), z6_, H', ⟨Nat.le_refl _⟩, ⟨z0_⟩⟩
    case round =>
     clear H'
     try clear c2
     try clear c2b0
     try clear p2
     obtain ⟨x5_2, rfl, HA, HK2, HB⟩ := hrel
     cases gk with
     | zero => exact absurd HA.out (by simp [tithebarnref04_runs.l1])
     | succ k2 =>
      have H := HA.out
      clear HA
      simp only [tithebarnref04_runs.l1] at H
      by_cases c3 : (wrap64 (x4_1 + x5_2)) < (l0.length : Int)
      ·rw [if_pos c3] at H
       have c3b0 : decide ((wrap64 (x4_1 + x5_2)) < (l0.length : Int)) = true := decide_eq_true c3
       clear c3
       obtain ⟨ji4, hji4⟩ : ∃ j_ : Int, (wrap64 (x4_1 + x5_2)) = j_ := ⟨_, rfl⟩
       replace H : (if 0 ≤ (ji4) then (if 0 ≤ x4_1 then (if x4_1 < (l0.length : Int) then (if (rd l0 (ji4)) = (rd l0 x4_1) then (tithebarnref04_runs.l1 k2 l0 x3_1 x4_1 (wrap64 (x5_2 + 1))) else ((tithebarnref01_Uint.f k2 (IntKind.u64.wrap (x5_2))).bind fun t319 => ((tithebarnref01_Int.f k2 (rd l0 x4_1)).bind fun t321 => (if t319.size + t321.size ≤ 9223372036854775807 then (if x3_1.size + (t319 ++ t321).size ≤ 9223372036854775807 then (tithebarnref04_runs.l0 k2 l0 (x3_1 ++ (t319 ++ t321)) ji4) else (none)) else (none))))) else (none)) else (none)) else (none)) = some r := by first | (rw [hji4] at H; exact H) | (simp only [hji4] at H ⊢; exact H)
       (try rw [hji4] at c3b0)
       have hji4w : (IntKind.i64.wrap (x4_1 + x5_2)) = ji4 := (i64_w _).trans hji4
       by_cases c5 : 0 ≤ (ji4)
       ·rw [if_pos c5] at H
        have c5b0 : decide (0 ≤ (ji4)) = true := decide_eq_true c5
        clear c5
        by_cases c6 : 0 ≤ x4_1
        ·rw [if_pos c6] at H
         have c6b0 : decide (0 ≤ x4_1) = true := decide_eq_true c6
         clear c6
         by_cases c7 : x4_1 < (l0.length : Int)
         ·rw [if_pos c7] at H
          have c7b0 : decide (x4_1 < (l0.length : Int)) = true := decide_eq_true c7
          clear c7
          by_cases c8 : (rd l0 (ji4)) = (rd l0 x4_1)
          ·rw [if_pos c8] at H
           have c8b0 : ((rd l0 (ji4)) == (rd l0 x4_1)) = true := beq_iff_eq.mpr c8
           have c8b1 : ((rd l0 (ji4)) != (rd l0 x4_1)) = false := bne_eq_false_iff_eq.mpr c8
           clear c8
           have H' := Aside0.mk H
           clear H
           try go_wp2
           have n0_ := Aside0.mk (below_drew1 HB.out)
           clear HB
           have HB := n0_
           clear n0_
           have p317 : 0 ≤ ((ji4) : Int) := of_decide_eq_true z7_
           have q317 : (ji4) < (l0.length : Int) := of_decide_eq_true z7_
           obtain ⟨ad317, e317, hx317_0⟩ := Kd.at_int HR0.out (ji4) p317 q317
           have hw317_0 := hx317_0
           cases e317
           replace hx317_0 := (HB.out.cell (World.block_lt_of_cell? w _ hx317_0)).trans hx317_0
           replace p317 := eq_true p317
           replace q317 := eq_true q317
           have p318 : 0 ≤ (x4_1 : Int) := of_decide_eq_true z7_
           have q318 : x4_1 < (l0.length : Int) := of_decide_eq_true z7_
           obtain ⟨ad318, e318, hx318_0⟩ := Kd.at_int HR0.out x4_1 p318 q318
           have hw318_0 := hx318_0
           obtain rfl : ad317 = ad318 := (by injection e318)
           replace hx318_0 := (HB.out.cell (World.block_lt_of_cell? w _ hx318_0)).trans hx318_0
           replace p318 := eq_true p318
           replace q318 := eq_true q318
           refine start_ (n := 19) (S := fun w' => w'.cell? (ad317.add ((ji4)).toNat) = some (.int .i64 (rd l0 (ji4))) ∧ w'.cell? (ad317.add (x4_1).toNat) = some (.int .i64 (rd l0 x4_1))) (ds := []) (bs_ 19 0) (by kernel_rfl) rfl rfl ⟨((HB.out.cell (World.block_lt_of_cell? w _ hw317_0)).trans hw317_0), ((HB.out.cell (World.block_lt_of_cell? w _ hw318_0)).trans hw318_0)⟩ (fun hHeld => ?_); refine with_tabW tithebarnref04_runs.tab5 tithebarnref04_runs.bits5 (fun HT_ HW_ => ?_)
           generalize wr.drew = w9 at HB hx317_0 hx318_0 hHeld ⊢
           refine pA_ 0 (some 10) (bs_ 19 1) HT_ ?_ ?_ ?_ ?_ ?_
           rotate_left; (intro w'; go_simp; with_reducible rfl); rotate_left; (simp only [PT_]; rfl)
           refine pA_ 1 (some 11) (bs_ 19 3) HT_ ?_ ?_ ?_ ?_ ?_
           rotate_left; (intro w'; go_simp; with_reducible rfl); rotate_left; (simp only [PT_]; rfl)
           refine pA_ 2 (some 12) (bs_ 19 7) HT_ ?_ ?_ ?_ ?_ ?_
           rotate_left; (intro w'; go_simp; with_reducible rfl); rotate_left; (simp only [PT_]; rfl)
           refine pA_ 3 (some 13) (bs_ 19 15) HT_ ?_ ?_ ?_ ?_ ?_
           rotate_left; (intro w'; go_simp; with_reducible rfl); rotate_left; (simp only [PT_]; rfl)
           refine pA_ 4 (some 14) (bs_ 19 31) HT_ ?_ ?_ ?_ ?_ ?_
           rotate_left; (intro w'; go_simp; with_reducible rfl); rotate_left; (simp only [PT_]; rfl)
           refine pA_ 5 (some 15) (bs_ 19 63) HT_ ?_ ?_ ?_ ?_ ?_
           rotate_left; (intro w'; go_simp; with_reducible rfl); rotate_left; (simp only [PT_]; rfl)
           refine pA_ 6 (some 16) (bs_ 19 127) HT_ ?_ ?_ ?_ ?_ ?_
           rotate_left; (intro w'; go_simp; with_reducible rfl); rotate_left; (simp only [PT_]; rfl)
           refine pA_ 7 (some 17) (bs_ 19 255) HT_ ?_ ?_ ?_ ?_ ?_
           rotate_left; (intro w'; go_simp; with_reducible rfl); rotate_left; (simp only [PT_]; rfl)
           refine pA_ 8 (some 18) (bs_ 19 511) HT_ ?_ ?_ ?_ ?_ ?_
           rotate_left; (intro w'; go_simp; with_reducible rfl); rotate_left; (simp only [PT_]; rfl)
           refine pA_ 9 (some 19) (bs_ 19 1023) HT_ ?_ ?_ ?_ ?_ ?_
           rotate_left; (intro w'; go_simp; with_reducible rfl); rotate_left; (simp only [PT_]; rfl)
           refine pA_ 10 (some 20) (bs_ 19 2047) HT_ ?_ ?_ ?_ ?_ ?_
           rotate_left; (intro w'; go_simp; with_reducible rfl); rotate_left; (simp only [PT_]; rfl)
           refine pA_ 11 (some 21) (bs_ 19 4095) HT_ ?_ ?_ ?_ ?_ ?_
           rotate_left; (intro w'; go_simp; with_reducible rfl); rotate_left; (simp only [PT_]; rfl)
           refine pA_ 13 (some 23) (bs_ 19 12287) HT_ ?_ ?_ ?_ ?_ ?_
           rotate_left; (intro w'; go_simp; with_reducible rfl); rotate_left; (simp only [PT_]; rfl)
           refine pA_ 14 (some 24) (bs_ 19 28671) HT_ ?_ ?_ ?_ ?_ ?_
           rotate_left; (intro w'; go_simp; with_reducible rfl); rotate_left; (simp only [PT_]; rfl)
           refine pA_ 15 (some 25) (bs_ 19 61439) HT_ ?_ ?_ ?_ ?_ ?_
           rotate_left; (intro w'; go_simp; with_reducible rfl); rotate_left; (simp only [PT_]; rfl)
           refine take_ (i := 12) (N := some 22) (v := ?_) (a' := ?_) (bs_ 19 65535) rfl rfl (take_ofW HT_.out HW_.out (by kernel_rfl)) (fun _ _ _ h => h) (Or.inl ⟨by rfl, ?_⟩) hHeld ?_ ?_
           rotate_left
           ·rintro w' ⟨s0, s1⟩
            go_simp
            with_reducible rfl
           rotate_left
           ·simp only [PT_]
            rfl
           refine take_ (i := 16) (N := some 26) (v := ?_) (a' := ?_) (bs_ 19 131071) rfl rfl (take_ofW HT_.out HW_.out (by kernel_rfl)) (fun _ _ _ h => h) (Or.inl ⟨by rfl, ?_⟩) hHeld ?_ ?_
           rotate_left
           ·rintro w' ⟨s0, s1⟩
            go_simp
            with_reducible rfl
           rotate_left
           ·simp only [PT_]
            rfl
           refine pA_ 17 (some 27) (bs_ 19 262143) HT_ ?_ ?_ ?_ ?_ ?_
           rotate_left; (intro w'; go_simp; with_reducible rfl); rotate_left; (simp only [PT_]; rfl)
           refine pA_ 18 (some 28) (bs_ 19 524287) HT_ ?_ ?_ ?_ ?_ ?_
           rotate_left; (intro w'; go_simp; with_reducible rfl); rotate_left; (simp only [PT_]; rfl)
           refine done_ (done_of HT_.out (by kernel_rfl)) ?_
           try go_wp2
           go_roundg k2
           case measure => have := HK1.out; have := HK2.out; omega
           case rel => exact ⟨(wrap64 (x5_2 + 1)), z6_, H', ⟨by have := HK1.out; have := HK2.out; omega⟩, ⟨z0_⟩⟩
          ·rw [if_neg c8] at H
           have c8b0 : ((rd l0 (ji4)) == (rd l0 x4_1)) = false := beq_eq_false_iff_ne.mpr c8
           have c8b1 : ((rd l0 (ji4)) != (rd l0 x4_1)) = true := bne_iff_ne.mpr c8
           replace H := Option.bind_eq_some_iff.mp H
           obtain ⟨t319, A100, H⟩ := H
           replace H : ((tithebarnref01_Int.f k2 (rd l0 x4_1)).bind fun t321 => (if t319.size + t321.size ≤ 9223372036854775807 then (if x3_1.size + (t319 ++ t321).size ≤ 9223372036854775807 then (tithebarnref04_runs.l0 k2 l0 (x3_1 ++ (t319 ++ t321)) ji4) else (none)) else (none))) = some r := H
           have A10 := Aside0.mk A100
           clear A100
           replace H := Option.bind_eq_some_iff.mp H
           obtain ⟨t321, A110, H⟩ := H
           replace H : (if t319.size + t321.size ≤ 9223372036854775807 then (if x3_1.size + (t319 ++ t321).size ≤ 9223372036854775807 then (tithebarnref04_runs.l0 k2 l0 (x3_1 ++ (t319 ++ t321)) ji4) else (none)) else (none)) = some r := H
           have A11 := Aside0.mk A110
           clear A110
           by_cases c12 : t319.size + t321.size ≤ 9223372036854775807
           ·rw [if_pos c12] at H
            have c12b0 := eq_true c12
            have c12b1 : decide (t319.size + t321.size ≤ 9223372036854775807) = true := decide_eq_true c12
            try have c12b2 : (9223372036854775807 < t319.size + t321.size) = False := eq_false (Nat.not_lt.2 c12)
            try (have c12b3 := c12b2; simp only [ByteArray.size_append] at c12b3)
            try (have c12b4 := c12b0; simp only [ByteArray.size_append] at c12b4)
            try (have c12b5 := c12b1; simp only [ByteArray.size_append] at c12b5)
            by_cases c13 : x3_1.size + (t319 ++ t321).size ≤ 9223372036854775807
            ·rw [if_pos c13] at H
             have c13b0 := eq_true c13
             have c13b1 : decide (x3_1.size + (t319 ++ t321).size ≤ 9223372036854775807) = true := decide_eq_true c13
             try have c13b2 : (9223372036854775807 < x3_1.size + (t319 ++ t321).size) = False := eq_false (Nat.not_lt.2 c13)
             try (have c13b3 := c13b2; simp only [ByteArray.size_append] at c13b3)
             try (have c13b4 := c13b0; simp only [ByteArray.size_append] at c13b4)
             try (have c13b5 := c13b1; simp only [ByteArray.size_append] at c13b5)
             have H' := Aside0.mk H
             clear H
             try go_wp2
             have n0_ := Aside0.mk (below_drew1 HB.out)
             clear HB
             have HB := n0_
             clear n0_
             have p317 : 0 ≤ ((ji4) : Int) := of_decide_eq_true z7_
             have q317 : (ji4) < (l0.length : Int) := of_decide_eq_true z7_
             obtain ⟨ad317, e317, hx317_0⟩ := Kd.at_int HR0.out (ji4) p317 q317
             have hw317_0 := hx317_0
             cases e317
             replace hx317_0 := (HB.out.cell (World.block_lt_of_cell? w _ hx317_0)).trans hx317_0
             replace p317 := eq_true p317
             replace q317 := eq_true q317
             have p318 : 0 ≤ (x4_1 : Int) := of_decide_eq_true z7_
             have q318 : x4_1 < (l0.length : Int) := of_decide_eq_true z7_
             obtain ⟨ad318, e318, hx318_0⟩ := Kd.at_int HR0.out x4_1 p318 q318
             have hw318_0 := hx318_0
             obtain rfl : ad317 = ad318 := (by injection e318)
             replace hx318_0 := (HB.out.cell (World.block_lt_of_cell? w _ hx318_0)).trans hx318_0
             replace p318 := eq_true p318
             replace q318 := eq_true q318
             refine start_ (n := 19) (S := fun w' => w'.cell? (ad317.add ((ji4)).toNat) = some (.int .i64 (rd l0 (ji4))) ∧ w'.cell? (ad317.add (x4_1).toNat) = some (.int .i64 (rd l0 x4_1))) (ds := []) (bs_ 19 0) (by kernel_rfl) rfl rfl ⟨((HB.out.cell (World.block_lt_of_cell? w _ hw317_0)).trans hw317_0), ((HB.out.cell (World.block_lt_of_cell? w _ hw318_0)).trans hw318_0)⟩ (fun hHeld => ?_); refine with_tabW tithebarnref04_runs.tab5 tithebarnref04_runs.bits5 (fun HT_ HW_ => ?_)
             generalize wr.drew = w14 at HB hx317_0 hx318_0 hHeld ⊢
             refine pA_ 0 (some 10) (bs_ 19 1) HT_ ?_ ?_ ?_ ?_ ?_
             rotate_left; (intro w'; go_simp; with_reducible rfl); rotate_left; (simp only [PT_]; rfl)
             refine pA_ 1 (some 11) (bs_ 19 3) HT_ ?_ ?_ ?_ ?_ ?_
             rotate_left; (intro w'; go_simp; with_reducible rfl); rotate_left; (simp only [PT_]; rfl)
             refine pA_ 2 (some 12) (bs_ 19 7) HT_ ?_ ?_ ?_ ?_ ?_
             rotate_left; (intro w'; go_simp; with_reducible rfl); rotate_left; (simp only [PT_]; rfl)
             refine pA_ 3 (some 13) (bs_ 19 15) HT_ ?_ ?_ ?_ ?_ ?_
             rotate_left; (intro w'; go_simp; with_reducible rfl); rotate_left; (simp only [PT_]; rfl)
             refine pA_ 4 (some 14) (bs_ 19 31) HT_ ?_ ?_ ?_ ?_ ?_
             rotate_left; (intro w'; go_simp; with_reducible rfl); rotate_left; (simp only [PT_]; rfl)
             refine pA_ 5 (some 15) (bs_ 19 63) HT_ ?_ ?_ ?_ ?_ ?_
             rotate_left; (intro w'; go_simp; with_reducible rfl); rotate_left; (simp only [PT_]; rfl)
             refine pA_ 6 (some 16) (bs_ 19 127) HT_ ?_ ?_ ?_ ?_ ?_
             rotate_left; (intro w'; go_simp; with_reducible rfl); rotate_left; (simp only [PT_]; rfl)
             refine pA_ 7 (some 17) (bs_ 19 255) HT_ ?_ ?_ ?_ ?_ ?_
             rotate_left; (intro w'; go_simp; with_reducible rfl); rotate_left; (simp only [PT_]; rfl)
             refine pA_ 8 (some 18) (bs_ 19 511) HT_ ?_ ?_ ?_ ?_ ?_
             rotate_left; (intro w'; go_simp; with_reducible rfl); rotate_left; (simp only [PT_]; rfl)
             refine pA_ 9 (some 19) (bs_ 19 1023) HT_ ?_ ?_ ?_ ?_ ?_
             rotate_left; (intro w'; go_simp; with_reducible rfl); rotate_left; (simp only [PT_]; rfl)
             refine pA_ 10 (some 20) (bs_ 19 2047) HT_ ?_ ?_ ?_ ?_ ?_
             rotate_left; (intro w'; go_simp; with_reducible rfl); rotate_left; (simp only [PT_]; rfl)
             refine pA_ 11 (some 21) (bs_ 19 4095) HT_ ?_ ?_ ?_ ?_ ?_
             rotate_left; (intro w'; go_simp; with_reducible rfl); rotate_left; (simp only [PT_]; rfl)
             refine pA_ 13 (some 23) (bs_ 19 12287) HT_ ?_ ?_ ?_ ?_ ?_
             rotate_left; (intro w'; go_simp; with_reducible rfl); rotate_left; (simp only [PT_]; rfl)
             refine pA_ 14 (some 24) (bs_ 19 28671) HT_ ?_ ?_ ?_ ?_ ?_
             rotate_left; (intro w'; go_simp; with_reducible rfl); rotate_left; (simp only [PT_]; rfl)
             refine pA_ 15 (some 25) (bs_ 19 61439) HT_ ?_ ?_ ?_ ?_ ?_
             rotate_left; (intro w'; go_simp; with_reducible rfl); rotate_left; (simp only [PT_]; rfl)
             refine take_ (i := 12) (N := some 22) (v := ?_) (a' := ?_) (bs_ 19 65535) rfl rfl (take_ofW HT_.out HW_.out (by kernel_rfl)) (fun _ _ _ h => h) (Or.inl ⟨by rfl, ?_⟩) hHeld ?_ ?_
             rotate_left
             ·rintro w' ⟨s0, s1⟩
              go_simp
              with_reducible rfl
             rotate_left
             ·simp only [PT_]
              rfl
             refine take_ (i := 16) (N := some 26) (v := ?_) (a' := ?_) (bs_ 19 131071) rfl rfl (take_ofW HT_.out HW_.out (by kernel_rfl)) (fun _ _ _ h => h) (Or.inl ⟨by rfl, ?_⟩) hHeld ?_ ?_
             rotate_left
             ·rintro w' ⟨s0, s1⟩
              go_simp
              with_reducible rfl
             rotate_left
             ·simp only [PT_]
              rfl
             refine pA_ 17 (some 27) (bs_ 19 262143) HT_ ?_ ?_ ?_ ?_ ?_
             rotate_left; (intro w'; go_simp; with_reducible rfl); rotate_left; (simp only [PT_]; rfl)
             refine pA_ 18 (some 28) (bs_ 19 524287) HT_ ?_ ?_ ?_ ?_ ?_
             rotate_left; (intro w'; go_simp; with_reducible rfl); rotate_left; (simp only [PT_]; rfl)
             refine done_ (done_of HT_.out (by kernel_rfl)) ?_
             try go_wp2
             have n0_ := Aside0.mk (below_drew1 HB.out)
             clear HB
             have HB := n0_
             clear n0_
             have p320 : 0 ≤ (x4_1 : Int) := of_decide_eq_true z7_
             have q320 : x4_1 < (l0.length : Int) := of_decide_eq_true z7_
             obtain ⟨ad320, e320, hx320_0⟩ := Kd.at_int HR0.out x4_1 p320 q320
             have hw320_0 := hx320_0
             obtain rfl : ad317 = ad320 := (by injection e320)
             replace hx320_0 := (HB.out.cell (World.block_lt_of_cell? w _ hx320_0)).trans hx320_0
             replace p320 := eq_true p320
             replace q320 := eq_true q320
             refine start_ (n := 12) (S := fun w' => w'.cell? (ad317.add (x4_1).toNat) = some (.int .i64 (rd l0 x4_1))) (ds := []) (bs_ 12 0) (by kernel_rfl) rfl rfl (((HB.out.cell (World.block_lt_of_cell? w _ hw320_0)).trans hw320_0)) (fun hHeld => ?_); refine with_tabW tithebarnref04_runs.tab7 tithebarnref04_runs.bits7 (fun HT_ HW_ => ?_)
             generalize w14.drew = w15 at HB hx320_0 hHeld ⊢
             refine pA_ 0 (some 31) (bs_ 12 1) HT_ ?_ ?_ ?_ ?_ ?_
             rotate_left; (intro w'; go_simp; with_reducible rfl); rotate_left; (simp only [PT_]; rfl)
             refine pA_ 1 (some 32) (bs_ 12 3) HT_ ?_ ?_ ?_ ?_ ?_
             rotate_left; (intro w'; go_simp; with_reducible rfl); rotate_left; (simp only [PT_]; rfl)
             refine pA_ 2 (some 33) (bs_ 12 7) HT_ ?_ ?_ ?_ ?_ ?_
             rotate_left; (intro w'; go_simp; with_reducible rfl); rotate_left; (simp only [PT_]; rfl)
             refine pA_ 4 (some 35) (bs_ 12 23) HT_ ?_ ?_ ?_ ?_ ?_
             rotate_left; (intro w'; go_simp; with_reducible rfl); rotate_left; (simp only [PT_]; rfl)
             refine pA_ 5 (some 36) (bs_ 12 55) HT_ ?_ ?_ ?_ ?_ ?_
             rotate_left; (intro w'; go_simp; with_reducible rfl); rotate_left; (simp only [PT_]; rfl)
             refine pA_ 6 (some 37) (bs_ 12 119) HT_ ?_ ?_ ?_ ?_ ?_
             rotate_left; (intro w'; go_simp; with_reducible rfl); rotate_left; (simp only [PT_]; rfl)
             refine take_ (i := 7) (N := some 38) (v := ?_) (a' := ?_) (bs_ 12 247) rfl rfl (take_ofW HT_.out HW_.out (by kernel_rfl)) (fun _ _ _ h => h) (Or.inl ⟨by rfl, ?_⟩) hHeld ?_ ?_
             rotate_left
             ·intro w' s0
              go_simp
              with_reducible rfl
             rotate_left
             ·simp only [PT_]
              rfl
             refine oA_ 3 (some 34) (bs_ 12 255) HT_ (fun K hK => ?_)
             refine goes_ Try.func19 (by kernel_rfl) rfl #[.int .u64 (IntKind.u64.wrap (x5_2))] (by rfl) rfl rfl (by (try simp only [List.map_toArray, List.map_cons, List.map_nil]); first | done | rfl | (simp only [List.length_drop, List.length_take]; rfl)) ?_
             with_reducible refine (tithebarnref01_Uint.calls k2 (IntKind.u64.wrap (x5_2)) t319 _ A10.out).mono ?_
             rintro e w16 ⟨rfl, hb⟩
             refine ⟨_, rfl, ?_⟩
             have n0_ := Aside0.mk (below_step z0_ hb)
             clear HB
             have HB := n0_
             clear n0_
             (try clear hb)
             (try clear hb2)
             (try clear hk)
             (try clear hi)
             refine hK.out _ _ (((HB.out.cell (World.block_lt_of_cell? w _ hw320_0)).trans hw320_0)) (fun hHeld => ?_)
             clear hK K
             refine norm_ (a' := ?_) ?_ ?_; rotate_left; (show Act.put _ (some 34) _ = _; simp only [PT_]; rfl)
             refine oA_ 8 (some 39) (bs_ 12 511) HT_ (fun K hK => ?_)
             refine goes_ Try.func22 (by kernel_rfl) rfl #[.int .i64 (rd l0 x4_1)] (by rfl) rfl rfl (by (try simp only [List.map_toArray, List.map_cons, List.map_nil]); first | done | rfl | (simp only [List.length_drop, List.length_take]; rfl)) ?_
             with_reducible refine (tithebarnref01_Int.calls k2 (rd l0 x4_1) t321 _ A11.out).mono ?_
             rintro e w17 ⟨rfl, hb⟩
             refine ⟨_, rfl, ?_⟩
             have n0_ := Aside0.mk (below_step z0_ hb)
             clear HB
             have HB := n0_
             clear n0_
             (try clear hb)
             (try clear hb2)
             (try clear hk)
             (try clear hi)
             refine hK.out _ _ (((HB.out.cell (World.block_lt_of_cell? w _ hw320_0)).trans hw320_0)) (fun hHeld => ?_)
             clear hK K
             refine norm_ (a' := ?_) ?_ ?_; rotate_left; (show Act.put _ (some 39) _ = _; simp only [PT_]; rfl)
             refine pA_ 9 (some 40) (bs_ 12 1023) HT_ ?_ ?_ ?_ ?_ ?_
             rotate_left; (intro w'; go_simp; with_reducible rfl); rotate_left; (simp only [PT_]; rfl)
             refine pA_ 10 (some 41) (bs_ 12 2047) HT_ ?_ ?_ ?_ ?_ ?_
             rotate_left; (intro w'; go_simp; with_reducible rfl); rotate_left; (simp only [PT_]; rfl)
             refine pA_ 11 (some 3) (bs_ 12 4095) HT_ ?_ ?_ ?_ ?_ ?_
             rotate_left; (intro w'; go_simp; with_reducible rfl); rotate_left; (simp only [PT_]; rfl)
             refine done_ (done_of HT_.out (by kernel_rfl)) ?_
             try go_wp2
             go_roundg k2
             case measure => have := HK1.out; have := HK2.out; omega
             case rel => exact ⟨(x3_1 ++ (t319 ++ t321)), (ji4), z6_, (by first | rfl | (simp; done) | (simp only [← hji4] <;> (first | rfl | simp)) | (simp [*]; done)), H', ⟨by have := HK1.out; have := HK2.out; omega⟩, ⟨z0_⟩⟩
            ·rw [if_neg c13] at H
             exact absurd H (by simp)
           ·rw [if_neg c12] at H
            exact absurd H (by simp)
         ·rw [if_neg c7] at H
          exact absurd H (by simp)
        ·rw [if_neg c6] at H
         exact absurd H (by simp)
       ·rw [if_neg c5] at H
        exact absurd H (by simp)
      ·rw [if_neg c3] at H
       have c3b0 : decide ((wrap64 (x4_1 + x5_2)) < (l0.length : Int)) = false := decide_eq_false c3
       clear c3
       replace H := Option.bind_eq_some_iff.mp H
       obtain ⟨t322, A180, H⟩ := H
       replace H : (if 0 ≤ x4_1 then (if x4_1 < (l0.length : Int) then ((tithebarnref01_Int.f k2 (rd l0 x4_1)).bind fun t324 => (if t322.size + t324.size ≤ 9223372036854775807 then (if x3_1.size + (t322 ++ t324).size ≤ 9223372036854775807 then (tithebarnref04_runs.l0 k2 l0 (x3_1 ++ (t322 ++ t324)) (wrap64 (x4_1 + x5_2))) else (none)) else (none))) else (none)) else (none)) = some r := H
       have A18 := Aside0.mk A180
       clear A180
       by_cases c19 : 0 ≤ x4_1
       ·rw [if_pos c19] at H
        have c19b0 : decide (0 ≤ x4_1) = true := decide_eq_true c19
        clear c19
        by_cases c20 : x4_1 < (l0.length : Int)
        ·rw [if_pos c20] at H
         have c20b0 : decide (x4_1 < (l0.length : Int)) = true := decide_eq_true c20
         clear c20
         replace H := Option.bind_eq_some_iff.mp H
         obtain ⟨t324, A210, H⟩ := H
         replace H : (if t322.size + t324.size ≤ 9223372036854775807 then (if x3_1.size + (t322 ++ t324).size ≤ 9223372036854775807 then (tithebarnref04_runs.l0 k2 l0 (x3_1 ++ (t322 ++ t324)) (wrap64 (x4_1 + x5_2))) else (none)) else (none)) = some r := H
         have A21 := Aside0.mk A210
         clear A210
         by_cases c22 : t322.size + t324.size ≤ 9223372036854775807
         ·rw [if_pos c22] at H
          have c22b0 := eq_true c22
          have c22b1 : decide (t322.size + t324.size ≤ 9223372036854775807) = true := decide_eq_true c22
          try have c22b2 : (9223372036854775807 < t322.size + t324.size) = False := eq_false (Nat.not_lt.2 c22)
          try (have c22b3 := c22b2; simp only [ByteArray.size_append] at c22b3)
          try (have c22b4 := c22b0; simp only [ByteArray.size_append] at c22b4)
          try (have c22b5 := c22b1; simp only [ByteArray.size_append] at c22b5)
          by_cases c23 : x3_1.size + (t322 ++ t324).size ≤ 9223372036854775807
          ·rw [if_pos c23] at H
           have c23b0 := eq_true c23
           have c23b1 : decide (x3_1.size + (t322 ++ t324).size ≤ 9223372036854775807) = true := decide_eq_true c23
           try have c23b2 : (9223372036854775807 < x3_1.size + (t322 ++ t324).size) = False := eq_false (Nat.not_lt.2 c23)
           try (have c23b3 := c23b2; simp only [ByteArray.size_append] at c23b3)
           try (have c23b4 := c23b0; simp only [ByteArray.size_append] at c23b4)
           try (have c23b5 := c23b1; simp only [ByteArray.size_append] at c23b5)
           have H' := Aside0.mk H
           clear H
           try go_wp2
           have n0_ := Aside0.mk (below_drew1 HB.out)
           clear HB
           have HB := n0_
           clear n0_
           refine start_ (n := 19) (S := fun w' => True) (ds := []) (bs_ 19 0) (by kernel_rfl) rfl rfl trivial (fun hHeld => ?_); refine with_tabW tithebarnref04_runs.tab5 tithebarnref04_runs.bits5 (fun HT_ HW_ => ?_)
           generalize wr.drew = w24 at HB hHeld ⊢
           refine pA_ 0 (some 10) (bs_ 19 1) HT_ ?_ ?_ ?_ ?_ ?_
           rotate_left; (intro w'; go_simp; with_reducible rfl); rotate_left; (simp only [PT_]; rfl)
           refine pA_ 1 (some 11) (bs_ 19 3) HT_ ?_ ?_ ?_ ?_ ?_
           rotate_left; (intro w'; go_simp; with_reducible rfl); rotate_left; (simp only [PT_]; rfl)
           refine pA_ 2 (some 12) (bs_ 19 7) HT_ ?_ ?_ ?_ ?_ ?_
           rotate_left; (intro w'; go_simp; with_reducible rfl); rotate_left; (simp only [PT_]; rfl)
           refine pA_ 3 (some 13) (bs_ 19 15) HT_ ?_ ?_ ?_ ?_ ?_
           rotate_left; (intro w'; go_simp; with_reducible rfl); rotate_left; (simp only [PT_]; rfl)
           refine pA_ 4 (some 14) (bs_ 19 31) HT_ ?_ ?_ ?_ ?_ ?_
           rotate_left; (intro w'; go_simp; with_reducible rfl); rotate_left; (simp only [PT_]; rfl)
           refine pA_ 5 (some 15) (bs_ 19 63) HT_ ?_ ?_ ?_ ?_ ?_
           rotate_left; (intro w'; go_simp; with_reducible rfl); rotate_left; (simp only [PT_]; rfl)
           refine pA_ 6 (some 16) (bs_ 19 127) HT_ ?_ ?_ ?_ ?_ ?_
           rotate_left; (intro w'; go_simp; with_reducible rfl); rotate_left; (simp only [PT_]; rfl)
           refine pB_ 7 (some 17) (bs_ 19 255) HT_ ?_ ?_ ?_
           rotate_left
           ·simp only [PT_]
            rfl
           refine pB_ 8 (some 18) (bs_ 19 511) HT_ ?_ ?_ ?_
           rotate_left
           ·simp only [PT_]
            rfl
           refine pB_ 9 (some 19) (bs_ 19 1023) HT_ ?_ ?_ ?_
           rotate_left
           ·simp only [PT_]
            rfl
           refine pB_ 10 (some 20) (bs_ 19 2047) HT_ ?_ ?_ ?_
           rotate_left
           ·simp only [PT_]
            rfl
           refine pB_ 11 (some 21) (bs_ 19 4095) HT_ ?_ ?_ ?_
           rotate_left
           ·simp only [PT_]
            rfl
           refine pB_ 12 (some 22) (bs_ 19 8191) HT_ ?_ ?_ ?_
           rotate_left
           ·simp only [PT_]
            rfl
           refine pB_ 13 (some 23) (bs_ 19 16383) HT_ ?_ ?_ ?_
           rotate_left
           ·simp only [PT_]
            rfl
           refine pB_ 14 (some 24) (bs_ 19 32767) HT_ ?_ ?_ ?_
           rotate_left
           ·simp only [PT_]
            rfl
           refine pB_ 15 (some 25) (bs_ 19 65535) HT_ ?_ ?_ ?_
           rotate_left
           ·simp only [PT_]
            rfl
           refine pB_ 16 (some 26) (bs_ 19 131071) HT_ ?_ ?_ ?_
           rotate_left
           ·simp only [PT_]
            rfl
           refine pB_ 17 (some 27) (bs_ 19 262143) HT_ ?_ ?_ ?_
           rotate_left
           ·simp only [PT_]
            rfl
           refine pA_ 18 (some 28) (bs_ 19 524287) HT_ ?_ ?_ ?_ ?_ ?_
           rotate_left; (intro w'; go_simp; with_reducible rfl); rotate_left; (simp only [PT_]; rfl)
           refine done_ (done_of HT_.out (by kernel_rfl)) ?_
           try go_wp2
           have n0_ := Aside0.mk (below_drew1 HB.out)
           clear HB
           have HB := n0_
           clear n0_
           have p323 : 0 ≤ (x4_1 : Int) := of_decide_eq_true z7_
           have q323 : x4_1 < (l0.length : Int) := of_decide_eq_true z7_
           obtain ⟨ad323, e323, hx323_0⟩ := Kd.at_int HR0.out x4_1 p323 q323
           have hw323_0 := hx323_0
           cases e323
           replace hx323_0 := (HB.out.cell (World.block_lt_of_cell? w _ hx323_0)).trans hx323_0
           replace p323 := eq_true p323
           replace q323 := eq_true q323
           refine start_ (n := 12) (S := fun w' => w'.cell? (ad323.add (x4_1).toNat) = some (.int .i64 (rd l0 x4_1))) (ds := []) (bs_ 12 0) (by kernel_rfl) rfl rfl (((HB.out.cell (World.block_lt_of_cell? w _ hw323_0)).trans hw323_0)) (fun hHeld => ?_); refine with_tabW tithebarnref04_runs.tab7 tithebarnref04_runs.bits7 (fun HT_ HW_ => ?_)
           generalize w24.drew = w25 at HB hx323_0 hHeld ⊢
           refine pA_ 0 (some 31) (bs_ 12 1) HT_ ?_ ?_ ?_ ?_ ?_
           rotate_left; (intro w'; go_simp; with_reducible rfl); rotate_left; (simp only [PT_]; rfl)
           refine pA_ 1 (some 32) (bs_ 12 3) HT_ ?_ ?_ ?_ ?_ ?_
           rotate_left; (intro w'; go_simp; with_reducible rfl); rotate_left; (simp only [PT_]; rfl)
           refine pA_ 2 (some 33) (bs_ 12 7) HT_ ?_ ?_ ?_ ?_ ?_
           rotate_left; (intro w'; go_simp; with_reducible rfl); rotate_left; (simp only [PT_]; rfl)
           refine pA_ 4 (some 35) (bs_ 12 23) HT_ ?_ ?_ ?_ ?_ ?_
           rotate_left; (intro w'; go_simp; with_reducible rfl); rotate_left; (simp only [PT_]; rfl)
           refine pA_ 5 (some 36) (bs_ 12 55) HT_ ?_ ?_ ?_ ?_ ?_
           rotate_left; (intro w'; go_simp; with_reducible rfl); rotate_left; (simp only [PT_]; rfl)
           refine pA_ 6 (some 37) (bs_ 12 119) HT_ ?_ ?_ ?_ ?_ ?_
           rotate_left; (intro w'; go_simp; with_reducible rfl); rotate_left; (simp only [PT_]; rfl)
           refine take_ (i := 7) (N := some 38) (v := ?_) (a' := ?_) (bs_ 12 247) rfl rfl (take_ofW HT_.out HW_.out (by kernel_rfl)) (fun _ _ _ h => h) (Or.inl ⟨by rfl, ?_⟩) hHeld ?_ ?_
           rotate_left
           ·intro w' s0
            go_simp
            with_reducible rfl
           rotate_left
           ·simp only [PT_]
            rfl
           refine oA_ 3 (some 34) (bs_ 12 255) HT_ (fun K hK => ?_)
           refine goes_ Try.func19 (by kernel_rfl) rfl #[.int .u64 (IntKind.u64.wrap (x5_2))] (by rfl) rfl rfl (by (try simp only [List.map_toArray, List.map_cons, List.map_nil]); first | done | rfl | (simp only [List.length_drop, List.length_take]; rfl)) ?_
           with_reducible refine (tithebarnref01_Uint.calls k2 (IntKind.u64.wrap (x5_2)) t322 _ A18.out).mono ?_
           rintro e w26 ⟨rfl, hb⟩
           refine ⟨_, rfl, ?_⟩
           have n0_ := Aside0.mk (below_step z0_ hb)
           clear HB
           have HB := n0_
           clear n0_
           (try clear hb)
           (try clear hb2)
           (try clear hk)
           (try clear hi)
           refine hK.out _ _ (((HB.out.cell (World.block_lt_of_cell? w _ hw323_0)).trans hw323_0)) (fun hHeld => ?_)
           clear hK K
           refine norm_ (a' := ?_) ?_ ?_; rotate_left; (show Act.put _ (some 34) _ = _; simp only [PT_]; rfl)
           refine oA_ 8 (some 39) (bs_ 12 511) HT_ (fun K hK => ?_)
           refine goes_ Try.func22 (by kernel_rfl) rfl #[.int .i64 (rd l0 x4_1)] (by rfl) rfl rfl (by (try simp only [List.map_toArray, List.map_cons, List.map_nil]); first | done | rfl | (simp only [List.length_drop, List.length_take]; rfl)) ?_
           with_reducible refine (tithebarnref01_Int.calls k2 (rd l0 x4_1) t324 _ A21.out).mono ?_
           rintro e w27 ⟨rfl, hb⟩
           refine ⟨_, rfl, ?_⟩
           have n0_ := Aside0.mk (below_step z0_ hb)
           clear HB
           have HB := n0_
           clear n0_
           (try clear hb)
           (try clear hb2)
           (try clear hk)
           (try clear hi)
           refine hK.out _ _ (((HB.out.cell (World.block_lt_of_cell? w _ hw323_0)).trans hw323_0)) (fun hHeld => ?_)
           clear hK K
           refine norm_ (a' := ?_) ?_ ?_; rotate_left; (show Act.put _ (some 39) _ = _; simp only [PT_]; rfl)
           refine pA_ 9 (some 40) (bs_ 12 1023) HT_ ?_ ?_ ?_ ?_ ?_
           rotate_left; (intro w'; go_simp; with_reducible rfl); rotate_left; (simp only [PT_]; rfl)
           refine pA_ 10 (some 41) (bs_ 12 2047) HT_ ?_ ?_ ?_ ?_ ?_
           rotate_left; (intro w'; go_simp; with_reducible rfl); rotate_left; (simp only [PT_]; rfl)
           refine pA_ 11 (some 3) (bs_ 12 4095) HT_ ?_ ?_ ?_ ?_ ?_
           rotate_left; (intro w'; go_simp; with_reducible rfl); rotate_left; (simp only [PT_]; rfl)
           refine done_ (done_of HT_.out (by kernel_rfl)) ?_
           try go_wp2
           go_roundg k2
           case measure => have := HK1.out; have := HK2.out; omega
           case rel => exact ⟨(x3_1 ++ (t322 ++ t324)), (wrap64 (x4_1 + x5_2)), z6_, z6_, H', ⟨by have := HK1.out; have := HK2.out; omega⟩, ⟨z0_⟩⟩
          ·rw [if_neg c23] at H
           exact absurd H (by simp)
         ·rw [if_neg c22] at H
          exact absurd H (by simp)
        ·rw [if_neg c20] at H
         exact absurd H (by simp)
       ·rw [if_neg c19] at H
        exact absurd H (by simp)
   ·rw [if_neg c2] at H
    have c2b0 : decide (x4_1 < (l0.length : Int)) = false := decide_eq_false c2
    clear c2
    obtain rfl := Option.some.inj H
    go_wp2
    go_ret
    exact ⟨z5_, z0_⟩
end Go.Proofs.Ytgeddoklmcjdcaa.G
namespace Go.Proofs.Ytgeddoklmcjdcaa.G
open Go.RowKit Go.Proofs.YtgeddoklmcjdcaaQ Go.Proofs.YtgeddoklmcjdcaaW.PrintWords Go.Proofs.YtgeddoklmcjdcaaW.PrintLast Go.Proofs.YtgeddoklmcjdcaaW.PrintMore
attribute [local go_sem] max2_int min2_int max_two min_two max_three min_three max_four min_four   -- for this text's walks alone
set_option linter.unusedVariables false
set_option linter.unusedSimpArgs false
mutual
def tithebarnref04_offsets.l0 : Nat → List Int → Int → Int → Option (Int × List Int)
 | 0, _, _, _ => none
 | k + 1, x0, x4, x5 => if x5 < (x0.length : Int) then (if 0 ≤ x5 then (tithebarnref04_offsets.l0 k x0 (mn x4 (rd x0 x5)) (wrap64 (x5 + 1))) else (none)) else (tithebarnref04_offsets.l1 k x0 x4 ([] : List Int) 0)
def tithebarnref04_offsets.l1 : Nat → List Int → Int → List Int → Int → Option (Int × List Int)
 | 0, _, _, _, _ => none
 | k + 1, x0, x4, x6, x7 => if x7 < (x0.length : Int) then (if 0 ≤ x7 then (if x6.length < 17592186044416 then (tithebarnref04_offsets.l1 k x0 x4 (x6 ++ [IntKind.u64.wrap ((IntKind.u64.wrap (rd x0 x7)) - (IntKind.u64.wrap (x4)))]) (wrap64 (x7 + 1))) else (none)) else (none)) else (some (x4, x6))
end
def tithebarnref04_offsets.f (k : Nat) (l0 : List Int) : Option (Int × List Int) := if 0 < (l0.length : Int) then (tithebarnref04_offsets.l0 k l0 (rd l0 0) 0) else (none)
theorem tithebarnref04_offsets.mono_l : ∀ k, (∀ y0 y1 y2, LeO (tithebarnref04_offsets.l0 k y0 y1 y2) (tithebarnref04_offsets.l0 (k + 1) y0 y1 y2)) ∧ (∀ y0 y1 y2 y3, LeO (tithebarnref04_offsets.l1 k y0 y1 y2 y3) (tithebarnref04_offsets.l1 (k + 1) y0 y1 y2 y3))
 | 0 => ⟨fun _ _ _ r h => by simp [tithebarnref04_offsets.l0] at h, fun _ _ _ _ r h => by simp [tithebarnref04_offsets.l1] at h⟩
 | k + 1 => by
  obtain ⟨ih0, ih1⟩ := tithebarnref04_offsets.mono_l k
  refine ⟨?_, ?_⟩
  ·intro y0 y1 y2
   unfold tithebarnref04_offsets.l0
   repeat' first
   | (with_reducible exact ih0 _ _ _)
   | (with_reducible exact ih1 _ _ _ _)
   | (with_reducible exact LeO.refl _)
   | (with_reducible exact LeO.none _)
   | (with_reducible refine LeO.ite ?_ ?_)
   | (with_reducible refine LeO.bind ?_ (fun _ => ?_))
   | exact ih0 _ _ _
   | exact ih1 _ _ _ _
   | exact LeO.none _
   | refine LeO.ite ?_ ?_
   | refine LeO.bind ?_ (fun _ => ?_)
  ·intro y0 y1 y2 y3
   unfold tithebarnref04_offsets.l1
   repeat' first
   | (with_reducible exact ih0 _ _ _)
   | (with_reducible exact ih1 _ _ _ _)
   | (with_reducible exact LeO.refl _)
   | (with_reducible exact LeO.none _)
   | (with_reducible refine LeO.ite ?_ ?_)
   | (with_reducible refine LeO.bind ?_ (fun _ => ?_))
   | exact ih0 _ _ _
   | exact ih1 _ _ _ _
   | exact LeO.none _
   | refine LeO.ite ?_ ?_
   | refine LeO.bind ?_ (fun _ => ?_)
theorem tithebarnref04_offsets.mono : ∀ a0 k, LeO (tithebarnref04_offsets.f k a0) (tithebarnref04_offsets.f (k + 1) a0) := by
 intro a0 k
 obtain ⟨ih0, ih1⟩ := tithebarnref04_offsets.mono_l k
 unfold tithebarnref04_offsets.f
 repeat' first
   | (with_reducible exact ih0 _ _ _)
   | (with_reducible exact ih1 _ _ _ _)
   | (with_reducible exact LeO.refl _)
   | (with_reducible exact LeO.none _)
   | (with_reducible refine LeO.ite ?_ ?_)
   | (with_reducible refine LeO.bind ?_ (fun _ => ?_))
   | exact ih0 _ _ _
   | exact ih1 _ _ _ _
   | exact LeO.none _
   | refine LeO.ite ?_ ?_
   | refine LeO.bind ?_ (fun _ => ?_)
set_option maxHeartbeats 8000000 in
set_option maxRecDepth 100000 in
theorem tithebarnref04_offsets.calls (k : Nat) (A0 : Option Addr) (c0 : Nat) (l0 : List Int) (r1 : Int) (r2 : List Int) (w : World) (hr0 : Kd.C (Kd.int .i64) w A0 l0.length l0) (hc0 : l0.length ≤ c0) (h : tithebarnref04_offsets.f k l0 = some (r1, r2)) :
  Calls Try.prog 43 #[.slice A0 l0.length c0] w fun e w' => ∃ v1_ : Value, e = .returned (.tuple #[.int .i64 r1, v1_]) ∧ Kd.R (Kd.int .u64) 44 w' w.heap.size (fun _ => True) v1_ r2 ∧ Below w.heap.size w w' := by
 have HR0 := Aside0.mk hr0
 have HC0 := Aside0.mk hc0
 clear hr0 hc0
 have HB := Aside0.mk (Below.refl w.heap.size w)
 have H : (if 0 < (l0.length : Int) then (tithebarnref04_offsets.l0 k l0 (rd l0 0) 0) else (none)) = some (r1, r2) := h
 clear h
 by_cases c2 : 0 < (l0.length : Int)
 ·rw [if_pos c2] at H
  have c2b0 : decide (0 < (l0.length : Int)) = true := decide_eq_true c2
  have c2b1 : decide (0 < l0.length) = true := decide_eq_true (by omega)
  clear c2
  have H' := Aside0.mk H
  clear H
  have p325 : 0 ≤ (0 : Int) := (by omega)
  have q325 : 0 < (l0.length : Int) := of_decide_eq_true z7_
  obtain ⟨ad325, e325, hx325_0⟩ := Kd.at_int HR0.out 0 p325 q325
  cases e325
  have qi325 : (0 < l0.length) = True := eq_true (by omega)
  (try rw [show ((0 : Int)).toNat = 0 from rfl] at hx325_0)
  (try rw [Addr.add_zero'] at hx325_0)
  replace p325 := eq_true p325
  replace q325 := eq_true q325
  go_enter Try.func43, Try.ntmps43
  go_wp2
  go_loopg [4, 5] k (fun kq v4 v5 w' => ∃ (x4_1 : Int) (x5_1 : Int), v4 = .int .i64 x4_1 ∧ v5 = .int .i64 x5_1 ∧ Aside0 (tithebarnref04_offsets.l0 kq l0 x4_1 x5_1 = some (r1, r2)) ∧ Aside0 (kq ≤ k) ∧ Aside0 (Below w.heap.size w w'))
  case atStart => exact ⟨(rd l0 0), (0), z6_, z6_, H', ⟨Nat.le_refl _⟩, ⟨z0_⟩⟩
  case round =>
   clear H'
   try clear c2
   try clear c2b0
   try clear c2b1
   try clear p2
   try clear hx325_0
   try clear p325
   try clear q325
   obtain ⟨x4_1, x5_1, rfl, rfl, HA, HK1, HB⟩ := hrel
   cases gk with
   | zero => exact absurd HA.out (by simp [tithebarnref04_offsets.l0])
   | succ k1 =>
    have H := HA.out
    clear HA
    simp only [tithebarnref04_offsets.l0] at H
    by_cases c3 : x5_1 < (l0.length : Int)
    ·rw [if_pos c3] at H
     have c3b0 : decide (x5_1 < (l0.length : Int)) = true := decide_eq_true c3
     clear c3
     by_cases c4 : 0 ≤ x5_1
     ·rw [if_pos c4] at H
      have c4b0 : decide (0 ≤ x5_1) = true := decide_eq_true c4
      clear c4
      obtain ⟨ji5, hji5⟩ : ∃ j_ : Int, (mn x4_1 (rd l0 x5_1)) = j_ := ⟨_, rfl⟩
      replace H : (tithebarnref04_offsets.l0 k1 l0 ji5 (wrap64 (x5_1 + 1))) = some (r1, r2) := by first | (rw [hji5] at H; exact H) | (simp only [hji5] at H ⊢; exact H)
      have hji5_ : (if (rd l0 x5_1) < x4_1 then (rd l0 x5_1) else x4_1) = ji5 := hji5
      have H' := Aside0.mk H
      clear H
      have p326 : 0 ≤ (x5_1 : Int) := of_decide_eq_true z7_
      have q326 : x5_1 < (l0.length : Int) := of_decide_eq_true z7_
      obtain ⟨ad326, e326, hx326_0⟩ := Kd.at_int HR0.out x5_1 p326 q326
      obtain rfl : ad325 = ad326 := (by injection e326)
      replace hx326_0 := (HB.out.cell (World.block_lt_of_cell? w _ hx326_0)).trans hx326_0
      replace p326 := eq_true p326
      replace q326 := eq_true q326
      go_wp2
      go_roundg k1
      case measure => have := HK1.out; omega
      case rel => exact ⟨(ji5), (wrap64 (x5_1 + 1)), (by first | rfl | (simp; done) | (simp only [← hji5] <;> (first | rfl | simp)) | (simp [*]; done)), z6_, H', ⟨by have := HK1.out; omega⟩, ⟨z0_⟩⟩
     ·rw [if_neg c4] at H
      exact absurd H (by simp)
    ·rw [if_neg c3] at H
     have c3b0 : decide (x5_1 < (l0.length : Int)) = false := decide_eq_false c3
     clear c3
     have H' := Aside0.mk H
     clear H
     go_wp2
     go_loopg [6, 7] k1 (fun kq v6 v7 w' => ∃ (x6_2 : List Int) (x7_2 : Int), v7 = .int .i64 x7_2 ∧ Aside0 (tithebarnref04_offsets.l1 kq l0 x4_1 x6_2 x7_2 = some (r1, r2)) ∧ Aside0 (kq ≤ k1) ∧ Aside0 (Kd.R (Kd.int .u64) 44 w' w.heap.size (fun _ => True) v6 x6_2) ∧ Aside0 (Below w.heap.size w w'))
     case atStart => exact ⟨(([] : List Int)), (0), z6_, H', ⟨Nat.le_refl _⟩, ⟨z8_⟩, ⟨z0_⟩⟩
     case round =>
      clear H'
      try clear c2
      try clear c2b0
      try clear c2b1
      try clear p2
      try clear c3
      try clear c3b0
      try clear p3
      try clear q3
      try clear hx3
      try clear qi3
      try clear c4
      try clear c4b0
      try clear hx325_0
      try clear hx326_0
      try clear p2
      try clear p325
      try clear p326
      try clear q325
      try clear q326
      obtain ⟨x6_2, x7_2, rfl, HA, HK2, HO_6, HB⟩ := hrel
      cases gk with
      | zero => exact absurd HA.out (by simp [tithebarnref04_offsets.l1])
      | succ k2 =>
       have H := HA.out
       clear HA
       simp only [tithebarnref04_offsets.l1] at H
       by_cases c6 : x7_2 < (l0.length : Int)
       ·rw [if_pos c6] at H
        have c6b0 : decide (x7_2 < (l0.length : Int)) = true := decide_eq_true c6
        clear c6
        by_cases c7 : 0 ≤ x7_2
        ·rw [if_pos c7] at H
         have c7b0 : decide (0 ≤ x7_2) = true := decide_eq_true c7
         clear c7
         by_cases c8 : x6_2.length < 17592186044416
         ·rw [if_pos c8] at H
          have LMc8 := Aside0.mk c8
          clear c8
          obtain ⟨y328, hy328⟩ : ∃ y_ : List Int, y_ = (x6_2 ++ [IntKind.u64.wrap ((IntKind.u64.wrap (rd l0 x7_2)) - (IntKind.u64.wrap (x4_1)))]) := ⟨_, rfl⟩
          replace H : (tithebarnref04_offsets.l1 k2 l0 x4_1 y328 (wrap64 (x7_2 + 1))) = some (r1, r2) := by first | (rw [hy328]; with_reducible exact H) | (have H2_ := (Option.bind_some _ _).symm.trans H; rw [hy328]; with_reducible exact H2_) | (have H2_ := (Option.bind_some _ _).symm.trans H; with_reducible exact H2_) | with_reducible exact H | (rw [hy328]; exact H) | exact H
          have Ny328 := Aside0.mk hy328
          clear hy328
          have H' := Aside0.mk H
          clear H
          have p327 : 0 ≤ (x7_2 : Int) := of_decide_eq_true z7_
          have q327 : x7_2 < (l0.length : Int) := of_decide_eq_true z7_
          obtain ⟨ad327, e327, hx327_0⟩ := Kd.at_int HR0.out x7_2 p327 q327
          obtain rfl : ad325 = ad327 := (by injection e327)
          replace hx327_0 := (HB.out.cell (World.block_lt_of_cell? w _ hx327_0)).trans hx327_0
          replace p327 := eq_true p327
          replace q327 := eq_true q327
          go_wp2_with (first | ((with_reducible refine gate_builtin (b := .append) (xs := #[.tmp 29, .tmp 38]) rfl ?_); at_builtin; refine Kd.R_append (Kd.int .u64) (w0 := w) w.heap.size rfl (.tmp 29) (.tmp 38) 59 44 (.int .u64 0) 8 rfl Try.underlying59 info44 rfl (by decide) (by omega) u6 x6_2 (IntKind.u64.wrap ((IntKind.u64.wrap (rd l0 x7_2)) - (IntKind.u64.wrap (x4_1)))) [.int .u64 (IntKind.u64.wrap ((IntKind.u64.wrap (rd l0 x7_2)) - (IntKind.u64.wrap (x4_1))))] (fun _ => True) (fun _ => False) rfl rfl ?aP (fun _ hk => hk.elim) ?aF ?aO ?aB ?aS ?aL ?_; (case aP => exact rfl); (case aB => exact z0_); (case aF => exact (fun _ _ => trivial)); (case aO => exact (by (with_reducible repeat (first | apply Kd.R_alloc | apply Kd.R_drewN | apply Kd.R_drew)); exact HO_6.out)); (case aS => exact (below_size z0_)); (case aL => have := LMc8.out; omega); intro v329 w9 ho hb hg hat; rw [← Ny328.out] at ho; have n0_ := Aside0.mk (hb); have n1_ := Aside0.mk (ho); clear HB; clear HO_6; have HB := n0_; have HO330 := n1_; clear n0_ n1_; clear ho hb hg hat))
          go_roundg k2
          case measure => have := HK1.out; have := HK2.out; omega
          case rel => exact ⟨(y328), (wrap64 (x7_2 + 1)), z6_, H', ⟨by have := HK1.out; have := HK2.out; omega⟩, ⟨by (with_reducible repeat (first | apply Kd.R_alloc | apply Kd.R_drewN | apply Kd.R_drew)); exact HO330.out⟩, ⟨z0_⟩⟩
         ·rw [if_neg c8] at H
          exact absurd H (by simp)
        ·rw [if_neg c7] at H
         exact absurd H (by simp)
       ·rw [if_neg c6] at H
        have c6b0 : decide (x7_2 < (l0.length : Int)) = false := decide_eq_false c6
        clear c6
        simp only [Option.some.injEq, Prod.mk.injEq] at H
        obtain ⟨rfl, rfl⟩ := H
        go_wp2
        go_ret2
        exact ⟨_, z5_, by (with_reducible repeat (first | apply Kd.R_alloc | apply Kd.R_drewN | apply Kd.R_drew)); exact HO_6.out, z0_⟩
 ·rw [if_neg c2] at H
  exact absurd H (by simp)
end Go.Proofs.Ytgeddoklmcjdcaa.G
namespace Go.Proofs.Ytgeddoklmcjdcaa.G
open Go.RowKit Go.Proofs.YtgeddoklmcjdcaaQ Go.Proofs.YtgeddoklmcjdcaaW.PrintWords Go.Proofs.YtgeddoklmcjdcaaW.PrintLast Go.Proofs.YtgeddoklmcjdcaaW.PrintMore
attribute [local go_sem] max2_int min2_int max_two min_two max_three min_three max_four min_four   -- for this text's walks alone
set_option linter.unusedVariables false
set_option linter.unusedSimpArgs false
def tithebarnref03_fits.f (a0 : Int) (a1 : Int) : Option (Bool) := if a1 ≥ 64 then (some true) else (if 0 ≤ (IntKind.u64.wrap (a1)) then (some (decide (a0 < (shl .u64 1 (IntKind.u64.wrap (a1)))))) else (none))
set_option maxHeartbeats 8000000 in
set_option maxRecDepth 100000 in
theorem tithebarnref03_fits.calls (a0 : Int) (a1 : Int) (r : Bool) (w : World) (h : tithebarnref03_fits.f a0 a1 = some r) :
  Calls Try.prog 64 #[.int .u64 a0, .int .i64 a1] w fun e w' => e = .returned (.bool r) ∧ Drawn0 w w' := by
 have H : (if a1 ≥ 64 then (some true) else (if 0 ≤ (IntKind.u64.wrap (a1)) then (some (decide (a0 < (shl .u64 1 (IntKind.u64.wrap (a1)))))) else (none))) = some r := h
 clear h
 by_cases c3 : a1 ≥ 64
 ·rw [if_pos c3] at H
  have c3b0 : decide (64 ≤ a1) = true := decide_eq_true c3
  clear c3
  obtain rfl := Option.some.inj H
  go_enter Try.func64, Try.ntmps64
  go_wp2
  go_ret
  exact ⟨z6_, z9_⟩
 ·rw [if_neg c3] at H
  have c3b0 : decide (64 ≤ a1) = false := decide_eq_false c3
  clear c3
  obtain ⟨ji4, hji4⟩ : ∃ j_ : Int, (IntKind.u64.wrap (a1)) = j_ := ⟨_, rfl⟩
  replace H : (if 0 ≤ (ji4) then (some (decide (a0 < (shl .u64 1 (ji4))))) else (none)) = some r := by first | (rw [hji4] at H; exact H) | (simp only [hji4] at H ⊢; exact H)
  by_cases c5 : 0 ≤ (ji4)
  ·rw [if_pos c5] at H
   have c5b0 := eq_true c5
   have c5b1 : decide (0 ≤ (ji4)) = true := decide_eq_true c5
   clear c5
   obtain ⟨ji6, hji6⟩ : ∃ j_ : Int, (shl .u64 1 (ji4)) = j_ := ⟨_, rfl⟩
   replace H : (some (decide (a0 < (ji6)))) = some r := by first | (rw [hji6] at H; exact H) | (simp only [hji6] at H ⊢; exact H)
   have hji6_ : (IntKind.u64.wrap (1 * 2 ^ min (ji4).toNat 64)) = ji6 := hji6
   have hji6z : (ji4) ≤ 64 → (IntKind.u64.wrap (1 * 2 ^ (ji4).toNat)) = ji6 := shl_small hji6
   have hji6u : (IntKind.u64.wrap (2 ^ min (ji4).toNat 64)) = ji6 := by have h_ := hji6_; rw [Int.one_mul] at h_; exact h_
   have hji6v : (ji4) ≤ 64 → (IntKind.u64.wrap (2 ^ (ji4).toNat)) = ji6 := fun hle_ => by have h_ := hji6z hle_; rw [Int.one_mul] at h_; exact h_
   obtain rfl := Option.some.inj H
   go_enter Try.func64, Try.ntmps64
   go_wp2
   go_ret
   exact ⟨by first | rfl | (simp; done) | (simp only [← hji4, ← hji6] <;> (first | rfl | simp)) | (simp [*]; done), z9_⟩
  ·rw [if_neg c5] at H
   exact absurd H (by simp)
mutual
def tithebarnref03_Width.l0 : Nat → List Int → Int → Int → Option (Int)
 | 0, _, _, _ => none
 | k + 1, x0, x3, x4 => if x4 < (x0.length : Int) then (tithebarnref03_Width.l1 k x0 x3 x4) else (some x3)
def tithebarnref03_Width.l1 : Nat → List Int → Int → Int → Option (Int)
 | 0, _, _, _ => none
 | k + 1, x0, x3, x4 => if 0 ≤ x4 then (if x4 < (x0.length : Int) then ((tithebarnref03_fits.f (rd x0 x4) x3).bind fun t332 => (if t332 = true then (tithebarnref03_Width.l0 k x0 x3 (wrap64 (x4 + 1))) else (tithebarnref03_Width.l1 k x0 (wrap64 (x3 + 1)) x4))) else (none)) else (none)
end
def tithebarnref03_Width.f (k : Nat) (l0 : List Int) : Option (Int) := tithebarnref03_Width.l0 k l0 0 0
theorem tithebarnref03_Width.mono_l : ∀ k, (∀ y0 y1 y2, LeO (tithebarnref03_Width.l0 k y0 y1 y2) (tithebarnref03_Width.l0 (k + 1) y0 y1 y2)) ∧ (∀ y0 y1 y2, LeO (tithebarnref03_Width.l1 k y0 y1 y2) (tithebarnref03_Width.l1 (k + 1) y0 y1 y2))
 | 0 => ⟨fun _ _ _ r h => by simp [tithebarnref03_Width.l0] at h, fun _ _ _ r h => by simp [tithebarnref03_Width.l1] at h⟩
 | k + 1 => by
  obtain ⟨ih0, ih1⟩ := tithebarnref03_Width.mono_l k
  refine ⟨?_, ?_⟩
  ·intro y0 y1 y2
   unfold tithebarnref03_Width.l0
   repeat' first
   | (with_reducible exact ih0 _ _ _)
   | (with_reducible exact ih1 _ _ _)
   | (with_reducible exact LeO.refl _)
   | (with_reducible exact LeO.none _)
   | (with_reducible refine LeO.ite ?_ ?_)
   | (with_reducible refine LeO.bind ?_ (fun _ => ?_))
   | exact ih0 _ _ _
   | exact ih1 _ _ _
   | exact LeO.none _
   | refine LeO.ite ?_ ?_
   | refine LeO.bind ?_ (fun _ => ?_)
  ·intro y0 y1 y2
   unfold tithebarnref03_Width.l1
   repeat' first
   | (with_reducible exact ih0 _ _ _)
   | (with_reducible exact ih1 _ _ _)
   | (with_reducible exact LeO.refl _)
   | (with_reducible exact LeO.none _)
   | (with_reducible refine LeO.ite ?_ ?_)
   | (with_reducible refine LeO.bind ?_ (fun _ => ?_))
   | exact ih0 _ _ _
   | exact ih1 _ _ _
   | exact LeO.none _
   | refine LeO.ite ?_ ?_
   | refine LeO.bind ?_ (fun _ => ?_)
theorem tithebarnref03_Width.mono : ∀ a0 k, LeO (tithebarnref03_Width.f k a0) (tithebarnref03_Width.f (k + 1) a0) := by
 intro a0 k
 obtain ⟨ih0, ih1⟩ := tithebarnref03_Width.mono_l k
 unfold tithebarnref03_Width.f
 repeat' first
   | (with_reducible exact ih0 _ _ _)
   | (with_reducible exact ih1 _ _ _)
   | (with_reducible exact LeO.refl _)
   | (with_reducible exact LeO.none _)
   | (with_reducible refine LeO.ite ?_ ?_)
   | (with_reducible refine LeO.bind ?_ (fun _ => ?_))
   | exact ih0 _ _ _
   | exact ih1 _ _ _
   | exact LeO.none _
   | refine LeO.ite ?_ ?_
   | refine LeO.bind ?_ (fun _ => ?_)
set_option maxHeartbeats 8000000 in
set_option maxRecDepth 100000 in
theorem tithebarnref03_Width.calls (k : Nat) (A0 : Option Addr) (c0 : Nat) (l0 : List Int) (r : Int) (w : World) (hr0 : Kd.C (Kd.int .u64) w A0 l0.length l0) (hc0 : l0.length ≤ c0) (h : tithebarnref03_Width.f k l0 = some r) :
  Calls Try.prog 44 #[.slice A0 l0.length c0] w fun e w' => e = .returned (.int .i64 r) ∧ Drawn0 w w' := by
 have HR0 := Aside0.mk hr0
 have HC0 := Aside0.mk hc0
 clear hr0 hc0
 have H : (tithebarnref03_Width.l0 k l0 0 0) = some r := h
 clear h
 have H' := Aside0.mk H
 clear H
 go_enter Try.func44, Try.ntmps44
 go_wp2
 go_loopg [3, 4] k (fun kq v3 v4 w' => ∃ (x3_1 : Int) (x4_1 : Int), v3 = .int .i64 x3_1 ∧ v4 = .int .i64 x4_1 ∧ Aside0 (tithebarnref03_Width.l0 kq l0 x3_1 x4_1 = some r) ∧ Aside0 (kq ≤ k) ∧ Drawn0 w w')
 case atStart => exact ⟨(0), (0), z6_, z6_, H', ⟨Nat.le_refl _⟩, z9_⟩
 case round =>
  clear H'
  obtain ⟨x3_1, x4_1, rfl, rfl, HA, HK1, ⟨m1, rfl⟩⟩ := hrel
  cases gk with
  | zero => exact absurd HA.out (by simp [tithebarnref03_Width.l0])
  | succ k1 =>
   have H := HA.out
   clear HA
   simp only [tithebarnref03_Width.l0] at H
   by_cases c2 : x4_1 < (l0.length : Int)
   ·rw [if_pos c2] at H
    have c2b0 : decide (x4_1 < (l0.length : Int)) = true := decide_eq_true c2
    clear c2
    have H' := Aside0.mk H
    clear H
    go_wp2
    go_loopg [3] k1 (fun kq v3 w' => ∃ (x3_2 : Int), v3 = .int .i64 x3_2 ∧ Aside0 (tithebarnref03_Width.l1 kq l0 x3_2 x4_1 = some r) ∧ Aside0 (kq ≤ k1) ∧ Drawn0 w w')
    case atStart => exact ⟨(x3_1), z6_, H', ⟨Nat.le_refl _⟩, z9_⟩
    case round =>
     clear H'
     try clear c2
     try clear c2b0
     try clear p2
     obtain ⟨x3_2, rfl, HA, HK2, ⟨m2, rfl⟩⟩ := hrel
     cases gk with
     | zero => exact absurd HA.out (by simp [tithebarnref03_Width.l1])
     | succ k2 =>
      have H := HA.out
      clear HA
      simp only [tithebarnref03_Width.l1] at H
      by_cases c3 : 0 ≤ x4_1
      ·rw [if_pos c3] at H
       have c3b0 : decide (0 ≤ x4_1) = true := decide_eq_true c3
       clear c3
       by_cases c4 : x4_1 < (l0.length : Int)
       ·rw [if_pos c4] at H
        have c4b0 : decide (x4_1 < (l0.length : Int)) = true := decide_eq_true c4
        clear c4
        replace H := Option.bind_eq_some_iff.mp H
        obtain ⟨t332, A50, H⟩ := H
        replace H : (if t332 = true then (tithebarnref03_Width.l0 k2 l0 x3_2 (wrap64 (x4_1 + 1))) else (tithebarnref03_Width.l1 k2 l0 (wrap64 (x3_2 + 1)) x4_1)) = some r := H
        have A5 := Aside0.mk A50
        clear A50
        by_cases c6 : t332 = true
        ·subst c6
         have H1 : (tithebarnref03_Width.l0 k2 l0 x3_2 (wrap64 (x4_1 + 1))) = some r := by rw [if_pos rfl] at H; exact H
         clear H
         have H := H1
         clear H1
         have H' := Aside0.mk H
         clear H
         have p331 : 0 ≤ (x4_1 : Int) := of_decide_eq_true z7_
         have q331 : x4_1 < (l0.length : Int) := of_decide_eq_true z7_
         obtain ⟨ad331, e331, hx331_0⟩ := Kd.at_int HR0.out x4_1 p331 q331
         cases e331
         replace p331 := eq_true p331
         replace q331 := eq_true q331
         go_wp2_with (first | ((with_reducible refine gate_callee (f := 64) rfl ?_); refine goesL_ (some 16) rfl rfl Try.func64 (by kernel_rfl) rfl #[.int .u64 (rd l0 x4_1), .int .i64 x3_2] rfl (by (try simp only [List.map_toArray, List.map_cons, List.map_nil]); first | done | rfl | (simp only [List.length_drop, List.length_take]; rfl) | (go_simp; simp [IntKind.wrap, IntKind.bits, IntKind.signed]; omega)) ?_; (with_reducible refine (tithebarnref03_fits.calls (rd l0 x4_1) x3_2 true _ A5.out).mono ?_); rintro e w' ⟨rfl, ⟨nd, rfl⟩⟩; refine ⟨_, rfl, ?_⟩))
         go_roundg k2
         case measure => have := HK1.out; have := HK2.out; omega
         case rel => exact ⟨(x3_2), (wrap64 (x4_1 + 1)), z6_, z6_, H', ⟨by have := HK1.out; have := HK2.out; omega⟩, z9_⟩
        ·replace c6 := Bool.eq_false_iff.mpr c6
         subst c6
         have H1 : (tithebarnref03_Width.l1 k2 l0 (wrap64 (x3_2 + 1)) x4_1) = some r := by rw [if_neg (show ¬ (false = true) by decide)] at H; exact H
         clear H
         have H := H1
         clear H1
         have H' := Aside0.mk H
         clear H
         have p331 : 0 ≤ (x4_1 : Int) := of_decide_eq_true z7_
         have q331 : x4_1 < (l0.length : Int) := of_decide_eq_true z7_
         obtain ⟨ad331, e331, hx331_0⟩ := Kd.at_int HR0.out x4_1 p331 q331
         cases e331
         replace p331 := eq_true p331
         replace q331 := eq_true q331
         go_wp2_with (first | ((with_reducible refine gate_callee (f := 64) rfl ?_); refine goesL_ (some 16) rfl rfl Try.func64 (by kernel_rfl) rfl #[.int .u64 (rd l0 x4_1), .int .i64 x3_2] rfl (by (try simp only [List.map_toArray, List.map_cons, List.map_nil]); first | done | rfl | (simp only [List.length_drop, List.length_take]; rfl) | (go_simp; simp [IntKind.wrap, IntKind.bits, IntKind.signed]; omega)) ?_; (with_reducible refine (tithebarnref03_fits.calls (rd l0 x4_1) x3_2 false _ A5.out).mono ?_); rintro e w' ⟨rfl, ⟨nd, rfl⟩⟩; refine ⟨_, rfl, ?_⟩))
         go_roundg k2
         case measure => have := HK1.out; have := HK2.out; omega
         case rel => exact ⟨(wrap64 (x3_2 + 1)), z6_, H', ⟨by have := HK1.out; have := HK2.out; omega⟩, z9_⟩
       ·rw [if_neg c4] at H
        exact absurd H (by simp)
      ·rw [if_neg c3] at H
       exact absurd H (by simp)
   ·rw [if_neg c2] at H
    have c2b0 : decide (x4_1 < (l0.length : Int)) = false := decide_eq_false c2
    clear c2
    obtain rfl := Option.some.inj H
    go_wp2
    go_ret
    exact ⟨z6_, z9_⟩
def tithebarnref03_Bytes.l0 : Nat → List Bool → List Int → Int → Option (ByteArray)
 | 0, _, _, _ => none
 | k + 1, x0, x3, x4 => if x4 < (x0.length : Int) then (if 0 ≤ x4 then (if rdOf false x0 x4 = true then (if 0 ≤ (wrap64 (Int.tdiv x4 8)) then (if (wrap64 (Int.tdiv x4 8)) < (x3.length : Int) then (if 0 ≤ (IntKind.u64.wrap (Int.tmod x4 8)) then (tithebarnref03_Bytes.l0 k x0 (x3.set ((wrap64 (Int.tdiv x4 8)) : Int).toNat (((rd x3 (wrap64 (Int.tdiv x4 8))) + (shl .u8 1 (IntKind.u64.wrap (Int.tmod x4 8)))) % 256)) (wrap64 (x4 + 1))) else (none)) else (none)) else (none)) else (tithebarnref03_Bytes.l0 k x0 x3 (wrap64 (x4 + 1)))) else (none)) else (some (strOfNums x3))
def tithebarnref03_Bytes.f (k : Nat) (l0 : List Bool) : Option (ByteArray) := if 0 ≤ (wrap64 (Int.tdiv (wrap64 ((l0.length : Int) + 7)) 8)) then (if (wrap64 (Int.tdiv (wrap64 ((l0.length : Int) + 7)) 8) : Int).toNat ≤ 281474976710656 then (tithebarnref03_Bytes.l0 k l0 (List.replicate (wrap64 (Int.tdiv (wrap64 ((l0.length : Int) + 7)) 8) : Int).toNat 0) 0) else (none)) else (none)
theorem tithebarnref03_Bytes.mono_l : ∀ k, (∀ y0 y1 y2, LeO (tithebarnref03_Bytes.l0 k y0 y1 y2) (tithebarnref03_Bytes.l0 (k + 1) y0 y1 y2))
 | 0 => fun _ _ _ r h => by simp [tithebarnref03_Bytes.l0] at h
 | k + 1 => by
  have ih0 := tithebarnref03_Bytes.mono_l k
  ·intro y0 y1 y2
   unfold tithebarnref03_Bytes.l0
   repeat' first
   | (with_reducible exact ih0 _ _ _)
   | (with_reducible exact LeO.refl _)
   | (with_reducible exact LeO.none _)
   | (with_reducible refine LeO.ite ?_ ?_)
   | (with_reducible refine LeO.bind ?_ (fun _ => ?_))
   | exact ih0 _ _ _
   | exact LeO.none _
   | refine LeO.ite ?_ ?_
   | refine LeO.bind ?_ (fun _ => ?_)
theorem tithebarnref03_Bytes.mono : ∀ a0 k, LeO (tithebarnref03_Bytes.f k a0) (tithebarnref03_Bytes.f (k + 1) a0) := by
 intro a0 k
 have ih0 := tithebarnref03_Bytes.mono_l k
 unfold tithebarnref03_Bytes.f
 repeat' first
   | (with_reducible exact ih0 _ _ _)
   | (with_reducible exact LeO.refl _)
   | (with_reducible exact LeO.none _)
   | (with_reducible refine LeO.ite ?_ ?_)
   | (with_reducible refine LeO.bind ?_ (fun _ => ?_))
   | exact ih0 _ _ _
   | exact LeO.none _
   | refine LeO.ite ?_ ?_
   | refine LeO.bind ?_ (fun _ => ?_)
set_option maxHeartbeats 8000000 in
set_option maxRecDepth 100000 in
theorem tithebarnref03_Bytes.calls (k : Nat) (A0 : Option Addr) (c0 : Nat) (l0 : List Bool) (r : ByteArray) (w : World) (hr0 : Kd.C Kd.bool w A0 l0.length l0) (hc0 : l0.length ≤ c0) (h : tithebarnref03_Bytes.f k l0 = some r) :
  Calls Try.prog 65 #[.slice A0 l0.length c0] w fun e w' => e = .returned (.string r) ∧ Below w.heap.size w w' := by
 have HR0 := Aside0.mk hr0
 have HC0 := Aside0.mk hc0
 clear hr0 hc0
 have HB := Aside0.mk (Below.refl w.heap.size w)
 have H : (if 0 ≤ (wrap64 (Int.tdiv (wrap64 ((l0.length : Int) + 7)) 8)) then (if (wrap64 (Int.tdiv (wrap64 ((l0.length : Int) + 7)) 8) : Int).toNat ≤ 281474976710656 then (tithebarnref03_Bytes.l0 k l0 (List.replicate (wrap64 (Int.tdiv (wrap64 ((l0.length : Int) + 7)) 8) : Int).toNat 0) 0) else (none)) else (none)) = some r := h
 clear h
 obtain ⟨ji2, hji2⟩ : ∃ j_ : Int, (wrap64 (Int.tdiv (wrap64 ((l0.length : Int) + 7)) 8)) = j_ := ⟨_, rfl⟩
 replace H : (if 0 ≤ (ji2) then (if (ji2 : Int).toNat ≤ 281474976710656 then (tithebarnref03_Bytes.l0 k l0 (List.replicate (ji2 : Int).toNat 0) 0) else (none)) else (none)) = some r := by first | (rw [hji2] at H; exact H) | (simp only [hji2] at H ⊢; exact H)
 have hji2w : (IntKind.i64.wrap (Int.tdiv (wrap64 ((l0.length : Int) + 7)) 8)) = ji2 := (i64_w _).trans hji2
 by_cases c3 : 0 ≤ (ji2)
 ·rw [if_pos c3] at H
  have c3b0 := eq_true c3
  have c3b1 : decide (0 ≤ (ji2)) = true := decide_eq_true c3
  clear c3
  by_cases c4 : (ji2 : Int).toNat ≤ 281474976710656
  ·rw [if_pos c4] at H
   have c4b0 := eq_true c4
   have c4b1 : decide ((ji2 : Int).toNat ≤ 281474976710656) = true := decide_eq_true c4
   clear c4
   obtain ⟨y333, hy333⟩ : ∃ y_ : List Int, y_ = (List.replicate (ji2 : Int).toNat 0) := ⟨_, rfl⟩
   replace H : (tithebarnref03_Bytes.l0 k l0 y333 0) = some r := by first | (rw [hy333]; with_reducible exact H) | (have H2_ := (Option.bind_some _ _).symm.trans H; rw [hy333]; with_reducible exact H2_) | (have H2_ := (Option.bind_some _ _).symm.trans H; with_reducible exact H2_) | with_reducible exact H | (rw [hy333]; exact H) | exact H
   have Ny333 := Aside0.mk hy333
   clear hy333
   have H' := Aside0.mk H
   clear H
   go_enter Try.func65, Try.ntmps65
   go_wp2_with (first | ((with_reducible refine gate_dst (N := 9) rfl ?_); refine Kd.R_make (Kd.int .u8) _ 5 rfl (N := 9) rfl 38 _ _ rfl ji2 rfl rfl Try.underlying38 (.int .u8 0) 1 info5 rfl (by decide) (by omega) 0 (ok := fun _ => True) (okp := fun _ => True) rfl (fun _ hk => hk) trivial (of_decide_eq_true z7_) (Nat.le_trans (Nat.mul_le_mul_right _ (of_decide_eq_true z7_ : ji2.toNat ≤ 281474976710656)) (by omega)) (Below.refl _ _) (Nat.le_refl _) ?_; intro v334 w5 ho6 hb hg_ hnew_; clear hg_ hnew_; (first | rw [← Ny333.out] at ho6 | (simp only [Int.reduceToNat] at ho6; rw [← Ny333.out] at ho6)); have n0_ := Aside0.mk (Kd.R_lower ho6 (below_size z0_)); have n1_ := Aside0.mk (below_step z0_ hb); clear HB; have HO335 := n0_; have HB := n1_; clear n0_ n1_; clear hb ho6))
   go_loopg [4] k (fun kq v4 w' => ∃ (x3_1 : List Int) (x4_1 : Int), v4 = .int .i64 x4_1 ∧ Aside0 (tithebarnref03_Bytes.l0 kq l0 x3_1 x4_1 = some r) ∧ Aside0 (kq ≤ k) ∧ Aside0 (Kd.R (Kd.int .u8) 5 w' w.heap.size (fun _ => True) v334 x3_1) ∧ Aside0 (Below w.heap.size w w'))
   case atStart => exact ⟨(y333), (0), z6_, H', ⟨Nat.le_refl _⟩, ⟨by (with_reducible repeat (first | apply Kd.R_alloc | apply Kd.R_drewN | apply Kd.R_drew)); exact HO335.out⟩, ⟨z0_⟩⟩
   case round =>
    clear H'
    try clear p2
    try clear c3
    try clear c3b0
    try clear c3b1
    try clear c4
    try clear c4b0
    try clear c4b1
    try clear c6
    try clear p6
    obtain ⟨x3_1, x4_1, rfl, HA, HK1, HO_3, HB⟩ := hrel
    cases gk with
    | zero => exact absurd HA.out (by simp [tithebarnref03_Bytes.l0])
    | succ k1 =>
     have H := HA.out
     clear HA
     simp only [tithebarnref03_Bytes.l0] at H
     by_cases c7 : x4_1 < (l0.length : Int)
     ·rw [if_pos c7] at H
      have c7b0 : decide (x4_1 < (l0.length : Int)) = true := decide_eq_true c7
      clear c7
      by_cases c8 : 0 ≤ x4_1
      ·rw [if_pos c8] at H
       have c8b0 : decide (0 ≤ x4_1) = true := decide_eq_true c8
       clear c8
       obtain ⟨bq9, hbq9⟩ : ∃ b_ : Bool, b_ = (rdOf false l0 x4_1) := ⟨_, rfl⟩
       replace H : (if bq9 = true then (if 0 ≤ (wrap64 (Int.tdiv x4_1 8)) then (if (wrap64 (Int.tdiv x4_1 8)) < (x3_1.length : Int) then (if 0 ≤ (IntKind.u64.wrap (Int.tmod x4_1 8)) then (tithebarnref03_Bytes.l0 k1 l0 (x3_1.set ((wrap64 (Int.tdiv x4_1 8)) : Int).toNat (((rd x3_1 (wrap64 (Int.tdiv x4_1 8))) + (shl .u8 1 (IntKind.u64.wrap (Int.tmod x4_1 8)))) % 256)) (wrap64 (x4_1 + 1))) else (none)) else (none)) else (none)) else (tithebarnref03_Bytes.l0 k1 l0 x3_1 (wrap64 (x4_1 + 1)))) = some r := by rw [← hbq9] at H; exact H
       have Nbq9 := Aside0.mk hbq9
       clear hbq9
       by_cases c10 : bq9 = true
       ·subst c10
        have H1 : (if 0 ≤ (wrap64 (Int.tdiv x4_1 8)) then (if (wrap64 (Int.tdiv x4_1 8)) < (x3_1.length : Int) then (if 0 ≤ (IntKind.u64.wrap (Int.tmod x4_1 8)) then (tithebarnref03_Bytes.l0 k1 l0 (x3_1.set ((wrap64 (Int.tdiv x4_1 8)) : Int).toNat (((rd x3_1 (wrap64 (Int.tdiv x4_1 8))) + (shl .u8 1 (IntKind.u64.wrap (Int.tmod x4_1 8)))) % 256)) (wrap64 (x4_1 + 1))) else (none)) else (none)) else (none)) = some r := by rw [if_pos rfl] at H; exact H
        clear H
        have H := H1
        clear H1
        obtain ⟨ji11, hji11⟩ : ∃ j_ : Int, (wrap64 (Int.tdiv x4_1 8)) = j_ := ⟨_, rfl⟩
        replace H : (if 0 ≤ (ji11) then (if (ji11) < (x3_1.length : Int) then (if 0 ≤ (IntKind.u64.wrap (Int.tmod x4_1 8)) then (tithebarnref03_Bytes.l0 k1 l0 (x3_1.set ((ji11) : Int).toNat (((rd x3_1 (ji11)) + (shl .u8 1 (IntKind.u64.wrap (Int.tmod x4_1 8)))) % 256)) (wrap64 (x4_1 + 1))) else (none)) else (none)) else (none)) = some r := by first | (rw [hji11] at H; exact H) | (simp only [hji11] at H ⊢; exact H)
        have hji11w : (IntKind.i64.wrap (Int.tdiv x4_1 8)) = ji11 := (i64_w _).trans hji11
        by_cases c12 : 0 ≤ (ji11)
        ·rw [if_pos c12] at H
         have c12b0 : decide (0 ≤ (ji11)) = true := decide_eq_true c12
         clear c12
         by_cases c13 : (ji11) < (x3_1.length : Int)
         ·rw [if_pos c13] at H
          have c13b0 : decide ((ji11) < (x3_1.length : Int)) = true := decide_eq_true c13
          clear c13
          obtain ⟨ji14, hji14⟩ : ∃ j_ : Int, (IntKind.u64.wrap (Int.tmod x4_1 8)) = j_ := ⟨_, rfl⟩
          replace H : (if 0 ≤ (ji14) then (tithebarnref03_Bytes.l0 k1 l0 (x3_1.set ((ji11) : Int).toNat (((rd x3_1 (ji11)) + (shl .u8 1 (ji14))) % 256)) (wrap64 (x4_1 + 1))) else (none)) = some r := by first | (rw [hji14] at H; exact H) | (simp only [hji14] at H ⊢; exact H)
          by_cases c15 : 0 ≤ (ji14)
          ·rw [if_pos c15] at H
           have c15b0 := eq_true c15
           have c15b1 : decide (0 ≤ (ji14)) = true := decide_eq_true c15
           clear c15
           obtain ⟨ji16, hji16⟩ : ∃ j_ : Int, (shl .u8 1 (ji14)) = j_ := ⟨_, rfl⟩
           replace H : (tithebarnref03_Bytes.l0 k1 l0 (x3_1.set ((ji11) : Int).toNat (((rd x3_1 (ji11)) + (ji16)) % 256)) (wrap64 (x4_1 + 1))) = some r := by first | (rw [hji16] at H; exact H) | (simp only [hji16] at H ⊢; exact H)
           have hji16_ : (IntKind.u8.wrap (1 * 2 ^ min (ji14).toNat 8)) = ji16 := hji16
           have hji16z : (ji14) ≤ 8 → (IntKind.u8.wrap (1 * 2 ^ (ji14).toNat)) = ji16 := shl_small hji16
           have hji16u : (IntKind.u8.wrap (2 ^ min (ji14).toNat 8)) = ji16 := by have h_ := hji16_; rw [Int.one_mul] at h_; exact h_
           have hji16v : (ji14) ≤ 8 → (IntKind.u8.wrap (2 ^ (ji14).toNat)) = ji16 := fun hle_ => by have h_ := hji16z hle_; rw [Int.one_mul] at h_; exact h_
           obtain ⟨y338, hy338⟩ : ∃ y_ : List Int, y_ = (x3_1.set ((ji11) : Int).toNat (((rd x3_1 (ji11)) + (ji16)) % 256)) := ⟨_, rfl⟩
           replace H : (tithebarnref03_Bytes.l0 k1 l0 y338 (wrap64 (x4_1 + 1))) = some r := by first | (rw [hy338]; with_reducible exact H) | (have H2_ := (Option.bind_some _ _).symm.trans H; rw [hy338]; with_reducible exact H2_) | (have H2_ := (Option.bind_some _ _).symm.trans H; with_reducible exact H2_) | with_reducible exact H | (rw [hy338]; exact H) | exact H
           have Ny338 := Aside0.mk hy338
           clear hy338
           have H' := Aside0.mk H
           clear H
           have p336 : 0 ≤ (x4_1 : Int) := of_decide_eq_true z7_
           have q336 : x4_1 < (l0.length : Int) := of_decide_eq_true z7_
           obtain ⟨ad336, e336, hx336_0⟩ := Kd.at_bool HR0.out x4_1 p336 q336
           (try rw [← Nbq9.out] at hx336_0)
           cases e336
           replace hx336_0 := (HB.out.cell (World.block_lt_of_cell? w _ hx336_0)).trans hx336_0
           replace p336 := eq_true p336
           replace q336 := eq_true q336
           obtain ⟨Ao18, co18, eo18⟩ := Kd.R_slice HO_3.out
           subst eo18
           have p337 : 0 ≤ ((ji11) : Int) := of_decide_eq_true z7_
           have q337 : (ji11) < (x3_1.length : Int) := of_decide_eq_true z7_
           obtain ⟨ad337, e337, hx337_0⟩ := Kd.at_int (Kd.R_reads' HO_3.out).2.2 (ji11) p337 q337
           cases e337
           replace p337 := eq_true p337
           replace q337 := eq_true q337
           have p17 : 0 ≤ ((ji11) : Int) := of_decide_eq_true z7_
           have q17 : ((ji11) : Int) < ((x3_1.length : Int) : Int) := of_decide_eq_true z7_
           obtain ⟨go17, co17, eo17, gb17, gl17, cl17, HG17⟩ := Kd.R_form HO_3.out (by omega)
           (first | cases eo17 | (injection eo17 with ea_ en_ ec_; (first | subst ea_ | (injection ea_ with ea_; subst ea_)); subst ec_; clear en_))
           have GB17 := Aside0.mk gb17
           have GG17 := Aside0.mk HG17
           clear gb17 gl17 HG17
           (first | simp only [add_plain] at hx337_0 | skip)
           obtain ⟨hx17_0, hf17_0⟩ := Kd.R_celln 0 HO_3.out ((ji11) : Int) p17 q17
           replace p17 := eq_true p17
           replace q17 := eq_true q17
           have HP19 := Kd.R_putg HO_3.out ((ji11) : Int) (((rd x3_1 (ji11)) + (ji16)) % 256)
           go_wp2_with (first | ((with_reducible refine gate_store (t := 5) (p := 30) rfl ?_); refine store_event (t := 5) (p := 30) (v := ?vo_w20) (w1 := (wr.setCell ⟨go17, ((ji11) : Int).toNat, none⟩ (.int .u8 (((rd x3_1 (ji11)) + (ji16)) % 256)))) ?hg ?ho ?hn ?hr ?_; (case ho => rfl); (case hg => rfl); (case hn => rfl); (case hr => first | (go_simp; done) | (go_simp; rfl)); intro w20 hw; have hg : wr.grownBy w20 (some go17) := (by rw [hw]; exact HP19.2); have hp_ : Kd.R (Kd.int .u8) 5 w20 w.heap.size (fun _ => True) (.slice (some ⟨go17, 0, none⟩) x3_1.length co18) y338 := (by rw [hw, Ny338.out]; exact HP19.1); clear HP19; have n0_ := Aside0.mk (hp_); have n1_ := Aside0.mk ((by rw [hw]; exact below_set (HB.out) GB17.out : Below w.heap.size w w20)); clear HO_3; clear HB; have HO_3 := n0_; have HB := n1_; clear n0_ n1_; clear hg hw hp_))
           go_roundg k1
           case measure => have := HK1.out; omega
           case rel => exact ⟨(y338), (wrap64 (x4_1 + 1)), z6_, H', ⟨by have := HK1.out; omega⟩, ⟨by (with_reducible repeat (first | apply Kd.R_alloc | apply Kd.R_drewN | apply Kd.R_drew)); exact HO_3.out⟩, ⟨z0_⟩⟩
          ·rw [if_neg c15] at H
           exact absurd H (by simp)
         ·rw [if_neg c13] at H
          exact absurd H (by simp)
        ·rw [if_neg c12] at H
         exact absurd H (by simp)
       ·replace c10 := Bool.eq_false_iff.mpr c10
        subst c10
        have H1 : (tithebarnref03_Bytes.l0 k1 l0 x3_1 (wrap64 (x4_1 + 1))) = some r := by rw [if_neg (show ¬ (false = true) by decide)] at H; exact H
        clear H
        have H := H1
        clear H1
        have H' := Aside0.mk H
        clear H
        have p336 : 0 ≤ (x4_1 : Int) := of_decide_eq_true z7_
        have q336 : x4_1 < (l0.length : Int) := of_decide_eq_true z7_
        obtain ⟨ad336, e336, hx336_0⟩ := Kd.at_bool HR0.out x4_1 p336 q336
        (try rw [← Nbq9.out] at hx336_0)
        cases e336
        replace hx336_0 := (HB.out.cell (World.block_lt_of_cell? w _ hx336_0)).trans hx336_0
        replace p336 := eq_true p336
        replace q336 := eq_true q336
        go_wp2
        go_roundg k1
        case measure => have := HK1.out; omega
        case rel => exact ⟨(x3_1), (wrap64 (x4_1 + 1)), z6_, H', ⟨by have := HK1.out; omega⟩, ⟨by (with_reducible repeat (first | apply Kd.R_alloc | apply Kd.R_drewN | apply Kd.R_drew)); exact HO_3.out⟩, ⟨z0_⟩⟩
      ·rw [if_neg c8] at H
       exact absurd H (by simp)
     ·rw [if_neg c7] at H
      have c7b0 : decide (x4_1 < (l0.length : Int)) = false := decide_eq_false c7
      clear c7
      obtain rfl := Option.some.inj H
      have hcv21 := own_string (P := Try.prog) Try.underlying38 Try.underlying5 Try.underlying9 (Kd.own_of_R HO_3.out)
      go_wp2
      go_ret
      exact ⟨by first | rfl | (simp [errW_none, errW_some] <;> rfl) | (simp only [← hji2]; first | rfl | (simp [errW_none, errW_some] <;> rfl)) | (simp [*, errW_none, errW_some] <;> rfl), z0_⟩
  ·rw [if_neg c4] at H
   exact absurd H (by simp)
 ·rw [if_neg c3] at H
  exact absurd H (by simp)
end Go.Proofs.Ytgeddoklmcjdcaa.G
namespace Go.Proofs.Ytgeddoklmcjdcaa.G
open Go.RowKit Go.Proofs.YtgeddoklmcjdcaaQ Go.Proofs.YtgeddoklmcjdcaaW.PrintWords Go.Proofs.YtgeddoklmcjdcaaW.PrintLast Go.Proofs.YtgeddoklmcjdcaaW.PrintMore
attribute [local go_sem] max2_int min2_int max_two min_two max_three min_three max_four min_four   -- for this text's walks alone
set_option linter.unusedVariables false
set_option linter.unusedSimpArgs false
mutual
def tithebarnref03_Pack.j0 : Nat → List Int → Int → Bool → Option (ByteArray × Int)
 | 0, _, _, _ => none
 | k + 1, x0, x1, x14 => if x14 = true then (some ((⟨#[]⟩ : ByteArray), 1)) else (tithebarnref03_Pack.l0 k x0 x1 ([] : List Bool) 0)
def tithebarnref03_Pack.l0 : Nat → List Int → Int → List Bool → Int → Option (ByteArray × Int)
 | 0, _, _, _, _ => none
 | k + 1, x0, x1, x6, x7 => if x7 < (x0.length : Int) then (if 0 ≤ x7 then ((tithebarnref03_fits.f (rd x0 x7) x1).bind fun t341 => (if t341 = true then (tithebarnref03_Pack.l1 k x0 x1 x6 x7 0) else (some ((⟨#[]⟩ : ByteArray), 4)))) else (none)) else ((tithebarnref03_Bytes.f k x6).bind fun t339 => (some (t339, 0)))
def tithebarnref03_Pack.l1 : Nat → List Int → Int → List Bool → Int → Int → Option (ByteArray × Int)
 | 0, _, _, _, _, _ => none
 | k + 1, x0, x1, x6, x7, x8 => if x8 < x1 then (if 0 ≤ x7 then (if x7 < (x0.length : Int) then (if 0 ≤ (IntKind.u64.wrap (x8)) then (if x6.length < 140737488355328 then (tithebarnref03_Pack.l1 k x0 x1 (x6 ++ [((Int.tmod (shr .u64 (rd x0 x7) (IntKind.u64.wrap (x8))) 2) == 1)]) x7 (wrap64 (x8 + 1))) else (none)) else (none)) else (none)) else (none)) else (tithebarnref03_Pack.l0 k x0 x1 x6 (wrap64 (x7 + 1)))
end
def tithebarnref03_Pack.f (k : Nat) (l0 : List Int) (a1 : Int) : Option (ByteArray × Int) := if a1 < 0 then (tithebarnref03_Pack.j0 k l0 a1 true) else (tithebarnref03_Pack.j0 k l0 a1 (decide (a1 > 64)))
theorem tithebarnref03_Pack.mono_l : ∀ k, (∀ y0 y1 y2, LeO (tithebarnref03_Pack.j0 k y0 y1 y2) (tithebarnref03_Pack.j0 (k + 1) y0 y1 y2)) ∧ (∀ y0 y1 y2 y3, LeO (tithebarnref03_Pack.l0 k y0 y1 y2 y3) (tithebarnref03_Pack.l0 (k + 1) y0 y1 y2 y3)) ∧ (∀ y0 y1 y2 y3 y4, LeO (tithebarnref03_Pack.l1 k y0 y1 y2 y3 y4) (tithebarnref03_Pack.l1 (k + 1) y0 y1 y2 y3 y4))
 | 0 => ⟨fun _ _ _ r h => by simp [tithebarnref03_Pack.j0] at h, fun _ _ _ _ r h => by simp [tithebarnref03_Pack.l0] at h, fun _ _ _ _ _ r h => by simp [tithebarnref03_Pack.l1] at h⟩
 | k + 1 => by
  obtain ⟨ih0, ih1, ih2⟩ := tithebarnref03_Pack.mono_l k
  refine ⟨?_, ?_, ?_⟩
  ·intro y0 y1 y2
   unfold tithebarnref03_Pack.j0
   repeat' first
   | (with_reducible exact ih0 _ _ _)
   | (with_reducible exact ih1 _ _ _ _)
   | (with_reducible exact ih2 _ _ _ _ _)
   | (with_reducible exact tithebarnref03_Bytes.mono _ _)
   | (with_reducible exact LeO.refl _)
   | (with_reducible exact LeO.none _)
   | (with_reducible refine LeO.ite ?_ ?_)
   | (with_reducible refine LeO.bind ?_ (fun _ => ?_))
   | exact ih0 _ _ _
   | exact ih1 _ _ _ _
   | exact ih2 _ _ _ _ _
   | exact tithebarnref03_Bytes.mono _ _
   | exact LeO.none _
   | refine LeO.ite ?_ ?_
   | refine LeO.bind ?_ (fun _ => ?_)
  ·intro y0 y1 y2 y3
   unfold tithebarnref03_Pack.l0
   repeat' first
   | (with_reducible exact ih0 _ _ _)
   | (with_reducible exact ih1 _ _ _ _)
   | (with_reducible exact ih2 _ _ _ _ _)
   | (with_reducible exact tithebarnref03_Bytes.mono _ _)
   | (with_reducible exact LeO.refl _)
   | (with_reducible exact LeO.none _)
   | (with_reducible refine LeO.ite ?_ ?_)
   | (with_reducible refine LeO.bind ?_ (fun _ => ?_))
   | exact ih0 _ _ _
   | exact ih1 _ _ _ _
   | exact ih2 _ _ _ _ _
   | exact tithebarnref03_Bytes.mono _ _
   | exact LeO.none _
   | refine LeO.ite ?_ ?_
   | refine LeO.bind ?_ (fun _ => ?_)
  ·intro y0 y1 y2 y3 y4
   unfold tithebarnref03_Pack.l1
   repeat' first
   | (with_reducible exact ih0 _ _ _)
   | (with_reducible exact ih1 _ _ _ _)
   | (with_reducible exact ih2 _ _ _ _ _)
   | (with_reducible exact tithebarnref03_Bytes.mono _ _)
   | (with_reducible exact LeO.refl _)
   | (with_reducible exact LeO.none _)
   | (with_reducible refine LeO.ite ?_ ?_)
   | (with_reducible refine LeO.bind ?_ (fun _ => ?_))
   | exact ih0 _ _ _
   | exact ih1 _ _ _ _
   | exact ih2 _ _ _ _ _
   | exact tithebarnref03_Bytes.mono _ _
   | exact LeO.none _
   | refine LeO.ite ?_ ?_
   | refine LeO.bind ?_ (fun _ => ?_)
theorem tithebarnref03_Pack.mono : ∀ a0 a1 k, LeO (tithebarnref03_Pack.f k a0 a1) (tithebarnref03_Pack.f (k + 1) a0 a1) := by
 intro a0 a1 k
 obtain ⟨ih0, ih1, ih2⟩ := tithebarnref03_Pack.mono_l k
 unfold tithebarnref03_Pack.f
 repeat' first
   | (with_reducible exact ih0 _ _ _)
   | (with_reducible exact ih1 _ _ _ _)
   | (with_reducible exact ih2 _ _ _ _ _)
   | (with_reducible exact tithebarnref03_Bytes.mono _ _)
   | (with_reducible exact LeO.refl _)
   | (with_reducible exact LeO.none _)
   | (with_reducible refine LeO.ite ?_ ?_)
   | (with_reducible refine LeO.bind ?_ (fun _ => ?_))
   | exact ih0 _ _ _
   | exact ih1 _ _ _ _
   | exact ih2 _ _ _ _ _
   | exact tithebarnref03_Bytes.mono _ _
   | exact LeO.none _
   | refine LeO.ite ?_ ?_
   | refine LeO.bind ?_ (fun _ => ?_)
set_option maxHeartbeats 8000000 in
set_option maxRecDepth 100000 in
theorem tithebarnref03_Pack.calls (k : Nat) (A0 : Option Addr) (c0 : Nat) (l0 : List Int) (a1 : Int) (r1 : ByteArray) (r2 : Int) (w : World) (hr0 : Kd.C (Kd.int .u64) w A0 l0.length l0) (hc0 : l0.length ≤ c0) (h : tithebarnref03_Pack.f k l0 a1 = some (r1, r2)) :
  Calls Try.prog 45 #[.slice A0 l0.length c0, .int .i64 a1] w fun e w' => e = .returned (.tuple #[.string r1, .int .i64 r2]) ∧ Below w.heap.size w w' := by
 have HR0 := Aside0.mk hr0
 have HC0 := Aside0.mk hc0
 clear hr0 hc0
 have HB := Aside0.mk (Below.refl w.heap.size w)
 have H : (if a1 < 0 then (tithebarnref03_Pack.j0 k l0 a1 true) else (tithebarnref03_Pack.j0 k l0 a1 (decide (a1 > 64)))) = some (r1, r2) := h
 clear h
 have HC3 := Aside0.mk H
 clear H
 go_enter Try.func45, Try.ntmps45
 go_upto_region 1 with (fail)
 go_cut [14] (fun v14 wc => ∃ (kq : Nat) (x14_2 : Bool), v14 = .bool x14_2 ∧ Aside0 (tithebarnref03_Pack.j0 kq l0 a1 x14_2 = some (r1, r2)) ∧ Aside0 (kq ≤ k) ∧ Aside0 (Below w.heap.size w wc))
 case first =>
  have H := HC3.out
  clear HC3
  by_cases c4 : a1 < 0
  ·rw [if_pos c4] at H
   have c4b0 : decide (a1 < 0) = true := decide_eq_true c4
   clear c4
   (first | rw [c4b0] | (simp only [i64_w, i32_w]; rw [c4b0]) | skip)
   have H' := Aside0.mk H
   clear H
   go_wp2
   go_meet
   case rel => exact ⟨_, (true), z6_, H', ⟨by first | omega | exact Nat.le_refl _⟩, ⟨z0_⟩⟩
  ·rw [if_neg c4] at H
   have c4b0 : decide (a1 < 0) = false := decide_eq_false c4
   clear c4
   (first | rw [c4b0] | (simp only [i64_w, i32_w]; rw [c4b0]) | skip)
   have H' := Aside0.mk H
   clear H
   go_wp2
   go_meet
   case rel => exact ⟨_, (decide (a1 > 64)), z6_, H', ⟨by first | omega | exact Nat.le_refl _⟩, ⟨z0_⟩⟩
 case rest =>
  clear HC3
  try clear p2
  try clear c4
  try clear c4b0
  obtain ⟨kq, x14_2, rfl, HA, HJ2, HB⟩ := hcut
  cases kq with
  | zero => exact absurd HA.out (by simp [tithebarnref03_Pack.j0])
  | succ kj2 =>
   have H := HA.out
   clear HA
   simp only [tithebarnref03_Pack.j0] at H
   by_cases c5 : x14_2 = true
   ·subst c5
    have H1 : (some ((⟨#[]⟩ : ByteArray), 1)) = some (r1, r2) := by rw [if_pos rfl] at H; exact H
    clear H
    have H := H1
    clear H1
    simp only [Option.some.injEq, Prod.mk.injEq] at H
    obtain ⟨rfl, rfl⟩ := H
    go_wp2
    go_ret2
    exact ⟨z5_, z0_⟩
   ·replace c5 := Bool.eq_false_iff.mpr c5
    subst c5
    have H1 : (tithebarnref03_Pack.l0 kj2 l0 a1 ([] : List Bool) 0) = some (r1, r2) := by rw [if_neg (show ¬ (false = true) by decide)] at H; exact H
    clear H
    have H := H1
    clear H1
    have H' := Aside0.mk H
    clear H
    go_wp2
    go_loopg [6, 7] kj2 (fun kq v6 v7 w' => ∃ (x6_2 : List Bool) (x7_2 : Int), v7 = .int .i64 x7_2 ∧ Aside0 (tithebarnref03_Pack.l0 kq l0 a1 x6_2 x7_2 = some (r1, r2)) ∧ Aside0 (kq ≤ kj2) ∧ Aside0 (Kd.R Kd.bool 4 w' w.heap.size (fun _ => True) v6 x6_2) ∧ Aside0 (Below w.heap.size w w'))
    case atStart => exact ⟨(([] : List Bool)), (0), z6_, H', ⟨Nat.le_refl _⟩, ⟨z8_⟩, ⟨z0_⟩⟩
    case round =>
     clear H'
     try clear p2
     try clear c4
     try clear c4b0
     try clear c5
     try clear p2
     obtain ⟨x6_2, x7_2, rfl, HA, HK2, HO_6, HB⟩ := hrel
     cases gk with
     | zero => exact absurd HA.out (by simp [tithebarnref03_Pack.l0])
     | succ k2 =>
      have H := HA.out
      clear HA
      simp only [tithebarnref03_Pack.l0] at H
      by_cases c6 : x7_2 < (l0.length : Int)
      ·rw [if_pos c6] at H
       have c6b0 : decide (x7_2 < (l0.length : Int)) = true := decide_eq_true c6
       clear c6
       by_cases c7 : 0 ≤ x7_2
       ·rw [if_pos c7] at H
        have c7b0 : decide (0 ≤ x7_2) = true := decide_eq_true c7
        clear c7
        replace H := Option.bind_eq_some_iff.mp H
        obtain ⟨t341, A80, H⟩ := H
        replace H : (if t341 = true then (tithebarnref03_Pack.l1 k2 l0 a1 x6_2 x7_2 0) else (some ((⟨#[]⟩ : ByteArray), 4))) = some (r1, r2) := H
        have A8 := Aside0.mk A80
        clear A80
        by_cases c9 : t341 = true
        ·subst c9
         have H1 : (tithebarnref03_Pack.l1 k2 l0 a1 x6_2 x7_2 0) = some (r1, r2) := by rw [if_pos rfl] at H; exact H
         clear H
         have H := H1
         clear H1
         have H' := Aside0.mk H
         clear H
         have p340 : 0 ≤ (x7_2 : Int) := of_decide_eq_true z7_
         have q340 : x7_2 < (l0.length : Int) := of_decide_eq_true z7_
         obtain ⟨ad340, e340, hx340_0⟩ := Kd.at_int HR0.out x7_2 p340 q340
         cases e340
         replace hx340_0 := (HB.out.cell (World.block_lt_of_cell? w _ hx340_0)).trans hx340_0
         replace p340 := eq_true p340
         replace q340 := eq_true q340
         go_wp2_with (first | ((with_reducible refine gate_callee (f := 64) rfl ?_); refine goesL_ (some 26) rfl rfl Try.func64 (by kernel_rfl) rfl #[.int .u64 (rd l0 x7_2), .int .i64 a1] rfl (by (try simp only [List.map_toArray, List.map_cons, List.map_nil]); first | done | rfl | (simp only [List.length_drop, List.length_take]; rfl) | (go_simp; simp [IntKind.wrap, IntKind.bits, IntKind.signed]; omega)) ?_; (with_reducible refine (tithebarnref03_fits.calls (rd l0 x7_2) a1 true _ A8.out).mono ?_); rintro e w' ⟨rfl, ⟨nd, rfl⟩⟩; refine ⟨_, rfl, ?_⟩))
         go_loopg [6, 8] k2 (fun kq v6 v8 w' => ∃ (x6_3 : List Bool) (x8_3 : Int), v8 = .int .i64 x8_3 ∧ Aside0 (tithebarnref03_Pack.l1 kq l0 a1 x6_3 x7_2 x8_3 = some (r1, r2)) ∧ Aside0 (kq ≤ k2) ∧ Aside0 (Kd.R Kd.bool 4 w' w.heap.size (fun _ => True) v6 x6_3) ∧ Aside0 (Below w.heap.size w w'))
         case atStart => exact ⟨(x6_2), (0), z6_, H', ⟨Nat.le_refl _⟩, ⟨by (with_reducible repeat (first | apply Kd.R_alloc | apply Kd.R_drewN | apply Kd.R_drew)); exact HO_6.out⟩, ⟨z0_⟩⟩
         case round =>
          clear H'
          try clear p2
          try clear p3
          try clear q3
          try clear hx3
          try clear c4
          try clear c4b0
          try clear c5
          try clear c6
          try clear c6b0
          try clear c7
          try clear c7b0
          try clear c9
          try clear hx340_0
          try clear p2
          try clear p340
          try clear q340
          obtain ⟨x6_3, x8_3, rfl, HA, HK3, HO_6, HB⟩ := hrel
          cases gk with
          | zero => exact absurd HA.out (by simp [tithebarnref03_Pack.l1])
          | succ k3 =>
           have H := HA.out
           clear HA
           simp only [tithebarnref03_Pack.l1] at H
           by_cases c10 : x8_3 < a1
           ·rw [if_pos c10] at H
            have c10b0 : decide (x8_3 < a1) = true := decide_eq_true c10
            clear c10
            by_cases c11 : 0 ≤ x7_2
            ·rw [if_pos c11] at H
             have c11b0 : decide (0 ≤ x7_2) = true := decide_eq_true c11
             clear c11
             by_cases c12 : x7_2 < (l0.length : Int)
             ·rw [if_pos c12] at H
              have c12b0 : decide (x7_2 < (l0.length : Int)) = true := decide_eq_true c12
              clear c12
              obtain ⟨ji13, hji13⟩ : ∃ j_ : Int, (IntKind.u64.wrap (x8_3)) = j_ := ⟨_, rfl⟩
              replace H : (if 0 ≤ (ji13) then (if x6_3.length < 140737488355328 then (tithebarnref03_Pack.l1 k3 l0 a1 (x6_3 ++ [((Int.tmod (shr .u64 (rd l0 x7_2) (ji13)) 2) == 1)]) x7_2 (wrap64 (x8_3 + 1))) else (none)) else (none)) = some (r1, r2) := by first | (rw [hji13] at H; exact H) | (simp only [hji13] at H ⊢; exact H)
              by_cases c14 : 0 ≤ (ji13)
              ·rw [if_pos c14] at H
               have c14b0 := eq_true c14
               have c14b1 : decide (0 ≤ (ji13)) = true := decide_eq_true c14
               clear c14
               obtain ⟨ji15, hji15⟩ : ∃ j_ : Int, (shr .u64 (rd l0 x7_2) (ji13)) = j_ := ⟨_, rfl⟩
               replace H : (if x6_3.length < 140737488355328 then (tithebarnref03_Pack.l1 k3 l0 a1 (x6_3 ++ [((Int.tmod (ji15) 2) == 1)]) x7_2 (wrap64 (x8_3 + 1))) else (none)) = some (r1, r2) := by first | (rw [hji15] at H; exact H) | (simp only [hji15] at H ⊢; exact H)
               have hji15_ : ((rd l0 x7_2) / 2 ^ min (ji13).toNat 64) = ji15 := hji15
               have hji15z : (ji13) ≤ 64 → ((rd l0 x7_2) / 2 ^ (ji13).toNat) = ji15 := shr_small hji15
               by_cases c16 : x6_3.length < 140737488355328
               ·rw [if_pos c16] at H
                have LMc16 := Aside0.mk c16
                clear c16
                obtain ⟨y343, hy343⟩ : ∃ y_ : List Bool, y_ = (x6_3 ++ [((Int.tmod (ji15) 2) == 1)]) := ⟨_, rfl⟩
                replace H : (tithebarnref03_Pack.l1 k3 l0 a1 y343 x7_2 (wrap64 (x8_3 + 1))) = some (r1, r2) := by first | (rw [hy343]; with_reducible exact H) | (have H2_ := (Option.bind_some _ _).symm.trans H; rw [hy343]; with_reducible exact H2_) | (have H2_ := (Option.bind_some _ _).symm.trans H; with_reducible exact H2_) | with_reducible exact H | (rw [hy343]; exact H) | exact H
                have Ny343 := Aside0.mk hy343
                clear hy343
                have H' := Aside0.mk H
                clear H
                have p342 : 0 ≤ (x7_2 : Int) := of_decide_eq_true z7_
                have q342 : x7_2 < (l0.length : Int) := of_decide_eq_true z7_
                obtain ⟨ad342, e342, hx342_0⟩ := Kd.at_int HR0.out x7_2 p342 q342
                obtain rfl : ad340 = ad342 := (by injection e342)
                replace hx342_0 := (HB.out.cell (World.block_lt_of_cell? w _ hx342_0)).trans hx342_0
                replace p342 := eq_true p342
                replace q342 := eq_true q342
                go_wp2_with (first | ((with_reducible refine gate_builtin (b := .append) (xs := #[.tmp 33, .tmp 43]) rfl ?_); at_builtin; refine Kd.R_append Kd.bool (w0 := w) w.heap.size rfl (.tmp 33) (.tmp 43) 81 4 (.bool false) 1 rfl Try.underlying81 info4 rfl (by decide) (by omega) u6 x6_3 ((Int.tmod (ji15) 2) == 1) [.bool ((Int.tmod (ji15) 2) == 1)] (fun _ => True) (fun _ => False) rfl rfl ?aP (fun _ hk => hk.elim) ?aF ?aO ?aB ?aS ?aL ?_; (case aP => exact rfl); (case aB => exact z0_); (case aF => exact (fun _ _ => trivial)); (case aO => exact (by (with_reducible repeat (first | apply Kd.R_alloc | apply Kd.R_drewN | apply Kd.R_drew)); exact HO_6.out)); (case aS => exact (below_size z0_)); (case aL => have := LMc16.out; omega); intro v344 w17 ho hb hg hat; rw [← Ny343.out] at ho; have n0_ := Aside0.mk (hb); have n1_ := Aside0.mk (ho); clear HB; clear HO_6; have HB := n0_; have HO345 := n1_; clear n0_ n1_; clear ho hb hg hat))
                go_roundg k3
                case measure => have := HJ2.out; have := HK2.out; have := HK3.out; omega
                case rel => exact ⟨(y343), (wrap64 (x8_3 + 1)), z6_, H', ⟨by have := HJ2.out; have := HK2.out; have := HK3.out; omega⟩, ⟨by (with_reducible repeat (first | apply Kd.R_alloc | apply Kd.R_drewN | apply Kd.R_drew)); exact HO345.out⟩, ⟨z0_⟩⟩
               ·rw [if_neg c16] at H
                exact absurd H (by simp)
              ·rw [if_neg c14] at H
               exact absurd H (by simp)
             ·rw [if_neg c12] at H
              exact absurd H (by simp)
            ·rw [if_neg c11] at H
             exact absurd H (by simp)
           ·rw [if_neg c10] at H
            have c10b0 : decide (x8_3 < a1) = false := decide_eq_false c10
            clear c10
            have H' := Aside0.mk H
            clear H
            go_wp2
            go_roundg k3
            case measure => have := HJ2.out; have := HK2.out; have := HK3.out; omega
            case rel => exact ⟨(x6_3), (wrap64 (x7_2 + 1)), z6_, H', ⟨by have := HJ2.out; have := HK2.out; have := HK3.out; omega⟩, ⟨by (with_reducible repeat (first | apply Kd.R_alloc | apply Kd.R_drewN | apply Kd.R_drew)); exact HO_6.out⟩, ⟨z0_⟩⟩
        ·replace c9 := Bool.eq_false_iff.mpr c9
         subst c9
         have H1 : (some ((⟨#[]⟩ : ByteArray), 4)) = some (r1, r2) := by rw [if_neg (show ¬ (false = true) by decide)] at H; exact H
         clear H
         have H := H1
         clear H1
         simp only [Option.some.injEq, Prod.mk.injEq] at H
         obtain ⟨rfl, rfl⟩ := H
         have p340 : 0 ≤ (x7_2 : Int) := of_decide_eq_true z7_
         have q340 : x7_2 < (l0.length : Int) := of_decide_eq_true z7_
         obtain ⟨ad340, e340, hx340_0⟩ := Kd.at_int HR0.out x7_2 p340 q340
         cases e340
         replace hx340_0 := (HB.out.cell (World.block_lt_of_cell? w _ hx340_0)).trans hx340_0
         replace p340 := eq_true p340
         replace q340 := eq_true q340
         go_wp2_with (first | ((with_reducible refine gate_callee (f := 64) rfl ?_); refine goesL_ (some 26) rfl rfl Try.func64 (by kernel_rfl) rfl #[.int .u64 (rd l0 x7_2), .int .i64 a1] rfl (by (try simp only [List.map_toArray, List.map_cons, List.map_nil]); first | done | rfl | (simp only [List.length_drop, List.length_take]; rfl) | (go_simp; simp [IntKind.wrap, IntKind.bits, IntKind.signed]; omega)) ?_; (with_reducible refine (tithebarnref03_fits.calls (rd l0 x7_2) a1 false _ A8.out).mono ?_); rintro e w' ⟨rfl, ⟨nd, rfl⟩⟩; refine ⟨_, rfl, ?_⟩))
         go_ret2
         exact ⟨z5_, z0_⟩
       ·rw [if_neg c7] at H
        exact absurd H (by simp)
      ·rw [if_neg c6] at H
       have c6b0 : decide (x7_2 < (l0.length : Int)) = false := decide_eq_false c6
       clear c6
       replace H := Option.bind_eq_some_iff.mp H
       obtain ⟨t339, A180, H⟩ := H
       replace H : (some (t339, 0)) = some (r1, r2) := H
       have A18 := Aside0.mk A180
       clear A180
       simp only [Option.some.injEq, Prod.mk.injEq] at H
       obtain ⟨rfl, rfl⟩ := H
       obtain ⟨Ao19, co19, eo19⟩ := Kd.R_slice HO_6.out
       subst eo19
       go_wp2_with (first | ((with_reducible refine gate_callee (f := 65) rfl ?_); refine goesL_ (some 46) rfl rfl Try.func65 (by kernel_rfl) rfl #[.slice Ao19 x6_2.length co19] rfl (by (try simp only [List.map_toArray, List.map_cons, List.map_nil]); first | done | rfl | (simp only [List.length_drop, List.length_take]; rfl) | (go_simp; simp [IntKind.wrap, IntKind.bits, IntKind.signed]; omega)) ?_; (with_reducible refine (tithebarnref03_Bytes.calls k2 _ _ x6_2 t339 _ ?side1 ?side2 A18.out).mono ?_); (case side1 => repeat (first | exact (Kd.R_reads' HO_6.out).2.2 | (with_reducible refine Kd.C_alloc ?_ _) | (with_reducible refine Kd.C_drewN ?_ _) | (with_reducible refine Kd.C_drew ?_))); (case side2 => exact (Kd.R_reads' HO_6.out).2.1); rintro e w20 ⟨rfl, hb⟩; refine ⟨_, rfl, ?_⟩; have n0_ := Aside0.mk (Kd.R_below (by (with_reducible repeat (first | apply Kd.R_alloc | apply Kd.R_drewN | apply Kd.R_drew)); exact HO_6.out) hb); have n1_ := Aside0.mk (below_step z0_ hb); clear HO_6; clear HB; have HO_6 := n0_; have HB := n1_; clear n0_ n1_; (try clear hb); (try clear hb2); (try clear hk); (try clear hi)))
       go_ret2
       exact ⟨z5_, z0_⟩
end Go.Proofs.Ytgeddoklmcjdcaa.G
namespace Go.Proofs.Ytgeddoklmcjdcaa.G
open Go.RowKit Go.Proofs.YtgeddoklmcjdcaaQ Go.Proofs.YtgeddoklmcjdcaaW.PrintWords Go.Proofs.YtgeddoklmcjdcaaW.PrintLast Go.Proofs.YtgeddoklmcjdcaaW.PrintMore
attribute [local go_sem] max2_int min2_int max_two min_two max_three min_three max_four min_four   -- for this text's walks alone
set_option linter.unusedVariables false
set_option linter.unusedSimpArgs false
def tithebarnref04_packed.f (k : Nat) (l0 : List Int) : Option (ByteArray) := if (l0.length : Int) = 0 then (some (⟨#[]⟩ : ByteArray)) else ((tithebarnref04_offsets.f k l0).bind fun bt346 => ((tithebarnref03_Width.f k bt346.2).bind fun t350 => ((tithebarnref03_Pack.f k bt346.2 t350).bind fun bt351 => ((tithebarnref01_Int.f k bt346.1).bind fun t353 => ((some (([(t350) % 256] : List Int) : List Int)).bind fun y354 => (if t353.size + (strOfNums y354).size ≤ 9223372036854775807 then (if (t353 ++ (strOfNums y354)).size + bt351.1.size ≤ 9223372036854775807 then (some ((t353 ++ (strOfNums y354)) ++ bt351.1)) else (none)) else (none)))))))
theorem tithebarnref04_packed.mono : ∀ a0 k, LeO (tithebarnref04_packed.f k a0) (tithebarnref04_packed.f (k + 1) a0) := by
 intro a0 k
 unfold tithebarnref04_packed.f
 repeat' first
   | (with_reducible exact tithebarnref01_Int.mono _ _)
   | (with_reducible exact tithebarnref03_Pack.mono _ _ _)
   | (with_reducible exact tithebarnref03_Width.mono _ _)
   | (with_reducible exact tithebarnref04_offsets.mono _ _)
   | (with_reducible exact LeO.refl _)
   | (with_reducible exact LeO.none _)
   | (with_reducible refine LeO.ite ?_ ?_)
   | (with_reducible refine LeO.bind ?_ (fun _ => ?_))
   | exact tithebarnref01_Int.mono _ _
   | exact tithebarnref03_Pack.mono _ _ _
   | exact tithebarnref03_Width.mono _ _
   | exact tithebarnref04_offsets.mono _ _
   | exact LeO.none _
   | refine LeO.ite ?_ ?_
   | refine LeO.bind ?_ (fun _ => ?_)
def tithebarnref04_packed.T6 : Bool × List (List Nat × List Nat) := (true, [([], []), ([0], [0]), ([], []), ([2], [2]), ([3], [3]), ([4], [4]), ([1, 5], [1, 5]), ([], []), ([6, 7], [6, 7]), ([8, 1, 0, 1, 2, 3, 4, 5, 6, 7, 8], [8])])
def tithebarnref04_packed.B6 : List Nat := [0, 1, 0, 4, 12, 28, 63, 0, 255, 511]
theorem tithebarnref04_packed.tab6 : rtab .any (opsOf Try.f21 6) = tithebarnref04_packed.T6 := by kernel_rfl
theorem tithebarnref04_packed.bits6 : waitsOk tithebarnref04_packed.T6.2 tithebarnref04_packed.B6 = true := by kernel_rfl
set_option maxHeartbeats 8000000 in
set_option maxRecDepth 100000 in
theorem tithebarnref04_packed.calls (k : Nat) (A0 : Option Addr) (c0 : Nat) (l0 : List Int) (r : ByteArray) (w : World) (hr0 : Kd.C (Kd.int .i64) w A0 l0.length l0) (hc0 : l0.length ≤ c0) (h : tithebarnref04_packed.f k l0 = some r) :
  Calls Try.prog 21 #[.slice A0 l0.length c0] w fun e w' => e = .returned (.string r) ∧ Below w.heap.size w w' := by
 have HR0 := Aside0.mk hr0
 have HC0 := Aside0.mk hc0
 clear hr0 hc0
 have HB := Aside0.mk (Below.refl w.heap.size w)
 have H : (if (l0.length : Int) = 0 then (some (⟨#[]⟩ : ByteArray)) else ((tithebarnref04_offsets.f k l0).bind fun bt346 => ((tithebarnref03_Width.f k bt346.2).bind fun t350 => ((tithebarnref03_Pack.f k bt346.2 t350).bind fun bt351 => ((tithebarnref01_Int.f k bt346.1).bind fun t353 => ((some (([(t350) % 256] : List Int) : List Int)).bind fun y354 => (if t353.size + (strOfNums y354).size ≤ 9223372036854775807 then (if (t353 ++ (strOfNums y354)).size + bt351.1.size ≤ 9223372036854775807 then (some ((t353 ++ (strOfNums y354)) ++ bt351.1)) else (none)) else (none)))))))) = some r := h
 clear h
 by_cases c2 : (l0.length : Int) = 0
 ·rw [if_pos c2] at H
  have c2b0 : ((l0.length : Int) == 0) = true := beq_iff_eq.mpr c2
  have c2b1 : ((l0.length : Int) != 0) = false := bne_eq_false_iff_eq.mpr c2
  clear c2
  obtain rfl := Option.some.inj H
  go_enter Try.func21, Try.ntmps21
  go_wp2
  go_ret
  exact ⟨z5_, z0_⟩
 ·rw [if_neg c2] at H
  have c2b0 : ((l0.length : Int) == 0) = false := beq_eq_false_iff_ne.mpr c2
  have c2b1 : ((l0.length : Int) != 0) = true := bne_iff_ne.mpr c2
  have c2b2 : ¬ (l0 = []) := fun h_ => c2 (by rw [h_]; rfl)
  replace H := Option.bind_eq_some_iff.mp H
  obtain ⟨⟨t346, t347⟩, A30, H⟩ := H
  replace H : ((tithebarnref03_Width.f k t347).bind fun t350 => ((tithebarnref03_Pack.f k t347 t350).bind fun bt351 => ((tithebarnref01_Int.f k t346).bind fun t353 => ((some (([(t350) % 256] : List Int) : List Int)).bind fun y354 => (if t353.size + (strOfNums y354).size ≤ 9223372036854775807 then (if (t353 ++ (strOfNums y354)).size + bt351.1.size ≤ 9223372036854775807 then (some ((t353 ++ (strOfNums y354)) ++ bt351.1)) else (none)) else (none)))))) = some r := H
  have A3 := Aside0.mk A30
  clear A30
  replace H := Option.bind_eq_some_iff.mp H
  obtain ⟨t350, A40, H⟩ := H
  replace H : ((tithebarnref03_Pack.f k t347 t350).bind fun bt351 => ((tithebarnref01_Int.f k t346).bind fun t353 => ((some (([(t350) % 256] : List Int) : List Int)).bind fun y354 => (if t353.size + (strOfNums y354).size ≤ 9223372036854775807 then (if (t353 ++ (strOfNums y354)).size + bt351.1.size ≤ 9223372036854775807 then (some ((t353 ++ (strOfNums y354)) ++ bt351.1)) else (none)) else (none))))) = some r := H
  have A4 := Aside0.mk A40
  clear A40
  replace H := Option.bind_eq_some_iff.mp H
  obtain ⟨⟨t351, t352⟩, A50, H⟩ := H
  replace H : ((tithebarnref01_Int.f k t346).bind fun t353 => ((some (([(t350) % 256] : List Int) : List Int)).bind fun y354 => (if t353.size + (strOfNums y354).size ≤ 9223372036854775807 then (if (t353 ++ (strOfNums y354)).size + t351.size ≤ 9223372036854775807 then (some ((t353 ++ (strOfNums y354)) ++ t351)) else (none)) else (none)))) = some r := H
  have A5 := Aside0.mk A50
  clear A50
  replace H := Option.bind_eq_some_iff.mp H
  obtain ⟨t353, A60, H⟩ := H
  replace H : ((some (([(t350) % 256] : List Int) : List Int)).bind fun y354 => (if t353.size + (strOfNums y354).size ≤ 9223372036854775807 then (if (t353 ++ (strOfNums y354)).size + t351.size ≤ 9223372036854775807 then (some ((t353 ++ (strOfNums y354)) ++ t351)) else (none)) else (none))) = some r := H
  have A6 := Aside0.mk A60
  clear A60
  obtain ⟨y354, hy354⟩ : ∃ y_ : List Int, y_ = (([(t350) % 256] : List Int)) := ⟨_, rfl⟩
  replace H : (if t353.size + (strOfNums y354).size ≤ 9223372036854775807 then (if (t353 ++ (strOfNums y354)).size + t351.size ≤ 9223372036854775807 then (some ((t353 ++ (strOfNums y354)) ++ t351)) else (none)) else (none)) = some r := by first | (rw [hy354]; with_reducible exact H) | (have H2_ := (Option.bind_some _ _).symm.trans H; rw [hy354]; with_reducible exact H2_) | (have H2_ := (Option.bind_some _ _).symm.trans H; with_reducible exact H2_) | with_reducible exact H | (rw [hy354]; exact H) | exact H
  have Ny354 := Aside0.mk hy354
  clear hy354
  by_cases c7 : t353.size + (strOfNums y354).size ≤ 9223372036854775807
  ·rw [if_pos c7] at H
   have c7b0 := eq_true c7
   have c7b1 : decide (t353.size + (strOfNums y354).size ≤ 9223372036854775807) = true := decide_eq_true c7
   try have c7b2 : (9223372036854775807 < t353.size + (strOfNums y354).size) = False := eq_false (Nat.not_lt.2 c7)
   try (have c7b3 := c7b2; simp only [ByteArray.size_append] at c7b3)
   try (have c7b4 := c7b0; simp only [ByteArray.size_append] at c7b4)
   try (have c7b5 := c7b1; simp only [ByteArray.size_append] at c7b5)
   by_cases c8 : (t353 ++ (strOfNums y354)).size + t351.size ≤ 9223372036854775807
   ·rw [if_pos c8] at H
    have c8b0 := eq_true c8
    have c8b1 : decide ((t353 ++ (strOfNums y354)).size + t351.size ≤ 9223372036854775807) = true := decide_eq_true c8
    try have c8b2 : (9223372036854775807 < (t353 ++ (strOfNums y354)).size + t351.size) = False := eq_false (Nat.not_lt.2 c8)
    try (have c8b3 := c8b2; simp only [ByteArray.size_append] at c8b3)
    try (have c8b4 := c8b0; simp only [ByteArray.size_append] at c8b4)
    try (have c8b5 := c8b1; simp only [ByteArray.size_append] at c8b5)
    obtain rfl := Option.some.inj H
    go_enter Try.func21, Try.ntmps21
    try go_wp2_with (first | ((with_reducible refine gate_callee (f := 43) rfl ?_); refine goesL_ (some 13) rfl rfl Try.func43 (by kernel_rfl) rfl #[.slice A0 l0.length c0] rfl (by (try simp only [List.map_toArray, List.map_cons, List.map_nil]); first | done | rfl | (simp only [List.length_drop, List.length_take]; rfl) | (go_simp; simp [IntKind.wrap, IntKind.bits, IntKind.signed]; omega)) ?_; (with_reducible refine (tithebarnref04_offsets.calls k _ _ l0 t346 t347 _ ?side1 ?side2 A3.out).mono ?_); (case side1 => repeat (first | exact HR0.out | (with_reducible refine Kd.C_alloc ?_ _) | (with_reducible refine Kd.C_drewN ?_ _) | (with_reducible refine Kd.C_drew ?_))); (case side2 => exact HC0.out); rintro e w9 ⟨v348, rfl, ho0, hb⟩; refine ⟨_, rfl, ?_⟩; have n0_ := Aside0.mk (Kd.R_lower ho0 (below_size z0_)); have n1_ := Aside0.mk (below_step z0_ hb); clear HB; have HO349 := n0_; have HB := n1_; clear n0_ n1_; (try clear hb); (try clear hb2); (try clear hk); (try clear hi); (try clear ho0); obtain ⟨Ao10, co10, eo10⟩ := Kd.R_slice HO349.out; subst eo10) | ((with_reducible refine gate_callee (f := 44) rfl ?_); refine goesL_ (some 17) rfl rfl Try.func44 (by kernel_rfl) rfl #[.slice Ao10 t347.length co10] rfl (by (try simp only [List.map_toArray, List.map_cons, List.map_nil]); first | done | rfl | (simp only [List.length_drop, List.length_take]; rfl) | (go_simp; simp [IntKind.wrap, IntKind.bits, IntKind.signed]; omega)) ?_; (with_reducible refine (tithebarnref03_Width.calls k _ _ t347 t350 _ ?side1 ?side2 A4.out).mono ?_); (case side1 => repeat (first | exact (Kd.R_reads' HO349.out).2.2 | (with_reducible refine Kd.C_alloc ?_ _) | (with_reducible refine Kd.C_drewN ?_ _) | (with_reducible refine Kd.C_drew ?_))); (case side2 => exact (Kd.R_reads' HO349.out).2.1); rintro e w' ⟨rfl, ⟨nd, rfl⟩⟩; refine ⟨_, rfl, ?_⟩) | ((with_reducible refine gate_callee (f := 45) rfl ?_); refine goesL_ (some 21) rfl rfl Try.func45 (by kernel_rfl) rfl #[.slice Ao10 t347.length co10, .int .i64 t350] rfl (by (try simp only [List.map_toArray, List.map_cons, List.map_nil]); first | done | rfl | (simp only [List.length_drop, List.length_take]; rfl) | (go_simp; simp [IntKind.wrap, IntKind.bits, IntKind.signed]; omega)) ?_; (with_reducible refine (tithebarnref03_Pack.calls k _ _ t347 t350 t351 t352 _ ?side1 ?side2 A5.out).mono ?_); (case side1 => repeat (first | exact (Kd.R_reads' HO349.out).2.2 | (with_reducible refine Kd.C_alloc ?_ _) | (with_reducible refine Kd.C_drewN ?_ _) | (with_reducible refine Kd.C_drew ?_))); (case side2 => exact (Kd.R_reads' HO349.out).2.1); rintro e w11 ⟨rfl, hb⟩; refine ⟨_, rfl, ?_⟩; have n0_ := Aside0.mk (Kd.R_below (by (with_reducible repeat (first | apply Kd.R_alloc | apply Kd.R_drewN | apply Kd.R_drew)); exact HO349.out) hb); have n1_ := Aside0.mk (below_step z0_ hb); clear HO349; clear HB; have HO349 := n0_; have HB := n1_; clear n0_ n1_; (try clear hb); (try clear hb2); (try clear hk); (try clear hi)))
    have n0_ := Aside0.mk (Kd.R_drew HO349.out)
    have n1_ := Aside0.mk (below_drew1 HB.out)
    clear HO349
    clear HB
    have HO349 := n0_
    have HB := n1_
    clear n0_ n1_
    refine start_ (n := 10) (S := fun w' => True) (ds := []) (bs_ 10 0) (by kernel_rfl) rfl rfl trivial (fun hHeld => ?_); refine with_tabW tithebarnref04_packed.tab6 tithebarnref04_packed.bits6 (fun HT_ HW_ => ?_)
    generalize w11.drew = w12 at HO349 HB hHeld ⊢
    refine pA_ 0 (some 24) (bs_ 10 1) HT_ ?_ ?_ ?_ ?_ ?_
    rotate_left; (intro w'; go_simp; with_reducible rfl); rotate_left; (simp only [PT_]; rfl)
    refine pA_ 2 (some 26) (bs_ 10 5) HT_ ?_ ?_ ?_ ?_ ?_
    rotate_left; (intro w'; go_simp; with_reducible rfl); rotate_left; (simp only [PT_]; rfl)
    refine pA_ 3 (some 27) (bs_ 10 13) HT_ ?_ ?_ ?_ ?_ ?_
    rotate_left; (intro w'; go_simp; with_reducible rfl); rotate_left; (simp only [PT_]; rfl)
    refine pA_ 7 (some 31) (bs_ 10 141) HT_ ?_ ?_ ?_ ?_ ?_
    rotate_left; (intro w'; go_simp; with_reducible rfl); rotate_left; (simp only [PT_]; rfl)
    refine join_ (σ := Value) 3 (bs_ 10 191) (fun s_ => [(25, .string t353), (28, s_), (29, .string (strOfNums y354))]) (fun s_ w' => (Kd.R (Kd.int .u64) 44 w' w.heap.size (fun _ => True) (.slice Ao10 t347.length co10) t347) ∧ (Kd.R (Kd.int .u8) 5 w' w.heap.size (fun _ => True) s_ y354) ∧ (Below w.heap.size w w')) ?_ ?_
    rotate_left
    ·intro hCont
     refine two_ (i := 1) (j := 4) (Ni := some 25) (Nj := some 28) (bs_ 10 143) (bs_ 10 157) rfl rfl rfl rfl (two_of HT_.out (by kernel_rfl)) (by decide) (by decide) (fun K hK => ?_) (fun K hK => ?_)
     ·skip
      refine goes_ Try.func22 (by kernel_rfl) rfl #[.int .i64 t346] (by rfl) rfl rfl (by (try simp only [List.map_toArray, List.map_cons, List.map_nil]); first | done | rfl | (simp only [List.length_drop, List.length_take]; rfl)) ?_
      with_reducible refine (tithebarnref01_Int.calls k t346 t353 _ A6.out).mono ?_
      rintro e w13 ⟨rfl, hb⟩
      refine ⟨_, rfl, ?_⟩
      have n0_ := Aside0.mk (Kd.R_below (by (with_reducible repeat (first | apply Kd.R_alloc | apply Kd.R_drewN | apply Kd.R_drew)); exact HO349.out) hb)
      have n1_ := Aside0.mk (below_step z0_ hb)
      clear HO349
      clear HB
      have HO349 := n0_
      have HB := n1_
      clear n0_ n1_
      (try clear hb)
      (try clear hb2)
      (try clear hk)
      (try clear hi)
      refine hK.out _ _ trivial (fun hHeld => ?_)
      clear hK K
      refine norm_ (a' := ?_) ?_ ?_; rotate_left; (show Act.put _ (some 25) _ = _; simp only [PT_]; rfl)
      refine oA_ 4 (some 28) (bs_ 10 159) HT_ (fun K hK => ?_)
      refine Kd.R_lit_step (Kd.int .u8) _ 5 ?hg (N := 28) ?hd (xs := ([(t350) % 256] : List Int)) (inner := [.int .u8 ((t350) % 256)]) (ok := fun _ => True) (okp := fun _ => True) ?hr ?hp (fun _ hk => hk) trivial (Below.refl _ _) (Nat.le_refl _) (by simp) ?_; (case hd => rfl); (case hg => rfl); (case hr => first | (go_simp; done) | (go_simp; rfl)); (case hp => exact (Reps.one (show Kd.M (Kd.int .u8) _ _ _ ((t350) % 256) [.int .u8 ((t350) % 256)] from rfl) (Reps.none _ _)))
      intro v355 w14 ho15 hb hg_ hnew_
      clear hg_ hnew_
      (first | rw [← Ny354.out] at ho15 | (simp only [Int.reduceToNat] at ho15; rw [← Ny354.out] at ho15))
      have n0_ := Aside0.mk (Kd.R_below (by (with_reducible repeat (first | apply Kd.R_alloc | apply Kd.R_drewN | apply Kd.R_drew)); exact HO349.out) hb)
      have n1_ := Aside0.mk (Kd.R_lower ho15 (below_size z0_))
      have n2_ := Aside0.mk (below_step z0_ hb)
      clear HO349
      clear HB
      have HO349 := n0_
      have HO356 := n1_
      have HB := n2_
      clear n0_ n1_ n2_
      clear hb ho15
      refine hK.out _ _ trivial (fun hHeld => ?_)
      clear hK K
      refine norm_ (a' := ?_) ?_ ?_; rotate_left; (show Act.put _ (some 28) _ = _; simp only [PT_]; rfl)
      refine oA_ 5 (some 29) (bs_ 10 191) HT_ (fun K hK => ?_)
      have hcv16 := own_string (P := Try.prog) Try.underlying38 Try.underlying5 Try.underlying9 (Kd.own_of_R HO356.out)
      refine value_ (w1 := ?_) (v := ?_) (by rfl) rfl ?_ ?_
      rotate_left 2; (go_simp; constructor; rfl; rfl)
      clear hcv16
      refine hK.out _ _ trivial (fun hHeld => ?_)
      clear hK K
      refine norm_ (a' := ?_) ?_ ?_; rotate_left; (show Act.put _ (some 29) _ = _; simp only [PT_]; rfl)
      exact norm_ (by simp only [putAll, Act.put, List.setIfInBounds_toArray, List.set_cons_zero, List.set_cons_succ]) (hCont (v355) _ ⟨(by (with_reducible repeat (first | apply Kd.R_alloc | apply Kd.R_drewN | apply Kd.R_drew)); exact HO349.out), (by (with_reducible repeat (first | apply Kd.R_alloc | apply Kd.R_drewN | apply Kd.R_drew)); exact HO356.out), z0_⟩)
     ·skip
      refine Kd.R_lit_step (Kd.int .u8) _ 5 ?hg (N := 28) ?hd (xs := ([(t350) % 256] : List Int)) (inner := [.int .u8 ((t350) % 256)]) (ok := fun _ => True) (okp := fun _ => True) ?hr ?hp (fun _ hk => hk) trivial (Below.refl _ _) (Nat.le_refl _) (by simp) ?_; (case hd => rfl); (case hg => rfl); (case hr => first | (go_simp; done) | (go_simp; rfl)); (case hp => exact (Reps.one (show Kd.M (Kd.int .u8) _ _ _ ((t350) % 256) [.int .u8 ((t350) % 256)] from rfl) (Reps.none _ _)))
      intro v355 w13 ho14 hb hg_ hnew_
      clear hg_ hnew_
      (first | rw [← Ny354.out] at ho14 | (simp only [Int.reduceToNat] at ho14; rw [← Ny354.out] at ho14))
      have n0_ := Aside0.mk (Kd.R_below (by (with_reducible repeat (first | apply Kd.R_alloc | apply Kd.R_drewN | apply Kd.R_drew)); exact HO349.out) hb)
      have n1_ := Aside0.mk (Kd.R_lower ho14 (below_size z0_))
      have n2_ := Aside0.mk (below_step z0_ hb)
      clear HO349
      clear HB
      have HO349 := n0_
      have HO356 := n1_
      have HB := n2_
      clear n0_ n1_ n2_
      clear hb ho14
      refine hK.out _ _ trivial (fun hHeld => ?_)
      clear hK K
      refine norm_ (a' := ?_) ?_ ?_; rotate_left; (show Act.put _ (some 28) _ = _; simp only [PT_]; rfl)
      refine two_ (i := 1) (j := 5) (Ni := some 25) (Nj := some 29) (bs_ 10 159) (bs_ 10 189) rfl rfl rfl rfl (two_of HT_.out (by kernel_rfl)) (by decide) (by decide) (fun K hK => ?_) (fun K hK => ?_)
      ·skip
       refine goes_ Try.func22 (by kernel_rfl) rfl #[.int .i64 t346] (by rfl) rfl rfl (by (try simp only [List.map_toArray, List.map_cons, List.map_nil]); first | done | rfl | (simp only [List.length_drop, List.length_take]; rfl)) ?_
       with_reducible refine (tithebarnref01_Int.calls k t346 t353 _ A6.out).mono ?_
       rintro e w15 ⟨rfl, hb⟩
       refine ⟨_, rfl, ?_⟩
       have n0_ := Aside0.mk (Kd.R_below (by (with_reducible repeat (first | apply Kd.R_alloc | apply Kd.R_drewN | apply Kd.R_drew)); exact HO349.out) hb)
       have n1_ := Aside0.mk (Kd.R_below (by (with_reducible repeat (first | apply Kd.R_alloc | apply Kd.R_drewN | apply Kd.R_drew)); exact HO356.out) hb)
       have n2_ := Aside0.mk (below_step z0_ hb)
       clear HO349
       clear HO356
       clear HB
       have HO349 := n0_
       have HO356 := n1_
       have HB := n2_
       clear n0_ n1_ n2_
       (try clear hb)
       (try clear hb2)
       (try clear hk)
       (try clear hi)
       refine hK.out _ _ trivial (fun hHeld => ?_)
       clear hK K
       refine norm_ (a' := ?_) ?_ ?_; rotate_left; (show Act.put _ (some 25) _ = _; simp only [PT_]; rfl)
       refine oA_ 5 (some 29) (bs_ 10 191) HT_ (fun K hK => ?_)
       have hcv16 := own_string (P := Try.prog) Try.underlying38 Try.underlying5 Try.underlying9 (Kd.own_of_R HO356.out)
       refine value_ (w1 := ?_) (v := ?_) (by rfl) rfl ?_ ?_
       rotate_left 2; (go_simp; constructor; rfl; rfl)
       clear hcv16
       refine hK.out _ _ trivial (fun hHeld => ?_)
       clear hK K
       refine norm_ (a' := ?_) ?_ ?_; rotate_left; (show Act.put _ (some 29) _ = _; simp only [PT_]; rfl)
       exact norm_ (by simp only [putAll, Act.put, List.setIfInBounds_toArray, List.set_cons_zero, List.set_cons_succ]) (hCont (v355) _ ⟨(by (with_reducible repeat (first | apply Kd.R_alloc | apply Kd.R_drewN | apply Kd.R_drew)); exact HO349.out), (by (with_reducible repeat (first | apply Kd.R_alloc | apply Kd.R_drewN | apply Kd.R_drew)); exact HO356.out), z0_⟩)
      ·skip
       have hcv15 := own_string (P := Try.prog) Try.underlying38 Try.underlying5 Try.underlying9 (Kd.own_of_R HO356.out)
       refine value_ (w1 := ?_) (v := ?_) (by rfl) rfl ?_ ?_
       rotate_left 2; (go_simp; constructor; rfl; rfl)
       clear hcv15
       refine hK.out _ _ trivial (fun hHeld => ?_)
       clear hK K
       refine norm_ (a' := ?_) ?_ ?_; rotate_left; (show Act.put _ (some 29) _ = _; simp only [PT_]; rfl)
       refine oA_ 1 (some 25) (bs_ 10 191) HT_ (fun K hK => ?_)
       refine goes_ Try.func22 (by kernel_rfl) rfl #[.int .i64 t346] (by rfl) rfl rfl (by (try simp only [List.map_toArray, List.map_cons, List.map_nil]); first | done | rfl | (simp only [List.length_drop, List.length_take]; rfl)) ?_
       with_reducible refine (tithebarnref01_Int.calls k t346 t353 _ A6.out).mono ?_
       rintro e w16 ⟨rfl, hb⟩
       refine ⟨_, rfl, ?_⟩
       have n0_ := Aside0.mk (Kd.R_below (by (with_reducible repeat (first | apply Kd.R_alloc | apply Kd.R_drewN | apply Kd.R_drew)); exact HO349.out) hb)
       have n1_ := Aside0.mk (Kd.R_below (by (with_reducible repeat (first | apply Kd.R_alloc | apply Kd.R_drewN | apply Kd.R_drew)); exact HO356.out) hb)
       have n2_ := Aside0.mk (below_step z0_ hb)
       clear HO349
       clear HO356
       clear HB
       have HO349 := n0_
       have HO356 := n1_
       have HB := n2_
       clear n0_ n1_ n2_
       (try clear hb)
       (try clear hb2)
       (try clear hk)
       (try clear hi)
       refine hK.out _ _ trivial (fun hHeld => ?_)
       clear hK K
       refine norm_ (a' := ?_) ?_ ?_; rotate_left; (show Act.put _ (some 25) _ = _; simp only [PT_]; rfl)
       exact norm_ (by simp only [putAll, Act.put, List.setIfInBounds_toArray, List.set_cons_zero, List.set_cons_succ]) (hCont (v355) _ ⟨(by (with_reducible repeat (first | apply Kd.R_alloc | apply Kd.R_drewN | apply Kd.R_drew)); exact HO349.out), (by (with_reducible repeat (first | apply Kd.R_alloc | apply Kd.R_drewN | apply Kd.R_drew)); exact HO356.out), z0_⟩)
    rintro v355 w17 ⟨h0_, h1_, h2_⟩
    have n0_ : Aside0 (Kd.R (Kd.int .u64) 44 w17 w.heap.size (fun _ => True) (.slice Ao10 t347.length co10) t347) := ⟨h0_⟩
    have n1_ : Aside0 (Kd.R (Kd.int .u8) 5 w17 w.heap.size (fun _ => True) v355 y354) := ⟨h1_⟩
    have n2_ : Aside0 (Below w.heap.size w w17) := ⟨h2_⟩
    clear HO349
    clear HB
    clear h0_ h1_ h2_
    have HO349 := n0_
    have HO356 := n1_
    have HB := n2_
    clear n0_ n1_ n2_
    have hHeld := trivial
    refine norm_ (a' := ?_) ?_ ?_
    rotate_left
    ·simp only [putAll, Act.put, List.setIfInBounds_toArray, List.set_cons_zero, List.set_cons_succ]
     rfl
    refine pA_ 6 (some 30) (bs_ 10 255) HT_ ?_ ?_ ?_ ?_ ?_
    rotate_left; (intro w'; go_simp; with_reducible rfl); rotate_left; (simp only [PT_]; rfl)
    refine pA_ 8 (some 32) (bs_ 10 511) HT_ ?_ ?_ ?_ ?_ ?_
    rotate_left; (intro w'; go_simp; with_reducible rfl); rotate_left; (simp only [PT_]; rfl)
    refine pA_ 9 (some 2) (bs_ 10 1023) HT_ ?_ ?_ ?_ ?_ ?_
    rotate_left; (intro w'; go_simp; with_reducible rfl); rotate_left; (simp only [PT_]; rfl)
    refine done_ (done_of HT_.out (by kernel_rfl)) ?_
    try go_wp2
    go_ret
    exact ⟨z5_, z0_⟩
   ·rw [if_neg c8] at H
    exact absurd H (by simp)
  ·rw [if_neg c7] at H
   exact absurd H (by simp)
end Go.Proofs.Ytgeddoklmcjdcaa.G
