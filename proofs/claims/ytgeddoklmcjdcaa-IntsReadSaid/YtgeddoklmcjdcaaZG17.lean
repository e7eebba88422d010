import Derived.Test.YtgeddoklmcjdcaaZQA
import Derived.Test.YtgeddoklmcjdcaaZG13
namespace Go.Proofs.Ytgeddoklmcjdcaa.G
open Go.RowKit Go.Proofs.YtgeddoklmcjdcaaQ Go.Proofs.YtgeddoklmcjdcaaW.PrintWords Go.Proofs.YtgeddoklmcjdcaaW.PrintLast Go.Proofs.YtgeddoklmcjdcaaW.PrintMore
attribute [local go_sem] max2_int min2_int max_two min_two max_three min_three max_four min_four   -- for this text's walks alone
set_option linter.unusedVariables false
set_option linter.unusedSimpArgs false
def tithebarnlaw04_lives.f (k : Nat)  : Option (Bool) := (ints_With.f k (([7, 7, 7] : List Int)) 2).bind fun bt296 => ((ints_Read.f k (⟨#[2, 3, 3, 14]⟩ : ByteArray)).bind fun bt298 => (if bt296.2 = 0 then (if bt296.1.toList = ([2, 3, 3, 14] : List UInt8) then (if bt298.2 = 0 then (if (bt298.1.length : Int) = 3 then (if 2 < (bt298.1.length : Int) then (some ((rd bt298.1 2) == 7)) else (none)) else (some false)) else (some false)) else (some false)) else (some false)))
theorem tithebarnlaw04_lives.mono : ∀ k, LeO (tithebarnlaw04_lives.f k ) (tithebarnlaw04_lives.f (k + 1) ) := by
 intro  k
 unfold tithebarnlaw04_lives.f
 repeat' first
   | (with_reducible exact ints_Read.mono _ _)
   | (with_reducible exact ints_With.mono _ _ _)
   | (with_reducible exact LeO.refl _)
   | (with_reducible exact LeO.none _)
   | (with_reducible refine LeO.ite ?_ ?_)
   | (with_reducible refine LeO.bind ?_ (fun _ => ?_))
   | exact ints_Read.mono _ _
   | exact ints_With.mono _ _ _
   | exact LeO.none _
   | refine LeO.ite ?_ ?_
   | refine LeO.bind ?_ (fun _ => ?_)
set_option maxHeartbeats 8000000 in
set_option maxRecDepth 100000 in
theorem tithebarnlaw04_lives.calls (k : Nat)  (r : Bool) (w : World) (h : tithebarnlaw04_lives.f k  = some r) :
  Calls Try.prog 9 #[] w fun e w' => e = .returned (.bool r) ∧ Below w.heap.size w w' := by
 have HB := Aside0.mk (Below.refl w.heap.size w)
 have H : ((ints_With.f k (([7, 7, 7] : List Int)) 2).bind fun bt296 => ((ints_Read.f k (⟨#[2, 3, 3, 14]⟩ : ByteArray)).bind fun bt298 => (if bt296.2 = 0 then (if bt296.1.toList = ([2, 3, 3, 14] : List UInt8) then (if bt298.2 = 0 then (if (bt298.1.length : Int) = 3 then (if 2 < (bt298.1.length : Int) then (some ((rd bt298.1 2) == 7)) else (none)) else (some false)) else (some false)) else (some false)) else (some false)))) = some r := h
 clear h
 obtain ⟨y293, hy293⟩ : ∃ y_ : List Int, y_ = (([7, 7, 7] : List Int)) := ⟨_, rfl⟩
 replace H : ((ints_With.f k y293 2).bind fun bt296 => ((ints_Read.f k (⟨#[2, 3, 3, 14]⟩ : ByteArray)).bind fun bt298 => (if bt296.2 = 0 then (if bt296.1.toList = ([2, 3, 3, 14] : List UInt8) then (if bt298.2 = 0 then (if (bt298.1.length : Int) = 3 then (if 2 < (bt298.1.length : Int) then (some ((rd bt298.1 2) == 7)) else (none)) else (some false)) else (some false)) else (some false)) else (some false)))) = some r := by first | (rw [hy293]; with_reducible exact H) | (have H2_ := (Option.bind_some _ _).symm.trans H; rw [hy293]; with_reducible exact H2_) | (have H2_ := (Option.bind_some _ _).symm.trans H; with_reducible exact H2_) | with_reducible exact H | (rw [hy293]; exact H) | exact H
 have Ny293 := Aside0.mk hy293
 clear hy293
 replace H := Option.bind_eq_some_iff.mp H
 obtain ⟨⟨t296, t297⟩, A10, H⟩ := H
 replace H : ((ints_Read.f k (⟨#[2, 3, 3, 14]⟩ : ByteArray)).bind fun bt298 => (if t297 = 0 then (if t296.toList = ([2, 3, 3, 14] : List UInt8) then (if bt298.2 = 0 then (if (bt298.1.length : Int) = 3 then (if 2 < (bt298.1.length : Int) then (some ((rd bt298.1 2) == 7)) else (none)) else (some false)) else (some false)) else (some false)) else (some false))) = some r := H
 have A1 := Aside0.mk A10
 clear A10
 replace H := Option.bind_eq_some_iff.mp H
 obtain ⟨⟨t298, t299⟩, A20, H⟩ := H
 replace H : (if t297 = 0 then (if t296.toList = ([2, 3, 3, 14] : List UInt8) then (if t299 = 0 then (if (t298.length : Int) = 3 then (if 2 < (t298.length : Int) then (some ((rd t298 2) == 7)) else (none)) else (some false)) else (some false)) else (some false)) else (some false)) = some r := H
 have A2 := Aside0.mk A20
 clear A20
 by_cases c3 : t297 = 0
 ·rw [if_pos c3] at H
  have c3b0 : (t297 == 0) = true := beq_iff_eq.mpr c3
  have c3b1 : (t297 != 0) = false := bne_eq_false_iff_eq.mpr c3
  clear c3
  by_cases c4 : t296.toList = ([2, 3, 3, 14] : List UInt8)
  ·rw [if_pos c4] at H
   have c4b0 : (t296.toList == ([2, 3, 3, 14] : List UInt8)) = true := beq_iff_eq.mpr c4
   have c4b1 : (t296.toList != ([2, 3, 3, 14] : List UInt8)) = false := bne_eq_false_iff_eq.mpr c4
   clear c4
   by_cases c5 : t299 = 0
   ·rw [if_pos c5] at H
    have c5b0 : (t299 == 0) = true := beq_iff_eq.mpr c5
    have c5b1 : (t299 != 0) = false := bne_eq_false_iff_eq.mpr c5
    clear c5
    by_cases c6 : (t298.length : Int) = 3
    ·rw [if_pos c6] at H
     have c6b0 : ((t298.length : Int) == 3) = true := beq_iff_eq.mpr c6
     have c6b1 : ((t298.length : Int) != 3) = false := bne_eq_false_iff_eq.mpr c6
     clear c6
     by_cases c7 : 2 < (t298.length : Int)
     ·rw [if_pos c7] at H
      have c7b0 : decide (2 < (t298.length : Int)) = true := decide_eq_true c7
      have c7b1 : decide (2 < t298.length) = true := decide_eq_true (by omega)
      clear c7
      obtain rfl := Option.some.inj H
      go_enter Try.func9, Try.ntmps9
      go_wp2_with (first | ((with_reducible refine gate_dst (N := 6) rfl ?_); (try (refine gate_guard (by rfl) ?_; dsimp only)); refine Kd.R_lit (Kd.int .i64) _ 2 ?hg (N := 6) ?hd (xs := ([7, 7, 7] : List Int)) (inner := [.int .i64 7, .int .i64 7, .int .i64 7]) (ok := fun _ => True) (okp := fun _ => True) ?hr ?hp (fun _ hk => hk) trivial (Below.refl _ _) (Nat.le_refl _) (by simp) ?_; (case hd => rfl); (case hg => rfl); (case hr => first | (go_simp; done) | (go_simp; rfl)); (case hp => exact (Reps.one (show Kd.M (Kd.int .i64) _ _ _ 7 [.int .i64 7] from rfl) (Reps.one (show Kd.M (Kd.int .i64) _ _ _ 7 [.int .i64 7] from rfl) (Reps.one (show Kd.M (Kd.int .i64) _ _ _ 7 [.int .i64 7] from rfl) (Reps.none _ _))))); intro v294 w8 ho9 hb hg_ hnew_; clear hg_ hnew_; (first | rw [← Ny293.out] at ho9 | (simp only [Int.reduceToNat] at ho9; rw [← Ny293.out] at ho9)); have n0_ := Aside0.mk (Kd.R_lower ho9 (below_size z1_)); have n1_ := Aside0.mk (below_step z1_ hb); clear HB; have HO295 := n0_; have HB := n1_; clear n0_ n1_; clear hb ho9; obtain ⟨Ao10, co10, eo10⟩ := Kd.R_slice HO295.out; subst eo10) | ((with_reducible refine gate_callee (f := 10) rfl ?_); refine goesL_ (some 7) rfl rfl Try.func10 (by kernel_rfl) rfl #[.slice Ao10 y293.length co10, .int .i64 2] rfl (by (try simp only [List.map_toArray, List.map_cons, List.map_nil]); first | done | rfl | (simp only [List.length_drop, List.length_take]; rfl) | (go_simp; simp [IntKind.wrap, IntKind.bits, IntKind.signed]; omega)) ?_; (with_reducible refine (ints_With.calls k _ _ y293 2 t296 t297 _ ?side1 ?side2 A1.out).mono ?_); (case side1 => repeat (first | exact (Kd.R_reads' HO295.out).2.2 | (with_reducible refine Kd.C_alloc ?_ _) | (with_reducible refine Kd.C_drewN ?_ _) | (with_reducible refine Kd.C_drew ?_))); (case side2 => exact (Kd.R_reads' HO295.out).2.1); rintro e w11 ⟨rfl, hb⟩; refine ⟨_, rfl, ?_⟩; have n0_ := Aside0.mk (Kd.R_below (by (with_reducible repeat (first | apply Kd.R_alloc | apply Kd.R_drewN | apply Kd.R_drew)); exact HO295.out) hb); have n1_ := Aside0.mk (below_step z1_ hb); clear HO295; clear HB; have HO295 := n0_; have HB := n1_; clear n0_ n1_; (try clear hb); (try clear hb2); (try clear hk); (try clear hi)) | ((with_reducible refine gate_callee (f := 12) rfl ?_); refine goesL_ (some 11) rfl rfl Try.func12 (by kernel_rfl) rfl #[.string (⟨#[2, 3, 3, 14]⟩ : ByteArray)] rfl (by (try simp only [List.map_toArray, List.map_cons, List.map_nil]); first | done | rfl | (simp only [List.length_drop, List.length_take]; rfl) | (go_simp; simp [IntKind.wrap, IntKind.bits, IntKind.signed]; omega)) ?_; (with_reducible refine (ints_Read.calls k (⟨#[2, 3, 3, 14]⟩ : ByteArray) t298 t299 _ A2.out).mono ?_); rintro e w12 ⟨v300, rfl, ho0, hb⟩; refine ⟨_, rfl, ?_⟩; have n0_ := Aside0.mk (Kd.R_elder' (by (with_reducible repeat (first | apply Kd.R_alloc | apply Kd.R_drewN | apply Kd.R_drew)); exact HO295.out) (Kd.R_base ho0) hb); have n1_ := Aside0.mk (Kd.R_lower (Kd.R_new' ho0 (Kd.R_lt (by (with_reducible repeat (first | apply Kd.R_alloc | apply Kd.R_drewN | apply Kd.R_drew)); exact HO295.out))) (below_size z1_)); have n2_ := Aside0.mk (below_step z1_ hb); clear HO295; clear HB; have HO295 := n0_; have HO301 := n1_; have HB := n2_; clear n0_ n1_ n2_; (try clear hb); (try clear hb2); (try clear hk); (try clear hi); (try clear ho0); obtain ⟨Ao13, co13, eo13⟩ := Kd.R_slice HO301.out; subst eo13; have p302 : 0 ≤ (2 : Int) := (by omega); have q302 : 2 < (t298.length : Int) := of_decide_eq_true z12_; obtain ⟨ad302, e302, hx302_0⟩ := Kd.at_int (Kd.R_reads' HO301.out).2.2 2 p302 q302; cases e302; (try simp only [show (2 : Int).toNat = 2 from rfl, Nat.reduceMul, Nat.reduceEqDiff, Go.Addr.add, ↓reduceIte] at hx302_0); have qi302 : (2 < t298.length) = True := eq_true (by omega); (try rw [show ((2 : Int)).toNat = 2 from rfl] at hx302_0); replace p302 := eq_true p302; replace q302 := eq_true q302))
      go_ret
      exact ⟨z6_, z1_⟩
     ·rw [if_neg c7] at H
      exact absurd H (by simp)
    ·rw [if_neg c6] at H
     have c6b0 : ((t298.length : Int) == 3) = false := beq_eq_false_iff_ne.mpr c6
     have c6b1 : ((t298.length : Int) != 3) = true := bne_iff_ne.mpr c6
     obtain rfl := Option.some.inj H
     go_enter Try.func9, Try.ntmps9
     go_wp2_with (first | ((with_reducible refine gate_dst (N := 6) rfl ?_); (try (refine gate_guard (by rfl) ?_; dsimp only)); refine Kd.R_lit (Kd.int .i64) _ 2 ?hg (N := 6) ?hd (xs := ([7, 7, 7] : List Int)) (inner := [.int .i64 7, .int .i64 7, .int .i64 7]) (ok := fun _ => True) (okp := fun _ => True) ?hr ?hp (fun _ hk => hk) trivial (Below.refl _ _) (Nat.le_refl _) (by simp) ?_; (case hd => rfl); (case hg => rfl); (case hr => first | (go_simp; done) | (go_simp; rfl)); (case hp => exact (Reps.one (show Kd.M (Kd.int .i64) _ _ _ 7 [.int .i64 7] from rfl) (Reps.one (show Kd.M (Kd.int .i64) _ _ _ 7 [.int .i64 7] from rfl) (Reps.one (show Kd.M (Kd.int .i64) _ _ _ 7 [.int .i64 7] from rfl) (Reps.none _ _))))); intro v294 w14 ho15 hb hg_ hnew_; clear hg_ hnew_; (first | rw [← Ny293.out] at ho15 | (simp only [Int.reduceToNat] at ho15; rw [← Ny293.out] at ho15)); have n0_ := Aside0.mk (Kd.R_lower ho15 (below_size z1_)); have n1_ := Aside0.mk (below_step z1_ hb); clear HB; have HO295 := n0_; have HB := n1_; clear n0_ n1_; clear hb ho15; obtain ⟨Ao16, co16, eo16⟩ := Kd.R_slice HO295.out; subst eo16) | ((with_reducible refine gate_callee (f := 10) rfl ?_); refine goesL_ (some 7) rfl rfl Try.func10 (by kernel_rfl) rfl #[.slice Ao16 y293.length co16, .int .i64 2] rfl (by (try simp only [List.map_toArray, List.map_cons, List.map_nil]); first | done | rfl | (simp only [List.length_drop, List.length_take]; rfl) | (go_simp; simp [IntKind.wrap, IntKind.bits, IntKind.signed]; omega)) ?_; (with_reducible refine (ints_With.calls k _ _ y293 2 t296 t297 _ ?side1 ?side2 A1.out).mono ?_); (case side1 => repeat (first | exact (Kd.R_reads' HO295.out).2.2 | (with_reducible refine Kd.C_alloc ?_ _) | (with_reducible refine Kd.C_drewN ?_ _) | (with_reducible refine Kd.C_drew ?_))); (case side2 => exact (Kd.R_reads' HO295.out).2.1); rintro e w17 ⟨rfl, hb⟩; refine ⟨_, rfl, ?_⟩; have n0_ := Aside0.mk (Kd.R_below (by (with_reducible repeat (first | apply Kd.R_alloc | apply Kd.R_drewN | apply Kd.R_drew)); exact HO295.out) hb); have n1_ := Aside0.mk (below_step z1_ hb); clear HO295; clear HB; have HO295 := n0_; have HB := n1_; clear n0_ n1_; (try clear hb); (try clear hb2); (try clear hk); (try clear hi)) | ((with_reducible refine gate_callee (f := 12) rfl ?_); refine goesL_ (some 11) rfl rfl Try.func12 (by kernel_rfl) rfl #[.string (⟨#[2, 3, 3, 14]⟩ : ByteArray)] rfl (by (try simp only [List.map_toArray, List.map_cons, List.map_nil]); first | done | rfl | (simp only [List.length_drop, List.length_take]; rfl) | (go_simp; simp [IntKind.wrap, IntKind.bits, IntKind.signed]; omega)) ?_; (with_reducible refine (ints_Read.calls k (⟨#[2, 3, 3, 14]⟩ : ByteArray) t298 t299 _ A2.out).mono ?_); rintro e w18 ⟨v300, rfl, ho0, hb⟩; refine ⟨_, rfl, ?_⟩; have n0_ := Aside0.mk (Kd.R_elder' (by (with_reducible repeat (first | apply Kd.R_alloc | apply Kd.R_drewN | apply Kd.R_drew)); exact HO295.out) (Kd.R_base ho0) hb); have n1_ := Aside0.mk (Kd.R_lower (Kd.R_new' ho0 (Kd.R_lt (by (with_reducible repeat (first | apply Kd.R_alloc | apply Kd.R_drewN | apply Kd.R_drew)); exact HO295.out))) (below_size z1_)); have n2_ := Aside0.mk (below_step z1_ hb); clear HO295; clear HB; have HO295 := n0_; have HO301 := n1_; have HB := n2_; clear n0_ n1_ n2_; (try clear hb); (try clear hb2); (try clear hk); (try clear hi); (try clear ho0); obtain ⟨Ao19, co19, eo19⟩ := Kd.R_slice HO301.out; subst eo19))
     go_ret
     exact ⟨z6_, z1_⟩
   ·rw [if_neg c5] at H
    have c5b0 : (t299 == 0) = false := beq_eq_false_iff_ne.mpr c5
    have c5b1 : (t299 != 0) = true := bne_iff_ne.mpr c5
    obtain rfl := Option.some.inj H
    go_enter Try.func9, Try.ntmps9
    go_wp2_with (first | ((with_reducible refine gate_dst (N := 6) rfl ?_); (try (refine gate_guard (by rfl) ?_; dsimp only)); refine Kd.R_lit (Kd.int .i64) _ 2 ?hg (N := 6) ?hd (xs := ([7, 7, 7] : List Int)) (inner := [.int .i64 7, .int .i64 7, .int .i64 7]) (ok := fun _ => True) (okp := fun _ => True) ?hr ?hp (fun _ hk => hk) trivial (Below.refl _ _) (Nat.le_refl _) (by simp) ?_; (case hd => rfl); (case hg => rfl); (case hr => first | (go_simp; done) | (go_simp; rfl)); (case hp => exact (Reps.one (show Kd.M (Kd.int .i64) _ _ _ 7 [.int .i64 7] from rfl) (Reps.one (show Kd.M (Kd.int .i64) _ _ _ 7 [.int .i64 7] from rfl) (Reps.one (show Kd.M (Kd.int .i64) _ _ _ 7 [.int .i64 7] from rfl) (Reps.none _ _))))); intro v294 w20 ho21 hb hg_ hnew_; clear hg_ hnew_; (first | rw [← Ny293.out] at ho21 | (simp only [Int.reduceToNat] at ho21; rw [← Ny293.out] at ho21)); have n0_ := Aside0.mk (Kd.R_lower ho21 (below_size z1_)); have n1_ := Aside0.mk (below_step z1_ hb); clear HB; have HO295 := n0_; have HB := n1_; clear n0_ n1_; clear hb ho21; obtain ⟨Ao22, co22, eo22⟩ := Kd.R_slice HO295.out; subst eo22) | ((with_reducible refine gate_callee (f := 10) rfl ?_); refine goesL_ (some 7) rfl rfl Try.func10 (by kernel_rfl) rfl #[.slice Ao22 y293.length co22, .int .i64 2] rfl (by (try simp only [List.map_toArray, List.map_cons, List.map_nil]); first | done | rfl | (simp only [List.length_drop, List.length_take]; rfl) | (go_simp; simp [IntKind.wrap, IntKind.bits, IntKind.signed]; omega)) ?_; (with_reducible refine (ints_With.calls k _ _ y293 2 t296 t297 _ ?side1 ?side2 A1.out).mono ?_); (case side1 => repeat (first | exact (Kd.R_reads' HO295.out).2.2 | (with_reducible refine Kd.C_alloc ?_ _) | (with_reducible refine Kd.C_drewN ?_ _) | (with_reducible refine Kd.C_drew ?_))); (case side2 => exact (Kd.R_reads' HO295.out).2.1); rintro e w23 ⟨rfl, hb⟩; refine ⟨_, rfl, ?_⟩; have n0_ := Aside0.mk (Kd.R_below (by (with_reducible repeat (first | apply Kd.R_alloc | apply Kd.R_drewN | apply Kd.R_drew)); exact HO295.out) hb); have n1_ := Aside0.mk (below_step z1_ hb); clear HO295; clear HB; have HO295 := n0_; have HB := n1_; clear n0_ n1_; (try clear hb); (try clear hb2); (try clear hk); (try clear hi)) | ((with_reducible refine gate_callee (f := 12) rfl ?_); refine goesL_ (some 11) rfl rfl Try.func12 (by kernel_rfl) rfl #[.string (⟨#[2, 3, 3, 14]⟩ : ByteArray)] rfl (by (try simp only [List.map_toArray, List.map_cons, List.map_nil]); first | done | rfl | (simp only [List.length_drop, List.length_take]; rfl) | (go_simp; simp [IntKind.wrap, IntKind.bits, IntKind.signed]; omega)) ?_; (with_reducible refine (ints_Read.calls k (⟨#[2, 3, 3, 14]⟩ : ByteArray) t298 t299 _ A2.out).mono ?_); rintro e w24 ⟨v300, rfl, ho0, hb⟩; refine ⟨_, rfl, ?_⟩; have n0_ := Aside0.mk (Kd.R_elder' (by (with_reducible repeat (first | apply Kd.R_alloc | apply Kd.R_drewN | apply Kd.R_drew)); exact HO295.out) (Kd.R_base ho0) hb); have n1_ := Aside0.mk (Kd.R_lower (Kd.R_new' ho0 (Kd.R_lt (by (with_reducible repeat (first | apply Kd.R_alloc | apply Kd.R_drewN | apply Kd.R_drew)); exact HO295.out))) (below_size z1_)); have n2_ := Aside0.mk (below_step z1_ hb); clear HO295; clear HB; have HO295 := n0_; have HO301 := n1_; have HB := n2_; clear n0_ n1_ n2_; (try clear hb); (try clear hb2); (try clear hk); (try clear hi); (try clear ho0)))
    go_ret
    exact ⟨z6_, z1_⟩
  ·rw [if_neg c4] at H
   have c4b0 : (t296.toList == ([2, 3, 3, 14] : List UInt8)) = false := beq_eq_false_iff_ne.mpr c4
   have c4b1 : (t296.toList != ([2, 3, 3, 14] : List UInt8)) = true := bne_iff_ne.mpr c4
   obtain rfl := Option.some.inj H
   go_enter Try.func9, Try.ntmps9
   go_wp2_with (first | ((with_reducible refine gate_dst (N := 6) rfl ?_); (try (refine gate_guard (by rfl) ?_; dsimp only)); refine Kd.R_lit (Kd.int .i64) _ 2 ?hg (N := 6) ?hd (xs := ([7, 7, 7] : List Int)) (inner := [.int .i64 7, .int .i64 7, .int .i64 7]) (ok := fun _ => True) (okp := fun _ => True) ?hr ?hp (fun _ hk => hk) trivial (Below.refl _ _) (Nat.le_refl _) (by simp) ?_; (case hd => rfl); (case hg => rfl); (case hr => first | (go_simp; done) | (go_simp; rfl)); (case hp => exact (Reps.one (show Kd.M (Kd.int .i64) _ _ _ 7 [.int .i64 7] from rfl) (Reps.one (show Kd.M (Kd.int .i64) _ _ _ 7 [.int .i64 7] from rfl) (Reps.one (show Kd.M (Kd.int .i64) _ _ _ 7 [.int .i64 7] from rfl) (Reps.none _ _))))); intro v294 w25 ho26 hb hg_ hnew_; clear hg_ hnew_; (first | rw [← Ny293.out] at ho26 | (simp only [Int.reduceToNat] at ho26; rw [← Ny293.out] at ho26)); have n0_ := Aside0.mk (Kd.R_lower ho26 (below_size z1_)); have n1_ := Aside0.mk (below_step z1_ hb); clear HB; have HO295 := n0_; have HB := n1_; clear n0_ n1_; clear hb ho26; obtain ⟨Ao27, co27, eo27⟩ := Kd.R_slice HO295.out; subst eo27) | ((with_reducible refine gate_callee (f := 10) rfl ?_); refine goesL_ (some 7) rfl rfl Try.func10 (by kernel_rfl) rfl #[.slice Ao27 y293.length co27, .int .i64 2] rfl (by (try simp only [List.map_toArray, List.map_cons, List.map_nil]); first | done | rfl | (simp only [List.length_drop, List.length_take]; rfl) | (go_simp; simp [IntKind.wrap, IntKind.bits, IntKind.signed]; omega)) ?_; (with_reducible refine (ints_With.calls k _ _ y293 2 t296 t297 _ ?side1 ?side2 A1.out).mono ?_); (case side1 => repeat (first | exact (Kd.R_reads' HO295.out).2.2 | (with_reducible refine Kd.C_alloc ?_ _) | (with_reducible refine Kd.C_drewN ?_ _) | (with_reducible refine Kd.C_drew ?_))); (case side2 => exact (Kd.R_reads' HO295.out).2.1); rintro e w28 ⟨rfl, hb⟩; refine ⟨_, rfl, ?_⟩; have n0_ := Aside0.mk (Kd.R_below (by (with_reducible repeat (first | apply Kd.R_alloc | apply Kd.R_drewN | apply Kd.R_drew)); exact HO295.out) hb); have n1_ := Aside0.mk (below_step z1_ hb); clear HO295; clear HB; have HO295 := n0_; have HB := n1_; clear n0_ n1_; (try clear hb); (try clear hb2); (try clear hk); (try clear hi)) | ((with_reducible refine gate_callee (f := 12) rfl ?_); refine goesL_ (some 11) rfl rfl Try.func12 (by kernel_rfl) rfl #[.string (⟨#[2, 3, 3, 14]⟩ : ByteArray)] rfl (by (try simp only [List.map_toArray, List.map_cons, List.map_nil]); first | done | rfl | (simp only [List.length_drop, List.length_take]; rfl) | (go_simp; simp [IntKind.wrap, IntKind.bits, IntKind.signed]; omega)) ?_; (with_reducible refine (ints_Read.calls k (⟨#[2, 3, 3, 14]⟩ : ByteArray) t298 t299 _ A2.out).mono ?_); rintro e w29 ⟨v300, rfl, ho0, hb⟩; refine ⟨_, rfl, ?_⟩; have n0_ := Aside0.mk (Kd.R_elder' (by (with_reducible repeat (first | apply Kd.R_alloc | apply Kd.R_drewN | apply Kd.R_drew)); exact HO295.out) (Kd.R_base ho0) hb); have n1_ := Aside0.mk (Kd.R_lower (Kd.R_new' ho0 (Kd.R_lt (by (with_reducible repeat (first | apply Kd.R_alloc | apply Kd.R_drewN | apply Kd.R_drew)); exact HO295.out))) (below_size z1_)); have n2_ := Aside0.mk (below_step z1_ hb); clear HO295; clear HB; have HO295 := n0_; have HO301 := n1_; have HB := n2_; clear n0_ n1_ n2_; (try clear hb); (try clear hb2); (try clear hk); (try clear hi); (try clear ho0)))
   go_ret
   exact ⟨z6_, z1_⟩
 ·rw [if_neg c3] at H
  have c3b0 : (t297 == 0) = false := beq_eq_false_iff_ne.mpr c3
  have c3b1 : (t297 != 0) = true := bne_iff_ne.mpr c3
  obtain rfl := Option.some.inj H
  go_enter Try.func9, Try.ntmps9
  go_wp2_with (first | ((with_reducible refine gate_dst (N := 6) rfl ?_); (try (refine gate_guard (by rfl) ?_; dsimp only)); refine Kd.R_lit (Kd.int .i64) _ 2 ?hg (N := 6) ?hd (xs := ([7, 7, 7] : List Int)) (inner := [.int .i64 7, .int .i64 7, .int .i64 7]) (ok := fun _ => True) (okp := fun _ => True) ?hr ?hp (fun _ hk => hk) trivial (Below.refl _ _) (Nat.le_refl _) (by simp) ?_; (case hd => rfl); (case hg => rfl); (case hr => first | (go_simp; done) | (go_simp; rfl)); (case hp => exact (Reps.one (show Kd.M (Kd.int .i64) _ _ _ 7 [.int .i64 7] from rfl) (Reps.one (show Kd.M (Kd.int .i64) _ _ _ 7 [.int .i64 7] from rfl) (Reps.one (show Kd.M (Kd.int .i64) _ _ _ 7 [.int .i64 7] from rfl) (Reps.none _ _))))); intro v294 w30 ho31 hb hg_ hnew_; clear hg_ hnew_; (first | rw [← Ny293.out] at ho31 | (simp only [Int.reduceToNat] at ho31; rw [← Ny293.out] at ho31)); have n0_ := Aside0.mk (Kd.R_lower ho31 (below_size z1_)); have n1_ := Aside0.mk (below_step z1_ hb); clear HB; have HO295 := n0_; have HB := n1_; clear n0_ n1_; clear hb ho31; obtain ⟨Ao32, co32, eo32⟩ := Kd.R_slice HO295.out; subst eo32) | ((with_reducible refine gate_callee (f := 10) rfl ?_); refine goesL_ (some 7) rfl rfl Try.func10 (by kernel_rfl) rfl #[.slice Ao32 y293.length co32, .int .i64 2] rfl (by (try simp only [List.map_toArray, List.map_cons, List.map_nil]); first | done | rfl | (simp only [List.length_drop, List.length_take]; rfl) | (go_simp; simp [IntKind.wrap, IntKind.bits, IntKind.signed]; omega)) ?_; (with_reducible refine (ints_With.calls k _ _ y293 2 t296 t297 _ ?side1 ?side2 A1.out).mono ?_); (case side1 => repeat (first | exact (Kd.R_reads' HO295.out).2.2 | (with_reducible refine Kd.C_alloc ?_ _) | (with_reducible refine Kd.C_drewN ?_ _) | (with_reducible refine Kd.C_drew ?_))); (case side2 => exact (Kd.R_reads' HO295.out).2.1); rintro e w33 ⟨rfl, hb⟩; refine ⟨_, rfl, ?_⟩; have n0_ := Aside0.mk (Kd.R_below (by (with_reducible repeat (first | apply Kd.R_alloc | apply Kd.R_drewN | apply Kd.R_drew)); exact HO295.out) hb); have n1_ := Aside0.mk (below_step z1_ hb); clear HO295; clear HB; have HO295 := n0_; have HB := n1_; clear n0_ n1_; (try clear hb); (try clear hb2); (try clear hk); (try clear hi)) | ((with_reducible refine gate_callee (f := 12) rfl ?_); refine goesL_ (some 11) rfl rfl Try.func12 (by kernel_rfl) rfl #[.string (⟨#[2, 3, 3, 14]⟩ : ByteArray)] rfl (by (try simp only [List.map_toArray, List.map_cons, List.map_nil]); first | done | rfl | (simp only [List.length_drop, List.length_take]; rfl) | (go_simp; simp [IntKind.wrap, IntKind.bits, IntKind.signed]; omega)) ?_; (with_reducible refine (ints_Read.calls k (⟨#[2, 3, 3, 14]⟩ : ByteArray) t298 t299 _ A2.out).mono ?_); rintro e w34 ⟨v300, rfl, ho0, hb⟩; refine ⟨_, rfl, ?_⟩; have n0_ := Aside0.mk (Kd.R_elder' (by (with_reducible repeat (first | apply Kd.R_alloc | apply Kd.R_drewN | apply Kd.R_drew)); exact HO295.out) (Kd.R_base ho0) hb); have n1_ := Aside0.mk (Kd.R_lower (Kd.R_new' ho0 (Kd.R_lt (by (with_reducible repeat (first | apply Kd.R_alloc | apply Kd.R_drewN | apply Kd.R_drew)); exact HO295.out))) (below_size z1_)); have n2_ := Aside0.mk (below_step z1_ hb); clear HO295; clear HB; have HO295 := n0_; have HO301 := n1_; have HB := n2_; clear n0_ n1_ n2_; (try clear hb); (try clear hb2); (try clear hk); (try clear hi); (try clear ho0)))
  go_ret
  exact ⟨z6_, z1_⟩
end Go.Proofs.Ytgeddoklmcjdcaa.G
namespace Go.Proofs.Ytgeddoklmcjdcaa.G
open Go.RowKit Go.Proofs.YtgeddoklmcjdcaaQ Go.Proofs.YtgeddoklmcjdcaaW.PrintWords Go.Proofs.YtgeddoklmcjdcaaW.PrintLast Go.Proofs.YtgeddoklmcjdcaaW.PrintMore
attribute [local go_sem] max2_int min2_int max_two min_two max_three min_three max_four min_four   -- for this text's walks alone
set_option linter.unusedVariables false
set_option linter.unusedSimpArgs false
mutual
def tithebarnref01_Uint.j0 : Nat → Int → Int → Int → Option (ByteArray)
 | 0, _, _, _ => none
 | k + 1, x0, x3, x4 => tithebarnref01_Uint.l0 k x0 x3 x4 ([] : List Int) (wrap64 (x3 - 1))
def tithebarnref01_Uint.l0 : Nat → Int → Int → Int → List Int → Int → Option (ByteArray)
 | 0, _, _, _, _, _ => none
 | k + 1, x0, x3, x4, x5, x6 => if x6 ≥ 0 then (if x6 < 8 then (if 0 ≤ (IntKind.u64.wrap (wrap64 (8 * x6))) then (if x6 = (wrap64 (x3 - 1)) then (if x5.length < 140737488355328 then (tithebarnref01_Uint.l0 k x0 x3 x4 (x5 ++ [((shr .u64 x0 (IntKind.u64.wrap (wrap64 (8 * x6)))) + x4) % 256]) (wrap64 (x6 - 1))) else (none)) else (if x5.length < 140737488355328 then (tithebarnref01_Uint.l0 k x0 x3 x4 (x5 ++ [(shr .u64 x0 (IntKind.u64.wrap (wrap64 (8 * x6)))) % 256]) (wrap64 (x6 - 1))) else (none))) else (none)) else (if x6 = (wrap64 (x3 - 1)) then (if x5.length < 140737488355328 then (tithebarnref01_Uint.l0 k x0 x3 x4 (x5 ++ [(x4) % 256]) (wrap64 (x6 - 1))) else (none)) else (if x5.length < 140737488355328 then (tithebarnref01_Uint.l0 k x0 x3 x4 (x5 ++ [0]) (wrap64 (x6 - 1))) else (none)))) else (some (strOfNums x5))
end
def tithebarnref01_Uint.f (k : Nat) (a0 : Int) : Option (ByteArray) := if a0 < 64 then (tithebarnref01_Uint.j0 k a0 1 0) else (if a0 < 16384 then (tithebarnref01_Uint.j0 k a0 2 64) else (if a0 < 1073741824 then (tithebarnref01_Uint.j0 k a0 4 128) else (tithebarnref01_Uint.j0 k a0 9 192)))
theorem tithebarnref01_Uint.mono_l : ∀ k, (∀ y0 y1 y2, LeO (tithebarnref01_Uint.j0 k y0 y1 y2) (tithebarnref01_Uint.j0 (k + 1) y0 y1 y2)) ∧ (∀ y0 y1 y2 y3 y4, LeO (tithebarnref01_Uint.l0 k y0 y1 y2 y3 y4) (tithebarnref01_Uint.l0 (k + 1) y0 y1 y2 y3 y4))
 | 0 => ⟨fun _ _ _ r h => by simp [tithebarnref01_Uint.j0] at h, fun _ _ _ _ _ r h => by simp [tithebarnref01_Uint.l0] at h⟩
 | k + 1 => by
  obtain ⟨ih0, ih1⟩ := tithebarnref01_Uint.mono_l k
  refine ⟨?_, ?_⟩
  ·intro y0 y1 y2
   unfold tithebarnref01_Uint.j0
   repeat' first
   | (with_reducible exact ih0 _ _ _)
   | (with_reducible exact ih1 _ _ _ _ _)
   | (with_reducible exact LeO.refl _)
   | (with_reducible exact LeO.none _)
   | (with_reducible refine LeO.ite ?_ ?_)
   | (with_reducible refine LeO.bind ?_ (fun _ => ?_))
   | exact ih0 _ _ _
   | exact ih1 _ _ _ _ _
   | exact LeO.none _
   | refine LeO.ite ?_ ?_
   | refine LeO.bind ?_ (fun _ => ?_)
  ·intro y0 y1 y2 y3 y4
   unfold tithebarnref01_Uint.l0
   repeat' first
   | (with_reducible exact ih0 _ _ _)
   | (with_reducible exact ih1 _ _ _ _ _)
   | (with_reducible exact LeO.refl _)
   | (with_reducible exact LeO.none _)
   | (with_reducible refine LeO.ite ?_ ?_)
   | (with_reducible refine LeO.bind ?_ (fun _ => ?_))
   | exact ih0 _ _ _
   | exact ih1 _ _ _ _ _
   | exact LeO.none _
   | refine LeO.ite ?_ ?_
   | refine LeO.bind ?_ (fun _ => ?_)
theorem tithebarnref01_Uint.mono : ∀ a0 k, LeO (tithebarnref01_Uint.f k a0) (tithebarnref01_Uint.f (k + 1) a0) := by
 intro a0 k
 obtain ⟨ih0, ih1⟩ := tithebarnref01_Uint.mono_l k
 unfold tithebarnref01_Uint.f
 repeat' first
   | (with_reducible exact ih0 _ _ _)
   | (with_reducible exact ih1 _ _ _ _ _)
   | (with_reducible exact LeO.refl _)
   | (with_reducible exact LeO.none _)
   | (with_reducible refine LeO.ite ?_ ?_)
   | (with_reducible refine LeO.bind ?_ (fun _ => ?_))
   | exact ih0 _ _ _
   | exact ih1 _ _ _ _ _
   | exact LeO.none _
   | refine LeO.ite ?_ ?_
   | refine LeO.bind ?_ (fun _ => ?_)
set_option maxHeartbeats 8000000 in
set_option maxRecDepth 100000 in
theorem tithebarnref01_Uint.calls (k : Nat) (a0 : Int) (r : ByteArray) (w : World) (h : tithebarnref01_Uint.f k a0 = some r) :
  Calls Try.prog 19 #[.int .u64 a0] w fun e w' => e = .returned (.string r) ∧ Below w.heap.size w w' := by
 have HB := Aside0.mk (Below.refl w.heap.size w)
 have H : (if a0 < 64 then (tithebarnref01_Uint.j0 k a0 1 0) else (if a0 < 16384 then (tithebarnref01_Uint.j0 k a0 2 64) else (if a0 < 1073741824 then (tithebarnref01_Uint.j0 k a0 4 128) else (tithebarnref01_Uint.j0 k a0 9 192)))) = some r := h
 clear h
 have HC2 := Aside0.mk H
 clear H
 go_enter Try.func19, Try.ntmps19
 go_upto_block 0 with (fail)
 go_cut [3, 4] (fun v3 v4 wc => ∃ (kq : Nat) (x3_1 : Int) (x4_1 : Int), v3 = .int .i64 x3_1 ∧ v4 = .int .u64 x4_1 ∧ Aside0 (tithebarnref01_Uint.j0 kq a0 x3_1 x4_1 = some r) ∧ Aside0 (kq ≤ k) ∧ Aside0 (Below w.heap.size w wc))
 case first =>
  have H := HC2.out
  clear HC2
  by_cases c3 : a0 < 64
  ·rw [if_pos c3] at H
   have c3b0 : decide (a0 < 64) = true := decide_eq_true c3
   clear c3
   (first | rw [c3b0] | (simp only [i64_w, i32_w]; rw [c3b0]) | skip)
   have H' := Aside0.mk H
   clear H
   go_wp2
   go_meet
   case rel => exact ⟨_, (1), (0), z11_, z11_, H', ⟨by first | omega | exact Nat.le_refl _⟩, ⟨z1_⟩⟩
  ·rw [if_neg c3] at H
   have c3b0 : decide (a0 < 64) = false := decide_eq_false c3
   clear c3
   (first | rw [c3b0] | (simp only [i64_w, i32_w]; rw [c3b0]) | skip)
   by_cases c4 : a0 < 16384
   ·rw [if_pos c4] at H
    have c4b0 : decide (a0 < 16384) = true := decide_eq_true c4
    clear c4
    have H' := Aside0.mk H
    clear H
    go_wp2
    go_meet
    case rel => exact ⟨_, (2), (64), z11_, z11_, H', ⟨by first | omega | exact Nat.le_refl _⟩, ⟨z1_⟩⟩
   ·rw [if_neg c4] at H
    have c4b0 : decide (a0 < 16384) = false := decide_eq_false c4
    clear c4
    by_cases c5 : a0 < 1073741824
    ·rw [if_pos c5] at H
     have c5b0 : decide (a0 < 1073741824) = true := decide_eq_true c5
     clear c5
     have H' := Aside0.mk H
     clear H
     go_wp2
     go_meet
     case rel => exact ⟨_, (4), (128), z11_, z11_, H', ⟨by first | omega | exact Nat.le_refl _⟩, ⟨z1_⟩⟩
    ·rw [if_neg c5] at H
     have c5b0 : decide (a0 < 1073741824) = false := decide_eq_false c5
     clear c5
     have H' := Aside0.mk H
     clear H
     go_wp2
     go_meet
     case rel => exact ⟨_, (9), (192), z11_, z11_, H', ⟨by first | omega | exact Nat.le_refl _⟩, ⟨z1_⟩⟩
 case rest =>
  clear HC2
  try clear c1
  try clear p2
  try clear c3
  try clear c3b0
  try clear c4
  try clear c4b0
  try clear c5
  try clear c5b0
  obtain ⟨kq, x3_1, x4_1, rfl, rfl, HA, HJ1, HB⟩ := hcut
  cases kq with
  | zero => exact absurd HA.out (by simp [tithebarnref01_Uint.j0])
  | succ kj1 =>
   have H := HA.out
   clear HA
   simp only [tithebarnref01_Uint.j0] at H
   have H' := Aside0.mk H
   clear H
   go_wp2
   go_loopg [5, 6] kj1 (fun kq v5 v6 w' => ∃ (x5_2 : List Int) (x6_2 : Int), v6 = .int .i64 x6_2 ∧ Aside0 (tithebarnref01_Uint.l0 kq a0 x3_1 x4_1 x5_2 x6_2 = some r) ∧ Aside0 (kq ≤ kj1) ∧ Aside0 (Kd.R (Kd.int .u8) 5 w' w.heap.size (fun _ => True) v5 x5_2) ∧ Aside0 (Below w.heap.size w w'))
   case atStart => exact ⟨(([] : List Int)), (wrap64 (x3_1 - 1)), z11_, H', ⟨Nat.le_refl _⟩, ⟨z10_⟩, ⟨z1_⟩⟩
   case round =>
    clear H'
    try clear c1
    try clear p2
    try clear c3
    try clear c3b0
    try clear c4
    try clear c4b0
    try clear c5
    try clear c5b0
    try clear p2
    obtain ⟨x5_2, x6_2, rfl, HA, HK2, HO_5, HB⟩ := hrel
    cases gk with
    | zero => exact absurd HA.out (by simp [tithebarnref01_Uint.l0])
    | succ k2 =>
     have H := HA.out
     clear HA
     simp only [tithebarnref01_Uint.l0] at H
     by_cases c6 : x6_2 ≥ 0
     ·rw [if_pos c6] at H
      have c6b0 : decide (0 ≤ x6_2) = true := decide_eq_true c6
      clear c6
      by_cases c7 : x6_2 < 8
      ·rw [if_pos c7] at H
       have c7b0 : decide (x6_2 < 8) = true := decide_eq_true c7
       clear c7
       obtain ⟨ji8, hji8⟩ : ∃ j_ : Int, (IntKind.u64.wrap (wrap64 (8 * x6_2))) = j_ := ⟨_, rfl⟩
       replace H : (if 0 ≤ (ji8) then (if x6_2 = (wrap64 (x3_1 - 1)) then (if x5_2.length < 140737488355328 then (tithebarnref01_Uint.l0 k2 a0 x3_1 x4_1 (x5_2 ++ [((shr .u64 a0 (ji8)) + x4_1) % 256]) (wrap64 (x6_2 - 1))) else (none)) else (if x5_2.length < 140737488355328 then (tithebarnref01_Uint.l0 k2 a0 x3_1 x4_1 (x5_2 ++ [(shr .u64 a0 (ji8)) % 256]) (wrap64 (x6_2 - 1))) else (none))) else (none)) = some r := by first | (rw [hji8] at H; exact H) | (simp only [hji8] at H ⊢; exact H)
       by_cases c9 : 0 ≤ (ji8)
       ·rw [if_pos c9] at H
        have c9b0 := eq_true c9
        have c9b1 : decide (0 ≤ (ji8)) = true := decide_eq_true c9
        clear c9
        obtain ⟨ji10, hji10⟩ : ∃ j_ : Int, (shr .u64 a0 (ji8)) = j_ := ⟨_, rfl⟩
        replace H : (if x6_2 = (wrap64 (x3_1 - 1)) then (if x5_2.length < 140737488355328 then (tithebarnref01_Uint.l0 k2 a0 x3_1 x4_1 (x5_2 ++ [((ji10) + x4_1) % 256]) (wrap64 (x6_2 - 1))) else (none)) else (if x5_2.length < 140737488355328 then (tithebarnref01_Uint.l0 k2 a0 x3_1 x4_1 (x5_2 ++ [(ji10) % 256]) (wrap64 (x6_2 - 1))) else (none))) = some r := by first | (rw [hji10] at H; exact H) | (simp only [hji10] at H ⊢; exact H)
        have hji10_ : (a0 / 2 ^ min (ji8).toNat 64) = ji10 := hji10
        have hji10z : (ji8) ≤ 64 → (a0 / 2 ^ (ji8).toNat) = ji10 := shr_small hji10
        by_cases c11 : x6_2 = (wrap64 (x3_1 - 1))
        ·rw [if_pos c11] at H
         have c11b0 : (x6_2 == (wrap64 (x3_1 - 1))) = true := beq_iff_eq.mpr c11
         have c11b1 : (x6_2 != (wrap64 (x3_1 - 1))) = false := bne_eq_false_iff_eq.mpr c11
         clear c11
         by_cases c12 : x5_2.length < 140737488355328
         ·rw [if_pos c12] at H
          have LMc12 := Aside0.mk c12
          clear c12
          obtain ⟨y303, hy303⟩ : ∃ y_ : List Int, y_ = (x5_2 ++ [((ji10) + x4_1) % 256]) := ⟨_, rfl⟩
          replace H : (tithebarnref01_Uint.l0 k2 a0 x3_1 x4_1 y303 (wrap64 (x6_2 - 1))) = some r := by first | (rw [hy303]; with_reducible exact H) | (have H2_ := (Option.bind_some _ _).symm.trans H; rw [hy303]; with_reducible exact H2_) | (have H2_ := (Option.bind_some _ _).symm.trans H; with_reducible exact H2_) | with_reducible exact H | (rw [hy303]; exact H) | exact H
          have Ny303 := Aside0.mk hy303
          clear hy303
          have H' := Aside0.mk H
          clear H
          go_wp2_with (first | ((with_reducible refine gate_builtin (b := .append) (xs := #[.tmp 39, .tmp 41]) rfl ?_); at_builtin; refine Kd.R_append (Kd.int .u8) (w0 := w) w.heap.size rfl (.tmp 39) (.tmp 41) 38 5 (.int .u8 0) 1 rfl Try.underlying38 info5 rfl (by decide) (by omega) u5 x5_2 (((ji10) + x4_1) % 256) [.int .u8 (((ji10) + x4_1) % 256)] (fun _ => True) (fun _ => False) rfl rfl ?aP (fun _ hk => hk.elim) ?aF ?aO ?aB ?aS ?aL ?_; (case aP => exact rfl); (case aB => exact z1_); (case aF => exact (fun _ _ => trivial)); (case aO => exact (by (with_reducible repeat (first | apply Kd.R_alloc | apply Kd.R_drewN | apply Kd.R_drew)); exact HO_5.out)); (case aS => exact (below_size z1_)); (case aL => have := LMc12.out; omega); intro v304 w13 ho hb hg hat; rw [← Ny303.out] at ho; have n0_ := Aside0.mk (hb); have n1_ := Aside0.mk (ho); clear HB; clear HO_5; have HB := n0_; have HO305 := n1_; clear n0_ n1_; clear ho hb hg hat))
          go_roundg k2
          case measure => have := HJ1.out; have := HK2.out; omega
          case rel => exact ⟨(y303), (wrap64 (x6_2 - 1)), z11_, H', ⟨by have := HJ1.out; have := HK2.out; omega⟩, ⟨by (with_reducible repeat (first | apply Kd.R_alloc | apply Kd.R_drewN | apply Kd.R_drew)); exact HO305.out⟩, ⟨z1_⟩⟩
         ·rw [if_neg c12] at H
          exact absurd H (by simp)
        ·rw [if_neg c11] at H
         have c11b0 : (x6_2 == (wrap64 (x3_1 - 1))) = false := beq_eq_false_iff_ne.mpr c11
         have c11b1 : (x6_2 != (wrap64 (x3_1 - 1))) = true := bne_iff_ne.mpr c11
         by_cases c14 : x5_2.length < 140737488355328
         ·rw [if_pos c14] at H
          have LMc14 := Aside0.mk c14
          clear c14
          obtain ⟨y306, hy306⟩ : ∃ y_ : List Int, y_ = (x5_2 ++ [(ji10) % 256]) := ⟨_, rfl⟩
          replace H : (tithebarnref01_Uint.l0 k2 a0 x3_1 x4_1 y306 (wrap64 (x6_2 - 1))) = some r := by first | (rw [hy306]; with_reducible exact H) | (have H2_ := (Option.bind_some _ _).symm.trans H; rw [hy306]; with_reducible exact H2_) | (have H2_ := (Option.bind_some _ _).symm.trans H; with_reducible exact H2_) | with_reducible exact H | (rw [hy306]; exact H) | exact H
          have Ny306 := Aside0.mk hy306
          clear hy306
          have H' := Aside0.mk H
          clear H
          go_wp2_with (first | ((with_reducible refine gate_builtin (b := .append) (xs := #[.tmp 39, .tmp 41]) rfl ?_); at_builtin; refine Kd.R_append (Kd.int .u8) (w0 := w) w.heap.size rfl (.tmp 39) (.tmp 41) 38 5 (.int .u8 0) 1 rfl Try.underlying38 info5 rfl (by decide) (by omega) u5 x5_2 ((ji10) % 256) [.int .u8 ((ji10) % 256)] (fun _ => True) (fun _ => False) rfl rfl ?aP (fun _ hk => hk.elim) ?aF ?aO ?aB ?aS ?aL ?_; (case aP => exact rfl); (case aB => exact z1_); (case aF => exact (fun _ _ => trivial)); (case aO => exact (by (with_reducible repeat (first | apply Kd.R_alloc | apply Kd.R_drewN | apply Kd.R_drew)); exact HO_5.out)); (case aS => exact (below_size z1_)); (case aL => have := LMc14.out; omega); intro v307 w15 ho hb hg hat; rw [← Ny306.out] at ho; have n0_ := Aside0.mk (hb); have n1_ := Aside0.mk (ho); clear HB; clear HO_5; have HB := n0_; have HO308 := n1_; clear n0_ n1_; clear ho hb hg hat))
          go_roundg k2
          case measure => have := HJ1.out; have := HK2.out; omega
          case rel => exact ⟨(y306), (wrap64 (x6_2 - 1)), z11_, H', ⟨by have := HJ1.out; have := HK2.out; omega⟩, ⟨by (with_reducible repeat (first | apply Kd.R_alloc | apply Kd.R_drewN | apply Kd.R_drew)); exact HO308.out⟩, ⟨z1_⟩⟩
         ·rw [if_neg c14] at H
          exact absurd H (by simp)
       ·rw [if_neg c9] at H
        exact absurd H (by simp)
      ·rw [if_neg c7] at H
       have c7b0 : decide (x6_2 < 8) = false := decide_eq_false c7
       clear c7
       by_cases c16 : x6_2 = (wrap64 (x3_1 - 1))
       ·rw [if_pos c16] at H
        have c16b0 : (x6_2 == (wrap64 (x3_1 - 1))) = true := beq_iff_eq.mpr c16
        have c16b1 : (x6_2 != (wrap64 (x3_1 - 1))) = false := bne_eq_false_iff_eq.mpr c16
        clear c16
        by_cases c17 : x5_2.length < 140737488355328
        ·rw [if_pos c17] at H
         have LMc17 := Aside0.mk c17
         clear c17
         obtain ⟨y309, hy309⟩ : ∃ y_ : List Int, y_ = (x5_2 ++ [(x4_1) % 256]) := ⟨_, rfl⟩
         replace H : (tithebarnref01_Uint.l0 k2 a0 x3_1 x4_1 y309 (wrap64 (x6_2 - 1))) = some r := by first | (rw [hy309]; with_reducible exact H) | (have H2_ := (Option.bind_some _ _).symm.trans H; rw [hy309]; with_reducible exact H2_) | (have H2_ := (Option.bind_some _ _).symm.trans H; with_reducible exact H2_) | with_reducible exact H | (rw [hy309]; exact H) | exact H
         have Ny309 := Aside0.mk hy309
         clear hy309
         have H' := Aside0.mk H
         clear H
         go_wp2_with (first | ((with_reducible refine gate_builtin (b := .append) (xs := #[.tmp 39, .tmp 41]) rfl ?_); at_builtin; refine Kd.R_append (Kd.int .u8) (w0 := w) w.heap.size rfl (.tmp 39) (.tmp 41) 38 5 (.int .u8 0) 1 rfl Try.underlying38 info5 rfl (by decide) (by omega) u5 x5_2 ((x4_1) % 256) [.int .u8 ((x4_1) % 256)] (fun _ => True) (fun _ => False) rfl rfl ?aP (fun _ hk => hk.elim) ?aF ?aO ?aB ?aS ?aL ?_; (case aP => exact rfl); (case aB => exact z1_); (case aF => exact (fun _ _ => trivial)); (case aO => exact (by (with_reducible repeat (first | apply Kd.R_alloc | apply Kd.R_drewN | apply Kd.R_drew)); exact HO_5.out)); (case aS => exact (below_size z1_)); (case aL => have := LMc17.out; omega); intro v310 w18 ho hb hg hat; rw [← Ny309.out] at ho; have n0_ := Aside0.mk (hb); have n1_ := Aside0.mk (ho); clear HB; clear HO_5; have HB := n0_; have HO311 := n1_; clear n0_ n1_; clear ho hb hg hat))
         go_roundg k2
         case measure => have := HJ1.out; have := HK2.out; omega
         case rel => exact ⟨(y309), (wrap64 (x6_2 - 1)), z11_, H', ⟨by have := HJ1.out; have := HK2.out; omega⟩, ⟨by (with_reducible repeat (first | apply Kd.R_alloc | apply Kd.R_drewN | apply Kd.R_drew)); exact HO311.out⟩, ⟨z1_⟩⟩
        ·rw [if_neg c17] at H
         exact absurd H (by simp)
       ·rw [if_neg c16] at H
        have c16b0 : (x6_2 == (wrap64 (x3_1 - 1))) = false := beq_eq_false_iff_ne.mpr c16
        have c16b1 : (x6_2 != (wrap64 (x3_1 - 1))) = true := bne_iff_ne.mpr c16
        by_cases c19 : x5_2.length < 140737488355328
        ·rw [if_pos c19] at H
         have LMc19 := Aside0.mk c19
         clear c19
         obtain ⟨y312, hy312⟩ : ∃ y_ : List Int, y_ = (x5_2 ++ [0]) := ⟨_, rfl⟩
         replace H : (tithebarnref01_Uint.l0 k2 a0 x3_1 x4_1 y312 (wrap64 (x6_2 - 1))) = some r := by first | (rw [hy312]; with_reducible exact H) | (have H2_ := (Option.bind_some _ _).symm.trans H; rw [hy312]; with_reducible exact H2_) | (have H2_ := (Option.bind_some _ _).symm.trans H; with_reducible exact H2_) | with_reducible exact H | (rw [hy312]; exact H) | exact H
         have Ny312 := Aside0.mk hy312
         clear hy312
         have H' := Aside0.mk H
         clear H
         go_wp2_with (first | ((with_reducible refine gate_builtin (b := .append) (xs := #[.tmp 39, .tmp 41]) rfl ?_); at_builtin; refine Kd.R_append (Kd.int .u8) (w0 := w) w.heap.size rfl (.tmp 39) (.tmp 41) 38 5 (.int .u8 0) 1 rfl Try.underlying38 info5 rfl (by decide) (by omega) u5 x5_2 0 [.int .u8 0] (fun _ => True) (fun _ => False) rfl rfl ?aP (fun _ hk => hk.elim) ?aF ?aO ?aB ?aS ?aL ?_; (case aP => exact rfl); (case aB => exact z1_); (case aF => exact (fun _ _ => trivial)); (case aO => exact (by (with_reducible repeat (first | apply Kd.R_alloc | apply Kd.R_drewN | apply Kd.R_drew)); exact HO_5.out)); (case aS => exact (below_size z1_)); (case aL => have := LMc19.out; omega); intro v313 w20 ho hb hg hat; rw [← Ny312.out] at ho; have n0_ := Aside0.mk (hb); have n1_ := Aside0.mk (ho); clear HB; clear HO_5; have HB := n0_; have HO314 := n1_; clear n0_ n1_; clear ho hb hg hat))
         go_roundg k2
         case measure => have := HJ1.out; have := HK2.out; omega
         case rel => exact ⟨(y312), (wrap64 (x6_2 - 1)), z11_, H', ⟨by have := HJ1.out; have := HK2.out; omega⟩, ⟨by (with_reducible repeat (first | apply Kd.R_alloc | apply Kd.R_drewN | apply Kd.R_drew)); exact HO314.out⟩, ⟨z1_⟩⟩
        ·rw [if_neg c19] at H
         exact absurd H (by simp)
     ·rw [if_neg c6] at H
      have c6b0 : decide (0 ≤ x6_2) = false := decide_eq_false c6
      clear c6
      obtain rfl := Option.some.inj H
      have hcv21 := own_string (P := Try.prog) Try.underlying38 Try.underlying5 Try.underlying9 (Kd.own_of_R HO_5.out)
      go_wp2
      go_ret
      exact ⟨z6_, z1_⟩
def tithebarnref01_Fold.f (a0 : Int) : Option (Int) := if a0 < 0 then (some (IntKind.u64.wrap ((IntKind.u64.wrap (2 * (IntKind.u64.wrap (wrap64 (-(wrap64 (a0 + 1))))))) + 1))) else (some (IntKind.u64.wrap (2 * (IntKind.u64.wrap (a0)))))
def tithebarnref01_Int.f (k : Nat) (a0 : Int) : Option (ByteArray) := (tithebarnref01_Fold.f a0).bind fun t315 => ((tithebarnref01_Uint.f k t315).bind fun t316 => (some t316))
end Go.Proofs.Ytgeddoklmcjdcaa.G
namespace Go.Proofs.Ytgeddoklmcjdcaa.G
open Go.RowKit Go.Proofs.YtgeddoklmcjdcaaQ Go.Proofs.YtgeddoklmcjdcaaW.PrintWords Go.Proofs.YtgeddoklmcjdcaaW.PrintLast Go.Proofs.YtgeddoklmcjdcaaW.PrintMore
attribute [local go_sem] max2_int min2_int max_two min_two max_three min_three max_four min_four   -- for this text's walks alone
set_option linter.unusedVariables false
set_option linter.unusedSimpArgs false
def IsS55 (w0 W : World) (g : Nat) (f0 : ByteArray) (f1 : Int) (f2 : Int) : Prop := W.heap[g]? = some (.cells #[.string f0, .int .i64 f1, .int .i64 f2] 55 (0, 0)) ∧ w0.heap.size ≤ g
theorem IsS55.grown {w0 W : World} {g : Nat} {f0 : ByteArray} {f1 : Int} {f2 : Int} {W1 : World} {row : Option Nat} (h : IsS55 w0 W g f0 f1 f2) (hw : W.grownBy W1 row) (hne : some g ≠ row) : IsS55 w0 W1 g f0 f1 f2 := by
 obtain ⟨hb, hg⟩ := h
 exact ⟨blk_grown hb hw hne, hg⟩
theorem IsS55.fresh {w0 W : World} {g : Nat} {f0 : ByteArray} {f1 : Int} {f2 : Int} (h : IsS55 w0 W g f0 f1 f2) : ∀ k, W.heap.size ≤ k → k ≠ g := by
 obtain ⟨hb, hg⟩ := h
 exact Kd.freshB hb
theorem IsS55.kept {w0 W : World} {g : Nat} {f0 : ByteArray} {f1 : Int} {f2 : Int} {W1 : World} {S : Nat → Prop} (h : IsS55 w0 W g f0 f1 f2) (hk : Kept W W1 S) (hne : ¬ S g) : IsS55 w0 W1 g f0 f1 f2 := by
 obtain ⟨hb, hg⟩ := h
 exact ⟨blk_kept hb hk hne, hg⟩
theorem IsS55.below {w0 W : World} {g : Nat} {f0 : ByteArray} {f1 : Int} {f2 : Int} {W1 : World} (h : IsS55 w0 W g f0 f1 f2) (hw : Below W.heap.size W W1) : IsS55 w0 W1 g f0 f1 f2 := h.grown (grown_of_below hw none) (by simp)
theorem IsS55.alloc {w0 W : World} {g : Nat} {f0 : ByteArray} {f1 : Int} {f2 : Int} (h : IsS55 w0 W g f0 f1 f2) (o : Obj) : IsS55 w0 (W.alloc o) g f0 f1 f2 := h.below (below_alloc (Below.refl _ _) o)
theorem IsS55.drewN {w0 W : World} {g : Nat} {f0 : ByteArray} {f1 : Int} {f2 : Int} (h : IsS55 w0 W g f0 f1 f2) (m : Nat) : IsS55 w0 (W.drewN m) g f0 f1 f2 := h
theorem IsS55.drew {w0 W : World} {g : Nat} {f0 : ByteArray} {f1 : Int} {f2 : Int} (h : IsS55 w0 W g f0 f1 f2) : IsS55 w0 W.drew g f0 f1 f2 := h
theorem IsS55.at_ {w0 W : World} {g : Nat} {f0 : ByteArray} {f1 : Int} {f2 : Int} {w' : World} {m : Nat} (hq : W.drewN m = w') (h : IsS55 w0 W g f0 f1 f2) : IsS55 w0 w' g f0 f1 f2 := by subst hq; exact IsS55.drewN h m
theorem IsS55.apart {w0 W : World} {g : Nat} {f0 : ByteArray} {f1 : Int} {f2 : Int} {α : Type} {d : Kd α} {e : Nat} {base : Nat} {ok : Nat → Prop} {v : Value} {xs : List α} (h : IsS55 w0 W g f0 f1 f2) (ho : d.R e W base ok v xs) (ht : ∀ q, q ∈ e :: d.E → q ≠ 55) : d.R e W base (fun k => ok k ∧ k ≠ g) v xs := by
 obtain ⟨hb, hg⟩ := h
 exact Kd.R_types ho hb ht
theorem IsS55.own_ne {w0 W : World} {g : Nat} {f0 : ByteArray} {f1 : Int} {f2 : Int} {α : Type} {d : Kd α} {e : Nat} {base : Nat} {ok : Nat → Prop} {v : Value} {xs : List α} (h : IsS55 w0 W g f0 f1 f2) (ho : d.R e W base ok v xs) (ht : e ≠ 55) : some g ≠ v.ownBlock := by
 obtain ⟨hb, hg⟩ := h
 exact Kd.R_ne ho hb ht
theorem IsS55.ge {w0 W : World} {g : Nat} {f0 : ByteArray} {f1 : Int} {f2 : Int} (h : IsS55 w0 W g f0 f1 f2) : w0.heap.size ≤ g := by
 obtain ⟨hb, hg⟩ := h
 exact hg
theorem IsS55.far {w0 W : World} {g : Nat} {f0 : ByteArray} {f1 : Int} {f2 : Int} {p : Addr} (h : IsS55 w0 W g f0 f1 f2) (hne : g ≠ p.block) (u : Value) : IsS55 w0 (W.setCell p u) g f0 f1 f2 := by
 obtain ⟨hb, hg⟩ := h
 exact ⟨blk_far hb hne u, hg⟩
theorem cellS55_0 {W : World} {g : Nat} {f0 : ByteArray} {f1 : Int} {f2 : Int} (h : W.heap[g]? = some (.cells #[.string f0, .int .i64 f1, .int .i64 f2] 55 (0, 0))) : W.cell? ⟨g, 0, none⟩ = some (.string f0) := (blk_cell h 0).trans rfl
theorem IsS55.set_0 {w0 W : World} {g : Nat} {f0 : ByteArray} {f1 : Int} {f2 : Int} (h : IsS55 w0 W g f0 f1 f2) (x : ByteArray) : IsS55 w0 (W.setCell ⟨g, 0, none⟩ (.string x)) g x f1 f2 := by
 obtain ⟨hb, hg⟩ := h
 exact ⟨by simpa using blk_set hb 0 (.string x), hg⟩
theorem cellS55_1 {W : World} {g : Nat} {f0 : ByteArray} {f1 : Int} {f2 : Int} (h : W.heap[g]? = some (.cells #[.string f0, .int .i64 f1, .int .i64 f2] 55 (0, 0))) : W.cell? ⟨g, 1, none⟩ = some (.int .i64 f1) := (blk_cell h 1).trans rfl
theorem IsS55.set_1 {w0 W : World} {g : Nat} {f0 : ByteArray} {f1 : Int} {f2 : Int} (h : IsS55 w0 W g f0 f1 f2) (x : Int) : IsS55 w0 (W.setCell ⟨g, 1, none⟩ (.int .i64 x)) g f0 x f2 := by
 obtain ⟨hb, hg⟩ := h
 exact ⟨by simpa using blk_set hb 1 (.int .i64 x), hg⟩
theorem cellS55_2 {W : World} {g : Nat} {f0 : ByteArray} {f1 : Int} {f2 : Int} (h : W.heap[g]? = some (.cells #[.string f0, .int .i64 f1, .int .i64 f2] 55 (0, 0))) : W.cell? ⟨g, 2, none⟩ = some (.int .i64 f2) := (blk_cell h 2).trans rfl
theorem IsS55.set_2 {w0 W : World} {g : Nat} {f0 : ByteArray} {f1 : Int} {f2 : Int} (h : IsS55 w0 W g f0 f1 f2) (x : Int) : IsS55 w0 (W.setCell ⟨g, 2, none⟩ (.int .i64 x)) g f0 f1 x := by
 obtain ⟨hb, hg⟩ := h
 exact ⟨by simpa using blk_set hb 2 (.int .i64 x), hg⟩
def tithebarnref01_Cursor_Left.f (s0_0 : ByteArray) (s0_1 : Int) (s0_2 : Int) : Option (Int × ByteArray × Int × Int) := some (wrap64 ((s0_0.size : Int) - s0_1), s0_0, s0_1, s0_2)
set_option maxHeartbeats 8000000 in
set_option maxRecDepth 100000 in
theorem tithebarnref01_Cursor_Left.calls (g : Nat) (s0_0 : ByteArray) (s0_1 : Int) (s0_2 : Int) (r1 : Int) (r2 : ByteArray) (r3 : Int) (r4 : Int) (w0 w : World) (hI : IsS55 w0 w g s0_0 s0_1 s0_2) (hB : Below w0.heap.size w0 w) (h : tithebarnref01_Cursor_Left.f s0_0 s0_1 s0_2 = some (r1, r2, r3, r4)) :
  Calls Try.prog 49 #[.pointer (some ⟨g, 0, none⟩)] w fun e w' => e = .returned (.int .i64 r1) ∧ IsS55 w0 w' g r2 r3 r4 ∧ Below w0.heap.size w0 w' ∧ KeepBut w w' g none := by
 have HI0 := Aside0.mk hI
 have HK := Aside0.mk (KeepBut.refl w g none)
 have HL := Aside0.mk hB.size
 clear hI
 have HW0 := Aside0.mk hB.size
 have HB := Aside0.mk hB
 clear hB
 have H : (some (wrap64 ((s0_0.size : Int) - s0_1), s0_0, s0_1, s0_2)) = some (r1, r2, r3, r4) := h
 clear h
 simp only [Option.some.injEq, Prod.mk.injEq] at H
 obtain ⟨rfl, rfl, rfl, rfl⟩ := H
 obtain ⟨HGz2, hgz2⟩ := HI0.out
 have hcz2_0 := cellS55_0 HGz2
 have hcz2_1 := cellS55_1 HGz2
 have hcz2_2 := cellS55_2 HGz2
 have hfz2_0 := blk_frozen HGz2 0
 have hfz2_1 := blk_frozen HGz2 1
 have hfz2_2 := blk_frozen HGz2 2
 clear HGz2 hgz2
 go_enter Try.func49, Try.ntmps49
 go_wp2
 repeat (go_quiet (fail); try go_wp2)
 go_ret
 exact ⟨z6_, z2_, z3_, z0_⟩
def tithebarnref01_Cursor_fail.f (s0_0 : ByteArray) (s0_1 : Int) (s0_2 : Int) (a1 : Int) : Option (ByteArray × Int × Int) := if s0_2 = 0 then (some (s0_0, s0_1, a1)) else (some (s0_0, s0_1, s0_2))
set_option maxHeartbeats 8000000 in
set_option maxRecDepth 100000 in
theorem tithebarnref01_Cursor_fail.calls (g : Nat) (s0_0 : ByteArray) (s0_1 : Int) (s0_2 : Int) (a1 : Int) (r1 : ByteArray) (r2 : Int) (r3 : Int) (w0 w : World) (hI : IsS55 w0 w g s0_0 s0_1 s0_2) (hB : Below w0.heap.size w0 w) (h : tithebarnref01_Cursor_fail.f s0_0 s0_1 s0_2 a1 = some (r1, r2, r3)) :
  Calls Try.prog 50 #[.pointer (some ⟨g, 0, none⟩), .int .i64 a1] w fun e w' => e = .returned (.tuple #[]) ∧ IsS55 w0 w' g r1 r2 r3 ∧ Below w0.heap.size w0 w' ∧ KeepBut w w' g none := by
 have HI0 := Aside0.mk hI
 have HK := Aside0.mk (KeepBut.refl w g none)
 have HL := Aside0.mk hB.size
 clear hI
 have HW0 := Aside0.mk hB.size
 have HB := Aside0.mk hB
 clear hB
 have H : (if s0_2 = 0 then (some (s0_0, s0_1, a1)) else (some (s0_0, s0_1, s0_2))) = some (r1, r2, r3) := h
 clear h
 by_cases c3 : s0_2 = 0
 ·rw [if_pos c3] at H
  have c3b0 : (s0_2 == 0) = true := beq_iff_eq.mpr c3
  have c3b1 : (s0_2 != 0) = false := bne_eq_false_iff_eq.mpr c3
  clear c3
  simp only [Option.some.injEq, Prod.mk.injEq] at H
  obtain ⟨rfl, rfl, rfl⟩ := H
  obtain ⟨HGz4, hgz4⟩ := HI0.out
  have hcz4_0 := cellS55_0 HGz4
  have hcz4_1 := cellS55_1 HGz4
  have hcz4_2 := cellS55_2 HGz4
  have hfz4_0 := blk_frozen HGz4 0
  have hfz4_1 := blk_frozen HGz4 1
  have hfz4_2 := blk_frozen HGz4 2
  clear HGz4 hgz4
  go_enter Try.func50, Try.ntmps50
  go_wp2
  first | go_end0 | ((try simp only [Exit.inBlock, Exit.then]); refine bodyPost_ret (results_none rfl _ _ _) rfl ?_)
  exact ⟨z6_, z2_, z3_, z0_⟩
 ·rw [if_neg c3] at H
  have c3b0 : (s0_2 == 0) = false := beq_eq_false_iff_ne.mpr c3
  have c3b1 : (s0_2 != 0) = true := bne_iff_ne.mpr c3
  simp only [Option.some.injEq, Prod.mk.injEq] at H
  obtain ⟨rfl, rfl, rfl⟩ := H
  obtain ⟨HGz5, hgz5⟩ := HI0.out
  have hcz5_0 := cellS55_0 HGz5
  have hcz5_1 := cellS55_1 HGz5
  have hcz5_2 := cellS55_2 HGz5
  have hfz5_0 := blk_frozen HGz5 0
  have hfz5_1 := blk_frozen HGz5 1
  have hfz5_2 := blk_frozen HGz5 2
  clear HGz5 hgz5
  go_enter Try.func50, Try.ntmps50
  go_wp2
  first | go_end0 | ((try simp only [Exit.inBlock, Exit.then]); refine bodyPost_ret (results_none rfl _ _ _) rfl ?_)
  exact ⟨z6_, z2_, z3_, z0_⟩
def tithebarnref01_Cursor_Byte.f (s0_0 : ByteArray) (s0_1 : Int) (s0_2 : Int) : Option (Int × ByteArray × Int × Int) := if s0_2 = 0 then ((tithebarnref01_Cursor_Left.f s0_0 s0_1 s0_2).bind fun bt374 => (if bt374.1 < 1 then ((tithebarnref01_Cursor_fail.f bt374.2.1 bt374.2.2.1 bt374.2.2.2 2).bind fun bt378 => (some (0, bt378.1, bt378.2.1, bt378.2.2))) else (if 0 ≤ (wrap64 ((wrap64 (bt374.2.2.1 + 1)) - 1)) then (if (wrap64 ((wrap64 (bt374.2.2.1 + 1)) - 1)) < (bt374.2.1.size : Int) then (some (wrap64 (bt bt374.2.1 (wrap64 ((wrap64 (bt374.2.2.1 + 1)) - 1))), bt374.2.1, wrap64 (bt374.2.2.1 + 1), bt374.2.2.2)) else (none)) else (none)))) else (some (0, s0_0, s0_1, s0_2))
set_option maxHeartbeats 8000000 in
set_option maxRecDepth 100000 in
theorem tithebarnref01_Cursor_Byte.calls (g : Nat) (s0_0 : ByteArray) (s0_1 : Int) (s0_2 : Int) (r1 : Int) (r2 : ByteArray) (r3 : Int) (r4 : Int) (w0 w : World) (hI : IsS55 w0 w g s0_0 s0_1 s0_2) (hB : Below w0.heap.size w0 w) (h : tithebarnref01_Cursor_Byte.f s0_0 s0_1 s0_2 = some (r1, r2, r3, r4)) :
  Calls Try.prog 28 #[.pointer (some ⟨g, 0, none⟩)] w fun e w' => e = .returned (.int .i64 r1) ∧ IsS55 w0 w' g r2 r3 r4 ∧ Below w0.heap.size w0 w' ∧ KeepBut w w' g none := by
 have HI0 := Aside0.mk hI
 have HK := Aside0.mk (KeepBut.refl w g none)
 have HL := Aside0.mk hB.size
 clear hI
 have HW0 := Aside0.mk hB.size
 have HB := Aside0.mk hB
 clear hB
 have H : (if s0_2 = 0 then ((tithebarnref01_Cursor_Left.f s0_0 s0_1 s0_2).bind fun bt374 => (if bt374.1 < 1 then ((tithebarnref01_Cursor_fail.f bt374.2.1 bt374.2.2.1 bt374.2.2.2 2).bind fun bt378 => (some (0, bt378.1, bt378.2.1, bt378.2.2))) else (if 0 ≤ (wrap64 ((wrap64 (bt374.2.2.1 + 1)) - 1)) then (if (wrap64 ((wrap64 (bt374.2.2.1 + 1)) - 1)) < (bt374.2.1.size : Int) then (some (wrap64 (bt bt374.2.1 (wrap64 ((wrap64 (bt374.2.2.1 + 1)) - 1))), bt374.2.1, wrap64 (bt374.2.2.1 + 1), bt374.2.2.2)) else (none)) else (none)))) else (some (0, s0_0, s0_1, s0_2))) = some (r1, r2, r3, r4) := h
 clear h
 by_cases c2 : s0_2 = 0
 ·rw [if_pos c2] at H
  have c2b0 : (s0_2 == 0) = true := beq_iff_eq.mpr c2
  have c2b1 : (s0_2 != 0) = false := bne_eq_false_iff_eq.mpr c2
  clear c2
  replace H := Option.bind_eq_some_iff.mp H
  obtain ⟨⟨t374, t375, t376, t377⟩, A30, H⟩ := H
  replace H : (if t374 < 1 then ((tithebarnref01_Cursor_fail.f t375 t376 t377 2).bind fun bt378 => (some (0, bt378.1, bt378.2.1, bt378.2.2))) else (if 0 ≤ (wrap64 ((wrap64 (t376 + 1)) - 1)) then (if (wrap64 ((wrap64 (t376 + 1)) - 1)) < (t375.size : Int) then (some (wrap64 (bt t375 (wrap64 ((wrap64 (t376 + 1)) - 1))), t375, wrap64 (t376 + 1), t377)) else (none)) else (none))) = some (r1, r2, r3, r4) := H
  have A3 := Aside0.mk A30
  clear A30
  by_cases c4 : t374 < 1
  ·rw [if_pos c4] at H
   have c4b0 : decide (t374 < 1) = true := decide_eq_true c4
   clear c4
   replace H := Option.bind_eq_some_iff.mp H
   obtain ⟨⟨t378, t379, t380⟩, A50, H⟩ := H
   replace H : (some (0, t378, t379, t380)) = some (r1, r2, r3, r4) := H
   have A5 := Aside0.mk A50
   clear A50
   simp only [Option.some.injEq, Prod.mk.injEq] at H
   obtain ⟨rfl, rfl, rfl, rfl⟩ := H
   obtain ⟨HGz6, hgz6⟩ := HI0.out
   have hcz6_0 := cellS55_0 HGz6
   have hcz6_1 := cellS55_1 HGz6
   have hcz6_2 := cellS55_2 HGz6
   have hfz6_0 := blk_frozen HGz6 0
   have hfz6_1 := blk_frozen HGz6 1
   have hfz6_2 := blk_frozen HGz6 2
   clear HGz6 hgz6
   go_enter Try.func28, Try.ntmps28
   go_wp2_with (first | (go_at_call 49; (with_reducible refine (tithebarnref01_Cursor_Left.calls g s0_0 s0_1 s0_2 t374 t375 t376 t377 w0 _ ?side1 ?side2 A3.out).mono ?_); (case side1 => repeat (first | (with_reducible first | exact HI0.out | apply IsS55.alloc | apply IsS55.drewN | apply IsS55.drew | apply IsS55.set_0 | apply IsS55.set_1 | apply IsS55.set_2) | exact HI0.out)); (case side2 => repeat (first | (with_reducible first | exact HB.out | apply below_alloc | apply pw_below_drewN | apply below_drew1 | refine below_set ?_ (IsS55.ge HI0.out)) | exact HB.out)); rintro e w7 ⟨rfl, hi, hb, hk⟩; have n0_ := Aside0.mk (KeepBut.trans z0_ hk (.inl rfl)); have n1_ := Aside0.mk (hb); have n2_ := Aside0.mk (hi); clear HK; clear HB; clear HI0; have HK := n0_; have HB := n1_; have HI0 := n2_; clear n0_ n1_ n2_; (try clear hb); (try clear hb2); (try clear hk); (try clear hi)) | (go_at_call 50; (with_reducible refine (tithebarnref01_Cursor_fail.calls g t375 t376 t377 2 t378 t379 t380 w0 _ ?side1 ?side2 A5.out).mono ?_); (case side1 => repeat (first | (with_reducible first | exact HI0.out | apply IsS55.alloc | apply IsS55.drewN | apply IsS55.drew | apply IsS55.set_0 | apply IsS55.set_1 | apply IsS55.set_2) | exact HI0.out)); (case side2 => repeat (first | (with_reducible first | exact HB.out | apply below_alloc | apply pw_below_drewN | apply below_drew1 | refine below_set ?_ (IsS55.ge HI0.out)) | exact HB.out)); rintro e w8 ⟨rfl, hi, hb, hk⟩; have n0_ := Aside0.mk (KeepBut.trans z0_ hk (.inl rfl)); have n1_ := Aside0.mk (hb); have n2_ := Aside0.mk (hi); clear HK; clear HB; clear HI0; have HK := n0_; have HB := n1_; have HI0 := n2_; clear n0_ n1_ n2_; (try clear hb); (try clear hb2); (try clear hk); (try clear hi)))
   repeat (go_quiet (first | (go_at_call 49; (with_reducible refine (tithebarnref01_Cursor_Left.calls g s0_0 s0_1 s0_2 t374 t375 t376 t377 w0 _ ?side1 ?side2 A3.out).mono ?_); (case side1 => repeat (first | (with_reducible first | exact HI0.out | apply IsS55.alloc | apply IsS55.drewN | apply IsS55.drew | apply IsS55.set_0 | apply IsS55.set_1 | apply IsS55.set_2) | exact HI0.out)); (case side2 => repeat (first | (with_reducible first | exact HB.out | apply below_alloc | apply pw_below_drewN | apply below_drew1 | refine below_set ?_ (IsS55.ge HI0.out)) | exact HB.out)); rintro e w7 ⟨rfl, hi, hb, hk⟩; have n0_ := Aside0.mk (KeepBut.trans z0_ hk (.inl rfl)); have n1_ := Aside0.mk (hb); have n2_ := Aside0.mk (hi); clear HK; clear HB; clear HI0; have HK := n0_; have HB := n1_; have HI0 := n2_; clear n0_ n1_ n2_; (try clear hb); (try clear hb2); (try clear hk); (try clear hi)) | (go_at_call 50; (with_reducible refine (tithebarnref01_Cursor_fail.calls g t375 t376 t377 2 t378 t379 t380 w0 _ ?side1 ?side2 A5.out).mono ?_); (case side1 => repeat (first | (with_reducible first | exact HI0.out | apply IsS55.alloc | apply IsS55.drewN | apply IsS55.drew | apply IsS55.set_0 | apply IsS55.set_1 | apply IsS55.set_2) | exact HI0.out)); (case side2 => repeat (first | (with_reducible first | exact HB.out | apply below_alloc | apply pw_below_drewN | apply below_drew1 | refine below_set ?_ (IsS55.ge HI0.out)) | exact HB.out)); rintro e w8 ⟨rfl, hi, hb, hk⟩; have n0_ := Aside0.mk (KeepBut.trans z0_ hk (.inl rfl)); have n1_ := Aside0.mk (hb); have n2_ := Aside0.mk (hi); clear HK; clear HB; clear HI0; have HK := n0_; have HB := n1_; have HI0 := n2_; clear n0_ n1_ n2_; (try clear hb); (try clear hb2); (try clear hk); (try clear hi))); try go_wp2_with (first | (go_at_call 49; (with_reducible refine (tithebarnref01_Cursor_Left.calls g s0_0 s0_1 s0_2 t374 t375 t376 t377 w0 _ ?side1 ?side2 A3.out).mono ?_); (case side1 => repeat (first | (with_reducible first | exact HI0.out | apply IsS55.alloc | apply IsS55.drewN | apply IsS55.drew | apply IsS55.set_0 | apply IsS55.set_1 | apply IsS55.set_2) | exact HI0.out)); (case side2 => repeat (first | (with_reducible first | exact HB.out | apply below_alloc | apply pw_below_drewN | apply below_drew1 | refine below_set ?_ (IsS55.ge HI0.out)) | exact HB.out)); rintro e w7 ⟨rfl, hi, hb, hk⟩; have n0_ := Aside0.mk (KeepBut.trans z0_ hk (.inl rfl)); have n1_ := Aside0.mk (hb); have n2_ := Aside0.mk (hi); clear HK; clear HB; clear HI0; have HK := n0_; have HB := n1_; have HI0 := n2_; clear n0_ n1_ n2_; (try clear hb); (try clear hb2); (try clear hk); (try clear hi)) | (go_at_call 50; (with_reducible refine (tithebarnref01_Cursor_fail.calls g t375 t376 t377 2 t378 t379 t380 w0 _ ?side1 ?side2 A5.out).mono ?_); (case side1 => repeat (first | (with_reducible first | exact HI0.out | apply IsS55.alloc | apply IsS55.drewN | apply IsS55.drew | apply IsS55.set_0 | apply IsS55.set_1 | apply IsS55.set_2) | exact HI0.out)); (case side2 => repeat (first | (with_reducible first | exact HB.out | apply below_alloc | apply pw_below_drewN | apply below_drew1 | refine below_set ?_ (IsS55.ge HI0.out)) | exact HB.out)); rintro e w8 ⟨rfl, hi, hb, hk⟩; have n0_ := Aside0.mk (KeepBut.trans z0_ hk (.inl rfl)); have n1_ := Aside0.mk (hb); have n2_ := Aside0.mk (hi); clear HK; clear HB; clear HI0; have HK := n0_; have HB := n1_; have HI0 := n2_; clear n0_ n1_ n2_; (try clear hb); (try clear hb2); (try clear hk); (try clear hi))))
   go_ret
   exact ⟨z6_, z2_, z3_, z0_⟩
  ·rw [if_neg c4] at H
   have c4b0 : decide (t374 < 1) = false := decide_eq_false c4
   clear c4
   obtain ⟨ji9, hji9⟩ : ∃ j_ : Int, (wrap64 ((wrap64 (t376 + 1)) - 1)) = j_ := ⟨_, rfl⟩
   replace H : (if 0 ≤ (ji9) then (if (ji9) < (t375.size : Int) then (some (wrap64 (bt t375 (ji9)), t375, wrap64 (t376 + 1), t377)) else (none)) else (none)) = some (r1, r2, r3, r4) := by first | (rw [hji9] at H; exact H) | (simp only [hji9] at H ⊢; exact H)
   (try rw [hji9] at A3)
   have hji9w : (IntKind.i64.wrap ((wrap64 (t376 + 1)) - 1)) = ji9 := (i64_w _).trans hji9
   by_cases c10 : 0 ≤ (ji9)
   ·rw [if_pos c10] at H
    have c10b0 : decide (0 ≤ (ji9)) = true := decide_eq_true c10
    clear c10
    by_cases c11 : (ji9) < (t375.size : Int)
    ·rw [if_pos c11] at H
     have c11b0 : decide ((ji9) < (t375.size : Int)) = true := decide_eq_true c11
     clear c11
     simp only [Option.some.injEq, Prod.mk.injEq] at H
     obtain ⟨rfl, rfl, rfl, rfl⟩ := H
     obtain ⟨HGz13, hgz13⟩ := HI0.out
     have hcz13_0 := cellS55_0 HGz13
     have hcz13_1 := cellS55_1 HGz13
     have hcz13_2 := cellS55_2 HGz13
     have hfz13_0 := blk_frozen HGz13 0
     have hfz13_1 := blk_frozen HGz13 1
     have hfz13_2 := blk_frozen HGz13 2
     clear HGz13 hgz13
     go_enter Try.func28, Try.ntmps28
     go_wp2_with (first | (go_at_call 49; (with_reducible refine (tithebarnref01_Cursor_Left.calls g s0_0 s0_1 s0_2 t374 t375 t376 t377 w0 _ ?side1 ?side2 A3.out).mono ?_); (case side1 => repeat (first | (with_reducible first | exact HI0.out | apply IsS55.alloc | apply IsS55.drewN | apply IsS55.drew | apply IsS55.set_0 | apply IsS55.set_1 | apply IsS55.set_2) | exact HI0.out)); (case side2 => repeat (first | (with_reducible first | exact HB.out | apply below_alloc | apply pw_below_drewN | apply below_drew1 | refine below_set ?_ (IsS55.ge HI0.out)) | exact HB.out)); rintro e w14 ⟨rfl, hi, hb, hk⟩; have n0_ := Aside0.mk (KeepBut.trans z0_ hk (.inl rfl)); have n1_ := Aside0.mk (hb); have n2_ := Aside0.mk (hi); clear HK; clear HB; clear HI0; have HK := n0_; have HB := n1_; have HI0 := n2_; clear n0_ n1_ n2_; (try clear hb); (try clear hb2); (try clear hk); (try clear hi); obtain ⟨HGz15, hgz15⟩ := HI0.out; have hcz15_0 := cellS55_0 HGz15; have hcz15_1 := cellS55_1 HGz15; have hcz15_2 := cellS55_2 HGz15; have hfz15_0 := blk_frozen HGz15 0; have hfz15_1 := blk_frozen HGz15 1; have hfz15_2 := blk_frozen HGz15 2; clear HGz15 hgz15; have p12 : 0 ≤ ((ji9) : Int) := of_decide_eq_true z12_; have q12 : (ji9) < (t375.size : Int) := of_decide_eq_true z12_; have hx12 := bt_at t375 (ji9); replace p12 := eq_true p12; replace q12 := eq_true q12))
     repeat (go_quiet (first | (go_at_call 49; (with_reducible refine (tithebarnref01_Cursor_Left.calls g s0_0 s0_1 s0_2 t374 t375 t376 t377 w0 _ ?side1 ?side2 A3.out).mono ?_); (case side1 => repeat (first | (with_reducible first | exact HI0.out | apply IsS55.alloc | apply IsS55.drewN | apply IsS55.drew | apply IsS55.set_0 | apply IsS55.set_1 | apply IsS55.set_2) | exact HI0.out)); (case side2 => repeat (first | (with_reducible first | exact HB.out | apply below_alloc | apply pw_below_drewN | apply below_drew1 | refine below_set ?_ (IsS55.ge HI0.out)) | exact HB.out)); rintro e w14 ⟨rfl, hi, hb, hk⟩; have n0_ := Aside0.mk (KeepBut.trans z0_ hk (.inl rfl)); have n1_ := Aside0.mk (hb); have n2_ := Aside0.mk (hi); clear HK; clear HB; clear HI0; have HK := n0_; have HB := n1_; have HI0 := n2_; clear n0_ n1_ n2_; (try clear hb); (try clear hb2); (try clear hk); (try clear hi); obtain ⟨HGz15, hgz15⟩ := HI0.out; have hcz15_0 := cellS55_0 HGz15; have hcz15_1 := cellS55_1 HGz15; have hcz15_2 := cellS55_2 HGz15; have hfz15_0 := blk_frozen HGz15 0; have hfz15_1 := blk_frozen HGz15 1; have hfz15_2 := blk_frozen HGz15 2; clear HGz15 hgz15; have p12 : 0 ≤ ((ji9) : Int) := of_decide_eq_true z12_; have q12 : (ji9) < (t375.size : Int) := of_decide_eq_true z12_; have hx12 := bt_at t375 (ji9); replace p12 := eq_true p12; replace q12 := eq_true q12)); try go_wp2_with (first | (go_at_call 49; (with_reducible refine (tithebarnref01_Cursor_Left.calls g s0_0 s0_1 s0_2 t374 t375 t376 t377 w0 _ ?side1 ?side2 A3.out).mono ?_); (case side1 => repeat (first | (with_reducible first | exact HI0.out | apply IsS55.alloc | apply IsS55.drewN | apply IsS55.drew | apply IsS55.set_0 | apply IsS55.set_1 | apply IsS55.set_2) | exact HI0.out)); (case side2 => repeat (first | (with_reducible first | exact HB.out | apply below_alloc | apply pw_below_drewN | apply below_drew1 | refine below_set ?_ (IsS55.ge HI0.out)) | exact HB.out)); rintro e w14 ⟨rfl, hi, hb, hk⟩; have n0_ := Aside0.mk (KeepBut.trans z0_ hk (.inl rfl)); have n1_ := Aside0.mk (hb); have n2_ := Aside0.mk (hi); clear HK; clear HB; clear HI0; have HK := n0_; have HB := n1_; have HI0 := n2_; clear n0_ n1_ n2_; (try clear hb); (try clear hb2); (try clear hk); (try clear hi); obtain ⟨HGz15, hgz15⟩ := HI0.out; have hcz15_0 := cellS55_0 HGz15; have hcz15_1 := cellS55_1 HGz15; have hcz15_2 := cellS55_2 HGz15; have hfz15_0 := blk_frozen HGz15 0; have hfz15_1 := blk_frozen HGz15 1; have hfz15_2 := blk_frozen HGz15 2; clear HGz15 hgz15; have p12 : 0 ≤ ((ji9) : Int) := of_decide_eq_true z12_; have q12 : (ji9) < (t375.size : Int) := of_decide_eq_true z12_; have hx12 := bt_at t375 (ji9); replace p12 := eq_true p12; replace q12 := eq_true q12)))
     go_ret
     exact ⟨by first | rfl | (simp [errW_none, errW_some] <;> rfl) | (simp only [← hji9]; first | rfl | (simp [errW_none, errW_some] <;> rfl)) | (simp [*, errW_none, errW_some] <;> rfl), z2_, z3_, z0_⟩
    ·rw [if_neg c11] at H
     exact absurd H (by simp)
   ·rw [if_neg c10] at H
    exact absurd H (by simp)
 ·rw [if_neg c2] at H
  have c2b0 : (s0_2 == 0) = false := beq_eq_false_iff_ne.mpr c2
  have c2b1 : (s0_2 != 0) = true := bne_iff_ne.mpr c2
  simp only [Option.some.injEq, Prod.mk.injEq] at H
  obtain ⟨rfl, rfl, rfl, rfl⟩ := H
  obtain ⟨HGz16, hgz16⟩ := HI0.out
  have hcz16_0 := cellS55_0 HGz16
  have hcz16_1 := cellS55_1 HGz16
  have hcz16_2 := cellS55_2 HGz16
  have hfz16_0 := blk_frozen HGz16 0
  have hfz16_1 := blk_frozen HGz16 1
  have hfz16_2 := blk_frozen HGz16 2
  clear HGz16 hgz16
  go_enter Try.func28, Try.ntmps28
  go_wp2
  repeat (go_quiet (fail); try go_wp2)
  go_ret
  exact ⟨z6_, z2_, z3_, z0_⟩
def tithebarnref01_size.f (a0 : Int) : Option (Int) := if a0 < 64 then (some 1) else (if a0 < 128 then (some 2) else (if a0 < 192 then (some 4) else (some 9)))
set_option maxHeartbeats 8000000 in
set_option maxRecDepth 100000 in
theorem tithebarnref01_size.calls (a0 : Int) (r : Int) (w : World) (h : tithebarnref01_size.f a0 = some r) :
  Calls Try.prog 66 #[.int .u8 a0] w fun e w' => e = .returned (.int .i64 r) ∧ Drawn0 w w' := by
 have H : (if a0 < 64 then (some 1) else (if a0 < 128 then (some 2) else (if a0 < 192 then (some 4) else (some 9)))) = some r := h
 clear h
 by_cases c2 : a0 < 64
 ·rw [if_pos c2] at H
  have c2b0 : decide (a0 < 64) = true := decide_eq_true c2
  clear c2
  obtain rfl := Option.some.inj H
  go_enter Try.func66, Try.ntmps66
  go_wp2
  go_ret
  exact ⟨z11_, z13_⟩
 ·rw [if_neg c2] at H
  have c2b0 : decide (a0 < 64) = false := decide_eq_false c2
  clear c2
  by_cases c3 : a0 < 128
  ·rw [if_pos c3] at H
   have c3b0 : decide (a0 < 128) = true := decide_eq_true c3
   clear c3
   obtain rfl := Option.some.inj H
   go_enter Try.func66, Try.ntmps66
   go_wp2
   go_ret
   exact ⟨z11_, z13_⟩
  ·rw [if_neg c3] at H
   have c3b0 : decide (a0 < 128) = false := decide_eq_false c3
   clear c3
   by_cases c4 : a0 < 192
   ·rw [if_pos c4] at H
    have c4b0 : decide (a0 < 192) = true := decide_eq_true c4
    clear c4
    obtain rfl := Option.some.inj H
    go_enter Try.func66, Try.ntmps66
    go_wp2
    go_ret
    exact ⟨z11_, z13_⟩
   ·rw [if_neg c4] at H
    have c4b0 : decide (a0 < 192) = false := decide_eq_false c4
    clear c4
    obtain rfl := Option.some.inj H
    go_enter Try.func66, Try.ntmps66
    go_wp2
    go_ret
    exact ⟨z11_, z13_⟩
mutual
def tithebarnref01_Cursor_peek.j0 : Nat → Int → Bool → ByteArray → Int → Int → Option (Int × Int × Int × ByteArray × Int × Int)
 | 0, _, _, _, _, _ => none
 | k + 1, x5, x34, x1000, x1001, x1002 => if x34 = true then (some (0, 0, 5, x1000, x1001, x1002)) else ((tithebarnref01_Cursor_Left.f x1000 x1001 x1002).bind fun bt386 => (if bt386.1 < x5 then (some (0, 0, 2, bt386.2.1, bt386.2.2.1, bt386.2.2.2)) else (if 0 ≤ bt386.2.2.1 then (if bt386.2.2.1 < (bt386.2.1.size : Int) then (tithebarnref01_Cursor_peek.l0 k x5 (IntKind.u64.wrap (Int.tmod (bt bt386.2.1 bt386.2.2.1) 64)) 1 bt386.2.1 bt386.2.2.1 bt386.2.2.2) else (none)) else (none))))
def tithebarnref01_Cursor_peek.l0 : Nat → Int → Int → Int → ByteArray → Int → Int → Option (Int × Int × Int × ByteArray × Int × Int)
 | 0, _, _, _, _, _, _ => none
 | k + 1, x5, x6, x7, x1000, x1001, x1002 => if x7 < x5 then (if 0 ≤ (wrap64 (x1001 + x7)) then (if (wrap64 (x1001 + x7)) < (x1000.size : Int) then (tithebarnref01_Cursor_peek.l0 k x5 (IntKind.u64.wrap ((IntKind.u64.wrap (256 * x6)) + (IntKind.u64.wrap (bt x1000 (wrap64 (x1001 + x7)))))) (wrap64 (x7 + 1)) x1000 x1001 x1002) else (none)) else (none)) else ((tithebarnref01_Uint.f k x6).bind fun t390 => (if (t390.size : Int) = x5 then (some (x6, x5, 0, x1000, x1001, x1002)) else (some (0, 0, 5, x1000, x1001, x1002))))
end
def tithebarnref01_Cursor_peek.f (k : Nat) (s0_0 : ByteArray) (s0_1 : Int) (s0_2 : Int) : Option (Int × Int × Int × ByteArray × Int × Int) := (tithebarnref01_Cursor_Left.f s0_0 s0_1 s0_2).bind fun bt381 => (if bt381.1 < 1 then (some (0, 0, 2, bt381.2.1, bt381.2.2.1, bt381.2.2.2)) else (if 0 ≤ bt381.2.2.1 then (if bt381.2.2.1 < (bt381.2.1.size : Int) then ((tithebarnref01_size.f (bt bt381.2.1 bt381.2.2.1)).bind fun t385 => (if t385 = 9 then (tithebarnref01_Cursor_peek.j0 k t385 ((bt bt381.2.1 bt381.2.2.1) != 192) bt381.2.1 bt381.2.2.1 bt381.2.2.2) else (tithebarnref01_Cursor_peek.j0 k t385 false bt381.2.1 bt381.2.2.1 bt381.2.2.2))) else (none)) else (none)))
theorem tithebarnref01_Cursor_peek.mono_l : ∀ k, (∀ y0 y1 y2 y3 y4, LeO (tithebarnref01_Cursor_peek.j0 k y0 y1 y2 y3 y4) (tithebarnref01_Cursor_peek.j0 (k + 1) y0 y1 y2 y3 y4)) ∧ (∀ y0 y1 y2 y3 y4 y5, LeO (tithebarnref01_Cursor_peek.l0 k y0 y1 y2 y3 y4 y5) (tithebarnref01_Cursor_peek.l0 (k + 1) y0 y1 y2 y3 y4 y5))
 | 0 => ⟨fun _ _ _ _ _ r h => by simp [tithebarnref01_Cursor_peek.j0] at h, fun _ _ _ _ _ _ r h => by simp [tithebarnref01_Cursor_peek.l0] at h⟩
 | k + 1 => by
  obtain ⟨ih0, ih1⟩ := tithebarnref01_Cursor_peek.mono_l k
  refine ⟨?_, ?_⟩
  ·intro y0 y1 y2 y3 y4
   unfold tithebarnref01_Cursor_peek.j0
   repeat' first
   | (with_reducible exact ih0 _ _ _ _ _)
   | (with_reducible exact ih1 _ _ _ _ _ _)
   | (with_reducible exact tithebarnref01_Uint.mono _ _)
   | (with_reducible exact LeO.refl _)
   | (with_reducible exact LeO.none _)
   | (with_reducible refine LeO.ite ?_ ?_)
   | (with_reducible refine LeO.bind ?_ (fun _ => ?_))
   | exact ih0 _ _ _ _ _
   | exact ih1 _ _ _ _ _ _
   | exact tithebarnref01_Uint.mono _ _
   | exact LeO.none _
   | refine LeO.ite ?_ ?_
   | refine LeO.bind ?_ (fun _ => ?_)
  ·intro y0 y1 y2 y3 y4 y5
   unfold tithebarnref01_Cursor_peek.l0
   repeat' first
   | (with_reducible exact ih0 _ _ _ _ _)
   | (with_reducible exact ih1 _ _ _ _ _ _)
   | (with_reducible exact tithebarnref01_Uint.mono _ _)
   | (with_reducible exact LeO.refl _)
   | (with_reducible exact LeO.none _)
   | (with_reducible refine LeO.ite ?_ ?_)
   | (with_reducible refine LeO.bind ?_ (fun _ => ?_))
   | exact ih0 _ _ _ _ _
   | exact ih1 _ _ _ _ _ _
   | exact tithebarnref01_Uint.mono _ _
   | exact LeO.none _
   | refine LeO.ite ?_ ?_
   | refine LeO.bind ?_ (fun _ => ?_)
theorem tithebarnref01_Cursor_peek.mono : ∀ a0 a1 a2 k, LeO (tithebarnref01_Cursor_peek.f k a0 a1 a2) (tithebarnref01_Cursor_peek.f (k + 1) a0 a1 a2) := by
 intro a0 a1 a2 k
 obtain ⟨ih0, ih1⟩ := tithebarnref01_Cursor_peek.mono_l k
 unfold tithebarnref01_Cursor_peek.f
 repeat' first
   | (with_reducible exact ih0 _ _ _ _ _)
   | (with_reducible exact ih1 _ _ _ _ _ _)
   | (with_reducible exact tithebarnref01_Uint.mono _ _)
   | (with_reducible exact LeO.refl _)
   | (with_reducible exact LeO.none _)
   | (with_reducible refine LeO.ite ?_ ?_)
   | (with_reducible refine LeO.bind ?_ (fun _ => ?_))
   | exact ih0 _ _ _ _ _
   | exact ih1 _ _ _ _ _ _
   | exact tithebarnref01_Uint.mono _ _
   | exact LeO.none _
   | refine LeO.ite ?_ ?_
   | refine LeO.bind ?_ (fun _ => ?_)
set_option maxHeartbeats 8000000 in
set_option maxRecDepth 100000 in
theorem tithebarnref01_Cursor_peek.calls (k : Nat) (g : Nat) (s0_0 : ByteArray) (s0_1 : Int) (s0_2 : Int) (r1 : Int) (r2 : Int) (r3 : Int) (r4 : ByteArray) (r5 : Int) (r6 : Int) (w0 w : World) (hI : IsS55 w0 w g s0_0 s0_1 s0_2) (hB : Below w0.heap.size w0 w) (h : tithebarnref01_Cursor_peek.f k s0_0 s0_1 s0_2 = some (r1, r2, r3, r4, r5, r6)) :
  Calls Try.prog 51 #[.pointer (some ⟨g, 0, none⟩)] w fun e w' => e = .returned (.tuple #[.int .u64 r1, .int .i64 r2, .int .i64 r3]) ∧ IsS55 w0 w' g r4 r5 r6 ∧ Below w0.heap.size w0 w' ∧ KeepBut w w' g none := by
 have HI0 := Aside0.mk hI
 have HK := Aside0.mk (KeepBut.refl w g none)
 have HL := Aside0.mk hB.size
 clear hI
 have HW0 := Aside0.mk hB.size
 have HB := Aside0.mk hB
 clear hB
 have H : ((tithebarnref01_Cursor_Left.f s0_0 s0_1 s0_2).bind fun bt381 => (if bt381.1 < 1 then (some (0, 0, 2, bt381.2.1, bt381.2.2.1, bt381.2.2.2)) else (if 0 ≤ bt381.2.2.1 then (if bt381.2.2.1 < (bt381.2.1.size : Int) then ((tithebarnref01_size.f (bt bt381.2.1 bt381.2.2.1)).bind fun t385 => (if t385 = 9 then (tithebarnref01_Cursor_peek.j0 k t385 ((bt bt381.2.1 bt381.2.2.1) != 192) bt381.2.1 bt381.2.2.1 bt381.2.2.2) else (tithebarnref01_Cursor_peek.j0 k t385 false bt381.2.1 bt381.2.2.1 bt381.2.2.2))) else (none)) else (none)))) = some (r1, r2, r3, r4, r5, r6) := h
 clear h
 replace H := Option.bind_eq_some_iff.mp H
 obtain ⟨⟨t381, t382, t383, t384⟩, A20, H⟩ := H
 replace H : (if t381 < 1 then (some (0, 0, 2, t382, t383, t384)) else (if 0 ≤ t383 then (if t383 < (t382.size : Int) then ((tithebarnref01_size.f (bt t382 t383)).bind fun t385 => (if t385 = 9 then (tithebarnref01_Cursor_peek.j0 k t385 ((bt t382 t383) != 192) t382 t383 t384) else (tithebarnref01_Cursor_peek.j0 k t385 false t382 t383 t384))) else (none)) else (none))) = some (r1, r2, r3, r4, r5, r6) := H
 have A2 := Aside0.mk A20
 clear A20
 by_cases c3 : t381 < 1
 ·rw [if_pos c3] at H
  have c3b0 : decide (t381 < 1) = true := decide_eq_true c3
  clear c3
  simp only [Option.some.injEq, Prod.mk.injEq] at H
  obtain ⟨rfl, rfl, rfl, rfl, rfl, rfl⟩ := H
  go_enter Try.func51, Try.ntmps51
  go_wp2_with (first | (go_at_call 49; (with_reducible refine (tithebarnref01_Cursor_Left.calls g s0_0 s0_1 s0_2 t381 t382 t383 t384 w0 _ ?side1 ?side2 A2.out).mono ?_); (case side1 => repeat (first | (with_reducible first | exact HI0.out | apply IsS55.alloc | apply IsS55.drewN | apply IsS55.drew | apply IsS55.set_0 | apply IsS55.set_1 | apply IsS55.set_2) | exact HI0.out)); (case side2 => repeat (first | (with_reducible first | exact HB.out | apply below_alloc | apply pw_below_drewN | apply below_drew1 | refine below_set ?_ (IsS55.ge HI0.out)) | exact HB.out)); rintro e w4 ⟨rfl, hi, hb, hk⟩; have n0_ := Aside0.mk (KeepBut.trans z0_ hk (.inl rfl)); have n1_ := Aside0.mk (hb); have n2_ := Aside0.mk (hi); clear HK; clear HB; clear HI0; have HK := n0_; have HB := n1_; have HI0 := n2_; clear n0_ n1_ n2_; (try clear hb); (try clear hb2); (try clear hk); (try clear hi)))
  repeat (go_quiet (first | (go_at_call 49; (with_reducible refine (tithebarnref01_Cursor_Left.calls g s0_0 s0_1 s0_2 t381 t382 t383 t384 w0 _ ?side1 ?side2 A2.out).mono ?_); (case side1 => repeat (first | (with_reducible first | exact HI0.out | apply IsS55.alloc | apply IsS55.drewN | apply IsS55.drew | apply IsS55.set_0 | apply IsS55.set_1 | apply IsS55.set_2) | exact HI0.out)); (case side2 => repeat (first | (with_reducible first | exact HB.out | apply below_alloc | apply pw_below_drewN | apply below_drew1 | refine below_set ?_ (IsS55.ge HI0.out)) | exact HB.out)); rintro e w4 ⟨rfl, hi, hb, hk⟩; have n0_ := Aside0.mk (KeepBut.trans z0_ hk (.inl rfl)); have n1_ := Aside0.mk (hb); have n2_ := Aside0.mk (hi); clear HK; clear HB; clear HI0; have HK := n0_; have HB := n1_; have HI0 := n2_; clear n0_ n1_ n2_; (try clear hb); (try clear hb2); (try clear hk); (try clear hi))); try go_wp2_with (first | (go_at_call 49; (with_reducible refine (tithebarnref01_Cursor_Left.calls g s0_0 s0_1 s0_2 t381 t382 t383 t384 w0 _ ?side1 ?side2 A2.out).mono ?_); (case side1 => repeat (first | (with_reducible first | exact HI0.out | apply IsS55.alloc | apply IsS55.drewN | apply IsS55.drew | apply IsS55.set_0 | apply IsS55.set_1 | apply IsS55.set_2) | exact HI0.out)); (case side2 => repeat (first | (with_reducible first | exact HB.out | apply below_alloc | apply pw_below_drewN | apply below_drew1 | refine below_set ?_ (IsS55.ge HI0.out)) | exact HB.out)); rintro e w4 ⟨rfl, hi, hb, hk⟩; have n0_ := Aside0.mk (KeepBut.trans z0_ hk (.inl rfl)); have n1_ := Aside0.mk (hb); have n2_ := Aside0.mk (hi); clear HK; clear HB; clear HI0; have HK := n0_; have HB := n1_; have HI0 := n2_; clear n0_ n1_ n2_; (try clear hb); (try clear hb2); (try clear hk); (try clear hi))))
  go_ret3
  exact ⟨z6_, z2_, z3_, z0_⟩
 ·rw [if_neg c3] at H
  have c3b0 : decide (t381 < 1) = false := decide_eq_false c3
  clear c3
  by_cases c5 : 0 ≤ t383
  ·rw [if_pos c5] at H
   have c5b0 : decide (0 ≤ t383) = true := decide_eq_true c5
   clear c5
   by_cases c6 : t383 < (t382.size : Int)
   ·rw [if_pos c6] at H
    have c6b0 : decide (t383 < (t382.size : Int)) = true := decide_eq_true c6
    clear c6
    replace H := Option.bind_eq_some_iff.mp H
    obtain ⟨t385, A80, H⟩ := H
    replace H : (if t385 = 9 then (tithebarnref01_Cursor_peek.j0 k t385 ((bt t382 t383) != 192) t382 t383 t384) else (tithebarnref01_Cursor_peek.j0 k t385 false t382 t383 t384)) = some (r1, r2, r3, r4, r5, r6) := H
    have A8 := Aside0.mk A80
    clear A80
    have HC9 := Aside0.mk H
    clear H
    go_enter Try.func51, Try.ntmps51
    go_upto_region 4 with (first | (go_at_call 49; (with_reducible refine (tithebarnref01_Cursor_Left.calls g s0_0 s0_1 s0_2 t381 t382 t383 t384 w0 _ ?side1 ?side2 A2.out).mono ?_); (case side1 => repeat (first | (with_reducible first | exact HI0.out | apply IsS55.alloc | apply IsS55.drewN | apply IsS55.drew | apply IsS55.set_0 | apply IsS55.set_1 | apply IsS55.set_2) | exact HI0.out)); (case side2 => repeat (first | (with_reducible first | exact HB.out | apply below_alloc | apply pw_below_drewN | apply below_drew1 | refine below_set ?_ (IsS55.ge HI0.out)) | exact HB.out)); rintro e w10 ⟨rfl, hi, hb, hk⟩; have n0_ := Aside0.mk (KeepBut.trans z0_ hk (.inl rfl)); have n1_ := Aside0.mk (hb); have n2_ := Aside0.mk (hi); clear HK; clear HB; clear HI0; have HK := n0_; have HB := n1_; have HI0 := n2_; clear n0_ n1_ n2_; (try clear hb); (try clear hb2); (try clear hk); (try clear hi); obtain ⟨HGz11, hgz11⟩ := HI0.out; have hcz11_0 := cellS55_0 HGz11; have hcz11_1 := cellS55_1 HGz11; have hcz11_2 := cellS55_2 HGz11; have hfz11_0 := blk_frozen HGz11 0; have hfz11_1 := blk_frozen HGz11 1; have hfz11_2 := blk_frozen HGz11 2; clear HGz11 hgz11; have p7 : 0 ≤ (t383 : Int) := of_decide_eq_true z12_; have q7 : t383 < (t382.size : Int) := of_decide_eq_true z12_; have hx7 := bt_at t382 t383; replace p7 := eq_true p7; replace q7 := eq_true q7) | (go_at_call 66; (with_reducible refine (tithebarnref01_size.calls (bt t382 t383) t385 _ A8.out).mono ?_); rintro e w' ⟨rfl, ⟨nd, rfl⟩⟩; (try first | exact ⟨rfl, _, World.drewN_drewN _ _ _⟩ | exact ⟨rfl, _, Eq.trans (World.drewN_drewN _ _ _) (congrArg (World.drewN _) (Nat.add_assoc _ _ _))⟩)))
    repeat (go_quiet (first | (go_at_call 49; (with_reducible refine (tithebarnref01_Cursor_Left.calls g s0_0 s0_1 s0_2 t381 t382 t383 t384 w0 _ ?side1 ?side2 A2.out).mono ?_); (case side1 => repeat (first | (with_reducible first | exact HI0.out | apply IsS55.alloc | apply IsS55.drewN | apply IsS55.drew | apply IsS55.set_0 | apply IsS55.set_1 | apply IsS55.set_2) | exact HI0.out)); (case side2 => repeat (first | (with_reducible first | exact HB.out | apply below_alloc | apply pw_below_drewN | apply below_drew1 | refine below_set ?_ (IsS55.ge HI0.out)) | exact HB.out)); rintro e w10 ⟨rfl, hi, hb, hk⟩; have n0_ := Aside0.mk (KeepBut.trans z0_ hk (.inl rfl)); have n1_ := Aside0.mk (hb); have n2_ := Aside0.mk (hi); clear HK; clear HB; clear HI0; have HK := n0_; have HB := n1_; have HI0 := n2_; clear n0_ n1_ n2_; (try clear hb); (try clear hb2); (try clear hk); (try clear hi); obtain ⟨HGz11, hgz11⟩ := HI0.out; have hcz11_0 := cellS55_0 HGz11; have hcz11_1 := cellS55_1 HGz11; have hcz11_2 := cellS55_2 HGz11; have hfz11_0 := blk_frozen HGz11 0; have hfz11_1 := blk_frozen HGz11 1; have hfz11_2 := blk_frozen HGz11 2; clear HGz11 hgz11; have p7 : 0 ≤ (t383 : Int) := of_decide_eq_true z12_; have q7 : t383 < (t382.size : Int) := of_decide_eq_true z12_; have hx7 := bt_at t382 t383; replace p7 := eq_true p7; replace q7 := eq_true q7) | (go_at_call 66; (with_reducible refine (tithebarnref01_size.calls (bt t382 t383) t385 _ A8.out).mono ?_); rintro e w' ⟨rfl, ⟨nd, rfl⟩⟩; (try first | exact ⟨rfl, _, World.drewN_drewN _ _ _⟩ | exact ⟨rfl, _, Eq.trans (World.drewN_drewN _ _ _) (congrArg (World.drewN _) (Nat.add_assoc _ _ _))⟩))); go_upto_region 4 with (first | (go_at_call 49; (with_reducible refine (tithebarnref01_Cursor_Left.calls g s0_0 s0_1 s0_2 t381 t382 t383 t384 w0 _ ?side1 ?side2 A2.out).mono ?_); (case side1 => repeat (first | (with_reducible first | exact HI0.out | apply IsS55.alloc | apply IsS55.drewN | apply IsS55.drew | apply IsS55.set_0 | apply IsS55.set_1 | apply IsS55.set_2) | exact HI0.out)); (case side2 => repeat (first | (with_reducible first | exact HB.out | apply below_alloc | apply pw_below_drewN | apply below_drew1 | refine below_set ?_ (IsS55.ge HI0.out)) | exact HB.out)); rintro e w10 ⟨rfl, hi, hb, hk⟩; have n0_ := Aside0.mk (KeepBut.trans z0_ hk (.inl rfl)); have n1_ := Aside0.mk (hb); have n2_ := Aside0.mk (hi); clear HK; clear HB; clear HI0; have HK := n0_; have HB := n1_; have HI0 := n2_; clear n0_ n1_ n2_; (try clear hb); (try clear hb2); (try clear hk); (try clear hi); obtain ⟨HGz11, hgz11⟩ := HI0.out; have hcz11_0 := cellS55_0 HGz11; have hcz11_1 := cellS55_1 HGz11; have hcz11_2 := cellS55_2 HGz11; have hfz11_0 := blk_frozen HGz11 0; have hfz11_1 := blk_frozen HGz11 1; have hfz11_2 := blk_frozen HGz11 2; clear HGz11 hgz11; have p7 : 0 ≤ (t383 : Int) := of_decide_eq_true z12_; have q7 : t383 < (t382.size : Int) := of_decide_eq_true z12_; have hx7 := bt_at t382 t383; replace p7 := eq_true p7; replace q7 := eq_true q7) | (go_at_call 66; (with_reducible refine (tithebarnref01_size.calls (bt t382 t383) t385 _ A8.out).mono ?_); rintro e w' ⟨rfl, ⟨nd, rfl⟩⟩; (try first | exact ⟨rfl, _, World.drewN_drewN _ _ _⟩ | exact ⟨rfl, _, Eq.trans (World.drewN_drewN _ _ _) (congrArg (World.drewN _) (Nat.add_assoc _ _ _))⟩))))
    (try simp only [Act.put, List.setIfInBounds_toArray, List.set_cons_zero, List.set_cons_succ])
    go_cut [34] (fun v34 wc => ∃ (kq : Nat) (x34_8 : Bool), v34 = .bool x34_8 ∧ Aside0 (tithebarnref01_Cursor_peek.j0 kq t385 x34_8 t382 t383 t384 = some (r1, r2, r3, r4, r5, r6)) ∧ Aside0 (kq ≤ k) ∧ Aside0 (IsS55 w0 wc g t382 t383 t384) ∧ Aside0 (KeepBut w wc g none) ∧ Aside0 (Below w0.heap.size w0 wc))
    case first =>
     have H := HC9.out
     clear HC9
     by_cases c12 : t385 = 9
     ·rw [if_pos c12] at H
      have c12b0 : (t385 == 9) = true := beq_iff_eq.mpr c12
      have c12b1 : (t385 != 9) = false := bne_eq_false_iff_eq.mpr c12
      clear c12
      (first | rw [c12b0] | (simp only [i64_w, i32_w]; rw [c12b0]) | skip)
      have H' := Aside0.mk H
      clear H
      obtain ⟨HGz14, hgz14⟩ := HI0.out
      have hcz14_0 := cellS55_0 HGz14
      have hcz14_1 := cellS55_1 HGz14
      have hcz14_2 := cellS55_2 HGz14
      have hfz14_0 := blk_frozen HGz14 0
      have hfz14_1 := blk_frozen HGz14 1
      have hfz14_2 := blk_frozen HGz14 2
      clear HGz14 hgz14
      have p13 : 0 ≤ (t383 : Int) := of_decide_eq_true z12_
      have q13 : t383 < (t382.size : Int) := of_decide_eq_true z12_
      have hx13 := bt_at t382 t383
      replace p13 := eq_true p13
      replace q13 := eq_true q13
      go_wp2
      repeat (go_quiet (fail); try go_wp2)
      go_meet
      case rel => exact ⟨_, (((bt t382 t383) != 192)), z11_, H', ⟨by first | omega | exact Nat.le_refl _⟩, ⟨z2_⟩, ⟨z0_⟩, ⟨z3_⟩⟩
     ·rw [if_neg c12] at H
      have c12b0 : (t385 == 9) = false := beq_eq_false_iff_ne.mpr c12
      have c12b1 : (t385 != 9) = true := bne_iff_ne.mpr c12
      (first | rw [c12b0] | (simp only [i64_w, i32_w]; rw [c12b0]) | skip)
      have H' := Aside0.mk H
      clear H
      go_wp2
      repeat (go_quiet (fail); try go_wp2)
      go_meet
      case rel => exact ⟨_, (false), z11_, H', ⟨by first | omega | exact Nat.le_refl _⟩, ⟨z2_⟩, ⟨z0_⟩, ⟨z3_⟩⟩
    case rest =>
     clear HC9
     try clear c1
     try clear p1
     try clear q1
     try clear hx1
     try clear p2
     try clear c3
     try clear c3b0
     try clear c5
     try clear c5b0
     try clear c6
     try clear c6b0
     try clear p7
     try clear q7
     try clear hx7
     try clear c12
     try clear c12b0
     try clear c12b1
     try clear p13
     try clear q13
     try clear hx13
     try clear hcz11_0
     try clear hcz11_1
     try clear hcz11_2
     try clear hcz14_0
     try clear hcz14_1
     try clear hcz14_2
     try clear hfz11_0
     try clear hfz11_1
     try clear hfz11_2
     try clear hfz14_0
     try clear hfz14_1
     try clear hfz14_2
     try clear p13
     try clear p7
     try clear q13
     try clear q7
     obtain ⟨kq, x34_8, rfl, HA, HJ8, HI0, HK, HB⟩ := hcut
     cases kq with
     | zero => exact absurd HA.out (by simp [tithebarnref01_Cursor_peek.j0])
     | succ kj8 =>
      have H := HA.out
      clear HA
      simp only [tithebarnref01_Cursor_peek.j0] at H
      by_cases c15 : x34_8 = true
      ·subst c15
       have H1 : (some (0, 0, 5, t382, t383, t384)) = some (r1, r2, r3, r4, r5, r6) := by rw [if_pos rfl] at H; exact H
       clear H
       have H := H1
       clear H1
       simp only [Option.some.injEq, Prod.mk.injEq] at H
       obtain ⟨rfl, rfl, rfl, rfl, rfl, rfl⟩ := H
       go_wp2
       repeat (go_quiet (fail); try go_wp2)
       go_ret3
       exact ⟨z6_, z2_, z3_, z0_⟩
      ·replace c15 := Bool.eq_false_iff.mpr c15
       subst c15
       have H1 : ((tithebarnref01_Cursor_Left.f t382 t383 t384).bind fun bt386 => (if bt386.1 < t385 then (some (0, 0, 2, bt386.2.1, bt386.2.2.1, bt386.2.2.2)) else (if 0 ≤ bt386.2.2.1 then (if bt386.2.2.1 < (bt386.2.1.size : Int) then (tithebarnref01_Cursor_peek.l0 kj8 t385 (IntKind.u64.wrap (Int.tmod (bt bt386.2.1 bt386.2.2.1) 64)) 1 bt386.2.1 bt386.2.2.1 bt386.2.2.2) else (none)) else (none)))) = some (r1, r2, r3, r4, r5, r6) := by rw [if_neg (show ¬ (false = true) by decide)] at H; exact H
       clear H
       have H := H1
       clear H1
       replace H := Option.bind_eq_some_iff.mp H
       obtain ⟨⟨t386, t387, t388, t389⟩, A160, H⟩ := H
       replace H : (if t386 < t385 then (some (0, 0, 2, t387, t388, t389)) else (if 0 ≤ t388 then (if t388 < (t387.size : Int) then (tithebarnref01_Cursor_peek.l0 kj8 t385 (IntKind.u64.wrap (Int.tmod (bt t387 t388) 64)) 1 t387 t388 t389) else (none)) else (none))) = some (r1, r2, r3, r4, r5, r6) := H
       have A16 := Aside0.mk A160
       clear A160
       by_cases c17 : t386 < t385
       ·rw [if_pos c17] at H
        have c17b0 : decide (t386 < t385) = true := decide_eq_true c17
        clear c17
        simp only [Option.some.injEq, Prod.mk.injEq] at H
        obtain ⟨rfl, rfl, rfl, rfl, rfl, rfl⟩ := H
        go_wp2_with (first | (go_at_call 49; (with_reducible refine (tithebarnref01_Cursor_Left.calls g t382 t383 t384 t386 t387 t388 t389 w0 _ ?side1 ?side2 A16.out).mono ?_); (case side1 => repeat (first | (with_reducible first | exact HI0.out | apply IsS55.alloc | apply IsS55.drewN | apply IsS55.drew | apply IsS55.set_0 | apply IsS55.set_1 | apply IsS55.set_2) | exact HI0.out)); (case side2 => repeat (first | (with_reducible first | exact HB.out | apply below_alloc | apply pw_below_drewN | apply below_drew1 | refine below_set ?_ (IsS55.ge HI0.out)) | exact HB.out)); rintro e w18 ⟨rfl, hi, hb, hk⟩; have n0_ := Aside0.mk (KeepBut.trans z0_ hk (.inl rfl)); have n1_ := Aside0.mk (hb); have n2_ := Aside0.mk (hi); clear HK; clear HB; clear HI0; have HK := n0_; have HB := n1_; have HI0 := n2_; clear n0_ n1_ n2_; (try clear hb); (try clear hb2); (try clear hk); (try clear hi)))
        repeat (go_quiet (first | (go_at_call 49; (with_reducible refine (tithebarnref01_Cursor_Left.calls g t382 t383 t384 t386 t387 t388 t389 w0 _ ?side1 ?side2 A16.out).mono ?_); (case side1 => repeat (first | (with_reducible first | exact HI0.out | apply IsS55.alloc | apply IsS55.drewN | apply IsS55.drew | apply IsS55.set_0 | apply IsS55.set_1 | apply IsS55.set_2) | exact HI0.out)); (case side2 => repeat (first | (with_reducible first | exact HB.out | apply below_alloc | apply pw_below_drewN | apply below_drew1 | refine below_set ?_ (IsS55.ge HI0.out)) | exact HB.out)); rintro e w18 ⟨rfl, hi, hb, hk⟩; have n0_ := Aside0.mk (KeepBut.trans z0_ hk (.inl rfl)); have n1_ := Aside0.mk (hb); have n2_ := Aside0.mk (hi); clear HK; clear HB; clear HI0; have HK := n0_; have HB := n1_; have HI0 := n2_; clear n0_ n1_ n2_; (try clear hb); (try clear hb2); (try clear hk); (try clear hi))); try go_wp2_with (first | (go_at_call 49; (with_reducible refine (tithebarnref01_Cursor_Left.calls g t382 t383 t384 t386 t387 t388 t389 w0 _ ?side1 ?side2 A16.out).mono ?_); (case side1 => repeat (first | (with_reducible first | exact HI0.out | apply IsS55.alloc | apply IsS55.drewN | apply IsS55.drew | apply IsS55.set_0 | apply IsS55.set_1 | apply IsS55.set_2) | exact HI0.out)); (case side2 => repeat (first | (with_reducible first | exact HB.out | apply below_alloc | apply pw_below_drewN | apply below_drew1 | refine below_set ?_ (IsS55.ge HI0.out)) | exact HB.out)); rintro e w18 ⟨rfl, hi, hb, hk⟩; have n0_ := Aside0.mk (KeepBut.trans z0_ hk (.inl rfl)); have n1_ := Aside0.mk (hb); have n2_ := Aside0.mk (hi); clear HK; clear HB; clear HI0; have HK := n0_; have HB := n1_; have HI0 := n2_; clear n0_ n1_ n2_; (try clear hb); (try clear hb2); (try clear hk); (try clear hi))))
        go_ret3
        exact ⟨z6_, z2_, z3_, z0_⟩
       ·rw [if_neg c17] at H
        have c17b0 : decide (t386 < t385) = false := decide_eq_false c17
        clear c17
        by_cases c19 : 0 ≤ t388
        ·rw [if_pos c19] at H
         have c19b0 : decide (0 ≤ t388) = true := decide_eq_true c19
         clear c19
         by_cases c20 : t388 < (t387.size : Int)
         ·rw [if_pos c20] at H
          have c20b0 : decide (t388 < (t387.size : Int)) = true := decide_eq_true c20
          clear c20
          have H' := Aside0.mk H
          clear H
          go_wp2_with (first | (go_at_call 49; (with_reducible refine (tithebarnref01_Cursor_Left.calls g t382 t383 t384 t386 t387 t388 t389 w0 _ ?side1 ?side2 A16.out).mono ?_); (case side1 => repeat (first | (with_reducible first | exact HI0.out | apply IsS55.alloc | apply IsS55.drewN | apply IsS55.drew | apply IsS55.set_0 | apply IsS55.set_1 | apply IsS55.set_2) | exact HI0.out)); (case side2 => repeat (first | (with_reducible first | exact HB.out | apply below_alloc | apply pw_below_drewN | apply below_drew1 | refine below_set ?_ (IsS55.ge HI0.out)) | exact HB.out)); rintro e w22 ⟨rfl, hi, hb, hk⟩; have n0_ := Aside0.mk (KeepBut.trans z0_ hk (.inl rfl)); have n1_ := Aside0.mk (hb); have n2_ := Aside0.mk (hi); clear HK; clear HB; clear HI0; have HK := n0_; have HB := n1_; have HI0 := n2_; clear n0_ n1_ n2_; (try clear hb); (try clear hb2); (try clear hk); (try clear hi); obtain ⟨HGz23, hgz23⟩ := HI0.out; have hcz23_0 := cellS55_0 HGz23; have hcz23_1 := cellS55_1 HGz23; have hcz23_2 := cellS55_2 HGz23; have hfz23_0 := blk_frozen HGz23 0; have hfz23_1 := blk_frozen HGz23 1; have hfz23_2 := blk_frozen HGz23 2; clear HGz23 hgz23; have p21 : 0 ≤ (t388 : Int) := of_decide_eq_true z12_; have q21 : t388 < (t387.size : Int) := of_decide_eq_true z12_; have hx21 := bt_at t387 t388; replace p21 := eq_true p21; replace q21 := eq_true q21))
          repeat (go_quiet (first | (go_at_call 49; (with_reducible refine (tithebarnref01_Cursor_Left.calls g t382 t383 t384 t386 t387 t388 t389 w0 _ ?side1 ?side2 A16.out).mono ?_); (case side1 => repeat (first | (with_reducible first | exact HI0.out | apply IsS55.alloc | apply IsS55.drewN | apply IsS55.drew | apply IsS55.set_0 | apply IsS55.set_1 | apply IsS55.set_2) | exact HI0.out)); (case side2 => repeat (first | (with_reducible first | exact HB.out | apply below_alloc | apply pw_below_drewN | apply below_drew1 | refine below_set ?_ (IsS55.ge HI0.out)) | exact HB.out)); rintro e w22 ⟨rfl, hi, hb, hk⟩; have n0_ := Aside0.mk (KeepBut.trans z0_ hk (.inl rfl)); have n1_ := Aside0.mk (hb); have n2_ := Aside0.mk (hi); clear HK; clear HB; clear HI0; have HK := n0_; have HB := n1_; have HI0 := n2_; clear n0_ n1_ n2_; (try clear hb); (try clear hb2); (try clear hk); (try clear hi); obtain ⟨HGz23, hgz23⟩ := HI0.out; have hcz23_0 := cellS55_0 HGz23; have hcz23_1 := cellS55_1 HGz23; have hcz23_2 := cellS55_2 HGz23; have hfz23_0 := blk_frozen HGz23 0; have hfz23_1 := blk_frozen HGz23 1; have hfz23_2 := blk_frozen HGz23 2; clear HGz23 hgz23; have p21 : 0 ≤ (t388 : Int) := of_decide_eq_true z12_; have q21 : t388 < (t387.size : Int) := of_decide_eq_true z12_; have hx21 := bt_at t387 t388; replace p21 := eq_true p21; replace q21 := eq_true q21)); try go_wp2_with (first | (go_at_call 49; (with_reducible refine (tithebarnref01_Cursor_Left.calls g t382 t383 t384 t386 t387 t388 t389 w0 _ ?side1 ?side2 A16.out).mono ?_); (case side1 => repeat (first | (with_reducible first | exact HI0.out | apply IsS55.alloc | apply IsS55.drewN | apply IsS55.drew | apply IsS55.set_0 | apply IsS55.set_1 | apply IsS55.set_2) | exact HI0.out)); (case side2 => repeat (first | (with_reducible first | exact HB.out | apply below_alloc | apply pw_below_drewN | apply below_drew1 | refine below_set ?_ (IsS55.ge HI0.out)) | exact HB.out)); rintro e w22 ⟨rfl, hi, hb, hk⟩; have n0_ := Aside0.mk (KeepBut.trans z0_ hk (.inl rfl)); have n1_ := Aside0.mk (hb); have n2_ := Aside0.mk (hi); clear HK; clear HB; clear HI0; have HK := n0_; have HB := n1_; have HI0 := n2_; clear n0_ n1_ n2_; (try clear hb); (try clear hb2); (try clear hk); (try clear hi); obtain ⟨HGz23, hgz23⟩ := HI0.out; have hcz23_0 := cellS55_0 HGz23; have hcz23_1 := cellS55_1 HGz23; have hcz23_2 := cellS55_2 HGz23; have hfz23_0 := blk_frozen HGz23 0; have hfz23_1 := blk_frozen HGz23 1; have hfz23_2 := blk_frozen HGz23 2; clear HGz23 hgz23; have p21 : 0 ≤ (t388 : Int) := of_decide_eq_true z12_; have q21 : t388 < (t387.size : Int) := of_decide_eq_true z12_; have hx21 := bt_at t387 t388; replace p21 := eq_true p21; replace q21 := eq_true q21)))
          go_loopg [6, 7] kj8 (fun kq v6 v7 w' => ∃ (x6_2 : Int) (x7_2 : Int), v6 = .int .u64 x6_2 ∧ v7 = .int .i64 x7_2 ∧ Aside0 (tithebarnref01_Cursor_peek.l0 kq t385 x6_2 x7_2 t387 t388 t389 = some (r1, r2, r3, r4, r5, r6)) ∧ Aside0 (kq ≤ kj8) ∧ Aside0 (IsS55 w0 w' g t387 t388 t389) ∧ Aside0 (KeepBut w w' g none) ∧ Aside0 (Below w0.heap.size w0 w'))
          case atStart => exact ⟨(IntKind.u64.wrap (Int.tmod (bt t387 t388) 64)), (1), z11_, z11_, H', ⟨Nat.le_refl _⟩, ⟨z2_⟩, ⟨z0_⟩, ⟨z3_⟩⟩
          case round =>
           clear H'
           try clear c1
           try clear p1
           try clear q1
           try clear hx1
           try clear c2
           try clear p2
           try clear q2
           try clear hx2
           try clear c3
           try clear c3b0
           try clear c5
           try clear c5b0
           try clear c6
           try clear c6b0
           try clear p7
           try clear q7
           try clear hx7
           try clear c12
           try clear c12b0
           try clear c12b1
           try clear p13
           try clear q13
           try clear hx13
           try clear c15
           try clear c17
           try clear c17b0
           try clear c19
           try clear c19b0
           try clear c20
           try clear c20b0
           try clear p21
           try clear q21
           try clear hx21
           try clear hcz11_0
           try clear hcz11_1
           try clear hcz11_2
           try clear hcz14_0
           try clear hcz14_1
           try clear hcz14_2
           try clear hcz23_0
           try clear hcz23_1
           try clear hcz23_2
           try clear hfz11_0
           try clear hfz11_1
           try clear hfz11_2
           try clear hfz14_0
           try clear hfz14_1
           try clear hfz14_2
           try clear hfz23_0
           try clear hfz23_1
           try clear hfz23_2
           try clear p1
           try clear p13
           try clear p2
           try clear p21
           try clear p7
           try clear q1
           try clear q13
           try clear q21
           try clear q7
           obtain ⟨x6_2, x7_2, rfl, rfl, HA, HK2, HI0, HK, HB⟩ := hrel
           cases gk with
           | zero => exact absurd HA.out (by simp [tithebarnref01_Cursor_peek.l0])
           | succ k2 =>
            have H := HA.out
            clear HA
            simp only [tithebarnref01_Cursor_peek.l0] at H
            by_cases c24 : x7_2 < t385
            ·rw [if_pos c24] at H
             have c24b0 : decide (x7_2 < t385) = true := decide_eq_true c24
             clear c24
             obtain ⟨ji25, hji25⟩ : ∃ j_ : Int, (wrap64 (t388 + x7_2)) = j_ := ⟨_, rfl⟩
             replace H : (if 0 ≤ (ji25) then (if (ji25) < (t387.size : Int) then (tithebarnref01_Cursor_peek.l0 k2 t385 (IntKind.u64.wrap ((IntKind.u64.wrap (256 * x6_2)) + (IntKind.u64.wrap (bt t387 (ji25))))) (wrap64 (x7_2 + 1)) t387 t388 t389) else (none)) else (none)) = some (r1, r2, r3, r4, r5, r6) := by first | (rw [hji25] at H; exact H) | (simp only [hji25] at H ⊢; exact H)
             have hji25w : (IntKind.i64.wrap (t388 + x7_2)) = ji25 := (i64_w _).trans hji25
             by_cases c26 : 0 ≤ (ji25)
             ·rw [if_pos c26] at H
              have c26b0 : decide (0 ≤ (ji25)) = true := decide_eq_true c26
              clear c26
              by_cases c27 : (ji25) < (t387.size : Int)
              ·rw [if_pos c27] at H
               have c27b0 : decide ((ji25) < (t387.size : Int)) = true := decide_eq_true c27
               clear c27
               have H' := Aside0.mk H
               clear H
               obtain ⟨HGz29, hgz29⟩ := HI0.out
               have hcz29_0 := cellS55_0 HGz29
               have hcz29_1 := cellS55_1 HGz29
               have hcz29_2 := cellS55_2 HGz29
               have hfz29_0 := blk_frozen HGz29 0
               have hfz29_1 := blk_frozen HGz29 1
               have hfz29_2 := blk_frozen HGz29 2
               clear HGz29 hgz29
               have p28 : 0 ≤ ((ji25) : Int) := of_decide_eq_true z12_
               have q28 : (ji25) < (t387.size : Int) := of_decide_eq_true z12_
               have hx28 := bt_at t387 (ji25)
               replace p28 := eq_true p28
               replace q28 := eq_true q28
               go_wp2
               repeat (go_quiet (fail); try go_wp2)
               go_roundg k2
               case measure => have := HJ8.out; have := HK2.out; omega
               case rel => exact ⟨(IntKind.u64.wrap ((IntKind.u64.wrap (256 * x6_2)) + (IntKind.u64.wrap (bt t387 (ji25))))), (wrap64 (x7_2 + 1)), (by first | rfl | (simp; done) | (simp only [← hji25] <;> (first | rfl | simp)) | (simp [*]; done)), z11_, H', ⟨by have := HJ8.out; have := HK2.out; omega⟩, ⟨z2_⟩, ⟨z0_⟩, ⟨z3_⟩⟩
              ·rw [if_neg c27] at H
               exact absurd H (by simp)
             ·rw [if_neg c26] at H
              exact absurd H (by simp)
            ·rw [if_neg c24] at H
             have c24b0 : decide (x7_2 < t385) = false := decide_eq_false c24
             clear c24
             replace H := Option.bind_eq_some_iff.mp H
             obtain ⟨t390, A300, H⟩ := H
             replace H : (if (t390.size : Int) = t385 then (some (x6_2, t385, 0, t387, t388, t389)) else (some (0, 0, 5, t387, t388, t389))) = some (r1, r2, r3, r4, r5, r6) := H
             have A30 := Aside0.mk A300
             clear A300
             by_cases c31 : (t390.size : Int) = t385
             ·rw [if_pos c31] at H
              have c31b0 : ((t390.size : Int) == t385) = true := beq_iff_eq.mpr c31
              have c31b1 : ((t390.size : Int) != t385) = false := bne_eq_false_iff_eq.mpr c31
              clear c31
              simp only [Option.some.injEq, Prod.mk.injEq] at H
              obtain ⟨rfl, rfl, rfl, rfl, rfl, rfl⟩ := H
              go_wp2_with (first | (go_at_call 19; (with_reducible refine (tithebarnref01_Uint.calls k2 x6_2 t390 _ A30.out).mono ?_); rintro e w32 ⟨rfl, hb⟩; have n0_ := Aside0.mk (IsS55.below z2_ hb); have n1_ := Aside0.mk (KeepBut.trans z0_ (KeepBut.of_below hb g none) (.inl rfl)); have n2_ := Aside0.mk (below_step z3_ hb); clear HI0; clear HK; clear HB; have HI0 := n0_; have HK := n1_; have HB := n2_; clear n0_ n1_ n2_; (try clear hb); (try clear hb2); (try clear hk); (try clear hi)))
              repeat (go_quiet (first | (go_at_call 19; (with_reducible refine (tithebarnref01_Uint.calls k2 x6_2 t390 _ A30.out).mono ?_); rintro e w32 ⟨rfl, hb⟩; have n0_ := Aside0.mk (IsS55.below z2_ hb); have n1_ := Aside0.mk (KeepBut.trans z0_ (KeepBut.of_below hb g none) (.inl rfl)); have n2_ := Aside0.mk (below_step z3_ hb); clear HI0; clear HK; clear HB; have HI0 := n0_; have HK := n1_; have HB := n2_; clear n0_ n1_ n2_; (try clear hb); (try clear hb2); (try clear hk); (try clear hi))); try go_wp2_with (first | (go_at_call 19; (with_reducible refine (tithebarnref01_Uint.calls k2 x6_2 t390 _ A30.out).mono ?_); rintro e w32 ⟨rfl, hb⟩; have n0_ := Aside0.mk (IsS55.below z2_ hb); have n1_ := Aside0.mk (KeepBut.trans z0_ (KeepBut.of_below hb g none) (.inl rfl)); have n2_ := Aside0.mk (below_step z3_ hb); clear HI0; clear HK; clear HB; have HI0 := n0_; have HK := n1_; have HB := n2_; clear n0_ n1_ n2_; (try clear hb); (try clear hb2); (try clear hk); (try clear hi))))
              go_ret3
              exact ⟨z6_, z2_, z3_, z0_⟩
             ·rw [if_neg c31] at H
              have c31b0 : ((t390.size : Int) == t385) = false := beq_eq_false_iff_ne.mpr c31
              have c31b1 : ((t390.size : Int) != t385) = true := bne_iff_ne.mpr c31
              simp only [Option.some.injEq, Prod.mk.injEq] at H
              obtain ⟨rfl, rfl, rfl, rfl, rfl, rfl⟩ := H
              go_wp2_with (first | (go_at_call 19; (with_reducible refine (tithebarnref01_Uint.calls k2 x6_2 t390 _ A30.out).mono ?_); rintro e w33 ⟨rfl, hb⟩; have n0_ := Aside0.mk (IsS55.below z2_ hb); have n1_ := Aside0.mk (KeepBut.trans z0_ (KeepBut.of_below hb g none) (.inl rfl)); have n2_ := Aside0.mk (below_step z3_ hb); clear HI0; clear HK; clear HB; have HI0 := n0_; have HK := n1_; have HB := n2_; clear n0_ n1_ n2_; (try clear hb); (try clear hb2); (try clear hk); (try clear hi)))
              repeat (go_quiet (first | (go_at_call 19; (with_reducible refine (tithebarnref01_Uint.calls k2 x6_2 t390 _ A30.out).mono ?_); rintro e w33 ⟨rfl, hb⟩; have n0_ := Aside0.mk (IsS55.below z2_ hb); have n1_ := Aside0.mk (KeepBut.trans z0_ (KeepBut.of_below hb g none) (.inl rfl)); have n2_ := Aside0.mk (below_step z3_ hb); clear HI0; clear HK; clear HB; have HI0 := n0_; have HK := n1_; have HB := n2_; clear n0_ n1_ n2_; (try clear hb); (try clear hb2); (try clear hk); (try clear hi))); try go_wp2_with (first | (go_at_call 19; (with_reducible refine (tithebarnref01_Uint.calls k2 x6_2 t390 _ A30.out).mono ?_); rintro e w33 ⟨rfl, hb⟩; have n0_ := Aside0.mk (IsS55.below z2_ hb); have n1_ := Aside0.mk (KeepBut.trans z0_ (KeepBut.of_below hb g none) (.inl rfl)); have n2_ := Aside0.mk (below_step z3_ hb); clear HI0; clear HK; clear HB; have HI0 := n0_; have HK := n1_; have HB := n2_; clear n0_ n1_ n2_; (try clear hb); (try clear hb2); (try clear hk); (try clear hi))))
              go_ret3
              exact ⟨z6_, z2_, z3_, z0_⟩
         ·rw [if_neg c20] at H
          exact absurd H (by simp)
        ·rw [if_neg c19] at H
         exact absurd H (by simp)
   ·rw [if_neg c6] at H
    exact absurd H (by simp)
  ·rw [if_neg c5] at H
   exact absurd H (by simp)
def tithebarnref01_Cursor_Uint.f (k : Nat) (s0_0 : ByteArray) (s0_1 : Int) (s0_2 : Int) : Option (Int × ByteArray × Int × Int) := if s0_2 = 0 then ((tithebarnref01_Cursor_peek.f k s0_0 s0_1 s0_2).bind fun bt391 => (if bt391.2.2.1 = 0 then (some (bt391.1, bt391.2.2.2.1, wrap64 (bt391.2.2.2.2.1 + bt391.2.1), bt391.2.2.2.2.2)) else ((tithebarnref01_Cursor_fail.f bt391.2.2.2.1 bt391.2.2.2.2.1 bt391.2.2.2.2.2 bt391.2.2.1).bind fun bt397 => (some (0, bt397.1, bt397.2.1, bt397.2.2))))) else (some (0, s0_0, s0_1, s0_2))
theorem tithebarnref01_Cursor_Uint.mono : ∀ a0 a1 a2 k, LeO (tithebarnref01_Cursor_Uint.f k a0 a1 a2) (tithebarnref01_Cursor_Uint.f (k + 1) a0 a1 a2) := by
 intro a0 a1 a2 k
 unfold tithebarnref01_Cursor_Uint.f
 repeat' first
   | (with_reducible exact tithebarnref01_Cursor_peek.mono _ _ _ _)
   | (with_reducible exact LeO.refl _)
   | (with_reducible exact LeO.none _)
   | (with_reducible refine LeO.ite ?_ ?_)
   | (with_reducible refine LeO.bind ?_ (fun _ => ?_))
   | exact tithebarnref01_Cursor_peek.mono _ _ _ _
   | exact LeO.none _
   | refine LeO.ite ?_ ?_
   | refine LeO.bind ?_ (fun _ => ?_)
set_option maxHeartbeats 8000000 in
set_option maxRecDepth 100000 in
theorem tithebarnref01_Cursor_Uint.calls (k : Nat) (g : Nat) (s0_0 : ByteArray) (s0_1 : Int) (s0_2 : Int) (r1 : Int) (r2 : ByteArray) (r3 : Int) (r4 : Int) (w0 w : World) (hI : IsS55 w0 w g s0_0 s0_1 s0_2) (hB : Below w0.heap.size w0 w) (h : tithebarnref01_Cursor_Uint.f k s0_0 s0_1 s0_2 = some (r1, r2, r3, r4)) :
  Calls Try.prog 29 #[.pointer (some ⟨g, 0, none⟩)] w fun e w' => e = .returned (.int .u64 r1) ∧ IsS55 w0 w' g r2 r3 r4 ∧ Below w0.heap.size w0 w' ∧ KeepBut w w' g none := by
 have HI0 := Aside0.mk hI
 have HK := Aside0.mk (KeepBut.refl w g none)
 have HL := Aside0.mk hB.size
 clear hI
 have HW0 := Aside0.mk hB.size
 have HB := Aside0.mk hB
 clear hB
 have H : (if s0_2 = 0 then ((tithebarnref01_Cursor_peek.f k s0_0 s0_1 s0_2).bind fun bt391 => (if bt391.2.2.1 = 0 then (some (bt391.1, bt391.2.2.2.1, wrap64 (bt391.2.2.2.2.1 + bt391.2.1), bt391.2.2.2.2.2)) else ((tithebarnref01_Cursor_fail.f bt391.2.2.2.1 bt391.2.2.2.2.1 bt391.2.2.2.2.2 bt391.2.2.1).bind fun bt397 => (some (0, bt397.1, bt397.2.1, bt397.2.2))))) else (some (0, s0_0, s0_1, s0_2))) = some (r1, r2, r3, r4) := h
 clear h
 by_cases c2 : s0_2 = 0
 ·rw [if_pos c2] at H
  have c2b0 : (s0_2 == 0) = true := beq_iff_eq.mpr c2
  have c2b1 : (s0_2 != 0) = false := bne_eq_false_iff_eq.mpr c2
  clear c2
  replace H := Option.bind_eq_some_iff.mp H
  obtain ⟨⟨t391, t392, t393, t394, t395, t396⟩, A30, H⟩ := H
  replace H : (if t393 = 0 then (some (t391, t394, wrap64 (t395 + t392), t396)) else ((tithebarnref01_Cursor_fail.f t394 t395 t396 t393).bind fun bt397 => (some (0, bt397.1, bt397.2.1, bt397.2.2)))) = some (r1, r2, r3, r4) := H
  have A3 := Aside0.mk A30
  clear A30
  by_cases c4 : t393 = 0
  ·rw [if_pos c4] at H
   have c4b0 : (t393 == 0) = true := beq_iff_eq.mpr c4
   have c4b1 : (t393 != 0) = false := bne_eq_false_iff_eq.mpr c4
   clear c4
   simp only [Option.some.injEq, Prod.mk.injEq] at H
   obtain ⟨rfl, rfl, rfl, rfl⟩ := H
   obtain ⟨HGz5, hgz5⟩ := HI0.out
   have hcz5_0 := cellS55_0 HGz5
   have hcz5_1 := cellS55_1 HGz5
   have hcz5_2 := cellS55_2 HGz5
   have hfz5_0 := blk_frozen HGz5 0
   have hfz5_1 := blk_frozen HGz5 1
   have hfz5_2 := blk_frozen HGz5 2
   clear HGz5 hgz5
   go_enter Try.func29, Try.ntmps29
   go_wp2_with (first | ((with_reducible refine gate_callee (f := 51) rfl ?_); refine goesL_ (some 13) rfl rfl Try.func51 (by kernel_rfl) rfl #[.pointer (some ⟨g, 0, none⟩)] rfl (by (try simp only [List.map_toArray, List.map_cons, List.map_nil]); first | done | rfl | (simp only [List.length_drop, List.length_take]; rfl) | (go_simp; simp [IntKind.wrap, IntKind.bits, IntKind.signed]; omega)) ?_; (with_reducible refine (tithebarnref01_Cursor_peek.calls k g s0_0 s0_1 s0_2 t391 t392 t393 t394 t395 t396 w0 _ ?side1 ?side2 A3.out).mono ?_); (case side1 => repeat (first | (with_reducible first | exact HI0.out | apply IsS55.alloc | apply IsS55.drewN | apply IsS55.drew | apply IsS55.set_0 | apply IsS55.set_1 | apply IsS55.set_2) | exact HI0.out)); (case side2 => repeat (first | (with_reducible first | exact HB.out | apply below_alloc | apply pw_below_drewN | apply below_drew1 | refine below_set ?_ (IsS55.ge HI0.out)) | exact HB.out)); rintro e w6 ⟨rfl, hi, hb, hk⟩; refine ⟨_, rfl, ?_⟩; have n0_ := Aside0.mk (KeepBut.trans z0_ hk (.inl rfl)); have n1_ := Aside0.mk (hb); have n2_ := Aside0.mk (hi); clear HK; clear HB; clear HI0; have HK := n0_; have HB := n1_; have HI0 := n2_; clear n0_ n1_ n2_; (try clear hb); (try clear hb2); (try clear hk); (try clear hi); obtain ⟨HGz7, hgz7⟩ := HI0.out; have hcz7_0 := cellS55_0 HGz7; have hcz7_1 := cellS55_1 HGz7; have hcz7_2 := cellS55_2 HGz7; have hfz7_0 := blk_frozen HGz7 0; have hfz7_1 := blk_frozen HGz7 1; have hfz7_2 := blk_frozen HGz7 2; clear HGz7 hgz7))
   go_ret
   exact ⟨z6_, z2_, z3_, z0_⟩
  ·rw [if_neg c4] at H
   have c4b0 : (t393 == 0) = false := beq_eq_false_iff_ne.mpr c4
   have c4b1 : (t393 != 0) = true := bne_iff_ne.mpr c4
   replace H := Option.bind_eq_some_iff.mp H
   obtain ⟨⟨t397, t398, t399⟩, A80, H⟩ := H
   replace H : (some (0, t397, t398, t399)) = some (r1, r2, r3, r4) := H
   have A8 := Aside0.mk A80
   clear A80
   simp only [Option.some.injEq, Prod.mk.injEq] at H
   obtain ⟨rfl, rfl, rfl, rfl⟩ := H
   obtain ⟨HGz9, hgz9⟩ := HI0.out
   have hcz9_0 := cellS55_0 HGz9
   have hcz9_1 := cellS55_1 HGz9
   have hcz9_2 := cellS55_2 HGz9
   have hfz9_0 := blk_frozen HGz9 0
   have hfz9_1 := blk_frozen HGz9 1
   have hfz9_2 := blk_frozen HGz9 2
   clear HGz9 hgz9
   go_enter Try.func29, Try.ntmps29
   go_wp2_with (first | ((with_reducible refine gate_callee (f := 51) rfl ?_); refine goesL_ (some 13) rfl rfl Try.func51 (by kernel_rfl) rfl #[.pointer (some ⟨g, 0, none⟩)] rfl (by (try simp only [List.map_toArray, List.map_cons, List.map_nil]); first | done | rfl | (simp only [List.length_drop, List.length_take]; rfl) | (go_simp; simp [IntKind.wrap, IntKind.bits, IntKind.signed]; omega)) ?_; (with_reducible refine (tithebarnref01_Cursor_peek.calls k g s0_0 s0_1 s0_2 t391 t392 t393 t394 t395 t396 w0 _ ?side1 ?side2 A3.out).mono ?_); (case side1 => repeat (first | (with_reducible first | exact HI0.out | apply IsS55.alloc | apply IsS55.drewN | apply IsS55.drew | apply IsS55.set_0 | apply IsS55.set_1 | apply IsS55.set_2) | exact HI0.out)); (case side2 => repeat (first | (with_reducible first | exact HB.out | apply below_alloc | apply pw_below_drewN | apply below_drew1 | refine below_set ?_ (IsS55.ge HI0.out)) | exact HB.out)); rintro e w10 ⟨rfl, hi, hb, hk⟩; refine ⟨_, rfl, ?_⟩; have n0_ := Aside0.mk (KeepBut.trans z0_ hk (.inl rfl)); have n1_ := Aside0.mk (hb); have n2_ := Aside0.mk (hi); clear HK; clear HB; clear HI0; have HK := n0_; have HB := n1_; have HI0 := n2_; clear n0_ n1_ n2_; (try clear hb); (try clear hb2); (try clear hk); (try clear hi)) | ((with_reducible refine gate_callee (f := 50) rfl ?_); refine goesL_ (some 21) rfl rfl Try.func50 (by kernel_rfl) rfl #[.pointer (some ⟨g, 0, none⟩), .int .i64 t393] rfl (by (try simp only [List.map_toArray, List.map_cons, List.map_nil]); first | done | rfl | (simp only [List.length_drop, List.length_take]; rfl) | (go_simp; simp [IntKind.wrap, IntKind.bits, IntKind.signed]; omega)) ?_; (with_reducible refine (tithebarnref01_Cursor_fail.calls g t394 t395 t396 t393 t397 t398 t399 w0 _ ?side1 ?side2 A8.out).mono ?_); (case side1 => repeat (first | (with_reducible first | exact HI0.out | apply IsS55.alloc | apply IsS55.drewN | apply IsS55.drew | apply IsS55.set_0 | apply IsS55.set_1 | apply IsS55.set_2) | exact HI0.out)); (case side2 => repeat (first | (with_reducible first | exact HB.out | apply below_alloc | apply pw_below_drewN | apply below_drew1 | refine below_set ?_ (IsS55.ge HI0.out)) | exact HB.out)); rintro e w11 ⟨rfl, hi, hb, hk⟩; refine ⟨_, rfl, ?_⟩; have n0_ := Aside0.mk (KeepBut.trans z0_ hk (.inl rfl)); have n1_ := Aside0.mk (hb); have n2_ := Aside0.mk (hi); clear HK; clear HB; clear HI0; have HK := n0_; have HB := n1_; have HI0 := n2_; clear n0_ n1_ n2_; (try clear hb); (try clear hb2); (try clear hk); (try clear hi)))
   go_ret
   exact ⟨z6_, z2_, z3_, z0_⟩
 ·rw [if_neg c2] at H
  have c2b0 : (s0_2 == 0) = false := beq_eq_false_iff_ne.mpr c2
  have c2b1 : (s0_2 != 0) = true := bne_iff_ne.mpr c2
  simp only [Option.some.injEq, Prod.mk.injEq] at H
  obtain ⟨rfl, rfl, rfl, rfl⟩ := H
  obtain ⟨HGz12, hgz12⟩ := HI0.out
  have hcz12_0 := cellS55_0 HGz12
  have hcz12_1 := cellS55_1 HGz12
  have hcz12_2 := cellS55_2 HGz12
  have hfz12_0 := blk_frozen HGz12 0
  have hfz12_1 := blk_frozen HGz12 1
  have hfz12_2 := blk_frozen HGz12 2
  clear HGz12 hgz12
  go_enter Try.func29, Try.ntmps29
  go_wp2
  go_ret
  exact ⟨z6_, z2_, z3_, z0_⟩
def tithebarnref01_Open.f (a0 : Int) : Option (Int) := if (Int.tmod a0 2) = 1 then (some (wrap64 ((wrap64 (-(wrap64 (IntKind.u64.wrap (Int.tdiv a0 2))))) - 1))) else (some (wrap64 (IntKind.u64.wrap (Int.tdiv a0 2))))
set_option maxHeartbeats 8000000 in
set_option maxRecDepth 100000 in
theorem tithebarnref01_Open.calls (a0 : Int) (r : Int) (w : World) (h : tithebarnref01_Open.f a0 = some r) :
  Calls Try.prog 54 #[.int .u64 a0] w fun e w' => e = .returned (.int .i64 r) ∧ Drawn0 w w' := by
 have H : (if (Int.tmod a0 2) = 1 then (some (wrap64 ((wrap64 (-(wrap64 (IntKind.u64.wrap (Int.tdiv a0 2))))) - 1))) else (some (wrap64 (IntKind.u64.wrap (Int.tdiv a0 2))))) = some r := h
 clear h
 by_cases c2 : (Int.tmod a0 2) = 1
 ·rw [if_pos c2] at H
  have c2b0 : ((Int.tmod a0 2) == 1) = true := beq_iff_eq.mpr c2
  have c2b1 : ((Int.tmod a0 2) != 1) = false := bne_eq_false_iff_eq.mpr c2
  clear c2
  obtain rfl := Option.some.inj H
  go_enter Try.func54, Try.ntmps54
  go_wp2
  go_ret
  exact ⟨z11_, z13_⟩
 ·rw [if_neg c2] at H
  have c2b0 : ((Int.tmod a0 2) == 1) = false := beq_eq_false_iff_ne.mpr c2
  have c2b1 : ((Int.tmod a0 2) != 1) = true := bne_iff_ne.mpr c2
  obtain rfl := Option.some.inj H
  go_enter Try.func54, Try.ntmps54
  go_wp2
  go_ret
  exact ⟨z11_, z13_⟩
def tithebarnref01_Cursor_Int.f (k : Nat) (s0_0 : ByteArray) (s0_1 : Int) (s0_2 : Int) : Option (Int × ByteArray × Int × Int) := (tithebarnref01_Cursor_Uint.f k s0_0 s0_1 s0_2).bind fun bt400 => ((tithebarnref01_Open.f bt400.1).bind fun t404 => (some (t404, bt400.2.1, bt400.2.2.1, bt400.2.2.2)))
theorem tithebarnref01_Cursor_Int.mono : ∀ a0 a1 a2 k, LeO (tithebarnref01_Cursor_Int.f k a0 a1 a2) (tithebarnref01_Cursor_Int.f (k + 1) a0 a1 a2) := by
 intro a0 a1 a2 k
 unfold tithebarnref01_Cursor_Int.f
 repeat' first
   | (with_reducible exact tithebarnref01_Cursor_Uint.mono _ _ _ _)
   | (with_reducible exact LeO.refl _)
   | (with_reducible exact LeO.none _)
   | (with_reducible refine LeO.ite ?_ ?_)
   | (with_reducible refine LeO.bind ?_ (fun _ => ?_))
   | exact tithebarnref01_Cursor_Uint.mono _ _ _ _
   | exact LeO.none _
   | refine LeO.ite ?_ ?_
   | refine LeO.bind ?_ (fun _ => ?_)
set_option maxHeartbeats 8000000 in
set_option maxRecDepth 100000 in
theorem tithebarnref01_Cursor_Int.calls (k : Nat) (g : Nat) (s0_0 : ByteArray) (s0_1 : Int) (s0_2 : Int) (r1 : Int) (r2 : ByteArray) (r3 : Int) (r4 : Int) (w0 w : World) (hI : IsS55 w0 w g s0_0 s0_1 s0_2) (hB : Below w0.heap.size w0 w) (h : tithebarnref01_Cursor_Int.f k s0_0 s0_1 s0_2 = some (r1, r2, r3, r4)) :
  Calls Try.prog 32 #[.pointer (some ⟨g, 0, none⟩)] w fun e w' => e = .returned (.int .i64 r1) ∧ IsS55 w0 w' g r2 r3 r4 ∧ Below w0.heap.size w0 w' ∧ KeepBut w w' g none := by
 have HI0 := Aside0.mk hI
 have HK := Aside0.mk (KeepBut.refl w g none)
 have HL := Aside0.mk hB.size
 clear hI
 have HW0 := Aside0.mk hB.size
 have HB := Aside0.mk hB
 clear hB
 have H : ((tithebarnref01_Cursor_Uint.f k s0_0 s0_1 s0_2).bind fun bt400 => ((tithebarnref01_Open.f bt400.1).bind fun t404 => (some (t404, bt400.2.1, bt400.2.2.1, bt400.2.2.2)))) = some (r1, r2, r3, r4) := h
 clear h
 replace H := Option.bind_eq_some_iff.mp H
 obtain ⟨⟨t400, t401, t402, t403⟩, A20, H⟩ := H
 replace H : ((tithebarnref01_Open.f t400).bind fun t404 => (some (t404, t401, t402, t403))) = some (r1, r2, r3, r4) := H
 have A2 := Aside0.mk A20
 clear A20
 replace H := Option.bind_eq_some_iff.mp H
 obtain ⟨t404, A30, H⟩ := H
 replace H : (some (t404, t401, t402, t403)) = some (r1, r2, r3, r4) := H
 have A3 := Aside0.mk A30
 clear A30
 simp only [Option.some.injEq, Prod.mk.injEq] at H
 obtain ⟨rfl, rfl, rfl, rfl⟩ := H
 go_enter Try.func32, Try.ntmps32
 go_wp2_with (first | ((with_reducible refine gate_callee (f := 29) rfl ?_); refine goesL_ (some 5) rfl rfl Try.func29 (by kernel_rfl) rfl #[.pointer (some ⟨g, 0, none⟩)] rfl (by (try simp only [List.map_toArray, List.map_cons, List.map_nil]); first | done | rfl | (simp only [List.length_drop, List.length_take]; rfl) | (go_simp; simp [IntKind.wrap, IntKind.bits, IntKind.signed]; omega)) ?_; (with_reducible refine (tithebarnref01_Cursor_Uint.calls k g s0_0 s0_1 s0_2 t400 t401 t402 t403 w0 _ ?side1 ?side2 A2.out).mono ?_); (case side1 => repeat (first | (with_reducible first | exact HI0.out | apply IsS55.alloc | apply IsS55.drewN | apply IsS55.drew | apply IsS55.set_0 | apply IsS55.set_1 | apply IsS55.set_2) | exact HI0.out)); (case side2 => repeat (first | (with_reducible first | exact HB.out | apply below_alloc | apply pw_below_drewN | apply below_drew1 | refine below_set ?_ (IsS55.ge HI0.out)) | exact HB.out)); rintro e w4 ⟨rfl, hi, hb, hk⟩; refine ⟨_, rfl, ?_⟩; have n0_ := Aside0.mk (KeepBut.trans z0_ hk (.inl rfl)); have n1_ := Aside0.mk (hb); have n2_ := Aside0.mk (hi); clear HK; clear HB; clear HI0; have HK := n0_; have HB := n1_; have HI0 := n2_; clear n0_ n1_ n2_; (try clear hb); (try clear hb2); (try clear hk); (try clear hi)) | ((with_reducible refine gate_callee (f := 54) rfl ?_); refine goesL_ (some 7) rfl rfl Try.func54 (by kernel_rfl) rfl #[.int .u64 t400] rfl (by (try simp only [List.map_toArray, List.map_cons, List.map_nil]); first | done | rfl | (simp only [List.length_drop, List.length_take]; rfl) | (go_simp; simp [IntKind.wrap, IntKind.bits, IntKind.signed]; omega)) ?_; (with_reducible refine (tithebarnref01_Open.calls t400 t404 _ A3.out).mono ?_); rintro e w' ⟨rfl, ⟨nd, rfl⟩⟩; refine ⟨_, rfl, ?_⟩))
 go_ret
 exact ⟨z6_, z2_, z3_, z0_⟩
end Go.Proofs.Ytgeddoklmcjdcaa.G
namespace Go.Proofs.Ytgeddoklmcjdcaa.G
open Go.RowKit Go.Proofs.YtgeddoklmcjdcaaQ Go.Proofs.YtgeddoklmcjdcaaW.PrintWords Go.Proofs.YtgeddoklmcjdcaaW.PrintLast Go.Proofs.YtgeddoklmcjdcaaW.PrintMore
attribute [local go_sem] max2_int min2_int max_two min_two max_three min_three max_four min_four   -- for this text's walks alone
set_option linter.unusedVariables false
set_option linter.unusedSimpArgs false
mutual
def tithebarnref04_readRuns.l0 : Nat → Int → List Int → ByteArray → Int → Int → Option (List Int × Int × ByteArray × Int × Int)
 | 0, _, _, _, _, _ => none
 | k + 1, x1, x6, x1000, x1001, x1002 => if (x6.length : Int) < x1 then ((tithebarnref01_Cursor_Uint.f k x1000 x1001 x1002).bind fun bt405 => (if bt405.2.2.2 = 0 then (if bt405.1 = 0 then (tithebarnref04_readRuns.j1 k x1 x6 bt405.1 true bt405.2.1 bt405.2.2.1 bt405.2.2.2) else (tithebarnref04_readRuns.j1 k x1 x6 bt405.1 (decide (bt405.1 > (IntKind.u64.wrap (wrap64 (x1 - (x6.length : Int)))))) bt405.2.1 bt405.2.2.1 bt405.2.2.2)) else (tithebarnref04_readRuns.j1 k x1 x6 bt405.1 false bt405.2.1 bt405.2.2.1 bt405.2.2.2))) else (some (x6, 0, x1000, x1001, x1002))
def tithebarnref04_readRuns.j1 : Nat → Int → List Int → Int → Bool → ByteArray → Int → Int → Option (List Int × Int × ByteArray × Int × Int)
 | 0, _, _, _, _, _, _, _ => none
 | k + 1, x1, x6, x7, x33, x1000, x1001, x1002 => if x33 = true then (some (([] : List Int), 4, x1000, x1001, x1002)) else ((tithebarnref01_Cursor_Int.f k x1000 x1001 x1002).bind fun bt409 => (if bt409.2.2.2 = 0 then (if (x6.length : Int) > 0 then (if 0 ≤ (wrap64 ((x6.length : Int) - 1)) then (if (wrap64 ((x6.length : Int) - 1)) < (x6.length : Int) then (tithebarnref04_readRuns.j2 k x1 x6 x7 bt409.1 ((rd x6 (wrap64 ((x6.length : Int) - 1))) == bt409.1) bt409.2.1 bt409.2.2.1 bt409.2.2.2) else (none)) else (none)) else (tithebarnref04_readRuns.j2 k x1 x6 x7 bt409.1 false bt409.2.1 bt409.2.2.1 bt409.2.2.2)) else (some (([] : List Int), bt409.2.2.2, bt409.2.1, bt409.2.2.1, bt409.2.2.2))))
def tithebarnref04_readRuns.j2 : Nat → Int → List Int → Int → Int → Bool → ByteArray → Int → Int → Option (List Int × Int × ByteArray × Int × Int)
 | 0, _, _, _, _, _, _, _, _ => none
 | k + 1, x1, x6, x7, x8, x57, x1000, x1001, x1002 => if x57 = true then (some (([] : List Int), 4, x1000, x1001, x1002)) else (tithebarnref04_readRuns.l1 k x1 x6 x7 x8 0 x1000 x1001 x1002)
def tithebarnref04_readRuns.l1 : Nat → Int → List Int → Int → Int → Int → ByteArray → Int → Int → Option (List Int × Int × ByteArray × Int × Int)
 | 0, _, _, _, _, _, _, _, _ => none
 | k + 1, x1, x6, x7, x8, x9, x1000, x1001, x1002 => if x9 < x7 then (if x6.length < 17592186044416 then (tithebarnref04_readRuns.l1 k x1 (x6 ++ [x8]) x7 x8 (IntKind.u64.wrap (x9 + 1)) x1000 x1001 x1002) else (none)) else (tithebarnref04_readRuns.l0 k x1 x6 x1000 x1001 x1002)
end
def tithebarnref04_readRuns.f (k : Nat) (s0_0 : ByteArray) (s0_1 : Int) (s0_2 : Int) (a1 : Int) : Option (List Int × Int × ByteArray × Int × Int) := tithebarnref04_readRuns.l0 k a1 ([] : List Int) s0_0 s0_1 s0_2
theorem tithebarnref04_readRuns.mono_l : ∀ k, (∀ y0 y1 y2 y3 y4, LeO (tithebarnref04_readRuns.l0 k y0 y1 y2 y3 y4) (tithebarnref04_readRuns.l0 (k + 1) y0 y1 y2 y3 y4)) ∧ (∀ y0 y1 y2 y3 y4 y5 y6, LeO (tithebarnref04_readRuns.j1 k y0 y1 y2 y3 y4 y5 y6) (tithebarnref04_readRuns.j1 (k + 1) y0 y1 y2 y3 y4 y5 y6)) ∧ (∀ y0 y1 y2 y3 y4 y5 y6 y7, LeO (tithebarnref04_readRuns.j2 k y0 y1 y2 y3 y4 y5 y6 y7) (tithebarnref04_readRuns.j2 (k + 1) y0 y1 y2 y3 y4 y5 y6 y7)) ∧ (∀ y0 y1 y2 y3 y4 y5 y6 y7, LeO (tithebarnref04_readRuns.l1 k y0 y1 y2 y3 y4 y5 y6 y7) (tithebarnref04_readRuns.l1 (k + 1) y0 y1 y2 y3 y4 y5 y6 y7))
 | 0 => ⟨fun _ _ _ _ _ r h => by simp [tithebarnref04_readRuns.l0] at h, fun _ _ _ _ _ _ _ r h => by simp [tithebarnref04_readRuns.j1] at h, fun _ _ _ _ _ _ _ _ r h => by simp [tithebarnref04_readRuns.j2] at h, fun _ _ _ _ _ _ _ _ r h => by simp [tithebarnref04_readRuns.l1] at h⟩
 | k + 1 => by
  obtain ⟨ih0, ih1, ih2, ih3⟩ := tithebarnref04_readRuns.mono_l k
  refine ⟨?_, ?_, ?_, ?_⟩
  ·intro y0 y1 y2 y3 y4
   unfold tithebarnref04_readRuns.l0
   repeat' first
   | (with_reducible exact ih0 _ _ _ _ _)
   | (with_reducible exact ih1 _ _ _ _ _ _ _)
   | (with_reducible exact ih2 _ _ _ _ _ _ _ _)
   | (with_reducible exact ih3 _ _ _ _ _ _ _ _)
   | (with_reducible exact tithebarnref01_Cursor_Int.mono _ _ _ _)
   | (with_reducible exact tithebarnref01_Cursor_Uint.mono _ _ _ _)
   | (with_reducible exact LeO.refl _)
   | (with_reducible exact LeO.none _)
   | (with_reducible refine LeO.ite ?_ ?_)
   | (with_reducible refine LeO.bind ?_ (fun _ => ?_))
   | exact ih0 _ _ _ _ _
   | exact ih1 _ _ _ _ _ _ _
   | exact ih2 _ _ _ _ _ _ _ _
   | exact ih3 _ _ _ _ _ _ _ _
   | exact tithebarnref01_Cursor_Int.mono _ _ _ _
   | exact tithebarnref01_Cursor_Uint.mono _ _ _ _
   | exact LeO.none _
   | refine LeO.ite ?_ ?_
   | refine LeO.bind ?_ (fun _ => ?_)
  ·intro y0 y1 y2 y3 y4 y5 y6
   unfold tithebarnref04_readRuns.j1
   repeat' first
   | (with_reducible exact ih0 _ _ _ _ _)
   | (with_reducible exact ih1 _ _ _ _ _ _ _)
   | (with_reducible exact ih2 _ _ _ _ _ _ _ _)
   | (with_reducible exact ih3 _ _ _ _ _ _ _ _)
   | (with_reducible exact tithebarnref01_Cursor_Int.mono _ _ _ _)
   | (with_reducible exact tithebarnref01_Cursor_Uint.mono _ _ _ _)
   | (with_reducible exact LeO.refl _)
   | (with_reducible exact LeO.none _)
   | (with_reducible refine LeO.ite ?_ ?_)
   | (with_reducible refine LeO.bind ?_ (fun _ => ?_))
   | exact ih0 _ _ _ _ _
   | exact ih1 _ _ _ _ _ _ _
   | exact ih2 _ _ _ _ _ _ _ _
   | exact ih3 _ _ _ _ _ _ _ _
   | exact tithebarnref01_Cursor_Int.mono _ _ _ _
   | exact tithebarnref01_Cursor_Uint.mono _ _ _ _
   | exact LeO.none _
   | refine LeO.ite ?_ ?_
   | refine LeO.bind ?_ (fun _ => ?_)
  ·intro y0 y1 y2 y3 y4 y5 y6 y7
   unfold tithebarnref04_readRuns.j2
   repeat' first
   | (with_reducible exact ih0 _ _ _ _ _)
   | (with_reducible exact ih1 _ _ _ _ _ _ _)
   | (with_reducible exact ih2 _ _ _ _ _ _ _ _)
   | (with_reducible exact ih3 _ _ _ _ _ _ _ _)
   | (with_reducible exact tithebarnref01_Cursor_Int.mono _ _ _ _)
   | (with_reducible exact tithebarnref01_Cursor_Uint.mono _ _ _ _)
   | (with_reducible exact LeO.refl _)
   | (with_reducible exact LeO.none _)
   | (with_reducible refine LeO.ite ?_ ?_)
   | (with_reducible refine LeO.bind ?_ (fun _ => ?_))
   | exact ih0 _ _ _ _ _
   | exact ih1 _ _ _ _ _ _ _
   | exact ih2 _ _ _ _ _ _ _ _
   | exact ih3 _ _ _ _ _ _ _ _
   | exact tithebarnref01_Cursor_Int.mono _ _ _ _
   | exact tithebarnref01_Cursor_Uint.mono _ _ _ _
   | exact LeO.none _
   | refine LeO.ite ?_ ?_
   | refine LeO.bind ?_ (fun _ => ?_)
  ·intro y0 y1 y2 y3 y4 y5 y6 y7
   unfold tithebarnref04_readRuns.l1
   repeat' first
   | (with_reducible exact ih0 _ _ _ _ _)
   | (with_reducible exact ih1 _ _ _ _ _ _ _)
   | (with_reducible exact ih2 _ _ _ _ _ _ _ _)
   | (with_reducible exact ih3 _ _ _ _ _ _ _ _)
   | (with_reducible exact tithebarnref01_Cursor_Int.mono _ _ _ _)
   | (with_reducible exact tithebarnref01_Cursor_Uint.mono _ _ _ _)
   | (with_reducible exact LeO.refl _)
   | (with_reducible exact LeO.none _)
   | (with_reducible refine LeO.ite ?_ ?_)
   | (with_reducible refine LeO.bind ?_ (fun _ => ?_))
   | exact ih0 _ _ _ _ _
   | exact ih1 _ _ _ _ _ _ _
   | exact ih2 _ _ _ _ _ _ _ _
   | exact ih3 _ _ _ _ _ _ _ _
   | exact tithebarnref01_Cursor_Int.mono _ _ _ _
   | exact tithebarnref01_Cursor_Uint.mono _ _ _ _
   | exact LeO.none _
   | refine LeO.ite ?_ ?_
   | refine LeO.bind ?_ (fun _ => ?_)
theorem tithebarnref04_readRuns.mono : ∀ a0 a1 a2 a3 k, LeO (tithebarnref04_readRuns.f k a0 a1 a2 a3) (tithebarnref04_readRuns.f (k + 1) a0 a1 a2 a3) := by
 intro a0 a1 a2 a3 k
 obtain ⟨ih0, ih1, ih2, ih3⟩ := tithebarnref04_readRuns.mono_l k
 unfold tithebarnref04_readRuns.f
 repeat' first
   | (with_reducible exact ih0 _ _ _ _ _)
   | (with_reducible exact ih1 _ _ _ _ _ _ _)
   | (with_reducible exact ih2 _ _ _ _ _ _ _ _)
   | (with_reducible exact ih3 _ _ _ _ _ _ _ _)
   | (with_reducible exact tithebarnref01_Cursor_Int.mono _ _ _ _)
   | (with_reducible exact tithebarnref01_Cursor_Uint.mono _ _ _ _)
   | (with_reducible exact LeO.refl _)
   | (with_reducible exact LeO.none _)
   | (with_reducible refine LeO.ite ?_ ?_)
   | (with_reducible refine LeO.bind ?_ (fun _ => ?_))
   | exact ih0 _ _ _ _ _
   | exact ih1 _ _ _ _ _ _ _
   | exact ih2 _ _ _ _ _ _ _ _
   | exact ih3 _ _ _ _ _ _ _ _
   | exact tithebarnref01_Cursor_Int.mono _ _ _ _
   | exact tithebarnref01_Cursor_Uint.mono _ _ _ _
   | exact LeO.none _
   | refine LeO.ite ?_ ?_
   | refine LeO.bind ?_ (fun _ => ?_)
set_option maxHeartbeats 8000000 in
set_option maxRecDepth 100000 in
theorem tithebarnref04_readRuns.calls (k : Nat) (g : Nat) (s0_0 : ByteArray) (s0_1 : Int) (s0_2 : Int) (a1 : Int) (r1 : List Int) (r2 : Int) (r3 : ByteArray) (r4 : Int) (r5 : Int) (w0 w : World) (hI : IsS55 w0 w g s0_0 s0_1 s0_2) (hB : Below w0.heap.size w0 w) (h : tithebarnref04_readRuns.f k s0_0 s0_1 s0_2 a1 = some (r1, r2, r3, r4, r5)) :
  Calls Try.prog 30 #[.pointer (some ⟨g, 0, none⟩), .int .i64 a1] w fun e w' => ∃ v0_ : Value, e = .returned (.tuple #[v0_, .int .i64 r2]) ∧ Kd.R (Kd.int .i64) 2 w' w.heap.size (fun _ => True) v0_ r1 ∧ IsS55 w0 w' g r3 r4 r5 ∧ Below w0.heap.size w0 w' ∧ KeepBut w w' g none := by
 have HI0 := Aside0.mk hI
 have HK := Aside0.mk (KeepBut.refl w g none)
 have HL := Aside0.mk hB.size
 clear hI
 have HW0 := Aside0.mk hB.size
 have HB := Aside0.mk hB
 clear hB
 have H : (tithebarnref04_readRuns.l0 k a1 ([] : List Int) s0_0 s0_1 s0_2) = some (r1, r2, r3, r4, r5) := h
 clear h
 have H' := Aside0.mk H
 clear H
 go_enter Try.func30, Try.ntmps30
 go_wp2
 repeat (go_quiet (fail); try go_wp2)
 go_loopg [6] k (fun kq v6 w' => ∃ (x6_1 : List Int) (x1000_1 : ByteArray) (x1001_1 : Int) (x1002_1 : Int), Aside0 (tithebarnref04_readRuns.l0 kq a1 x6_1 x1000_1 x1001_1 x1002_1 = some (r1, r2, r3, r4, r5)) ∧ Aside0 (kq ≤ k) ∧ Aside0 (Kd.R (Kd.int .i64) 2 w' w.heap.size (fun _ => True) v6 x6_1) ∧ Aside0 (IsS55 w0 w' g x1000_1 x1001_1 x1002_1) ∧ Aside0 (KeepBut w w' g none) ∧ Aside0 (Below w0.heap.size w0 w'))
 case atStart => exact ⟨(([] : List Int)), (s0_0), (s0_1), (s0_2), H', ⟨Nat.le_refl _⟩, ⟨z10_⟩, ⟨z2_⟩, ⟨z0_⟩, ⟨z3_⟩⟩
 case round =>
  clear H'
  try clear p2
  obtain ⟨x6_1, x1000_1, x1001_1, x1002_1, HA, HK1, HO_6, HI0, HK, HB⟩ := hrel
  cases gk with
  | zero => exact absurd HA.out (by simp [tithebarnref04_readRuns.l0])
  | succ k1 =>
   have H := HA.out
   clear HA
   simp only [tithebarnref04_readRuns.l0] at H
   by_cases c3 : (x6_1.length : Int) < a1
   ·rw [if_pos c3] at H
    have c3b0 : decide ((x6_1.length : Int) < a1) = true := decide_eq_true c3
    clear c3
    replace H := Option.bind_eq_some_iff.mp H
    obtain ⟨⟨t405, t406, t407, t408⟩, A40, H⟩ := H
    replace H : (if t408 = 0 then (if t405 = 0 then (tithebarnref04_readRuns.j1 k1 a1 x6_1 t405 true t406 t407 t408) else (tithebarnref04_readRuns.j1 k1 a1 x6_1 t405 (decide (t405 > (IntKind.u64.wrap (wrap64 (a1 - (x6_1.length : Int)))))) t406 t407 t408)) else (tithebarnref04_readRuns.j1 k1 a1 x6_1 t405 false t406 t407 t408)) = some (r1, r2, r3, r4, r5) := H
    have A4 := Aside0.mk A40
    clear A40
    have HC5 := Aside0.mk H
    clear H
    obtain ⟨Ao6, co6, eo6⟩ := Kd.R_slice HO_6.out
    subst eo6
    go_upto_region 4 with (first | (go_at_call 29; (with_reducible refine (tithebarnref01_Cursor_Uint.calls k1 g x1000_1 x1001_1 x1002_1 t405 t406 t407 t408 w0 _ ?side1 ?side2 A4.out).mono ?_); (case side1 => repeat (first | (with_reducible first | exact HI0.out | apply IsS55.alloc | apply IsS55.drewN | apply IsS55.drew | apply IsS55.set_0 | apply IsS55.set_1 | apply IsS55.set_2) | exact HI0.out)); (case side2 => repeat (first | (with_reducible first | exact HB.out | apply below_alloc | apply pw_below_drewN | apply below_drew1 | refine below_set ?_ (IsS55.ge HI0.out)) | exact HB.out)); rintro e w7 ⟨rfl, hi, hb, hk⟩; have n0_ := Aside0.mk (Kd.R_mono (Kd.R_keep (IsS55.apart (show IsS55 w0 _ g x1000_1 x1001_1 x1002_1 from z2_) (by (with_reducible repeat (first | apply Kd.R_alloc | apply Kd.R_drewN | apply Kd.R_drew)); exact HO_6.out) (by decide)) hk (fun _ h => h.2)) (fun _ h => h.1)); have n1_ := Aside0.mk (KeepBut.trans z0_ hk (.inl rfl)); have n2_ := Aside0.mk (hb); have n3_ := Aside0.mk (hi); clear HO_6; clear HK; clear HB; clear HI0; have HO_6 := n0_; have HK := n1_; have HB := n2_; have HI0 := n3_; clear n0_ n1_ n2_ n3_; (try clear hb); (try clear hb2); (try clear hk); (try clear hi)))
    repeat (go_quiet (first | (go_at_call 29; (with_reducible refine (tithebarnref01_Cursor_Uint.calls k1 g x1000_1 x1001_1 x1002_1 t405 t406 t407 t408 w0 _ ?side1 ?side2 A4.out).mono ?_); (case side1 => repeat (first | (with_reducible first | exact HI0.out | apply IsS55.alloc | apply IsS55.drewN | apply IsS55.drew | apply IsS55.set_0 | apply IsS55.set_1 | apply IsS55.set_2) | exact HI0.out)); (case side2 => repeat (first | (with_reducible first | exact HB.out | apply below_alloc | apply pw_below_drewN | apply below_drew1 | refine below_set ?_ (IsS55.ge HI0.out)) | exact HB.out)); rintro e w7 ⟨rfl, hi, hb, hk⟩; have n0_ := Aside0.mk (Kd.R_mono (Kd.R_keep (IsS55.apart (show IsS55 w0 _ g x1000_1 x1001_1 x1002_1 from z2_) (by (with_reducible repeat (first | apply Kd.R_alloc | apply Kd.R_drewN | apply Kd.R_drew)); exact HO_6.out) (by decide)) hk (fun _ h => h.2)) (fun _ h => h.1)); have n1_ := Aside0.mk (KeepBut.trans z0_ hk (.inl rfl)); have n2_ := Aside0.mk (hb); have n3_ := Aside0.mk (hi); clear HO_6; clear HK; clear HB; clear HI0; have HO_6 := n0_; have HK := n1_; have HB := n2_; have HI0 := n3_; clear n0_ n1_ n2_ n3_; (try clear hb); (try clear hb2); (try clear hk); (try clear hi))); go_upto_region 4 with (first | (go_at_call 29; (with_reducible refine (tithebarnref01_Cursor_Uint.calls k1 g x1000_1 x1001_1 x1002_1 t405 t406 t407 t408 w0 _ ?side1 ?side2 A4.out).mono ?_); (case side1 => repeat (first | (with_reducible first | exact HI0.out | apply IsS55.alloc | apply IsS55.drewN | apply IsS55.drew | apply IsS55.set_0 | apply IsS55.set_1 | apply IsS55.set_2) | exact HI0.out)); (case side2 => repeat (first | (with_reducible first | exact HB.out | apply below_alloc | apply pw_below_drewN | apply below_drew1 | refine below_set ?_ (IsS55.ge HI0.out)) | exact HB.out)); rintro e w7 ⟨rfl, hi, hb, hk⟩; have n0_ := Aside0.mk (Kd.R_mono (Kd.R_keep (IsS55.apart (show IsS55 w0 _ g x1000_1 x1001_1 x1002_1 from z2_) (by (with_reducible repeat (first | apply Kd.R_alloc | apply Kd.R_drewN | apply Kd.R_drew)); exact HO_6.out) (by decide)) hk (fun _ h => h.2)) (fun _ h => h.1)); have n1_ := Aside0.mk (KeepBut.trans z0_ hk (.inl rfl)); have n2_ := Aside0.mk (hb); have n3_ := Aside0.mk (hi); clear HO_6; clear HK; clear HB; clear HI0; have HO_6 := n0_; have HK := n1_; have HB := n2_; have HI0 := n3_; clear n0_ n1_ n2_ n3_; (try clear hb); (try clear hb2); (try clear hk); (try clear hi))))
    (try simp only [Act.put, List.setIfInBounds_toArray, List.set_cons_zero, List.set_cons_succ])
    go_cut [33] (fun v33 wc => ∃ (kq : Nat) (x33_4 : Bool), v33 = .bool x33_4 ∧ Aside0 (tithebarnref04_readRuns.j1 kq a1 x6_1 t405 x33_4 t406 t407 t408 = some (r1, r2, r3, r4, r5)) ∧ Aside0 (kq ≤ k1) ∧ Aside0 (Kd.R (Kd.int .i64) 2 wc w.heap.size (fun _ => True) (.slice Ao6 x6_1.length co6) x6_1) ∧ Aside0 (IsS55 w0 wc g t406 t407 t408) ∧ Aside0 (KeepBut w wc g none) ∧ Aside0 (Below w0.heap.size w0 wc))
    case first =>
     have H := HC5.out
     clear HC5
     by_cases c8 : t408 = 0
     ·rw [if_pos c8] at H
      have c8b0 : (t408 == 0) = true := beq_iff_eq.mpr c8
      have c8b1 : (t408 != 0) = false := bne_eq_false_iff_eq.mpr c8
      clear c8
      (first | rw [c8b0] | (simp only [i64_w, i32_w]; rw [c8b0]) | skip)
      by_cases c9 : t405 = 0
      ·rw [if_pos c9] at H
       have c9b0 : (t405 == 0) = true := beq_iff_eq.mpr c9
       have c9b1 : (t405 != 0) = false := bne_eq_false_iff_eq.mpr c9
       clear c9
       have H' := Aside0.mk H
       clear H
       obtain ⟨HGz10, hgz10⟩ := HI0.out
       have hcz10_0 := cellS55_0 HGz10
       have hcz10_1 := cellS55_1 HGz10
       have hcz10_2 := cellS55_2 HGz10
       have hfz10_0 := blk_frozen HGz10 0
       have hfz10_1 := blk_frozen HGz10 1
       have hfz10_2 := blk_frozen HGz10 2
       clear HGz10 hgz10
       go_wp2
       repeat (go_quiet (fail); try go_wp2)
       go_meet
       case rel => exact ⟨_, (true), z11_, H', ⟨by have := HK1.out; first | omega | exact Nat.le_refl _⟩, ⟨by (with_reducible repeat (first | apply Kd.R_alloc | apply Kd.R_drewN | apply Kd.R_drew)); exact HO_6.out⟩, ⟨z2_⟩, ⟨z0_⟩, ⟨z3_⟩⟩
      ·rw [if_neg c9] at H
       have c9b0 : (t405 == 0) = false := beq_eq_false_iff_ne.mpr c9
       have c9b1 : (t405 != 0) = true := bne_iff_ne.mpr c9
       have H' := Aside0.mk H
       clear H
       obtain ⟨HGz11, hgz11⟩ := HI0.out
       have hcz11_0 := cellS55_0 HGz11
       have hcz11_1 := cellS55_1 HGz11
       have hcz11_2 := cellS55_2 HGz11
       have hfz11_0 := blk_frozen HGz11 0
       have hfz11_1 := blk_frozen HGz11 1
       have hfz11_2 := blk_frozen HGz11 2
       clear HGz11 hgz11
       go_wp2
       repeat (go_quiet (fail); try go_wp2)
       go_meet
       case rel => exact ⟨_, (decide (t405 > (IntKind.u64.wrap (wrap64 (a1 - (x6_1.length : Int)))))), z11_, H', ⟨by have := HK1.out; first | omega | exact Nat.le_refl _⟩, ⟨by (with_reducible repeat (first | apply Kd.R_alloc | apply Kd.R_drewN | apply Kd.R_drew)); exact HO_6.out⟩, ⟨z2_⟩, ⟨z0_⟩, ⟨z3_⟩⟩
     ·rw [if_neg c8] at H
      have c8b0 : (t408 == 0) = false := beq_eq_false_iff_ne.mpr c8
      have c8b1 : (t408 != 0) = true := bne_iff_ne.mpr c8
      (first | rw [c8b0] | (simp only [i64_w, i32_w]; rw [c8b0]) | skip)
      have H' := Aside0.mk H
      clear H
      obtain ⟨HGz12, hgz12⟩ := HI0.out
      have hcz12_0 := cellS55_0 HGz12
      have hcz12_1 := cellS55_1 HGz12
      have hcz12_2 := cellS55_2 HGz12
      have hfz12_0 := blk_frozen HGz12 0
      have hfz12_1 := blk_frozen HGz12 1
      have hfz12_2 := blk_frozen HGz12 2
      clear HGz12 hgz12
      go_wp2
      repeat (go_quiet (fail); try go_wp2)
      go_meet
      case rel => exact ⟨_, (false), z11_, H', ⟨by have := HK1.out; first | omega | exact Nat.le_refl _⟩, ⟨by (with_reducible repeat (first | apply Kd.R_alloc | apply Kd.R_drewN | apply Kd.R_drew)); exact HO_6.out⟩, ⟨z2_⟩, ⟨z0_⟩, ⟨z3_⟩⟩
    case rest =>
     clear HC5
     try clear p2
     try clear c3
     try clear c3b0
     try clear p6
     try clear c8
     try clear c8b0
     try clear c8b1
     try clear c9
     try clear c9b0
     try clear c9b1
     try clear hcz10_0
     try clear hcz10_1
     try clear hcz10_2
     try clear hcz11_0
     try clear hcz11_1
     try clear hcz11_2
     try clear hcz12_0
     try clear hcz12_1
     try clear hcz12_2
     try clear hfz10_0
     try clear hfz10_1
     try clear hfz10_2
     try clear hfz11_0
     try clear hfz11_1
     try clear hfz11_2
     try clear hfz12_0
     try clear hfz12_1
     try clear hfz12_2
     try clear p2
     obtain ⟨kq, x33_4, rfl, HA, HJ4, HO_6, HI0, HK, HB⟩ := hcut
     cases kq with
     | zero => exact absurd HA.out (by simp [tithebarnref04_readRuns.j1])
     | succ kj4 =>
      have H := HA.out
      clear HA
      simp only [tithebarnref04_readRuns.j1] at H
      by_cases c13 : x33_4 = true
      ·subst c13
       have H1 : (some (([] : List Int), 4, t406, t407, t408)) = some (r1, r2, r3, r4, r5) := by rw [if_pos rfl] at H; exact H
       clear H
       have H := H1
       clear H1
       simp only [Option.some.injEq, Prod.mk.injEq] at H
       obtain ⟨rfl, rfl, rfl, rfl, rfl⟩ := H
       go_wp2
       repeat (go_quiet (fail); try go_wp2)
       go_ret2
       exact ⟨_, z6_, z10_, z2_, z3_, z0_⟩
      ·replace c13 := Bool.eq_false_iff.mpr c13
       subst c13
       have H1 : ((tithebarnref01_Cursor_Int.f kj4 t406 t407 t408).bind fun bt409 => (if bt409.2.2.2 = 0 then (if (x6_1.length : Int) > 0 then (if 0 ≤ (wrap64 ((x6_1.length : Int) - 1)) then (if (wrap64 ((x6_1.length : Int) - 1)) < (x6_1.length : Int) then (tithebarnref04_readRuns.j2 kj4 a1 x6_1 t405 bt409.1 ((rd x6_1 (wrap64 ((x6_1.length : Int) - 1))) == bt409.1) bt409.2.1 bt409.2.2.1 bt409.2.2.2) else (none)) else (none)) else (tithebarnref04_readRuns.j2 kj4 a1 x6_1 t405 bt409.1 false bt409.2.1 bt409.2.2.1 bt409.2.2.2)) else (some (([] : List Int), bt409.2.2.2, bt409.2.1, bt409.2.2.1, bt409.2.2.2)))) = some (r1, r2, r3, r4, r5) := by rw [if_neg (show ¬ (false = true) by decide)] at H; exact H
       clear H
       have H := H1
       clear H1
       replace H := Option.bind_eq_some_iff.mp H
       obtain ⟨⟨t409, t410, t411, t412⟩, A140, H⟩ := H
       replace H : (if t412 = 0 then (if (x6_1.length : Int) > 0 then (if 0 ≤ (wrap64 ((x6_1.length : Int) - 1)) then (if (wrap64 ((x6_1.length : Int) - 1)) < (x6_1.length : Int) then (tithebarnref04_readRuns.j2 kj4 a1 x6_1 t405 t409 ((rd x6_1 (wrap64 ((x6_1.length : Int) - 1))) == t409) t410 t411 t412) else (none)) else (none)) else (tithebarnref04_readRuns.j2 kj4 a1 x6_1 t405 t409 false t410 t411 t412)) else (some (([] : List Int), t412, t410, t411, t412))) = some (r1, r2, r3, r4, r5) := H
       have A14 := Aside0.mk A140
       clear A140
       by_cases c15 : t412 = 0
       ·rw [if_pos c15] at H
        have c15b0 : (t412 == 0) = true := beq_iff_eq.mpr c15
        have c15b1 : (t412 != 0) = false := bne_eq_false_iff_eq.mpr c15
        clear c15
        have HC16 := Aside0.mk H
        clear H
        go_upto_region 9 with (first | (go_at_call 32; (with_reducible refine (tithebarnref01_Cursor_Int.calls kj4 g t406 t407 t408 t409 t410 t411 t412 w0 _ ?side1 ?side2 A14.out).mono ?_); (case side1 => repeat (first | (with_reducible first | exact HI0.out | apply IsS55.alloc | apply IsS55.drewN | apply IsS55.drew | apply IsS55.set_0 | apply IsS55.set_1 | apply IsS55.set_2) | exact HI0.out)); (case side2 => repeat (first | (with_reducible first | exact HB.out | apply below_alloc | apply pw_below_drewN | apply below_drew1 | refine below_set ?_ (IsS55.ge HI0.out)) | exact HB.out)); rintro e w17 ⟨rfl, hi, hb, hk⟩; have n0_ := Aside0.mk (Kd.R_mono (Kd.R_keep (IsS55.apart (show IsS55 w0 _ g t406 t407 t408 from z2_) (by (with_reducible repeat (first | apply Kd.R_alloc | apply Kd.R_drewN | apply Kd.R_drew)); exact HO_6.out) (by decide)) hk (fun _ h => h.2)) (fun _ h => h.1)); have n1_ := Aside0.mk (KeepBut.trans z0_ hk (.inl rfl)); have n2_ := Aside0.mk (hb); have n3_ := Aside0.mk (hi); clear HO_6; clear HK; clear HB; clear HI0; have HO_6 := n0_; have HK := n1_; have HB := n2_; have HI0 := n3_; clear n0_ n1_ n2_ n3_; (try clear hb); (try clear hb2); (try clear hk); (try clear hi); obtain ⟨HGz18, hgz18⟩ := HI0.out; have hcz18_0 := cellS55_0 HGz18; have hcz18_1 := cellS55_1 HGz18; have hcz18_2 := cellS55_2 HGz18; have hfz18_0 := blk_frozen HGz18 0; have hfz18_1 := blk_frozen HGz18 1; have hfz18_2 := blk_frozen HGz18 2; clear HGz18 hgz18))
        repeat (go_quiet (first | (go_at_call 32; (with_reducible refine (tithebarnref01_Cursor_Int.calls kj4 g t406 t407 t408 t409 t410 t411 t412 w0 _ ?side1 ?side2 A14.out).mono ?_); (case side1 => repeat (first | (with_reducible first | exact HI0.out | apply IsS55.alloc | apply IsS55.drewN | apply IsS55.drew | apply IsS55.set_0 | apply IsS55.set_1 | apply IsS55.set_2) | exact HI0.out)); (case side2 => repeat (first | (with_reducible first | exact HB.out | apply below_alloc | apply pw_below_drewN | apply below_drew1 | refine below_set ?_ (IsS55.ge HI0.out)) | exact HB.out)); rintro e w17 ⟨rfl, hi, hb, hk⟩; have n0_ := Aside0.mk (Kd.R_mono (Kd.R_keep (IsS55.apart (show IsS55 w0 _ g t406 t407 t408 from z2_) (by (with_reducible repeat (first | apply Kd.R_alloc | apply Kd.R_drewN | apply Kd.R_drew)); exact HO_6.out) (by decide)) hk (fun _ h => h.2)) (fun _ h => h.1)); have n1_ := Aside0.mk (KeepBut.trans z0_ hk (.inl rfl)); have n2_ := Aside0.mk (hb); have n3_ := Aside0.mk (hi); clear HO_6; clear HK; clear HB; clear HI0; have HO_6 := n0_; have HK := n1_; have HB := n2_; have HI0 := n3_; clear n0_ n1_ n2_ n3_; (try clear hb); (try clear hb2); (try clear hk); (try clear hi); obtain ⟨HGz18, hgz18⟩ := HI0.out; have hcz18_0 := cellS55_0 HGz18; have hcz18_1 := cellS55_1 HGz18; have hcz18_2 := cellS55_2 HGz18; have hfz18_0 := blk_frozen HGz18 0; have hfz18_1 := blk_frozen HGz18 1; have hfz18_2 := blk_frozen HGz18 2; clear HGz18 hgz18)); go_upto_region 9 with (first | (go_at_call 32; (with_reducible refine (tithebarnref01_Cursor_Int.calls kj4 g t406 t407 t408 t409 t410 t411 t412 w0 _ ?side1 ?side2 A14.out).mono ?_); (case side1 => repeat (first | (with_reducible first | exact HI0.out | apply IsS55.alloc | apply IsS55.drewN | apply IsS55.drew | apply IsS55.set_0 | apply IsS55.set_1 | apply IsS55.set_2) | exact HI0.out)); (case side2 => repeat (first | (with_reducible first | exact HB.out | apply below_alloc | apply pw_below_drewN | apply below_drew1 | refine below_set ?_ (IsS55.ge HI0.out)) | exact HB.out)); rintro e w17 ⟨rfl, hi, hb, hk⟩; have n0_ := Aside0.mk (Kd.R_mono (Kd.R_keep (IsS55.apart (show IsS55 w0 _ g t406 t407 t408 from z2_) (by (with_reducible repeat (first | apply Kd.R_alloc | apply Kd.R_drewN | apply Kd.R_drew)); exact HO_6.out) (by decide)) hk (fun _ h => h.2)) (fun _ h => h.1)); have n1_ := Aside0.mk (KeepBut.trans z0_ hk (.inl rfl)); have n2_ := Aside0.mk (hb); have n3_ := Aside0.mk (hi); clear HO_6; clear HK; clear HB; clear HI0; have HO_6 := n0_; have HK := n1_; have HB := n2_; have HI0 := n3_; clear n0_ n1_ n2_ n3_; (try clear hb); (try clear hb2); (try clear hk); (try clear hi); obtain ⟨HGz18, hgz18⟩ := HI0.out; have hcz18_0 := cellS55_0 HGz18; have hcz18_1 := cellS55_1 HGz18; have hcz18_2 := cellS55_2 HGz18; have hfz18_0 := blk_frozen HGz18 0; have hfz18_1 := blk_frozen HGz18 1; have hfz18_2 := blk_frozen HGz18 2; clear HGz18 hgz18)))
        (try simp only [Act.put, List.setIfInBounds_toArray, List.set_cons_zero, List.set_cons_succ])
        go_cut [57] (fun v57 wc => ∃ (kq : Nat) (x57_15 : Bool), v57 = .bool x57_15 ∧ Aside0 (tithebarnref04_readRuns.j2 kq a1 x6_1 t405 t409 x57_15 t410 t411 t412 = some (r1, r2, r3, r4, r5)) ∧ Aside0 (kq ≤ kj4) ∧ Aside0 (Kd.R (Kd.int .i64) 2 wc w.heap.size (fun _ => True) (.slice Ao6 x6_1.length co6) x6_1) ∧ Aside0 (IsS55 w0 wc g t410 t411 t412) ∧ Aside0 (KeepBut w wc g none) ∧ Aside0 (Below w0.heap.size w0 wc))
        case first =>
         have H := HC16.out
         clear HC16
         by_cases c19 : (x6_1.length : Int) > 0
         ·rw [if_pos c19] at H
          have c19b0 : decide (0 < (x6_1.length : Int)) = true := decide_eq_true c19
          have c19b1 : decide (0 < x6_1.length) = true := decide_eq_true (by omega)
          clear c19
          (first | rw [c19b0] | (simp only [i64_w, i32_w]; rw [c19b0]) | skip)
          obtain ⟨ji20, hji20⟩ : ∃ j_ : Int, (wrap64 ((x6_1.length : Int) - 1)) = j_ := ⟨_, rfl⟩
          replace H : (if 0 ≤ (ji20) then (if (ji20) < (x6_1.length : Int) then (tithebarnref04_readRuns.j2 kj4 a1 x6_1 t405 t409 ((rd x6_1 (ji20)) == t409) t410 t411 t412) else (none)) else (none)) = some (r1, r2, r3, r4, r5) := by first | (rw [hji20] at H; exact H) | (simp only [hji20] at H ⊢; exact H)
          have hji20w : (IntKind.i64.wrap ((x6_1.length : Int) - 1)) = ji20 := (i64_w _).trans hji20
          by_cases c21 : 0 ≤ (ji20)
          ·rw [if_pos c21] at H
           have c21b0 : decide (0 ≤ (ji20)) = true := decide_eq_true c21
           clear c21
           by_cases c22 : (ji20) < (x6_1.length : Int)
           ·rw [if_pos c22] at H
            have c22b0 : decide ((ji20) < (x6_1.length : Int)) = true := decide_eq_true c22
            clear c22
            have H' := Aside0.mk H
            clear H
            have p413 : 0 ≤ ((ji20) : Int) := of_decide_eq_true z12_
            have q413 : (ji20) < (x6_1.length : Int) := of_decide_eq_true z12_
            obtain ⟨ad413, e413, hx413_0⟩ := Kd.at_int (Kd.R_reads' HO_6.out).2.2 (ji20) p413 q413
            cases e413
            replace p413 := eq_true p413
            replace q413 := eq_true q413
            go_wp2
            repeat (go_quiet (fail); try go_wp2)
            go_meet
            case rel => exact ⟨_, (((rd x6_1 (ji20)) == t409)), (by first | rfl | (simp; done) | (simp only [← hji20] <;> (first | rfl | simp)) | (simp [*]; done)), H', ⟨by have := HK1.out; have := HJ4.out; first | omega | exact Nat.le_refl _⟩, ⟨by (with_reducible repeat (first | apply Kd.R_alloc | apply Kd.R_drewN | apply Kd.R_drew)); exact HO_6.out⟩, ⟨z2_⟩, ⟨z0_⟩, ⟨z3_⟩⟩
           ·rw [if_neg c22] at H
            exact absurd H (by simp)
          ·rw [if_neg c21] at H
           exact absurd H (by simp)
         ·rw [if_neg c19] at H
          have c19b0 : decide (0 < (x6_1.length : Int)) = false := decide_eq_false c19
          have c19b1 : decide (0 < x6_1.length) = false := decide_eq_false (by omega)
          clear c19
          (first | rw [c19b0] | (simp only [i64_w, i32_w]; rw [c19b0]) | skip)
          have H' := Aside0.mk H
          clear H
          go_wp2
          repeat (go_quiet (fail); try go_wp2)
          go_meet
          case rel => exact ⟨_, (false), z11_, H', ⟨by have := HK1.out; have := HJ4.out; first | omega | exact Nat.le_refl _⟩, ⟨by (with_reducible repeat (first | apply Kd.R_alloc | apply Kd.R_drewN | apply Kd.R_drew)); exact HO_6.out⟩, ⟨z2_⟩, ⟨z0_⟩, ⟨z3_⟩⟩
        case rest =>
         clear HC16
         try clear c1
         try clear c2
         try clear p2
         try clear c3
         try clear c3b0
         try clear p4
         try clear q4
         try clear hx4
         try clear p6
         try clear c8
         try clear c8b0
         try clear c8b1
         try clear c9
         try clear c9b0
         try clear c9b1
         try clear c13
         try clear c15
         try clear c15b0
         try clear c15b1
         try clear c19
         try clear c19b0
         try clear c19b1
         try clear c21
         try clear c21b0
         try clear c22
         try clear c22b0
         try clear hcz10_0
         try clear hcz10_1
         try clear hcz10_2
         try clear hcz11_0
         try clear hcz11_1
         try clear hcz11_2
         try clear hcz12_0
         try clear hcz12_1
         try clear hcz12_2
         try clear hcz18_0
         try clear hcz18_1
         try clear hcz18_2
         try clear hfz10_0
         try clear hfz10_1
         try clear hfz10_2
         try clear hfz11_0
         try clear hfz11_1
         try clear hfz11_2
         try clear hfz12_0
         try clear hfz12_1
         try clear hfz12_2
         try clear hfz18_0
         try clear hfz18_1
         try clear hfz18_2
         try clear hx413_0
         try clear p2
         try clear p413
         try clear p6
         try clear q413
         obtain ⟨kq, x57_15, rfl, HA, HJ15, HO_6, HI0, HK, HB⟩ := hcut
         cases kq with
         | zero => exact absurd HA.out (by simp [tithebarnref04_readRuns.j2])
         | succ kj15 =>
          have H := HA.out
          clear HA
          simp only [tithebarnref04_readRuns.j2] at H
          by_cases c23 : x57_15 = true
          ·subst c23
           have H1 : (some (([] : List Int), 4, t410, t411, t412)) = some (r1, r2, r3, r4, r5) := by rw [if_pos rfl] at H; exact H
           clear H
           have H := H1
           clear H1
           simp only [Option.some.injEq, Prod.mk.injEq] at H
           obtain ⟨rfl, rfl, rfl, rfl, rfl⟩ := H
           go_wp2
           repeat (go_quiet (fail); try go_wp2)
           go_ret2
           exact ⟨_, z6_, z10_, z2_, z3_, z0_⟩
          ·replace c23 := Bool.eq_false_iff.mpr c23
           subst c23
           have H1 : (tithebarnref04_readRuns.l1 kj15 a1 x6_1 t405 t409 0 t410 t411 t412) = some (r1, r2, r3, r4, r5) := by rw [if_neg (show ¬ (false = true) by decide)] at H; exact H
           clear H
           have H := H1
           clear H1
           have H' := Aside0.mk H
           clear H
           go_wp2
           repeat (go_quiet (fail); try go_wp2)
           go_loopg [6, 9] kj15 (fun kq v6 v9 w' => ∃ (x6_4 : List Int) (x9_4 : Int), v9 = .int .u64 x9_4 ∧ Aside0 (tithebarnref04_readRuns.l1 kq a1 x6_4 t405 t409 x9_4 t410 t411 t412 = some (r1, r2, r3, r4, r5)) ∧ Aside0 (kq ≤ kj15) ∧ Aside0 (Kd.R (Kd.int .i64) 2 w' w.heap.size (fun _ => True) v6 x6_4) ∧ Aside0 (IsS55 w0 w' g t410 t411 t412) ∧ Aside0 (KeepBut w w' g none) ∧ Aside0 (Below w0.heap.size w0 w'))
           case atStart => exact ⟨(x6_1), (0), z11_, H', ⟨Nat.le_refl _⟩, ⟨by (with_reducible repeat (first | apply Kd.R_alloc | apply Kd.R_drewN | apply Kd.R_drew)); exact HO_6.out⟩, ⟨z2_⟩, ⟨z0_⟩, ⟨z3_⟩⟩
           case round =>
            clear H'
            try clear c1
            try clear c2
            try clear p2
            try clear c3
            try clear c3b0
            try clear p4
            try clear q4
            try clear hx4
            try clear p6
            try clear c8
            try clear c8b0
            try clear c8b1
            try clear c9
            try clear c9b0
            try clear c9b1
            try clear c13
            try clear c15
            try clear c15b0
            try clear c15b1
            try clear c19
            try clear c19b0
            try clear c19b1
            try clear c21
            try clear c21b0
            try clear c22
            try clear c22b0
            try clear c23
            try clear hcz10_0
            try clear hcz10_1
            try clear hcz10_2
            try clear hcz11_0
            try clear hcz11_1
            try clear hcz11_2
            try clear hcz12_0
            try clear hcz12_1
            try clear hcz12_2
            try clear hcz18_0
            try clear hcz18_1
            try clear hcz18_2
            try clear hfz10_0
            try clear hfz10_1
            try clear hfz10_2
            try clear hfz11_0
            try clear hfz11_1
            try clear hfz11_2
            try clear hfz12_0
            try clear hfz12_1
            try clear hfz12_2
            try clear hfz18_0
            try clear hfz18_1
            try clear hfz18_2
            try clear hx413_0
            try clear p2
            try clear p4
            try clear p413
            try clear p6
            try clear q4
            try clear q413
            obtain ⟨x6_4, x9_4, rfl, HA, HK4, HO_6, HI0, HK, HB⟩ := hrel
            cases gk with
            | zero => exact absurd HA.out (by simp [tithebarnref04_readRuns.l1])
            | succ k4 =>
             have H := HA.out
             clear HA
             simp only [tithebarnref04_readRuns.l1] at H
             by_cases c24 : x9_4 < t405
             ·rw [if_pos c24] at H
              have c24b0 : decide (x9_4 < t405) = true := decide_eq_true c24
              clear c24
              by_cases c25 : x6_4.length < 17592186044416
              ·rw [if_pos c25] at H
               have LMc25 := Aside0.mk c25
               clear c25
               obtain ⟨y414, hy414⟩ : ∃ y_ : List Int, y_ = (x6_4 ++ [t409]) := ⟨_, rfl⟩
               replace H : (tithebarnref04_readRuns.l1 k4 a1 y414 t405 t409 (IntKind.u64.wrap (x9_4 + 1)) t410 t411 t412) = some (r1, r2, r3, r4, r5) := by first | (rw [hy414]; with_reducible exact H) | (have H2_ := (Option.bind_some _ _).symm.trans H; rw [hy414]; with_reducible exact H2_) | (have H2_ := (Option.bind_some _ _).symm.trans H; with_reducible exact H2_) | with_reducible exact H | (rw [hy414]; exact H) | exact H
               have Ny414 := Aside0.mk hy414
               clear hy414
               have H' := Aside0.mk H
               clear H
               go_wp2_with (first | ((with_reducible refine gate_builtin (b := .append) (xs := #[.tmp 63, .tmp 65]) rfl ?_); (try (refine gate_guard (by rfl) ?_; dsimp only)); at_builtin; refine Kd.R_append (Kd.int .i64) w.heap.size rfl (.tmp 63) (.tmp 65) 22 2 (.int .i64 0) 8 rfl Try.underlying22 info2 rfl (by decide) (by omega) u6 x6_4 t409 [.int .i64 t409] (fun _ => True) (fun _ => False) rfl rfl ?aP (fun _ hk => hk.elim) ?aF ?aO (Below.refl _ _) ?aS ?aL ?_; (case aP => exact rfl); (case aF => exact (fun _ _ => trivial)); (case aO => exact (by (with_reducible repeat (first | apply Kd.R_alloc | apply Kd.R_drewN | apply Kd.R_drew)); exact HO_6.out)); (case aS => exact (keep_size (w := w) (g := g) (row := none) z0_)); (case aL => have := LMc25.out; omega); intro v415 w26 ho hb hg hat; rw [← Ny414.out] at ho; have n0_ := Aside0.mk (IsS55.grown z2_ hg (IsS55.own_ne HI0.out HO_6.out (by decide))); have n1_ := Aside0.mk (below_weaken z3_ HL.out hb); have n2_ := Aside0.mk (KeepBut.trans z0_ (KeepBut.of_grown hg g) (Kd.R_base2 HO_6.out)); have n3_ := Aside0.mk (ho); clear HI0; clear HB; clear HK; clear HO_6; have HI0 := n0_; have HB := n1_; have HK := n2_; have HO416 := n3_; clear n0_ n1_ n2_ n3_; clear ho hb hg hat))
               repeat (go_quiet (first | ((with_reducible refine gate_builtin (b := .append) (xs := #[.tmp 63, .tmp 65]) rfl ?_); (try (refine gate_guard (by rfl) ?_; dsimp only)); at_builtin; refine Kd.R_append (Kd.int .i64) w.heap.size rfl (.tmp 63) (.tmp 65) 22 2 (.int .i64 0) 8 rfl Try.underlying22 info2 rfl (by decide) (by omega) u6 x6_4 t409 [.int .i64 t409] (fun _ => True) (fun _ => False) rfl rfl ?aP (fun _ hk => hk.elim) ?aF ?aO (Below.refl _ _) ?aS ?aL ?_; (case aP => exact rfl); (case aF => exact (fun _ _ => trivial)); (case aO => exact (by (with_reducible repeat (first | apply Kd.R_alloc | apply Kd.R_drewN | apply Kd.R_drew)); exact HO_6.out)); (case aS => exact (keep_size (w := w) (g := g) (row := none) z0_)); (case aL => have := LMc25.out; omega); intro v415 w26 ho hb hg hat; rw [← Ny414.out] at ho; have n0_ := Aside0.mk (IsS55.grown z2_ hg (IsS55.own_ne HI0.out HO_6.out (by decide))); have n1_ := Aside0.mk (below_weaken z3_ HL.out hb); have n2_ := Aside0.mk (KeepBut.trans z0_ (KeepBut.of_grown hg g) (Kd.R_base2 HO_6.out)); have n3_ := Aside0.mk (ho); clear HI0; clear HB; clear HK; clear HO_6; have HI0 := n0_; have HB := n1_; have HK := n2_; have HO416 := n3_; clear n0_ n1_ n2_ n3_; clear ho hb hg hat)); try go_wp2_with (first | ((with_reducible refine gate_builtin (b := .append) (xs := #[.tmp 63, .tmp 65]) rfl ?_); (try (refine gate_guard (by rfl) ?_; dsimp only)); at_builtin; refine Kd.R_append (Kd.int .i64) w.heap.size rfl (.tmp 63) (.tmp 65) 22 2 (.int .i64 0) 8 rfl Try.underlying22 info2 rfl (by decide) (by omega) u6 x6_4 t409 [.int .i64 t409] (fun _ => True) (fun _ => False) rfl rfl ?aP (fun _ hk => hk.elim) ?aF ?aO (Below.refl _ _) ?aS ?aL ?_; (case aP => exact rfl); (case aF => exact (fun _ _ => trivial)); (case aO => exact (by (with_reducible repeat (first | apply Kd.R_alloc | apply Kd.R_drewN | apply Kd.R_drew)); exact HO_6.out)); (case aS => exact (keep_size (w := w) (g := g) (row := none) z0_)); (case aL => have := LMc25.out; omega); intro v415 w26 ho hb hg hat; rw [← Ny414.out] at ho; have n0_ := Aside0.mk (IsS55.grown z2_ hg (IsS55.own_ne HI0.out HO_6.out (by decide))); have n1_ := Aside0.mk (below_weaken z3_ HL.out hb); have n2_ := Aside0.mk (KeepBut.trans z0_ (KeepBut.of_grown hg g) (Kd.R_base2 HO_6.out)); have n3_ := Aside0.mk (ho); clear HI0; clear HB; clear HK; clear HO_6; have HI0 := n0_; have HB := n1_; have HK := n2_; have HO416 := n3_; clear n0_ n1_ n2_ n3_; clear ho hb hg hat)))
               go_roundg k4
               case measure => have := HK1.out; have := HJ4.out; have := HJ15.out; have := HK4.out; omega
               case rel => exact ⟨(y414), (IntKind.u64.wrap (x9_4 + 1)), z11_, H', ⟨by have := HK1.out; have := HJ4.out; have := HJ15.out; have := HK4.out; omega⟩, ⟨by (with_reducible repeat (first | apply Kd.R_alloc | apply Kd.R_drewN | apply Kd.R_drew)); exact HO416.out⟩, ⟨z2_⟩, ⟨z0_⟩, ⟨z3_⟩⟩
              ·rw [if_neg c25] at H
               exact absurd H (by simp)
             ·rw [if_neg c24] at H
              have c24b0 : decide (x9_4 < t405) = false := decide_eq_false c24
              clear c24
              have H' := Aside0.mk H
              clear H
              go_wp2
              repeat (go_quiet (fail); try go_wp2)
              go_roundg k4
              case measure => have := HK1.out; have := HJ4.out; have := HJ15.out; have := HK4.out; omega
              case rel => exact ⟨(x6_4), (t410), (t411), (t412), H', ⟨by have := HK1.out; have := HJ4.out; have := HJ15.out; have := HK4.out; omega⟩, ⟨by (with_reducible repeat (first | apply Kd.R_alloc | apply Kd.R_drewN | apply Kd.R_drew)); exact HO_6.out⟩, ⟨z2_⟩, ⟨z0_⟩, ⟨z3_⟩⟩
       ·rw [if_neg c15] at H
        have c15b0 : (t412 == 0) = false := beq_eq_false_iff_ne.mpr c15
        have c15b1 : (t412 != 0) = true := bne_iff_ne.mpr c15
        simp only [Option.some.injEq, Prod.mk.injEq] at H
        obtain ⟨rfl, rfl, rfl, rfl, rfl⟩ := H
        go_wp2_with (first | (go_at_call 32; (with_reducible refine (tithebarnref01_Cursor_Int.calls kj4 g t406 t407 t408 t409 t410 t411 t412 w0 _ ?side1 ?side2 A14.out).mono ?_); (case side1 => repeat (first | (with_reducible first | exact HI0.out | apply IsS55.alloc | apply IsS55.drewN | apply IsS55.drew | apply IsS55.set_0 | apply IsS55.set_1 | apply IsS55.set_2) | exact HI0.out)); (case side2 => repeat (first | (with_reducible first | exact HB.out | apply below_alloc | apply pw_below_drewN | apply below_drew1 | refine below_set ?_ (IsS55.ge HI0.out)) | exact HB.out)); rintro e w27 ⟨rfl, hi, hb, hk⟩; have n0_ := Aside0.mk (Kd.R_mono (Kd.R_keep (IsS55.apart (show IsS55 w0 _ g t406 t407 t408 from z2_) (by (with_reducible repeat (first | apply Kd.R_alloc | apply Kd.R_drewN | apply Kd.R_drew)); exact HO_6.out) (by decide)) hk (fun _ h => h.2)) (fun _ h => h.1)); have n1_ := Aside0.mk (KeepBut.trans z0_ hk (.inl rfl)); have n2_ := Aside0.mk (hb); have n3_ := Aside0.mk (hi); clear HO_6; clear HK; clear HB; clear HI0; have HO_6 := n0_; have HK := n1_; have HB := n2_; have HI0 := n3_; clear n0_ n1_ n2_ n3_; (try clear hb); (try clear hb2); (try clear hk); (try clear hi); obtain ⟨HGz28, hgz28⟩ := HI0.out; have hcz28_0 := cellS55_0 HGz28; have hcz28_1 := cellS55_1 HGz28; have hcz28_2 := cellS55_2 HGz28; have hfz28_0 := blk_frozen HGz28 0; have hfz28_1 := blk_frozen HGz28 1; have hfz28_2 := blk_frozen HGz28 2; clear HGz28 hgz28))
        repeat (go_quiet (first | (go_at_call 32; (with_reducible refine (tithebarnref01_Cursor_Int.calls kj4 g t406 t407 t408 t409 t410 t411 t412 w0 _ ?side1 ?side2 A14.out).mono ?_); (case side1 => repeat (first | (with_reducible first | exact HI0.out | apply IsS55.alloc | apply IsS55.drewN | apply IsS55.drew | apply IsS55.set_0 | apply IsS55.set_1 | apply IsS55.set_2) | exact HI0.out)); (case side2 => repeat (first | (with_reducible first | exact HB.out | apply below_alloc | apply pw_below_drewN | apply below_drew1 | refine below_set ?_ (IsS55.ge HI0.out)) | exact HB.out)); rintro e w27 ⟨rfl, hi, hb, hk⟩; have n0_ := Aside0.mk (Kd.R_mono (Kd.R_keep (IsS55.apart (show IsS55 w0 _ g t406 t407 t408 from z2_) (by (with_reducible repeat (first | apply Kd.R_alloc | apply Kd.R_drewN | apply Kd.R_drew)); exact HO_6.out) (by decide)) hk (fun _ h => h.2)) (fun _ h => h.1)); have n1_ := Aside0.mk (KeepBut.trans z0_ hk (.inl rfl)); have n2_ := Aside0.mk (hb); have n3_ := Aside0.mk (hi); clear HO_6; clear HK; clear HB; clear HI0; have HO_6 := n0_; have HK := n1_; have HB := n2_; have HI0 := n3_; clear n0_ n1_ n2_ n3_; (try clear hb); (try clear hb2); (try clear hk); (try clear hi); obtain ⟨HGz28, hgz28⟩ := HI0.out; have hcz28_0 := cellS55_0 HGz28; have hcz28_1 := cellS55_1 HGz28; have hcz28_2 := cellS55_2 HGz28; have hfz28_0 := blk_frozen HGz28 0; have hfz28_1 := blk_frozen HGz28 1; have hfz28_2 := blk_frozen HGz28 2; clear HGz28 hgz28)); try go_wp2_with (first | (go_at_call 32; (with_reducible refine (tithebarnref01_Cursor_Int.calls kj4 g t406 t407 t408 t409 t410 t411 t412 w0 _ ?side1 ?side2 A14.out).mono ?_); (case side1 => repeat (first | (with_reducible first | exact HI0.out | apply IsS55.alloc | apply IsS55.drewN | apply IsS55.drew | apply IsS55.set_0 | apply IsS55.set_1 | apply IsS55.set_2) | exact HI0.out)); (case side2 => repeat (first | (with_reducible first | exact HB.out | apply below_alloc | apply pw_below_drewN | apply below_drew1 | refine below_set ?_ (IsS55.ge HI0.out)) | exact HB.out)); rintro e w27 ⟨rfl, hi, hb, hk⟩; have n0_ := Aside0.mk (Kd.R_mono (Kd.R_keep (IsS55.apart (show IsS55 w0 _ g t406 t407 t408 from z2_) (by (with_reducible repeat (first | apply Kd.R_alloc | apply Kd.R_drewN | apply Kd.R_drew)); exact HO_6.out) (by decide)) hk (fun _ h => h.2)) (fun _ h => h.1)); have n1_ := Aside0.mk (KeepBut.trans z0_ hk (.inl rfl)); have n2_ := Aside0.mk (hb); have n3_ := Aside0.mk (hi); clear HO_6; clear HK; clear HB; clear HI0; have HO_6 := n0_; have HK := n1_; have HB := n2_; have HI0 := n3_; clear n0_ n1_ n2_ n3_; (try clear hb); (try clear hb2); (try clear hk); (try clear hi); obtain ⟨HGz28, hgz28⟩ := HI0.out; have hcz28_0 := cellS55_0 HGz28; have hcz28_1 := cellS55_1 HGz28; have hcz28_2 := cellS55_2 HGz28; have hfz28_0 := blk_frozen HGz28 0; have hfz28_1 := blk_frozen HGz28 1; have hfz28_2 := blk_frozen HGz28 2; clear HGz28 hgz28)))
        go_ret2
        exact ⟨_, z6_, z10_, z2_, z3_, z0_⟩
   ·rw [if_neg c3] at H
    have c3b0 : decide ((x6_1.length : Int) < a1) = false := decide_eq_false c3
    clear c3
    simp only [Option.some.injEq, Prod.mk.injEq] at H
    obtain ⟨rfl, rfl, rfl, rfl, rfl⟩ := H
    obtain ⟨Ao29, co29, eo29⟩ := Kd.R_slice HO_6.out
    subst eo29
    go_wp2
    repeat (go_quiet (fail); try go_wp2)
    go_ret2
    exact ⟨_, z6_, by (with_reducible repeat (first | apply Kd.R_alloc | apply Kd.R_drewN | apply Kd.R_drew)); exact HO_6.out, z2_, z3_, z0_⟩
end Go.Proofs.Ytgeddoklmcjdcaa.G
namespace Go.Proofs.Ytgeddoklmcjdcaa.G
open Go.RowKit Go.Proofs.YtgeddoklmcjdcaaQ Go.Proofs.YtgeddoklmcjdcaaW.PrintWords Go.Proofs.YtgeddoklmcjdcaaW.PrintLast Go.Proofs.YtgeddoklmcjdcaaW.PrintMore
attribute [local go_sem] max2_int min2_int max_two min_two max_three min_three max_four min_four   -- for this text's walks alone
set_option linter.unusedVariables false
set_option linter.unusedSimpArgs false
mutual
def tithebarnref04_offsets.l0 : Nat → List Int → Int → Int → Option (Int × List Int)
 | 0, _, _, _ => none
 | k + 1, x0, x4, x5 => if x5 < (x0.length : Int) then (if 0 ≤ x5 then (tithebarnref04_offsets.l0 k x0 (mn x4 (rd x0 x5)) (wrap64 (x5 + 1))) else (none)) else (tithebarnref04_offsets.l1 k x0 x4 ([] : List Int) 0)
def tithebarnref04_offsets.l1 : Nat → List Int → Int → List Int → Int → Option (Int × List Int)
 | 0, _, _, _, _ => none
 | k + 1, x0, x4, x6, x7 => if x7 < (x0.length : Int) then (if 0 ≤ x7 then (if x6.length < 17592186044416 then (tithebarnref04_offsets.l1 k x0 x4 (x6 ++ [IntKind.u64.wrap ((IntKind.u64.wrap (rd x0 x7)) - (IntKind.u64.wrap (x4)))]) (wrap64 (x7 + 1))) else (none)) else (none)) else (some (x4, x6))
end
def tithebarnref04_offsets.f (k : Nat) (l0 : List Int) : Option (Int × List Int) := if 0 < (l0.length : Int) then (tithebarnref04_offsets.l0 k l0 (rd l0 0) 0) else (none)
theorem tithebarnref04_offsets.mono_l : ∀ k, (∀ y0 y1 y2, LeO (tithebarnref04_offsets.l0 k y0 y1 y2) (tithebarnref04_offsets.l0 (k + 1) y0 y1 y2)) ∧ (∀ y0 y1 y2 y3, LeO (tithebarnref04_offsets.l1 k y0 y1 y2 y3) (tithebarnref04_offsets.l1 (k + 1) y0 y1 y2 y3))
 | 0 => ⟨fun _ _ _ r h => by simp [tithebarnref04_offsets.l0] at h, fun _ _ _ _ r h => by simp [tithebarnref04_offsets.l1] at h⟩
 | k + 1 => by
  obtain ⟨ih0, ih1⟩ := tithebarnref04_offsets.mono_l k
  refine ⟨?_, ?_⟩
  ·intro y0 y1 y2
   unfold tithebarnref04_offsets.l0
   repeat' first
   | (with_reducible exact ih0 _ _ _)
   | (with_reducible exact ih1 _ _ _ _)
   | (with_reducible exact LeO.refl _)
   | (with_reducible exact LeO.none _)
   | (with_reducible refine LeO.ite ?_ ?_)
   | (with_reducible refine LeO.bind ?_ (fun _ => ?_))
   | exact ih0 _ _ _
   | exact ih1 _ _ _ _
   | exact LeO.none _
   | refine LeO.ite ?_ ?_
   | refine LeO.bind ?_ (fun _ => ?_)
  ·intro y0 y1 y2 y3
   unfold tithebarnref04_offsets.l1
   repeat' first
   | (with_reducible exact ih0 _ _ _)
   | (with_reducible exact ih1 _ _ _ _)
   | (with_reducible exact LeO.refl _)
   | (with_reducible exact LeO.none _)
   | (with_reducible refine LeO.ite ?_ ?_)
   | (with_reducible refine LeO.bind ?_ (fun _ => ?_))
   | exact ih0 _ _ _
   | exact ih1 _ _ _ _
   | exact LeO.none _
   | refine LeO.ite ?_ ?_
   | refine LeO.bind ?_ (fun _ => ?_)
theorem tithebarnref04_offsets.mono : ∀ a0 k, LeO (tithebarnref04_offsets.f k a0) (tithebarnref04_offsets.f (k + 1) a0) := by
 intro a0 k
 obtain ⟨ih0, ih1⟩ := tithebarnref04_offsets.mono_l k
 unfold tithebarnref04_offsets.f
 repeat' first
   | (with_reducible exact ih0 _ _ _)
   | (with_reducible exact ih1 _ _ _ _)
   | (with_reducible exact LeO.refl _)
   | (with_reducible exact LeO.none _)
   | (with_reducible refine LeO.ite ?_ ?_)
   | (with_reducible refine LeO.bind ?_ (fun _ => ?_))
   | exact ih0 _ _ _
   | exact ih1 _ _ _ _
   | exact LeO.none _
   | refine LeO.ite ?_ ?_
   | refine LeO.bind ?_ (fun _ => ?_)
set_option maxHeartbeats 8000000 in
set_option maxRecDepth 100000 in
theorem tithebarnref04_offsets.calls (k : Nat) (A0 : Option Addr) (c0 : Nat) (l0 : List Int) (r1 : Int) (r2 : List Int) (w : World) (hr0 : Kd.C (Kd.int .i64) w A0 l0.length l0) (hc0 : l0.length ≤ c0) (h : tithebarnref04_offsets.f k l0 = some (r1, r2)) :
  Calls Try.prog 43 #[.slice A0 l0.length c0] w fun e w' => ∃ v1_ : Value, e = .returned (.tuple #[.int .i64 r1, v1_]) ∧ Kd.R (Kd.int .u64) 44 w' w.heap.size (fun _ => True) v1_ r2 ∧ Below w.heap.size w w' := by
 have HR0 := Aside0.mk hr0
 have HC0 := Aside0.mk hc0
 clear hr0 hc0
 have HB := Aside0.mk (Below.refl w.heap.size w)
 have H : (if 0 < (l0.length : Int) then (tithebarnref04_offsets.l0 k l0 (rd l0 0) 0) else (none)) = some (r1, r2) := h
 clear h
 by_cases c2 : 0 < (l0.length : Int)
 ·rw [if_pos c2] at H
  have c2b0 : decide (0 < (l0.length : Int)) = true := decide_eq_true c2
  have c2b1 : decide (0 < l0.length) = true := decide_eq_true (by omega)
  clear c2
  have H' := Aside0.mk H
  clear H
  have p325 : 0 ≤ (0 : Int) := (by omega)
  have q325 : 0 < (l0.length : Int) := of_decide_eq_true z12_
  obtain ⟨ad325, e325, hx325_0⟩ := Kd.at_int HR0.out 0 p325 q325
  cases e325
  have qi325 : (0 < l0.length) = True := eq_true (by omega)
  (try rw [show ((0 : Int)).toNat = 0 from rfl] at hx325_0)
  (try rw [Addr.add_zero'] at hx325_0)
  replace p325 := eq_true p325
  replace q325 := eq_true q325
  go_enter Try.func43, Try.ntmps43
  go_wp2
  go_loopg [4, 5] k (fun kq v4 v5 w' => ∃ (x4_1 : Int) (x5_1 : Int), v4 = .int .i64 x4_1 ∧ v5 = .int .i64 x5_1 ∧ Aside0 (tithebarnref04_offsets.l0 kq l0 x4_1 x5_1 = some (r1, r2)) ∧ Aside0 (kq ≤ k) ∧ Aside0 (Below w.heap.size w w'))
  case atStart => exact ⟨(rd l0 0), (0), z11_, z11_, H', ⟨Nat.le_refl _⟩, ⟨z1_⟩⟩
  case round =>
   clear H'
   try clear c2
   try clear c2b0
   try clear c2b1
   try clear p2
   try clear hx325_0
   try clear p325
   try clear q325
   obtain ⟨x4_1, x5_1, rfl, rfl, HA, HK1, HB⟩ := hrel
   cases gk with
   | zero => exact absurd HA.out (by simp [tithebarnref04_offsets.l0])
   | succ k1 =>
    have H := HA.out
    clear HA
    simp only [tithebarnref04_offsets.l0] at H
    by_cases c3 : x5_1 < (l0.length : Int)
    ·rw [if_pos c3] at H
     have c3b0 : decide (x5_1 < (l0.length : Int)) = true := decide_eq_true c3
     clear c3
     by_cases c4 : 0 ≤ x5_1
     ·rw [if_pos c4] at H
      have c4b0 : decide (0 ≤ x5_1) = true := decide_eq_true c4
      clear c4
      obtain ⟨ji5, hji5⟩ : ∃ j_ : Int, (mn x4_1 (rd l0 x5_1)) = j_ := ⟨_, rfl⟩
      replace H : (tithebarnref04_offsets.l0 k1 l0 ji5 (wrap64 (x5_1 + 1))) = some (r1, r2) := by first | (rw [hji5] at H; exact H) | (simp only [hji5] at H ⊢; exact H)
      have hji5_ : (if (rd l0 x5_1) < x4_1 then (rd l0 x5_1) else x4_1) = ji5 := hji5
      have H' := Aside0.mk H
      clear H
      have p326 : 0 ≤ (x5_1 : Int) := of_decide_eq_true z12_
      have q326 : x5_1 < (l0.length : Int) := of_decide_eq_true z12_
      obtain ⟨ad326, e326, hx326_0⟩ := Kd.at_int HR0.out x5_1 p326 q326
      obtain rfl : ad325 = ad326 := (by injection e326)
      replace hx326_0 := (HB.out.cell (World.block_lt_of_cell? w _ hx326_0)).trans hx326_0
      replace p326 := eq_true p326
      replace q326 := eq_true q326
      go_wp2
      go_roundg k1
      case measure => have := HK1.out; omega
      case rel => exact ⟨(ji5), (wrap64 (x5_1 + 1)), (by first | rfl | (simp; done) | (simp only [← hji5] <;> (first | rfl | simp)) | (simp [*]; done)), z11_, H', ⟨by have := HK1.out; omega⟩, ⟨z1_⟩⟩
     ·rw [if_neg c4] at H
      exact absurd H (by simp)
    ·rw [if_neg c3] at H
     have c3b0 : decide (x5_1 < (l0.length : Int)) = false := decide_eq_false c3
     clear c3
     have H' := Aside0.mk H
     clear H
     go_wp2
     go_loopg [6, 7] k1 (fun kq v6 v7 w' => ∃ (x6_2 : List Int) (x7_2 : Int), v7 = .int .i64 x7_2 ∧ Aside0 (tithebarnref04_offsets.l1 kq l0 x4_1 x6_2 x7_2 = some (r1, r2)) ∧ Aside0 (kq ≤ k1) ∧ Aside0 (Kd.R (Kd.int .u64) 44 w' w.heap.size (fun _ => True) v6 x6_2) ∧ Aside0 (Below w.heap.size w w'))
     case atStart => exact ⟨(([] : List Int)), (0), z11_, H', ⟨Nat.le_refl _⟩, ⟨z10_⟩, ⟨z1_⟩⟩
     case round =>
      clear H'
      try clear c2
      try clear c2b0
      try clear c2b1
      try clear p2
      try clear c3
      try clear c3b0
      try clear p3
      try clear q3
      try clear hx3
      try clear qi3
      try clear c4
      try clear c4b0
      try clear hx325_0
      try clear hx326_0
      try clear p2
      try clear p325
      try clear p326
      try clear q325
      try clear q326
      obtain ⟨x6_2, x7_2, rfl, HA, HK2, HO_6, HB⟩ := hrel
      cases gk with
      | zero => exact absurd HA.out (by simp [tithebarnref04_offsets.l1])
      | succ k2 =>
       have H := HA.out
       clear HA
       simp only [tithebarnref04_offsets.l1] at H
       by_cases c6 : x7_2 < (l0.length : Int)
       ·rw [if_pos c6] at H
        have c6b0 : decide (x7_2 < (l0.length : Int)) = true := decide_eq_true c6
        clear c6
        by_cases c7 : 0 ≤ x7_2
        ·rw [if_pos c7] at H
         have c7b0 : decide (0 ≤ x7_2) = true := decide_eq_true c7
         clear c7
         by_cases c8 : x6_2.length < 17592186044416
         ·rw [if_pos c8] at H
          have LMc8 := Aside0.mk c8
          clear c8
          obtain ⟨y328, hy328⟩ : ∃ y_ : List Int, y_ = (x6_2 ++ [IntKind.u64.wrap ((IntKind.u64.wrap (rd l0 x7_2)) - (IntKind.u64.wrap (x4_1)))]) := ⟨_, rfl⟩
          replace H : (tithebarnref04_offsets.l1 k2 l0 x4_1 y328 (wrap64 (x7_2 + 1))) = some (r1, r2) := by first | (rw [hy328]; with_reducible exact H) | (have H2_ := (Option.bind_some _ _).symm.trans H; rw [hy328]; with_reducible exact H2_) | (have H2_ := (Option.bind_some _ _).symm.trans H; with_reducible exact H2_) | with_reducible exact H | (rw [hy328]; exact H) | exact H
          have Ny328 := Aside0.mk hy328
          clear hy328
          have H' := Aside0.mk H
          clear H
          have p327 : 0 ≤ (x7_2 : Int) := of_decide_eq_true z12_
          have q327 : x7_2 < (l0.length : Int) := of_decide_eq_true z12_
          obtain ⟨ad327, e327, hx327_0⟩ := Kd.at_int HR0.out x7_2 p327 q327
          obtain rfl : ad325 = ad327 := (by injection e327)
          replace hx327_0 := (HB.out.cell (World.block_lt_of_cell? w _ hx327_0)).trans hx327_0
          replace p327 := eq_true p327
          replace q327 := eq_true q327
          go_wp2_with (first | ((with_reducible refine gate_builtin (b := .append) (xs := #[.tmp 29, .tmp 38]) rfl ?_); at_builtin; refine Kd.R_append (Kd.int .u64) (w0 := w) w.heap.size rfl (.tmp 29) (.tmp 38) 59 44 (.int .u64 0) 8 rfl Try.underlying59 info44 rfl (by decide) (by omega) u6 x6_2 (IntKind.u64.wrap ((IntKind.u64.wrap (rd l0 x7_2)) - (IntKind.u64.wrap (x4_1)))) [.int .u64 (IntKind.u64.wrap ((IntKind.u64.wrap (rd l0 x7_2)) - (IntKind.u64.wrap (x4_1))))] (fun _ => True) (fun _ => False) rfl rfl ?aP (fun _ hk => hk.elim) ?aF ?aO ?aB ?aS ?aL ?_; (case aP => exact rfl); (case aB => exact z1_); (case aF => exact (fun _ _ => trivial)); (case aO => exact (by (with_reducible repeat (first | apply Kd.R_alloc | apply Kd.R_drewN | apply Kd.R_drew)); exact HO_6.out)); (case aS => exact (below_size z1_)); (case aL => have := LMc8.out; omega); intro v329 w9 ho hb hg hat; rw [← Ny328.out] at ho; have n0_ := Aside0.mk (hb); have n1_ := Aside0.mk (ho); clear HB; clear HO_6; have HB := n0_; have HO330 := n1_; clear n0_ n1_; clear ho hb hg hat))
          go_roundg k2
          case measure => have := HK1.out; have := HK2.out; omega
          case rel => exact ⟨(y328), (wrap64 (x7_2 + 1)), z11_, H', ⟨by have := HK1.out; have := HK2.out; omega⟩, ⟨by (with_reducible repeat (first | apply Kd.R_alloc | apply Kd.R_drewN | apply Kd.R_drew)); exact HO330.out⟩, ⟨z1_⟩⟩
         ·rw [if_neg c8] at H
          exact absurd H (by simp)
        ·rw [if_neg c7] at H
         exact absurd H (by simp)
       ·rw [if_neg c6] at H
        have c6b0 : decide (x7_2 < (l0.length : Int)) = false := decide_eq_false c6
        clear c6
        simp only [Option.some.injEq, Prod.mk.injEq] at H
        obtain ⟨rfl, rfl⟩ := H
        go_wp2
        go_ret2
        exact ⟨_, z6_, by (with_reducible repeat (first | apply Kd.R_alloc | apply Kd.R_drewN | apply Kd.R_drew)); exact HO_6.out, z1_⟩
 ·rw [if_neg c2] at H
  exact absurd H (by simp)
end Go.Proofs.Ytgeddoklmcjdcaa.G
namespace Go.Proofs.Ytgeddoklmcjdcaa.G
open Go.RowKit Go.Proofs.YtgeddoklmcjdcaaQ Go.Proofs.YtgeddoklmcjdcaaW.PrintWords Go.Proofs.YtgeddoklmcjdcaaW.PrintLast Go.Proofs.YtgeddoklmcjdcaaW.PrintMore
attribute [local go_sem] max2_int min2_int max_two min_two max_three min_three max_four min_four   -- for this text's walks alone
set_option linter.unusedVariables false
set_option linter.unusedSimpArgs false
def tithebarnref03_fits.f (a0 : Int) (a1 : Int) : Option (Bool) := if a1 ≥ 64 then (some true) else (if 0 ≤ (IntKind.u64.wrap (a1)) then (some (decide (a0 < (shl .u64 1 (IntKind.u64.wrap (a1)))))) else (none))
set_option maxHeartbeats 8000000 in
set_option maxRecDepth 100000 in
theorem tithebarnref03_fits.calls (a0 : Int) (a1 : Int) (r : Bool) (w : World) (h : tithebarnref03_fits.f a0 a1 = some r) :
  Calls Try.prog 64 #[.int .u64 a0, .int .i64 a1] w fun e w' => e = .returned (.bool r) ∧ Drawn0 w w' := by
 have H : (if a1 ≥ 64 then (some true) else (if 0 ≤ (IntKind.u64.wrap (a1)) then (some (decide (a0 < (shl .u64 1 (IntKind.u64.wrap (a1)))))) else (none))) = some r := h
 clear h
 by_cases c3 : a1 ≥ 64
 ·rw [if_pos c3] at H
  have c3b0 : decide (64 ≤ a1) = true := decide_eq_true c3
  clear c3
  obtain rfl := Option.some.inj H
  go_enter Try.func64, Try.ntmps64
  go_wp2
  go_ret
  exact ⟨z11_, z13_⟩
 ·rw [if_neg c3] at H
  have c3b0 : decide (64 ≤ a1) = false := decide_eq_false c3
  clear c3
  obtain ⟨ji4, hji4⟩ : ∃ j_ : Int, (IntKind.u64.wrap (a1)) = j_ := ⟨_, rfl⟩
  replace H : (if 0 ≤ (ji4) then (some (decide (a0 < (shl .u64 1 (ji4))))) else (none)) = some r := by first | (rw [hji4] at H; exact H) | (simp only [hji4] at H ⊢; exact H)
  by_cases c5 : 0 ≤ (ji4)
  ·rw [if_pos c5] at H
   have c5b0 := eq_true c5
   have c5b1 : decide (0 ≤ (ji4)) = true := decide_eq_true c5
   clear c5
   obtain ⟨ji6, hji6⟩ : ∃ j_ : Int, (shl .u64 1 (ji4)) = j_ := ⟨_, rfl⟩
   replace H : (some (decide (a0 < (ji6)))) = some r := by first | (rw [hji6] at H; exact H) | (simp only [hji6] at H ⊢; exact H)
   have hji6_ : (IntKind.u64.wrap (1 * 2 ^ min (ji4).toNat 64)) = ji6 := hji6
   have hji6z : (ji4) ≤ 64 → (IntKind.u64.wrap (1 * 2 ^ (ji4).toNat)) = ji6 := shl_small hji6
   have hji6u : (IntKind.u64.wrap (2 ^ min (ji4).toNat 64)) = ji6 := by have h_ := hji6_; rw [Int.one_mul] at h_; exact h_
   have hji6v : (ji4) ≤ 64 → (IntKind.u64.wrap (2 ^ (ji4).toNat)) = ji6 := fun hle_ => by have h_ := hji6z hle_; rw [Int.one_mul] at h_; exact h_
   obtain rfl := Option.some.inj H
   go_enter Try.func64, Try.ntmps64
   go_wp2
   go_ret
   exact ⟨by first | rfl | (simp; done) | (simp only [← hji4, ← hji6] <;> (first | rfl | simp)) | (simp [*]; done), z13_⟩
  ·rw [if_neg c5] at H
   exact absurd H (by simp)
mutual
def tithebarnref03_Width.l0 : Nat → List Int → Int → Int → Option (Int)
 | 0, _, _, _ => none
 | k + 1, x0, x3, x4 => if x4 < (x0.length : Int) then (tithebarnref03_Width.l1 k x0 x3 x4) else (some x3)
def tithebarnref03_Width.l1 : Nat → List Int → Int → Int → Option (Int)
 | 0, _, _, _ => none
 | k + 1, x0, x3, x4 => if 0 ≤ x4 then (if x4 < (x0.length : Int) then ((tithebarnref03_fits.f (rd x0 x4) x3).bind fun t332 => (if t332 = true then (tithebarnref03_Width.l0 k x0 x3 (wrap64 (x4 + 1))) else (tithebarnref03_Width.l1 k x0 (wrap64 (x3 + 1)) x4))) else (none)) else (none)
end
def tithebarnref03_Width.f (k : Nat) (l0 : List Int) : Option (Int) := tithebarnref03_Width.l0 k l0 0 0
theorem tithebarnref03_Width.mono_l : ∀ k, (∀ y0 y1 y2, LeO (tithebarnref03_Width.l0 k y0 y1 y2) (tithebarnref03_Width.l0 (k + 1) y0 y1 y2)) ∧ (∀ y0 y1 y2, LeO (tithebarnref03_Width.l1 k y0 y1 y2) (tithebarnref03_Width.l1 (k + 1) y0 y1 y2))
 | 0 => ⟨fun _ _ _ r h => by simp [tithebarnref03_Width.l0] at h, fun _ _ _ r h => by simp [tithebarnref03_Width.l1] at h⟩
 | k + 1 => by
  obtain ⟨ih0, ih1⟩ := tithebarnref03_Width.mono_l k
  refine ⟨?_, ?_⟩
  ·intro y0 y1 y2
   unfold tithebarnref03_Width.l0
   repeat' first
   | (with_reducible exact ih0 _ _ _)
   | (with_reducible exact ih1 _ _ _)
   | (with_reducible exact LeO.refl _)
   | (with_reducible exact LeO.none _)
   | (with_reducible refine LeO.ite ?_ ?_)
   | (with_reducible refine LeO.bind ?_ (fun _ => ?_))
   | exact ih0 _ _ _
   | exact ih1 _ _ _
   | exact LeO.none _
   | refine LeO.ite ?_ ?_
   | refine LeO.bind ?_ (fun _ => ?_)
  ·intro y0 y1 y2
   unfold tithebarnref03_Width.l1
   repeat' first
   | (with_reducible exact ih0 _ _ _)
   | (with_reducible exact ih1 _ _ _)
   | (with_reducible exact LeO.refl _)
   | (with_reducible exact LeO.none _)
   | (with_reducible refine LeO.ite ?_ ?_)
   | (with_reducible refine LeO.bind ?_ (fun _ => ?_))
   | exact ih0 _ _ _
   | exact ih1 _ _ _
   | exact LeO.none _
   | refine LeO.ite ?_ ?_
   | refine LeO.bind ?_ (fun _ => ?_)
theorem tithebarnref03_Width.mono : ∀ a0 k, LeO (tithebarnref03_Width.f k a0) (tithebarnref03_Width.f (k + 1) a0) := by
 intro a0 k
 obtain ⟨ih0, ih1⟩ := tithebarnref03_Width.mono_l k
 unfold tithebarnref03_Width.f
 repeat' first
   | (with_reducible exact ih0 _ _ _)
   | (with_reducible exact ih1 _ _ _)
   | (with_reducible exact LeO.refl _)
   | (with_reducible exact LeO.none _)
   | (with_reducible refine LeO.ite ?_ ?_)
   | (with_reducible refine LeO.bind ?_ (fun _ => ?_))
   | exact ih0 _ _ _
   | exact ih1 _ _ _
   | exact LeO.none _
   | refine LeO.ite ?_ ?_
   | refine LeO.bind ?_ (fun _ => ?_)
set_option maxHeartbeats 8000000 in
set_option maxRecDepth 100000 in
theorem tithebarnref03_Width.calls (k : Nat) (A0 : Option Addr) (c0 : Nat) (l0 : List Int) (r : Int) (w : World) (hr0 : Kd.C (Kd.int .u64) w A0 l0.length l0) (hc0 : l0.length ≤ c0) (h : tithebarnref03_Width.f k l0 = some r) :
  Calls Try.prog 44 #[.slice A0 l0.length c0] w fun e w' => e = .returned (.int .i64 r) ∧ Drawn0 w w' := by
 have HR0 := Aside0.mk hr0
 have HC0 := Aside0.mk hc0
 clear hr0 hc0
 have H : (tithebarnref03_Width.l0 k l0 0 0) = some r := h
 clear h
 have H' := Aside0.mk H
 clear H
 go_enter Try.func44, Try.ntmps44
 go_wp2
 go_loopg [3, 4] k (fun kq v3 v4 w' => ∃ (x3_1 : Int) (x4_1 : Int), v3 = .int .i64 x3_1 ∧ v4 = .int .i64 x4_1 ∧ Aside0 (tithebarnref03_Width.l0 kq l0 x3_1 x4_1 = some r) ∧ Aside0 (kq ≤ k) ∧ Drawn0 w w')
 case atStart => exact ⟨(0), (0), z11_, z11_, H', ⟨Nat.le_refl _⟩, z13_⟩
 case round =>
  clear H'
  obtain ⟨x3_1, x4_1, rfl, rfl, HA, HK1, ⟨m1, rfl⟩⟩ := hrel
  cases gk with
  | zero => exact absurd HA.out (by simp [tithebarnref03_Width.l0])
  | succ k1 =>
   have H := HA.out
   clear HA
   simp only [tithebarnref03_Width.l0] at H
   by_cases c2 : x4_1 < (l0.length : Int)
   ·rw [if_pos c2] at H
    have c2b0 : decide (x4_1 < (l0.length : Int)) = true := decide_eq_true c2
    clear c2
    have H' := Aside0.mk H
    clear H
    go_wp2
    go_loopg [3] k1 (fun kq v3 w' => ∃ (x3_2 : Int), v3 = .int .i64 x3_2 ∧ Aside0 (tithebarnref03_Width.l1 kq l0 x3_2 x4_1 = some r) ∧ Aside0 (kq ≤ k1) ∧ Drawn0 w w')
    case atStart => exact ⟨(x3_1), z11_, H', ⟨Nat.le_refl _⟩, z13_⟩
    case round =>
     clear H'
     try clear c2
     try clear c2b0
     try clear p2
     obtain ⟨x3_2, rfl, HA, HK2, ⟨m2, rfl⟩⟩ := hrel
     cases gk with
     | zero => exact absurd HA.out (by simp [tithebarnref03_Width.l1])
     | succ k2 =>
      have H := HA.out
      clear HA
      simp only [tithebarnref03_Width.l1] at H
      by_cases c3 : 0 ≤ x4_1
      ·rw [if_pos c3] at H
       have c3b0 : decide (0 ≤ x4_1) = true := decide_eq_true c3
       clear c3
       by_cases c4 : x4_1 < (l0.length : Int)
       ·rw [if_pos c4] at H
        have c4b0 : decide (x4_1 < (l0.length : Int)) = true := decide_eq_true c4
        clear c4
        replace H := Option.bind_eq_some_iff.mp H
        obtain ⟨t332, A50, H⟩ := H
        replace H : (if t332 = true then (tithebarnref03_Width.l0 k2 l0 x3_2 (wrap64 (x4_1 + 1))) else (tithebarnref03_Width.l1 k2 l0 (wrap64 (x3_2 + 1)) x4_1)) = some r := H
        have A5 := Aside0.mk A50
        clear A50
        by_cases c6 : t332 = true
        ·subst c6
         have H1 : (tithebarnref03_Width.l0 k2 l0 x3_2 (wrap64 (x4_1 + 1))) = some r := by rw [if_pos rfl] at H; exact H
         clear H
         have H := H1
         clear H1
         have H' := Aside0.mk H
         clear H
         have p331 : 0 ≤ (x4_1 : Int) := of_decide_eq_true z12_
         have q331 : x4_1 < (l0.length : Int) := of_decide_eq_true z12_
         obtain ⟨ad331, e331, hx331_0⟩ := Kd.at_int HR0.out x4_1 p331 q331
         cases e331
         replace p331 := eq_true p331
         replace q331 := eq_true q331
         go_wp2_with (first | ((with_reducible refine gate_callee (f := 64) rfl ?_); refine goesL_ (some 16) rfl rfl Try.func64 (by kernel_rfl) rfl #[.int .u64 (rd l0 x4_1), .int .i64 x3_2] rfl (by (try simp only [List.map_toArray, List.map_cons, List.map_nil]); first | done | rfl | (simp only [List.length_drop, List.length_take]; rfl) | (go_simp; simp [IntKind.wrap, IntKind.bits, IntKind.signed]; omega)) ?_; (with_reducible refine (tithebarnref03_fits.calls (rd l0 x4_1) x3_2 true _ A5.out).mono ?_); rintro e w' ⟨rfl, ⟨nd, rfl⟩⟩; refine ⟨_, rfl, ?_⟩))
         go_roundg k2
         case measure => have := HK1.out; have := HK2.out; omega
         case rel => exact ⟨(x3_2), (wrap64 (x4_1 + 1)), z11_, z11_, H', ⟨by have := HK1.out; have := HK2.out; omega⟩, z13_⟩
        ·replace c6 := Bool.eq_false_iff.mpr c6
         subst c6
         have H1 : (tithebarnref03_Width.l1 k2 l0 (wrap64 (x3_2 + 1)) x4_1) = some r := by rw [if_neg (show ¬ (false = true) by decide)] at H; exact H
         clear H
         have H := H1
         clear H1
         have H' := Aside0.mk H
         clear H
         have p331 : 0 ≤ (x4_1 : Int) := of_decide_eq_true z12_
         have q331 : x4_1 < (l0.length : Int) := of_decide_eq_true z12_
         obtain ⟨ad331, e331, hx331_0⟩ := Kd.at_int HR0.out x4_1 p331 q331
         cases e331
         replace p331 := eq_true p331
         replace q331 := eq_true q331
         go_wp2_with (first | ((with_reducible refine gate_callee (f := 64) rfl ?_); refine goesL_ (some 16) rfl rfl Try.func64 (by kernel_rfl) rfl #[.int .u64 (rd l0 x4_1), .int .i64 x3_2] rfl (by (try simp only [List.map_toArray, List.map_cons, List.map_nil]); first | done | rfl | (simp only [List.length_drop, List.length_take]; rfl) | (go_simp; simp [IntKind.wrap, IntKind.bits, IntKind.signed]; omega)) ?_; (with_reducible refine (tithebarnref03_fits.calls (rd l0 x4_1) x3_2 false _ A5.out).mono ?_); rintro e w' ⟨rfl, ⟨nd, rfl⟩⟩; refine ⟨_, rfl, ?_⟩))
         go_roundg k2
         case measure => have := HK1.out; have := HK2.out; omega
         case rel => exact ⟨(wrap64 (x3_2 + 1)), z11_, H', ⟨by have := HK1.out; have := HK2.out; omega⟩, z13_⟩
       ·rw [if_neg c4] at H
        exact absurd H (by simp)
      ·rw [if_neg c3] at H
       exact absurd H (by simp)
   ·rw [if_neg c2] at H
    have c2b0 : decide (x4_1 < (l0.length : Int)) = false := decide_eq_false c2
    clear c2
    obtain rfl := Option.some.inj H
    go_wp2
    go_ret
    exact ⟨z11_, z13_⟩
def tithebarnref03_Bytes.l0 : Nat → List Bool → List Int → Int → Option (ByteArray)
 | 0, _, _, _ => none
 | k + 1, x0, x3, x4 => if x4 < (x0.length : Int) then (if 0 ≤ x4 then (if rdOf false x0 x4 = true then (if 0 ≤ (wrap64 (Int.tdiv x4 8)) then (if (wrap64 (Int.tdiv x4 8)) < (x3.length : Int) then (if 0 ≤ (IntKind.u64.wrap (Int.tmod x4 8)) then (tithebarnref03_Bytes.l0 k x0 (x3.set ((wrap64 (Int.tdiv x4 8)) : Int).toNat (((rd x3 (wrap64 (Int.tdiv x4 8))) + (shl .u8 1 (IntKind.u64.wrap (Int.tmod x4 8)))) % 256)) (wrap64 (x4 + 1))) else (none)) else (none)) else (none)) else (tithebarnref03_Bytes.l0 k x0 x3 (wrap64 (x4 + 1)))) else (none)) else (some (strOfNums x3))
def tithebarnref03_Bytes.f (k : Nat) (l0 : List Bool) : Option (ByteArray) := if 0 ≤ (wrap64 (Int.tdiv (wrap64 ((l0.length : Int) + 7)) 8)) then (if (wrap64 (Int.tdiv (wrap64 ((l0.length : Int) + 7)) 8) : Int).toNat ≤ 281474976710656 then (tithebarnref03_Bytes.l0 k l0 (List.replicate (wrap64 (Int.tdiv (wrap64 ((l0.length : Int) + 7)) 8) : Int).toNat 0) 0) else (none)) else (none)
end Go.Proofs.Ytgeddoklmcjdcaa.G
