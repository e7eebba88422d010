import Derived.Test.YtagokgijffpdnaaZQA
import Derived.Test.YtagokgijffpdnaaZG3
import Derived.WalkKit
import Derived.ProofKit
import Derived.OpenShut
import Derived.JoinedCond
import Derived.ShutString
import Derived.ChangeOld
import Derived.Below
import Derived.SizedLaws
import Derived.Lib.SmallJoins
import Derived.Test.YtagokgijffpdnaaRows
import Derived.Test.YtagokgijffpdnaaZWWords
namespace Go.Proofs.Ytagokgijffpdnaa.G
open Go.RowKit Go.Proofs.YtagokgijffpdnaaQ Go.Proofs.YtagokgijffpdnaaW.PrintWords Go.Proofs.YtagokgijffpdnaaW.PrintLast Go.Proofs.YtagokgijffpdnaaW.PrintMore
attribute [local go_sem] max2_int min2_int max_two min_two max_three min_three max_four min_four   -- for this text's walks alone
set_option linter.unusedVariables false
set_option linter.unusedSimpArgs false
def tithebarnlaw16_lives.g (k : Nat)  : Option (Bool) := (manifest_Apply.f ([] : List (S36)) 0 0 ([] : List Int) (([(⟨1, 0, (⟨false, 0, (⟨#[]⟩ : ByteArray)⟩ : S34), (⟨false, 0, (⟨#[]⟩ : ByteArray)⟩ : S34)⟩ : S36)] : List (S36))) 0 2).bind fun bt121 => ((manifest_Apply.f bt121.1 bt121.2.1 bt121.2.2.1 (([1] : List Int)) (([(⟨2, 0, (⟨false, 0, (⟨#[]⟩ : ByteArray)⟩ : S34), (⟨false, 0, (⟨#[]⟩ : ByteArray)⟩ : S34)⟩ : S36)] : List (S36))) 0 3).bind fun bt134 => (if bt121.2.2.2 = 0 then (if bt134.2.2.2 = 0 then (if (bt134.1.length : Int) = 1 then (if 0 < (bt134.1.length : Int) then (if ((rd_T36 bt134.1 0).f0) = 2 then (if bt134.2.2.1 = 3 then ((manifest_Same.f k bt134.1 bt134.2.1 bt134.2.2.1 bt134.1 bt134.2.1 bt134.2.2.1).bind fun t142 => (if t142 = true then ((manifest_Same.f k bt121.1 bt121.2.1 bt121.2.2.1 bt134.1 bt134.2.1 bt134.2.2.1).bind fun t143 => (some (!t143))) else (some false))) else (some false)) else (some false)) else (none)) else (some false)) else (some false)) else (some false)))
theorem tithebarnlaw16_lives.monog : ∀ k, LeO (tithebarnlaw16_lives.g k ) (tithebarnlaw16_lives.g (k + 1) ) := by
 intro  k
 unfold tithebarnlaw16_lives.g
 repeat' first
   | (with_reducible exact manifest_Same.mono _ _ _ _ _ _ _)
   | (with_reducible exact LeO.refl _)
   | (with_reducible exact LeO.none _)
   | (with_reducible refine LeO.ite ?_ ?_)
   | (with_reducible refine LeO.bind ?_ (fun _ => ?_))
   | exact manifest_Same.mono _ _ _ _ _ _ _
   | exact LeO.none _
   | refine LeO.ite ?_ ?_
   | refine LeO.bind ?_ (fun _ => ?_)
set_option maxHeartbeats 8000000 in
set_option maxRecDepth 100000 in
theorem tithebarnlaw16_lives.callsT (k : Nat)  (r : Bool) (w : World) (hr_ : r = true) (h : tithebarnlaw16_lives.g k  = some r) :
  Calls Try.prog 8 #[] w fun e w' => e = .returned (.bool r) ∧ Below w.heap.size w w' := by
 have HR_ := Aside0.mk hr_; clear hr_
 have hu26 := Try.underlying26
 have hu36 := Try.underlying36
 have hu32 := Try.underlying32
 have HB := Aside0.mk (Below.refl w.heap.size w)
 have H : ((manifest_Apply.f ([] : List (S36)) 0 0 ([] : List Int) (([(⟨1, 0, (⟨false, 0, (⟨#[]⟩ : ByteArray)⟩ : S34), (⟨false, 0, (⟨#[]⟩ : ByteArray)⟩ : S34)⟩ : S36)] : List (S36))) 0 2).bind fun bt121 => ((manifest_Apply.f bt121.1 bt121.2.1 bt121.2.2.1 (([1] : List Int)) (([(⟨2, 0, (⟨false, 0, (⟨#[]⟩ : ByteArray)⟩ : S34), (⟨false, 0, (⟨#[]⟩ : ByteArray)⟩ : S34)⟩ : S36)] : List (S36))) 0 3).bind fun bt134 => (if bt121.2.2.2 = 0 then (if bt134.2.2.2 = 0 then (if (bt134.1.length : Int) = 1 then (if 0 < (bt134.1.length : Int) then (if ((rd_T36 bt134.1 0).f0) = 2 then (if bt134.2.2.1 = 3 then ((manifest_Same.f k bt134.1 bt134.2.1 bt134.2.2.1 bt134.1 bt134.2.1 bt134.2.2.1).bind fun t142 => (if t142 = true then ((manifest_Same.f k bt121.1 bt121.2.1 bt121.2.2.1 bt134.1 bt134.2.1 bt134.2.2.1).bind fun t143 => (some (!t143))) else (some false))) else (some false)) else (some false)) else (none)) else (some false)) else (some false)) else (some false)))) = some r := h
 clear h
 obtain ⟨y118, hy118⟩ : ∃ y_ : List (S36), y_ = (([(⟨1, 0, (⟨false, 0, (⟨#[]⟩ : ByteArray)⟩ : S34), (⟨false, 0, (⟨#[]⟩ : ByteArray)⟩ : S34)⟩ : S36)] : List (S36))) := ⟨_, rfl⟩
 replace H : ((manifest_Apply.f ([] : List (S36)) 0 0 ([] : List Int) y118 0 2).bind fun bt121 => ((manifest_Apply.f bt121.1 bt121.2.1 bt121.2.2.1 (([1] : List Int)) (([(⟨2, 0, (⟨false, 0, (⟨#[]⟩ : ByteArray)⟩ : S34), (⟨false, 0, (⟨#[]⟩ : ByteArray)⟩ : S34)⟩ : S36)] : List (S36))) 0 3).bind fun bt134 => (if bt121.2.2.2 = 0 then (if bt134.2.2.2 = 0 then (if (bt134.1.length : Int) = 1 then (if 0 < (bt134.1.length : Int) then (if ((rd_T36 bt134.1 0).f0) = 2 then (if bt134.2.2.1 = 3 then ((manifest_Same.f k bt134.1 bt134.2.1 bt134.2.2.1 bt134.1 bt134.2.1 bt134.2.2.1).bind fun t142 => (if t142 = true then ((manifest_Same.f k bt121.1 bt121.2.1 bt121.2.2.1 bt134.1 bt134.2.1 bt134.2.2.1).bind fun t143 => (some (!t143))) else (some false))) else (some false)) else (some false)) else (none)) else (some false)) else (some false)) else (some false)))) = some r := by first | (rw [hy118]; with_reducible exact H) | (have H2_ := (Option.bind_some _ _).symm.trans H; rw [hy118]; with_reducible exact H2_) | (have H2_ := (Option.bind_some _ _).symm.trans H; with_reducible exact H2_) | with_reducible exact H | (rw [hy118]; exact H) | exact H
 have Ny118 := Aside0.mk hy118
 clear hy118
 replace H := Option.bind_eq_some_iff.mp H
 obtain ⟨⟨t121, t124, t125, t126⟩, A10, H⟩ := H
 replace H : ((manifest_Apply.f t121 t124 t125 (([1] : List Int)) (([(⟨2, 0, (⟨false, 0, (⟨#[]⟩ : ByteArray)⟩ : S34), (⟨false, 0, (⟨#[]⟩ : ByteArray)⟩ : S34)⟩ : S36)] : List (S36))) 0 3).bind fun bt134 => (if t126 = 0 then (if bt134.2.2.2 = 0 then (if (bt134.1.length : Int) = 1 then (if 0 < (bt134.1.length : Int) then (if ((rd_T36 bt134.1 0).f0) = 2 then (if bt134.2.2.1 = 3 then ((manifest_Same.f k bt134.1 bt134.2.1 bt134.2.2.1 bt134.1 bt134.2.1 bt134.2.2.1).bind fun t142 => (if t142 = true then ((manifest_Same.f k t121 t124 t125 bt134.1 bt134.2.1 bt134.2.2.1).bind fun t143 => (some (!t143))) else (some false))) else (some false)) else (some false)) else (none)) else (some false)) else (some false)) else (some false))) = some r := H
 have A1 := Aside0.mk A10
 clear A10
 obtain ⟨y128, hy128⟩ : ∃ y_ : List Int, y_ = (([1] : List Int)) := ⟨_, rfl⟩
 replace H : ((manifest_Apply.f t121 t124 t125 y128 (([(⟨2, 0, (⟨false, 0, (⟨#[]⟩ : ByteArray)⟩ : S34), (⟨false, 0, (⟨#[]⟩ : ByteArray)⟩ : S34)⟩ : S36)] : List (S36))) 0 3).bind fun bt134 => (if t126 = 0 then (if bt134.2.2.2 = 0 then (if (bt134.1.length : Int) = 1 then (if 0 < (bt134.1.length : Int) then (if ((rd_T36 bt134.1 0).f0) = 2 then (if bt134.2.2.1 = 3 then ((manifest_Same.f k bt134.1 bt134.2.1 bt134.2.2.1 bt134.1 bt134.2.1 bt134.2.2.1).bind fun t142 => (if t142 = true then ((manifest_Same.f k t121 t124 t125 bt134.1 bt134.2.1 bt134.2.2.1).bind fun t143 => (some (!t143))) else (some false))) else (some false)) else (some false)) else (none)) else (some false)) else (some false)) else (some false))) = some r := by first | (rw [hy128]; with_reducible exact H) | (have H2_ := (Option.bind_some _ _).symm.trans H; rw [hy128]; with_reducible exact H2_) | (have H2_ := (Option.bind_some _ _).symm.trans H; with_reducible exact H2_) | with_reducible exact H | (rw [hy128]; exact H) | exact H
 have Ny128 := Aside0.mk hy128
 clear hy128
 obtain ⟨y131, hy131⟩ : ∃ y_ : List (S36), y_ = (([(⟨2, 0, (⟨false, 0, (⟨#[]⟩ : ByteArray)⟩ : S34), (⟨false, 0, (⟨#[]⟩ : ByteArray)⟩ : S34)⟩ : S36)] : List (S36))) := ⟨_, rfl⟩
 replace H : ((manifest_Apply.f t121 t124 t125 y128 y131 0 3).bind fun bt134 => (if t126 = 0 then (if bt134.2.2.2 = 0 then (if (bt134.1.length : Int) = 1 then (if 0 < (bt134.1.length : Int) then (if ((rd_T36 bt134.1 0).f0) = 2 then (if bt134.2.2.1 = 3 then ((manifest_Same.f k bt134.1 bt134.2.1 bt134.2.2.1 bt134.1 bt134.2.1 bt134.2.2.1).bind fun t142 => (if t142 = true then ((manifest_Same.f k t121 t124 t125 bt134.1 bt134.2.1 bt134.2.2.1).bind fun t143 => (some (!t143))) else (some false))) else (some false)) else (some false)) else (none)) else (some false)) else (some false)) else (some false))) = some r := by first | (rw [hy131]; with_reducible exact H) | (have H2_ := (Option.bind_some _ _).symm.trans H; rw [hy131]; with_reducible exact H2_) | (have H2_ := (Option.bind_some _ _).symm.trans H; with_reducible exact H2_) | with_reducible exact H | (rw [hy131]; exact H) | exact H
 have Ny131 := Aside0.mk hy131
 clear hy131
 replace H := Option.bind_eq_some_iff.mp H
 obtain ⟨⟨t134, t137, t138, t139⟩, A20, H⟩ := H
 replace H : (if t126 = 0 then (if t139 = 0 then (if (t134.length : Int) = 1 then (if 0 < (t134.length : Int) then (if ((rd_T36 t134 0).f0) = 2 then (if t138 = 3 then ((manifest_Same.f k t134 t137 t138 t134 t137 t138).bind fun t142 => (if t142 = true then ((manifest_Same.f k t121 t124 t125 t134 t137 t138).bind fun t143 => (some (!t143))) else (some false))) else (some false)) else (some false)) else (none)) else (some false)) else (some false)) else (some false)) = some r := H
 have A2 := Aside0.mk A20
 clear A20
 by_cases c3 : t126 = 0
 ·rw [if_pos c3] at H
  have c3b0 : (t126 == 0) = true := beq_iff_eq.mpr c3
  have c3b1 : (t126 != 0) = false := bne_eq_false_iff_eq.mpr c3
  clear c3
  by_cases c4 : t139 = 0
  ·rw [if_pos c4] at H
   have c4b0 : (t139 == 0) = true := beq_iff_eq.mpr c4
   have c4b1 : (t139 != 0) = false := bne_eq_false_iff_eq.mpr c4
   clear c4
   by_cases c5 : (t134.length : Int) = 1
   ·rw [if_pos c5] at H
    have c5b0 : ((t134.length : Int) == 1) = true := beq_iff_eq.mpr c5
    have c5b1 : ((t134.length : Int) != 1) = false := bne_eq_false_iff_eq.mpr c5
    clear c5
    by_cases c6 : 0 < (t134.length : Int)
    ·rw [if_pos c6] at H
     have c6b0 : decide (0 < (t134.length : Int)) = true := decide_eq_true c6
     have c6b1 : decide (0 < t134.length) = true := decide_eq_true (by omega)
     clear c6
     by_cases c7 : ((rd_T36 t134 0).f0) = 2
     ·rw [if_pos c7] at H
      have c7b0 : (((rd_T36 t134 0).f0) == 2) = true := beq_iff_eq.mpr c7
      have c7b1 : (((rd_T36 t134 0).f0) != 2) = false := bne_eq_false_iff_eq.mpr c7
      clear c7
      by_cases c8 : t138 = 3
      ·rw [if_pos c8] at H
       have c8b0 : (t138 == 3) = true := beq_iff_eq.mpr c8
       have c8b1 : (t138 != 3) = false := bne_eq_false_iff_eq.mpr c8
       clear c8
       replace H := Option.bind_eq_some_iff.mp H
       obtain ⟨t142, A90, H⟩ := H
       replace H : (if t142 = true then ((manifest_Same.f k t121 t124 t125 t134 t137 t138).bind fun t143 => (some (!t143))) else (some false)) = some r := H
       have A9 := Aside0.mk A90
       clear A90
       by_cases c10 : t142 = true
       ·subst c10
        have H1 : ((manifest_Same.f k t121 t124 t125 t134 t137 t138).bind fun t143 => (some (!t143))) = some r := by rw [if_pos rfl] at H; exact H
        clear H
        have H := H1
        clear H1
        replace H := Option.bind_eq_some_iff.mp H
        obtain ⟨t143, A110, H⟩ := H
        replace H : (some (!t143)) = some r := H
        have A11 := Aside0.mk A110
        clear A110
        skip   -- leaf 0 stays
        obtain rfl := Option.some.inj H
        go_enter Try.func8, Try.ntmps8
        go_wp2_with (first | ((with_reducible refine gate_dst (N := 8) rfl ?_); (try (refine gate_guard (by rfl) ?_; dsimp only)); refine Kd.R_lit k36 _ 36 ?hg (N := 8) ?hd (xs := ([(⟨1, 0, (⟨false, 0, (⟨#[]⟩ : ByteArray)⟩ : S34), (⟨false, 0, (⟨#[]⟩ : ByteArray)⟩ : S34)⟩ : S36)] : List (S36))) (inner := [.int .i64 1, .int .i64 0, .bool false, .int .i64 0, .string (⟨#[]⟩ : ByteArray), .bool false, .int .i64 0, .string (⟨#[]⟩ : ByteArray)]) (ok := fun _ => True) (okp := fun _ => True) ?hr ?hp (fun _ hk => hk) trivial (Below.refl _ _) (Nat.le_refl _) (by simp) ?_; (case hd => rfl); (case hg => rfl); (case hr => first | (go_simp; done) | (go_simp; rfl)); (case hp => exact (Reps.c8 (show Kd.M k36 _ _ _ (⟨1, 0, (⟨false, 0, (⟨#[]⟩ : ByteArray)⟩ : S34), (⟨false, 0, (⟨#[]⟩ : ByteArray)⟩ : S34)⟩ : S36) [.int .i64 1, .int .i64 0, .bool false, .int .i64 0, .string (⟨#[]⟩ : ByteArray), .bool false, .int .i64 0, .string (⟨#[]⟩ : ByteArray)] from (k36_mkM _ _ _ (⟨1, 0, (⟨false, 0, (⟨#[]⟩ : ByteArray)⟩ : S34), (⟨false, 0, (⟨#[]⟩ : ByteArray)⟩ : S34)⟩ : S36) )) (Reps.none _ _))); intro v119 w12 ho13 hb hg_ hnew_; clear hg_ hnew_; (first | rw [← Ny118.out] at ho13 | (simp only [Int.reduceToNat] at ho13; rw [← Ny118.out] at ho13)); have n0_ := Aside0.mk (Kd.R_lower ho13 (below_size z0_)); have n1_ := Aside0.mk (below_step z0_ hb); clear HB; have HO120 := n0_; have HB := n1_; clear n0_ n1_; clear hb ho13; obtain ⟨Ao14, co14, eo14⟩ := Kd.R_slice HO120.out; subst eo14) | ((with_reducible refine gate_callee (f := 9) rfl ?_); refine goesL_ (some 10) rfl rfl Try.func9 (by kernel_rfl) rfl #[.agg #[.slice none 0 0, .int .i64 0, .int .i64 0], .agg #[.slice none 0 0, .slice Ao14 y118.length co14, .int .i64 0, .int .i64 2]] rfl (by (try simp only [List.map_toArray, List.map_cons, List.map_nil]); first | done | rfl | (simp only [List.length_drop, List.length_take]; rfl) | (go_simp; simp [IntKind.wrap, IntKind.bits, IntKind.signed]; omega)) ?_; (refine (manifest_Apply.calls _ _ ([] : List (S36)) 0 0 _ _ ([] : List Int) _ _ y118 0 2 t121 t124 t125 t126 _ ?side1 ?side2 ?side3 ?side4 ?side5 ?side6 A1.out).mono ?_); (case side1 => exact Kd.C_nil _ _); (case side2 => exact Nat.le_refl _); (case side3 => exact Kd.C_nil _ _); (case side4 => exact Nat.le_refl _); (case side5 => repeat (first | exact (Kd.R_reads' HO120.out).2.2 | (with_reducible refine Kd.C_alloc ?_ _) | (with_reducible refine Kd.C_drewN ?_ _) | (with_reducible refine Kd.C_drew ?_))); (case side6 => exact (Kd.R_reads' HO120.out).2.1); rintro e w15 ⟨v122, rfl, ho0, hb⟩; refine ⟨_, rfl, ?_⟩; have n0_ := Aside0.mk (Kd.R_elder' (by (with_reducible repeat (first | apply Kd.R_alloc | apply Kd.R_drewN | apply Kd.R_drew)); exact HO120.out) (Kd.R_base ho0) hb); have n1_ := Aside0.mk (Kd.R_lower (Kd.R_new' ho0 (Kd.R_lt (by (with_reducible repeat (first | apply Kd.R_alloc | apply Kd.R_drewN | apply Kd.R_drew)); exact HO120.out))) (below_size z0_)); have n2_ := Aside0.mk (below_step z0_ hb); clear HO120; clear HB; have HO120 := n0_; have HO123 := n1_; have HB := n2_; clear n0_ n1_ n2_; (try clear hb); (try clear hb2); (try clear hk); (try clear hi); (try clear ho0)) | ((with_reducible refine gate_dst (N := 1) rfl ?_); (try (refine gate_guard (by rfl) ?_; dsimp only)); refine box_event ?hg (N := 1) ?hd (cs := #[.slice none 0 0, .int .i64 0, .int .i64 0]) (t := 26) ?hr ?_; (case hd => rfl); (case hg => rfl); (case hr => first | (go_simp; done) | (go_simp; rfl)); intro gb127 hg w16 hbox hb; have n0_ := Aside0.mk (Kd.R_below (by (with_reducible repeat (first | apply Kd.R_alloc | apply Kd.R_drewN | apply Kd.R_drew)); exact HO120.out) hb); have n1_ := Aside0.mk (Kd.R_below (by (with_reducible repeat (first | apply Kd.R_alloc | apply Kd.R_drewN | apply Kd.R_drew)); exact HO123.out) hb); have n2_ := Aside0.mk (below_step z0_ hb); have n3_ := Aside0.mk (hbox); have n4_ := Aside0.mk ((by rw [hg]; exact (below_size z0_) : w.heap.size ≤ gb127)); have n5_ := Aside0.mk ((by rw [hg]; exact (below_size z0_) : w.heap.size ≤ gb127)); clear HO120; clear HO123; clear HB; have HO120 := n0_; have HO123 := n1_; have HB := n2_; have BK127 := n3_; have GW127 := n4_; have GE127 := n5_; clear n0_ n1_ n2_ n3_ n4_ n5_; clear hb hbox hg; obtain ⟨Ao17, co17, eo17⟩ := Kd.R_slice HO123.out; subst eo17; have hcz18_0 : w16.cell? ⟨gb127, 0, none⟩ = some (.slice none 0 0) := (blk_cell BK127.out 0).trans rfl; have hcz18_1 : w16.cell? ⟨gb127, 1, none⟩ = some (.int .i64 0) := (blk_cell BK127.out 1).trans rfl; have hcz18_2 : w16.cell? ⟨gb127, 2, none⟩ = some (.int .i64 0) := (blk_cell BK127.out 2).trans rfl; have hfz18_0 := blk_frozen BK127.out 0; have hfz18_1 := blk_frozen BK127.out 1; have hfz18_2 := blk_frozen BK127.out 2) | ((with_reducible refine gate_dst (N := 15) rfl ?_); (try (refine gate_guard (by rfl) ?_; dsimp only)); refine Kd.R_lit (Kd.int .i64) _ 3 ?hg (N := 15) ?hd (xs := ([1] : List Int)) (inner := [.int .i64 1]) (ok := fun _ => True) (okp := fun _ => True) ?hr ?hp (fun _ hk => hk) trivial (Below.refl _ _) (Nat.le_refl _) (by simp) ?_; (case hd => rfl); (case hg => rfl); (case hr => first | (go_simp; done) | (go_simp; rfl)); (case hp => exact (Reps.one (show Kd.M (Kd.int .i64) _ _ _ 1 [.int .i64 1] from rfl) (Reps.none _ _))); intro v129 w19 ho20 hb hg_ hnew_; clear hg_ hnew_; (first | rw [← Ny128.out] at ho20 | (simp only [Int.reduceToNat] at ho20; rw [← Ny128.out] at ho20)); have n0_ := Aside0.mk (Kd.R_below (by (with_reducible repeat (first | apply Kd.R_alloc | apply Kd.R_drewN | apply Kd.R_drew)); exact (Kd.R_mono (Kd.R_far (p := ⟨gb127, 2, none⟩) (Kd.R_far (p := ⟨gb127, 1, none⟩) (Kd.R_far (p := ⟨gb127, 0, none⟩) (Kd.R_types HO120.out BK127.out (by decide)) (fun _ hk => hk.2) (.slice Ao17 t121.length co17)) (fun _ hk => hk.2) (.int .i64 t124)) (fun _ hk => hk.2) (.int .i64 t125)) (fun _ h_ => h_.1))) hb); have n1_ := Aside0.mk (Kd.R_below (by (with_reducible repeat (first | apply Kd.R_alloc | apply Kd.R_drewN | apply Kd.R_drew)); exact (Kd.R_mono (Kd.R_far (p := ⟨gb127, 2, none⟩) (Kd.R_far (p := ⟨gb127, 1, none⟩) (Kd.R_far (p := ⟨gb127, 0, none⟩) (Kd.R_types HO123.out BK127.out (by decide)) (fun _ hk => hk.2) (.slice Ao17 t121.length co17)) (fun _ hk => hk.2) (.int .i64 t124)) (fun _ hk => hk.2) (.int .i64 t125)) (fun _ h_ => h_.1))) hb); have n2_ := Aside0.mk (Kd.R_lower ho20 (below_size z17_)); have n3_ := Aside0.mk (blk_below (g := gb127) (o := .cells #[.slice Ao17 t121.length co17, .int .i64 t124, .int .i64 t125] 26 (0, 0)) (by (with_reducible repeat (first | refine blk_drewN ?_ _ | refine blk_drew ?_ | refine blk_alloc ?_ _)); refine blk_put (cs := #[.slice Ao17 t121.length co17, .int .i64 t124, .int .i64 0]) ?_ 2 _ rfl; (with_reducible repeat (first | refine blk_drewN ?_ _ | refine blk_drew ?_ | refine blk_alloc ?_ _)); refine blk_put (cs := #[.slice Ao17 t121.length co17, .int .i64 0, .int .i64 0]) ?_ 1 _ rfl; (with_reducible repeat (first | refine blk_drewN ?_ _ | refine blk_drew ?_ | refine blk_alloc ?_ _)); refine blk_put (cs := #[.slice none 0 0, .int .i64 0, .int .i64 0]) ?_ 0 _ rfl; (with_reducible repeat (first | refine blk_drewN ?_ _ | refine blk_drew ?_ | refine blk_alloc ?_ _)); exact BK127.out) hb); have n4_ := Aside0.mk (below_step z17_ hb); clear HO120; clear HO123; clear BK127; clear HB; have HO120 := n0_; have HO123 := n1_; have HO130 := n2_; have BK127 := n3_; have HB := n4_; clear n0_ n1_ n2_ n3_ n4_; clear hb ho20) | ((with_reducible refine gate_dst (N := 17) rfl ?_); (try (refine gate_guard (by rfl) ?_; dsimp only)); refine Kd.R_lit k36 _ 36 ?hg (N := 17) ?hd (xs := ([(⟨2, 0, (⟨false, 0, (⟨#[]⟩ : ByteArray)⟩ : S34), (⟨false, 0, (⟨#[]⟩ : ByteArray)⟩ : S34)⟩ : S36)] : List (S36))) (inner := [.int .i64 2, .int .i64 0, .bool false, .int .i64 0, .string (⟨#[]⟩ : ByteArray), .bool false, .int .i64 0, .string (⟨#[]⟩ : ByteArray)]) (ok := fun _ => True) (okp := fun _ => True) ?hr ?hp (fun _ hk => hk) trivial (Below.refl _ _) (Nat.le_refl _) (by simp) ?_; (case hd => rfl); (case hg => rfl); (case hr => first | (go_simp; done) | (go_simp; rfl)); (case hp => exact (Reps.c8 (show Kd.M k36 _ _ _ (⟨2, 0, (⟨false, 0, (⟨#[]⟩ : ByteArray)⟩ : S34), (⟨false, 0, (⟨#[]⟩ : ByteArray)⟩ : S34)⟩ : S36) [.int .i64 2, .int .i64 0, .bool false, .int .i64 0, .string (⟨#[]⟩ : ByteArray), .bool false, .int .i64 0, .string (⟨#[]⟩ : ByteArray)] from (k36_mkM _ _ _ (⟨2, 0, (⟨false, 0, (⟨#[]⟩ : ByteArray)⟩ : S34), (⟨false, 0, (⟨#[]⟩ : ByteArray)⟩ : S34)⟩ : S36) )) (Reps.none _ _))); intro v132 w21 ho22 hb hg_ hnew_; clear hg_ hnew_; (first | rw [← Ny131.out] at ho22 | (simp only [Int.reduceToNat] at ho22; rw [← Ny131.out] at ho22)); have n0_ := Aside0.mk (Kd.R_elder' (by (with_reducible repeat (first | apply Kd.R_alloc | apply Kd.R_drewN | apply Kd.R_drew)); exact HO120.out) (Kd.R_base ho22) hb); have n1_ := Aside0.mk (Kd.R_elder' (by (with_reducible repeat (first | apply Kd.R_alloc | apply Kd.R_drewN | apply Kd.R_drew)); exact HO123.out) (Kd.R_base ho22) hb); have n2_ := Aside0.mk (Kd.R_below (by (with_reducible repeat (first | apply Kd.R_alloc | apply Kd.R_drewN | apply Kd.R_drew)); exact HO130.out) hb); have n3_ := Aside0.mk (Kd.R_lower (Kd.R_new' (Kd.R_new' ho22 (Kd.R_lt (by (with_reducible repeat (first | apply Kd.R_alloc | apply Kd.R_drewN | apply Kd.R_drew)); exact HO120.out))) (Kd.R_lt (by (with_reducible repeat (first | apply Kd.R_alloc | apply Kd.R_drewN | apply Kd.R_drew)); exact HO123.out))) (below_size z17_)); have n4_ := Aside0.mk (blk_below (g := gb127) (o := .cells #[.slice Ao17 t121.length co17, .int .i64 t124, .int .i64 t125] 26 (0, 0)) (by (with_reducible repeat (first | refine blk_drewN ?_ _ | refine blk_drew ?_ | refine blk_alloc ?_ _)); exact BK127.out) hb); have n5_ := Aside0.mk (below_step z17_ hb); clear HO120; clear HO123; clear HO130; clear BK127; clear HB; have HO120 := n0_; have HO123 := n1_; have HO130 := n2_; have HO133 := n3_; have BK127 := n4_; have HB := n5_; clear n0_ n1_ n2_ n3_ n4_ n5_; clear hb ho22; obtain ⟨Ao23, co23, eo23⟩ := Kd.R_slice HO133.out; subst eo23; obtain ⟨Ao24, co24, eo24⟩ := Kd.R_slice HO130.out; subst eo24) | ((with_reducible refine gate_callee (f := 9) rfl ?_); refine goesL_ (some 19) rfl rfl Try.func9 (by kernel_rfl) rfl #[.agg #[.slice Ao17 t121.length co17, .int .i64 t124, .int .i64 t125], .agg #[.slice Ao24 y128.length co24, .slice Ao23 y131.length co23, .int .i64 0, .int .i64 3]] rfl (by (try simp only [List.map_toArray, List.map_cons, List.map_nil]); first | done | rfl | (simp only [List.length_drop, List.length_take]; rfl) | (go_simp; simp [IntKind.wrap, IntKind.bits, IntKind.signed]; omega)) ?_; (with_reducible refine (manifest_Apply.calls _ _ t121 t124 t125 _ _ y128 _ _ y131 0 3 t134 t137 t138 t139 _ ?side1 ?side2 ?side3 ?side4 ?side5 ?side6 A2.out).mono ?_); (case side1 => repeat (first | exact (Kd.R_reads' HO123.out).2.2 | (with_reducible refine Kd.C_alloc ?_ _) | (with_reducible refine Kd.C_drewN ?_ _) | (with_reducible refine Kd.C_drew ?_))); (case side2 => exact (Kd.R_reads' HO123.out).2.1); (case side3 => repeat (first | exact (Kd.R_reads' HO130.out).2.2 | (with_reducible refine Kd.C_alloc ?_ _) | (with_reducible refine Kd.C_drewN ?_ _) | (with_reducible refine Kd.C_drew ?_))); (case side4 => exact (Kd.R_reads' HO130.out).2.1); (case side5 => repeat (first | exact (Kd.R_reads' HO133.out).2.2 | (with_reducible refine Kd.C_alloc ?_ _) | (with_reducible refine Kd.C_drewN ?_ _) | (with_reducible refine Kd.C_drew ?_))); (case side6 => exact (Kd.R_reads' HO133.out).2.1); rintro e w25 ⟨v135, rfl, ho0, hb⟩; refine ⟨_, rfl, ?_⟩; have n0_ := Aside0.mk (Kd.R_elder' (by (with_reducible repeat (first | apply Kd.R_alloc | apply Kd.R_drewN | apply Kd.R_drew)); exact HO120.out) (Kd.R_base ho0) hb); have n1_ := Aside0.mk (Kd.R_elder' (by (with_reducible repeat (first | apply Kd.R_alloc | apply Kd.R_drewN | apply Kd.R_drew)); exact HO123.out) (Kd.R_base ho0) hb); have n2_ := Aside0.mk (Kd.R_below (by (with_reducible repeat (first | apply Kd.R_alloc | apply Kd.R_drewN | apply Kd.R_drew)); exact HO130.out) hb); have n3_ := Aside0.mk (Kd.R_elder' (by (with_reducible repeat (first | apply Kd.R_alloc | apply Kd.R_drewN | apply Kd.R_drew)); exact HO133.out) (Kd.R_base ho0) hb); have n4_ := Aside0.mk (Kd.R_lower (Kd.R_new' (Kd.R_new' (Kd.R_new' ho0 (Kd.R_lt (by (with_reducible repeat (first | apply Kd.R_alloc | apply Kd.R_drewN | apply Kd.R_drew)); exact HO120.out))) (Kd.R_lt (by (with_reducible repeat (first | apply Kd.R_alloc | apply Kd.R_drewN | apply Kd.R_drew)); exact HO123.out))) (Kd.R_lt (by (with_reducible repeat (first | apply Kd.R_alloc | apply Kd.R_drewN | apply Kd.R_drew)); exact HO133.out))) (below_size z17_)); have n5_ := Aside0.mk (blk_below (g := gb127) (o := .cells #[.slice Ao17 t121.length co17, .int .i64 t124, .int .i64 t125] 26 (0, 0)) (by (with_reducible repeat (first | refine blk_drewN ?_ _ | refine blk_drew ?_ | refine blk_alloc ?_ _)); exact BK127.out) hb); have n6_ := Aside0.mk (below_step z17_ hb); clear HO120; clear HO123; clear HO130; clear HO133; clear BK127; clear HB; have HO120 := n0_; have HO123 := n1_; have HO130 := n2_; have HO133 := n3_; have HO136 := n4_; have BK127 := n5_; have HB := n6_; clear n0_ n1_ n2_ n3_ n4_ n5_ n6_; (try clear hb); (try clear hb2); (try clear hk); (try clear hi); (try clear ho0)) | ((with_reducible refine gate_dst (N := 3) rfl ?_); (try (refine gate_guard (by rfl) ?_; dsimp only)); refine box_event ?hg (N := 3) ?hd (cs := #[.slice none 0 0, .int .i64 0, .int .i64 0]) (t := 26) ?hr ?_; (case hd => rfl); (case hg => rfl); (case hr => first | (go_simp; done) | (go_simp; rfl)); intro gb140 hg w26 hbox hb; have n0_ := Aside0.mk (Kd.R_below (by (with_reducible repeat (first | apply Kd.R_alloc | apply Kd.R_drewN | apply Kd.R_drew)); exact HO120.out) hb); have n1_ := Aside0.mk (Kd.R_below (by (with_reducible repeat (first | apply Kd.R_alloc | apply Kd.R_drewN | apply Kd.R_drew)); exact HO123.out) hb); have n2_ := Aside0.mk (Kd.R_below (by (with_reducible repeat (first | apply Kd.R_alloc | apply Kd.R_drewN | apply Kd.R_drew)); exact HO130.out) hb); have n3_ := Aside0.mk (Kd.R_below (by (with_reducible repeat (first | apply Kd.R_alloc | apply Kd.R_drewN | apply Kd.R_drew)); exact HO133.out) hb); have n4_ := Aside0.mk (Kd.R_below (by (with_reducible repeat (first | apply Kd.R_alloc | apply Kd.R_drewN | apply Kd.R_drew)); exact HO136.out) hb); have n5_ := Aside0.mk (blk_below (g := gb127) (o := .cells #[.slice Ao17 t121.length co17, .int .i64 t124, .int .i64 t125] 26 (0, 0)) (by (with_reducible repeat (first | refine blk_drewN ?_ _ | refine blk_drew ?_ | refine blk_alloc ?_ _)); exact BK127.out) hb); have n6_ := Aside0.mk (below_step z17_ hb); have n7_ := Aside0.mk (hbox); have n8_ := Aside0.mk ((by rw [hg]; exact (below_size z17_) : w.heap.size ≤ gb140)); have n9_ := Aside0.mk ((by rw [hg]; exact (below_size z17_) : w.heap.size ≤ gb140)); have n10_ := Aside0.mk ((by rw [hg]; exact Nat.ne_of_lt (blk_lt (g := gb127) (o := .cells #[.slice Ao17 t121.length co17, .int .i64 t124, .int .i64 t125] 26 (0, 0)) (by (with_reducible repeat (first | refine blk_drewN ?_ _ | refine blk_drew ?_ | refine blk_alloc ?_ _)); exact BK127.out)) : gb127 ≠ gb140)); have n11_ := Aside0.mk ((by rw [hg]; exact Nat.ne_of_gt (blk_lt (g := gb127) (o := .cells #[.slice Ao17 t121.length co17, .int .i64 t124, .int .i64 t125] 26 (0, 0)) (by (with_reducible repeat (first | refine blk_drewN ?_ _ | refine blk_drew ?_ | refine blk_alloc ?_ _)); exact BK127.out)) : gb140 ≠ gb127)); clear HO120; clear HO123; clear HO130; clear HO133; clear HO136; clear BK127; clear HB; have HO120 := n0_; have HO123 := n1_; have HO130 := n2_; have HO133 := n3_; have HO136 := n4_; have BK127 := n5_; have HB := n6_; have BK140 := n7_; have GW140 := n8_; have GE140 := n9_; have NB127_140 := n10_; have NB140_127 := n11_; clear n0_ n1_ n2_ n3_ n4_ n5_ n6_ n7_ n8_ n9_ n10_ n11_; clear hb hbox hg; obtain ⟨Ao27, co27, eo27⟩ := Kd.R_slice HO136.out; subst eo27; have hnb28 := NB140_127.out; have hnc28 := NB127_140.out; have hcz29_0 : w26.cell? ⟨gb140, 0, none⟩ = some (.slice none 0 0) := (blk_cell BK140.out 0).trans rfl; have hcz29_1 : w26.cell? ⟨gb140, 1, none⟩ = some (.int .i64 0) := (blk_cell BK140.out 1).trans rfl; have hcz29_2 : w26.cell? ⟨gb140, 2, none⟩ = some (.int .i64 0) := (blk_cell BK140.out 2).trans rfl; have hfz29_0 := blk_frozen BK140.out 0; have hfz29_1 := blk_frozen BK140.out 1; have hfz29_2 := blk_frozen BK140.out 2; have p141 : 0 ≤ (0 : Int) := (by omega); have q141 : 0 < (t134.length : Int) := of_decide_eq_true z5_; obtain ⟨ad141, e141, hx141_0, hx141_1, hx141_2, hx141_3, hx141_4, hx141_5, hx141_6, hx141_7⟩ := at_T36 (Kd.R_reads' HO136.out).2.2 0 p141 q141; cases e141; have qi141 : (0 < t134.length) = True := eq_true (by omega); (try rw [show ((0 : Int)).toNat = 0 from rfl] at hx141_0); (try rw [show 0 * 8 = 0 from rfl] at hx141_0); (try rw [Addr.add_zero'] at hx141_0); (try rw [show ((0 : Int)).toNat = 0 from rfl] at hx141_1); (try rw [show 0 * 8 = 0 from rfl] at hx141_1); (try rw [Addr.add_zero'] at hx141_1); (try rw [show ((0 : Int)).toNat = 0 from rfl] at hx141_2); (try rw [show 0 * 8 = 0 from rfl] at hx141_2); (try rw [Addr.add_zero'] at hx141_2); (try rw [show ((0 : Int)).toNat = 0 from rfl] at hx141_3); (try rw [show 0 * 8 = 0 from rfl] at hx141_3); (try rw [Addr.add_zero'] at hx141_3); (try rw [show ((0 : Int)).toNat = 0 from rfl] at hx141_4); (try rw [show 0 * 8 = 0 from rfl] at hx141_4); (try rw [Addr.add_zero'] at hx141_4); (try rw [show ((0 : Int)).toNat = 0 from rfl] at hx141_5); (try rw [show 0 * 8 = 0 from rfl] at hx141_5); (try rw [Addr.add_zero'] at hx141_5); (try rw [show ((0 : Int)).toNat = 0 from rfl] at hx141_6); (try rw [show 0 * 8 = 0 from rfl] at hx141_6); (try rw [Addr.add_zero'] at hx141_6); (try rw [show ((0 : Int)).toNat = 0 from rfl] at hx141_7); (try rw [show 0 * 8 = 0 from rfl] at hx141_7); (try rw [Addr.add_zero'] at hx141_7); have hn141_0 : ad141.block ≠ gb140 := Kd.own_blk (Kd.R_ne HO136.out BK140.out (by decide)); have hn141_1 : ad141.block ≠ gb140 := Kd.own_blk (Kd.R_ne HO136.out BK140.out (by decide)); have hn141_2 : ad141.block ≠ gb140 := Kd.own_blk (Kd.R_ne HO136.out BK140.out (by decide)); replace hx141_0 := (cell_far (p := ⟨gb140, 0, none⟩) (by first | (rw [add_block]; exact hn141_0) | (show (Addr.add _ _).block ≠ _; rw [add_block]; exact hn141_0) | exact hn141_0) (.slice (some ad141) t134.length co27)).trans hx141_0; replace hx141_1 := (cell_far (p := ⟨gb140, 0, none⟩) (by first | (rw [add_block]; exact hn141_0) | (show (Addr.add _ _).block ≠ _; rw [add_block]; exact hn141_0) | exact hn141_0) (.slice (some ad141) t134.length co27)).trans hx141_1; replace hx141_2 := (cell_far (p := ⟨gb140, 0, none⟩) (by first | (rw [add_block]; exact hn141_0) | (show (Addr.add _ _).block ≠ _; rw [add_block]; exact hn141_0) | exact hn141_0) (.slice (some ad141) t134.length co27)).trans hx141_2; replace hx141_3 := (cell_far (p := ⟨gb140, 0, none⟩) (by first | (rw [add_block]; exact hn141_0) | (show (Addr.add _ _).block ≠ _; rw [add_block]; exact hn141_0) | exact hn141_0) (.slice (some ad141) t134.length co27)).trans hx141_3; replace hx141_4 := (cell_far (p := ⟨gb140, 0, none⟩) (by first | (rw [add_block]; exact hn141_0) | (show (Addr.add _ _).block ≠ _; rw [add_block]; exact hn141_0) | exact hn141_0) (.slice (some ad141) t134.length co27)).trans hx141_4; replace hx141_5 := (cell_far (p := ⟨gb140, 0, none⟩) (by first | (rw [add_block]; exact hn141_0) | (show (Addr.add _ _).block ≠ _; rw [add_block]; exact hn141_0) | exact hn141_0) (.slice (some ad141) t134.length co27)).trans hx141_5; replace hx141_6 := (cell_far (p := ⟨gb140, 0, none⟩) (by first | (rw [add_block]; exact hn141_0) | (show (Addr.add _ _).block ≠ _; rw [add_block]; exact hn141_0) | exact hn141_0) (.slice (some ad141) t134.length co27)).trans hx141_6; replace hx141_7 := (cell_far (p := ⟨gb140, 0, none⟩) (by first | (rw [add_block]; exact hn141_0) | (show (Addr.add _ _).block ≠ _; rw [add_block]; exact hn141_0) | exact hn141_0) (.slice (some ad141) t134.length co27)).trans hx141_7; replace hx141_0 := (cell_far (p := ⟨gb140, 1, none⟩) (by first | (rw [add_block]; exact hn141_1) | (show (Addr.add _ _).block ≠ _; rw [add_block]; exact hn141_1) | exact hn141_1) (.int .i64 t137)).trans hx141_0; replace hx141_1 := (cell_far (p := ⟨gb140, 1, none⟩) (by first | (rw [add_block]; exact hn141_1) | (show (Addr.add _ _).block ≠ _; rw [add_block]; exact hn141_1) | exact hn141_1) (.int .i64 t137)).trans hx141_1; replace hx141_2 := (cell_far (p := ⟨gb140, 1, none⟩) (by first | (rw [add_block]; exact hn141_1) | (show (Addr.add _ _).block ≠ _; rw [add_block]; exact hn141_1) | exact hn141_1) (.int .i64 t137)).trans hx141_2; replace hx141_3 := (cell_far (p := ⟨gb140, 1, none⟩) (by first | (rw [add_block]; exact hn141_1) | (show (Addr.add _ _).block ≠ _; rw [add_block]; exact hn141_1) | exact hn141_1) (.int .i64 t137)).trans hx141_3; replace hx141_4 := (cell_far (p := ⟨gb140, 1, none⟩) (by first | (rw [add_block]; exact hn141_1) | (show (Addr.add _ _).block ≠ _; rw [add_block]; exact hn141_1) | exact hn141_1) (.int .i64 t137)).trans hx141_4; replace hx141_5 := (cell_far (p := ⟨gb140, 1, none⟩) (by first | (rw [add_block]; exact hn141_1) | (show (Addr.add _ _).block ≠ _; rw [add_block]; exact hn141_1) | exact hn141_1) (.int .i64 t137)).trans hx141_5; replace hx141_6 := (cell_far (p := ⟨gb140, 1, none⟩) (by first | (rw [add_block]; exact hn141_1) | (show (Addr.add _ _).block ≠ _; rw [add_block]; exact hn141_1) | exact hn141_1) (.int .i64 t137)).trans hx141_6; replace hx141_7 := (cell_far (p := ⟨gb140, 1, none⟩) (by first | (rw [add_block]; exact hn141_1) | (show (Addr.add _ _).block ≠ _; rw [add_block]; exact hn141_1) | exact hn141_1) (.int .i64 t137)).trans hx141_7; replace hx141_0 := (cell_far (p := ⟨gb140, 2, none⟩) (by first | (rw [add_block]; exact hn141_2) | (show (Addr.add _ _).block ≠ _; rw [add_block]; exact hn141_2) | exact hn141_2) (.int .i64 t138)).trans hx141_0; replace hx141_1 := (cell_far (p := ⟨gb140, 2, none⟩) (by first | (rw [add_block]; exact hn141_2) | (show (Addr.add _ _).block ≠ _; rw [add_block]; exact hn141_2) | exact hn141_2) (.int .i64 t138)).trans hx141_1; replace hx141_2 := (cell_far (p := ⟨gb140, 2, none⟩) (by first | (rw [add_block]; exact hn141_2) | (show (Addr.add _ _).block ≠ _; rw [add_block]; exact hn141_2) | exact hn141_2) (.int .i64 t138)).trans hx141_2; replace hx141_3 := (cell_far (p := ⟨gb140, 2, none⟩) (by first | (rw [add_block]; exact hn141_2) | (show (Addr.add _ _).block ≠ _; rw [add_block]; exact hn141_2) | exact hn141_2) (.int .i64 t138)).trans hx141_3; replace hx141_4 := (cell_far (p := ⟨gb140, 2, none⟩) (by first | (rw [add_block]; exact hn141_2) | (show (Addr.add _ _).block ≠ _; rw [add_block]; exact hn141_2) | exact hn141_2) (.int .i64 t138)).trans hx141_4; replace hx141_5 := (cell_far (p := ⟨gb140, 2, none⟩) (by first | (rw [add_block]; exact hn141_2) | (show (Addr.add _ _).block ≠ _; rw [add_block]; exact hn141_2) | exact hn141_2) (.int .i64 t138)).trans hx141_5; replace hx141_6 := (cell_far (p := ⟨gb140, 2, none⟩) (by first | (rw [add_block]; exact hn141_2) | (show (Addr.add _ _).block ≠ _; rw [add_block]; exact hn141_2) | exact hn141_2) (.int .i64 t138)).trans hx141_6; replace hx141_7 := (cell_far (p := ⟨gb140, 2, none⟩) (by first | (rw [add_block]; exact hn141_2) | (show (Addr.add _ _).block ≠ _; rw [add_block]; exact hn141_2) | exact hn141_2) (.int .i64 t138)).trans hx141_7; clear hn141_0; clear hn141_1; clear hn141_2; replace p141 := eq_true p141; replace q141 := eq_true q141) | (go_at_call 17; (with_reducible refine (manifest_Same.calls k _ _ t134 t137 t138 _ _ t134 t137 t138 true _ ?side1 ?side2 ?side3 ?side4 A9.out).mono ?_); (case side1 => refine (Kd.R_reads' (e := 36) (base := w.heap.size) (ok := fun k_ => (((True ∧ some k_ ≠ (.slice Ao14 y118.length co14 : Value).ownBlock) ∧ some k_ ≠ (.slice Ao17 t121.length co17 : Value).ownBlock) ∧ some k_ ≠ (.slice Ao23 y131.length co23 : Value).ownBlock)) (n := t134.length) (c := co27) ?_).2.2; exact (by (with_reducible repeat (first | apply Kd.R_alloc | apply Kd.R_drewN | apply Kd.R_drew)); exact (Kd.R_mono (Kd.R_far (p := ⟨gb140, 2, none⟩) (Kd.R_far (p := ⟨gb140, 1, none⟩) (Kd.R_far (p := ⟨gb140, 0, none⟩) (Kd.R_types HO136.out BK140.out (by decide)) (fun _ hk => hk.2) (.slice (some ad141) t134.length co27)) (fun _ hk => hk.2) (.int .i64 t137)) (fun _ hk => hk.2) (.int .i64 t138)) (fun _ h_ => h_.1)))); (case side2 => exact (Kd.R_reads' HO136.out).2.1); (case side3 => refine (Kd.R_reads' (e := 36) (base := w.heap.size) (ok := fun k_ => (((True ∧ some k_ ≠ (.slice Ao14 y118.length co14 : Value).ownBlock) ∧ some k_ ≠ (.slice Ao17 t121.length co17 : Value).ownBlock) ∧ some k_ ≠ (.slice Ao23 y131.length co23 : Value).ownBlock)) (n := t134.length) (c := co27) ?_).2.2; exact (by (with_reducible repeat (first | apply Kd.R_alloc | apply Kd.R_drewN | apply Kd.R_drew)); exact (Kd.R_mono (Kd.R_far (p := ⟨gb140, 2, none⟩) (Kd.R_far (p := ⟨gb140, 1, none⟩) (Kd.R_far (p := ⟨gb140, 0, none⟩) (Kd.R_types HO136.out BK140.out (by decide)) (fun _ hk => hk.2) (.slice (some ad141) t134.length co27)) (fun _ hk => hk.2) (.int .i64 t137)) (fun _ hk => hk.2) (.int .i64 t138)) (fun _ h_ => h_.1)))); (case side4 => exact (Kd.R_reads' HO136.out).2.1); rintro e w30 ⟨rfl, hb⟩; have n0_ := Aside0.mk (Kd.R_below (by (with_reducible repeat (first | apply Kd.R_alloc | apply Kd.R_drewN | apply Kd.R_drew)); exact (Kd.R_mono (Kd.R_far (p := ⟨gb140, 2, none⟩) (Kd.R_far (p := ⟨gb140, 1, none⟩) (Kd.R_far (p := ⟨gb140, 0, none⟩) (Kd.R_types HO120.out BK140.out (by decide)) (fun _ hk => hk.2) (.slice (some ad141) t134.length co27)) (fun _ hk => hk.2) (.int .i64 t137)) (fun _ hk => hk.2) (.int .i64 t138)) (fun _ h_ => h_.1))) hb); have n1_ := Aside0.mk (Kd.R_below (by (with_reducible repeat (first | apply Kd.R_alloc | apply Kd.R_drewN | apply Kd.R_drew)); exact (Kd.R_mono (Kd.R_far (p := ⟨gb140, 2, none⟩) (Kd.R_far (p := ⟨gb140, 1, none⟩) (Kd.R_far (p := ⟨gb140, 0, none⟩) (Kd.R_types HO123.out BK140.out (by decide)) (fun _ hk => hk.2) (.slice (some ad141) t134.length co27)) (fun _ hk => hk.2) (.int .i64 t137)) (fun _ hk => hk.2) (.int .i64 t138)) (fun _ h_ => h_.1))) hb); have n2_ := Aside0.mk (Kd.R_below (by (with_reducible repeat (first | apply Kd.R_alloc | apply Kd.R_drewN | apply Kd.R_drew)); exact (Kd.R_mono (Kd.R_far (p := ⟨gb140, 2, none⟩) (Kd.R_far (p := ⟨gb140, 1, none⟩) (Kd.R_far (p := ⟨gb140, 0, none⟩) (Kd.R_types HO130.out BK140.out (by decide)) (fun _ hk => hk.2) (.slice (some ad141) t134.length co27)) (fun _ hk => hk.2) (.int .i64 t137)) (fun _ hk => hk.2) (.int .i64 t138)) (fun _ h_ => h_.1))) hb); have n3_ := Aside0.mk (Kd.R_below (by (with_reducible repeat (first | apply Kd.R_alloc | apply Kd.R_drewN | apply Kd.R_drew)); exact (Kd.R_mono (Kd.R_far (p := ⟨gb140, 2, none⟩) (Kd.R_far (p := ⟨gb140, 1, none⟩) (Kd.R_far (p := ⟨gb140, 0, none⟩) (Kd.R_types HO133.out BK140.out (by decide)) (fun _ hk => hk.2) (.slice (some ad141) t134.length co27)) (fun _ hk => hk.2) (.int .i64 t137)) (fun _ hk => hk.2) (.int .i64 t138)) (fun _ h_ => h_.1))) hb); have n4_ := Aside0.mk (Kd.R_below (by (with_reducible repeat (first | apply Kd.R_alloc | apply Kd.R_drewN | apply Kd.R_drew)); exact (Kd.R_mono (Kd.R_far (p := ⟨gb140, 2, none⟩) (Kd.R_far (p := ⟨gb140, 1, none⟩) (Kd.R_far (p := ⟨gb140, 0, none⟩) (Kd.R_types HO136.out BK140.out (by decide)) (fun _ hk => hk.2) (.slice (some ad141) t134.length co27)) (fun _ hk => hk.2) (.int .i64 t137)) (fun _ hk => hk.2) (.int .i64 t138)) (fun _ h_ => h_.1))) hb); have n5_ := Aside0.mk (blk_below (g := gb127) (o := .cells #[.slice Ao17 t121.length co17, .int .i64 t124, .int .i64 t125] 26 (0, 0)) (by (with_reducible repeat (first | refine blk_drewN ?_ _ | refine blk_drew ?_ | refine blk_alloc ?_ _)); refine blk_far ?_ NB127_140.out _; (with_reducible repeat (first | refine blk_drewN ?_ _ | refine blk_drew ?_ | refine blk_alloc ?_ _)); refine blk_far ?_ NB127_140.out _; (with_reducible repeat (first | refine blk_drewN ?_ _ | refine blk_drew ?_ | refine blk_alloc ?_ _)); refine blk_far ?_ NB127_140.out _; (with_reducible repeat (first | refine blk_drewN ?_ _ | refine blk_drew ?_ | refine blk_alloc ?_ _)); exact BK127.out) hb); have n6_ := Aside0.mk (blk_below (g := gb140) (o := .cells #[.slice (some ad141) t134.length co27, .int .i64 t137, .int .i64 t138] 26 (0, 0)) (by (with_reducible repeat (first | refine blk_drewN ?_ _ | refine blk_drew ?_ | refine blk_alloc ?_ _)); refine blk_put (cs := #[.slice (some ad141) t134.length co27, .int .i64 t137, .int .i64 0]) ?_ 2 _ rfl; (with_reducible repeat (first | refine blk_drewN ?_ _ | refine blk_drew ?_ | refine blk_alloc ?_ _)); refine blk_put (cs := #[.slice (some ad141) t134.length co27, .int .i64 0, .int .i64 0]) ?_ 1 _ rfl; (with_reducible repeat (first | refine blk_drewN ?_ _ | refine blk_drew ?_ | refine blk_alloc ?_ _)); refine blk_put (cs := #[.slice none 0 0, .int .i64 0, .int .i64 0]) ?_ 0 _ rfl; (with_reducible repeat (first | refine blk_drewN ?_ _ | refine blk_drew ?_ | refine blk_alloc ?_ _)); exact BK140.out) hb); have n7_ := Aside0.mk (below_step z24_ hb); clear HO120; clear HO123; clear HO130; clear HO133; clear HO136; clear BK127; clear BK140; clear HB; have HO120 := n0_; have HO123 := n1_; have HO130 := n2_; have HO133 := n3_; have HO136 := n4_; have BK127 := n5_; have BK140 := n6_; have HB := n7_; clear n0_ n1_ n2_ n3_ n4_ n5_ n6_ n7_; (try clear hb); (try clear hb2); (try clear hk); (try clear hi); have hcz31_0 : w30.cell? ⟨gb127, 0, none⟩ = some (.slice Ao17 t121.length co17) := (blk_cell BK127.out 0).trans rfl; have hcz31_1 : w30.cell? ⟨gb127, 1, none⟩ = some (.int .i64 t124) := (blk_cell BK127.out 1).trans rfl; have hcz31_2 : w30.cell? ⟨gb127, 2, none⟩ = some (.int .i64 t125) := (blk_cell BK127.out 2).trans rfl; have hfz31_0 := blk_frozen BK127.out 0; have hfz31_1 := blk_frozen BK127.out 1; have hfz31_2 := blk_frozen BK127.out 2; have hcz32_0 : w30.cell? ⟨gb140, 0, none⟩ = some (.slice (some ad141) t134.length co27) := (blk_cell BK140.out 0).trans rfl; have hcz32_1 : w30.cell? ⟨gb140, 1, none⟩ = some (.int .i64 t137) := (blk_cell BK140.out 1).trans rfl; have hcz32_2 : w30.cell? ⟨gb140, 2, none⟩ = some (.int .i64 t138) := (blk_cell BK140.out 2).trans rfl; have hfz32_0 := blk_frozen BK140.out 0; have hfz32_1 := blk_frozen BK140.out 1; have hfz32_2 := blk_frozen BK140.out 2) | (go_at_call 17; (with_reducible refine (manifest_Same.calls k _ _ t121 t124 t125 _ _ t134 t137 t138 t143 _ ?side1 ?side2 ?side3 ?side4 A11.out).mono ?_); (case side1 => repeat (first | exact (Kd.R_reads' HO123.out).2.2 | (with_reducible refine Kd.C_alloc ?_ _) | (with_reducible refine Kd.C_drewN ?_ _) | (with_reducible refine Kd.C_drew ?_))); (case side2 => exact (Kd.R_reads' HO123.out).2.1); (case side3 => repeat (first | exact (Kd.R_reads' HO136.out).2.2 | (with_reducible refine Kd.C_alloc ?_ _) | (with_reducible refine Kd.C_drewN ?_ _) | (with_reducible refine Kd.C_drew ?_))); (case side4 => exact (Kd.R_reads' HO136.out).2.1); rintro e w33 ⟨rfl, hb⟩; have n0_ := Aside0.mk (Kd.R_below (by (with_reducible repeat (first | apply Kd.R_alloc | apply Kd.R_drewN | apply Kd.R_drew)); exact HO120.out) hb); have n1_ := Aside0.mk (Kd.R_below (by (with_reducible repeat (first | apply Kd.R_alloc | apply Kd.R_drewN | apply Kd.R_drew)); exact HO123.out) hb); have n2_ := Aside0.mk (Kd.R_below (by (with_reducible repeat (first | apply Kd.R_alloc | apply Kd.R_drewN | apply Kd.R_drew)); exact HO130.out) hb); have n3_ := Aside0.mk (Kd.R_below (by (with_reducible repeat (first | apply Kd.R_alloc | apply Kd.R_drewN | apply Kd.R_drew)); exact HO133.out) hb); have n4_ := Aside0.mk (Kd.R_below (by (with_reducible repeat (first | apply Kd.R_alloc | apply Kd.R_drewN | apply Kd.R_drew)); exact HO136.out) hb); have n5_ := Aside0.mk (blk_below (g := gb127) (o := .cells #[.slice Ao17 t121.length co17, .int .i64 t124, .int .i64 t125] 26 (0, 0)) (by (with_reducible repeat (first | refine blk_drewN ?_ _ | refine blk_drew ?_ | refine blk_alloc ?_ _)); exact BK127.out) hb); have n6_ := Aside0.mk (blk_below (g := gb140) (o := .cells #[.slice (some ad141) t134.length co27, .int .i64 t137, .int .i64 t138] 26 (0, 0)) (by (with_reducible repeat (first | refine blk_drewN ?_ _ | refine blk_drew ?_ | refine blk_alloc ?_ _)); exact BK140.out) hb); have n7_ := Aside0.mk (below_step z24_ hb); clear HO120; clear HO123; clear HO130; clear HO133; clear HO136; clear BK127; clear BK140; clear HB; have HO120 := n0_; have HO123 := n1_; have HO130 := n2_; have HO133 := n3_; have HO136 := n4_; have BK127 := n5_; have BK140 := n6_; have HB := n7_; clear n0_ n1_ n2_ n3_ n4_ n5_ n6_ n7_; (try clear hb); (try clear hb2); (try clear hk); (try clear hi)))
        go_ret
        exact ⟨z2_, z24_⟩
       ·replace c10 := Bool.eq_false_iff.mpr c10
        subst c10
        have H1 : (some false) = some r := by rw [if_neg (show ¬ (false = true) by decide)] at H; exact H
        clear H
        have H := H1
        clear H1
        exact absurd ((Option.some.inj H).trans HR_.out) (by decide)   -- leaf 1
      ·rw [if_neg c8] at H
       have c8b0 : (t138 == 3) = false := beq_eq_false_iff_ne.mpr c8
       have c8b1 : (t138 != 3) = true := bne_iff_ne.mpr c8
       exact absurd ((Option.some.inj H).trans HR_.out) (by decide)   -- leaf 2
     ·rw [if_neg c7] at H
      have c7b0 : (((rd_T36 t134 0).f0) == 2) = false := beq_eq_false_iff_ne.mpr c7
      have c7b1 : (((rd_T36 t134 0).f0) != 2) = true := bne_iff_ne.mpr c7
      exact absurd ((Option.some.inj H).trans HR_.out) (by decide)   -- leaf 3
    ·rw [if_neg c6] at H
     exact absurd H (by simp)
   ·rw [if_neg c5] at H
    have c5b0 : ((t134.length : Int) == 1) = false := beq_eq_false_iff_ne.mpr c5
    have c5b1 : ((t134.length : Int) != 1) = true := bne_iff_ne.mpr c5
    exact absurd ((Option.some.inj H).trans HR_.out) (by decide)   -- leaf 4
  ·rw [if_neg c4] at H
   have c4b0 : (t139 == 0) = false := beq_eq_false_iff_ne.mpr c4
   have c4b1 : (t139 != 0) = true := bne_iff_ne.mpr c4
   exact absurd ((Option.some.inj H).trans HR_.out) (by decide)   -- leaf 5
 ·rw [if_neg c3] at H
  have c3b0 : (t126 == 0) = false := beq_eq_false_iff_ne.mpr c3
  have c3b1 : (t126 != 0) = true := bne_iff_ne.mpr c3
  exact absurd ((Option.some.inj H).trans HR_.out) (by decide)   -- leaf 6
def tithebarnlaw16_lives.f (k : Nat) : Option (Bool) := if tithebarnlaw16_lives.g k = some true then some true else none
theorem tithebarnlaw16_lives.mono : ∀ k, LeO (tithebarnlaw16_lives.f k ) (tithebarnlaw16_lives.f (k + 1) ) := by
 intro k r h
 unfold tithebarnlaw16_lives.f at h ⊢
 split at h
 ·rename_i hg; rw [if_pos (tithebarnlaw16_lives.monog k _ hg)]; exact h
 ·exact absurd h (by simp)
theorem tithebarnlaw16_lives.calls (k : Nat)  (r : Bool) (w : World) (h : tithebarnlaw16_lives.f k  = some r) :
  Calls Try.prog 8 #[] w fun e w' => e = .returned (.bool r) ∧ Below w.heap.size w w' := by
 unfold tithebarnlaw16_lives.f at h
 split at h
 ·rename_i hg; obtain rfl := Option.some.inj h; exact tithebarnlaw16_lives.callsT k true w rfl hg
 ·exact absurd h (by simp)
end Go.Proofs.Ytagokgijffpdnaa.G
namespace Go.Proofs.YtagokgijffpdnaaQ
open Go.RowKit Go.Proofs.YtagokgijffpdnaaW.PrintWords Go.Proofs.Ytagokgijffpdnaa
open Go.ChangeShapes Go.WideShapes Go.ChangeAt Go.RowKit
set_option linter.unusedVariables false
set_option linter.unusedSimpArgs false
theorem bulk_pos {H : Type} (d : DataW H) : 1 ≤ Rows.uptoBulk d := by
 cases d with
 | lit l => cases l <;> simp [Rows.uptoBulk]
 | nil => simp [Rows.uptoBulk]
 | ptr d => simp [Rows.uptoBulk]
 | slice elems spare => simp [Rows.uptoBulk]
 | agg parts => simp [Rows.uptoBulk]
 | iface t d => simp [Rows.uptoBulk]
 | map entries => simp [Rows.uptoBulk]
 | held h => simp [Rows.uptoBulk]
def Rdg {α : Type} (P : Program) (t : TypeId) (d : Kd α) (Ok : α → Prop) (B : α → Nat) : Prop :=
 ∀ {H : Type} {enc : TypeId × Value → H} {w : World} {base : Nat} {spare : Nat → Bool} {held : Bool} {fuel : Nat} {cs : List Value} {dat : DataW H} {ps : List MemPlace},
  DataW.trod enc P w base spare held fuel t cs = some (dat, ps) → ∃ x, d.K w x cs ∧ Ok x ∧ B x ≤ Rows.uptoBulk dat
theorem Rdg.int {P : Program} {t : TypeId} {k : IntKind} (ht : P.underlying t = some (.int k)) : Rdg P t (Kd.int k) (fun x => (Lit.int k x).wf = true) (fun _ => 1) := by
 intro H enc w base spare held fuel cs dat ps h
 obtain ⟨n, rfl, _, hw⟩ := DataW.trod_int ht h
 exact ⟨n, rfl, hw, bulk_pos _⟩
theorem Rdg.bool {P : Program} {t : TypeId} (ht : P.underlying t = some .bool) : Rdg P t Kd.bool (fun _ => True) (fun _ => 1) := by
 intro H enc w base spare held fuel cs dat ps h
 obtain ⟨b, rfl, _⟩ := DataW.trod_bool ht h
 exact ⟨b, rfl, trivial, bulk_pos _⟩
theorem Rdg.string {P : Program} {t : TypeId} (ht : P.underlying t = some .string) : Rdg P t Kd.string (fun s => s.size ≤ maxLen) (fun s => s.size + 1) := by
 intro H enc w base spare held fuel cs dat ps h
 obtain ⟨s, rfl, e, hw⟩ := DataW.trod_string ht h
 simp only [Prod.mk.injEq] at e
 obtain ⟨rfl, _⟩ := e
 refine ⟨s, rfl, hw, ?_⟩
 unfold Rows.uptoBulk
 rw [Array.length_toList]
 exact Nat.le_refl _
theorem list_of {α : Type} (n : Nat) (Q : Nat → α → Prop) (h : ∀ i, i < n → ∃ x, Q i x) : ∃ xs : List α, xs.length = n ∧ ∀ i x, xs[i]? = some x → Q i x := by
 induction n with
 | zero => exact ⟨[], rfl, fun i x hx => by simp at hx⟩
 | succ n ih =>
  obtain ⟨xs, hl, hq⟩ := ih (fun i hi => h i (by omega))
  obtain ⟨x, hx⟩ := h n (by omega)
  refine ⟨xs ++ [x], by simp [hl], fun i y hy => ?_⟩
  rcases Nat.lt_or_ge i n with hi | hi
  ·exact hq i y (by rwa [List.getElem?_append_left (by omega)] at hy)
  ·have hi' : i = n := by
    have := (List.getElem?_eq_some_iff.1 hy).1
    simp at this; omega
   subst hi'
   rw [List.getElem?_append_right (by omega), hl, Nat.sub_self] at hy
   simp at hy
   subst hy
   exact hx
theorem sum_le {α H : Type} (xs : List α) (ys : List (DataW H)) (B : α → Nat) (hl : xs.length = ys.length) (h : ∀ (i : Nat) (x : α) (y : DataW H), xs[i]? = some x → ys[i]? = some y → B x ≤ Rows.uptoBulk y) : (xs.map B).sum ≤ Rows.uptoBulkAll ys := by
 induction xs generalizing ys with
 | nil => simp
 | cons x xs ih =>
  cases ys with
  | nil => simp at hl
  | cons y ys =>
   have h0 := h 0 x y rfl rfl
   have h1 := ih ys (by simpa using hl) (fun i a b ha hb => h (i + 1) a b ha hb)
   simp only [List.map_cons, List.sum_cons, Rows.uptoBulkAll]
   omega
theorem Rdg.slice {α : Type} {P : Program} {t e : TypeId} {d : Kd α} {Ok : α → Prop} {B : α → Nat} (ht : P.underlying t = some (.slice e)) (hsz : P.cellsOf e = d.sz) (hd : Rdg P e d Ok B) :
  Rdg P t (Kd.slice e d) (fun xs => xs.length ≤ maxLen ∧ ∀ x ∈ xs, Ok x) (fun xs => (xs.map B).sum + 1) := by
 intro H enc w base spare held fuel cs dat ps h
 rcases DataW.trod_slice ht h with ⟨rfl, he0⟩ | ⟨a, len, cap, elems, rest, n, rfl, rfl, he0, hb, hl, hm, hel, hat, _⟩
 ·refine ⟨[], ⟨none, 0, rfl, by simp, rfl, by simp, fun h0 => absurd h0 (by simp)⟩, ⟨by simp, by simp⟩, ?_⟩
  simp only [List.map_nil, List.sum_nil]
  exact bulk_pos _
 ·obtain ⟨xs, hxl, hx⟩ := list_of len (fun i x => ∃ c y, w.cells? base (a.add (i * P.cellsOf e)) (P.cellsOf e) = some c ∧ elems[i]? = some y ∧ d.K w x c ∧ Ok x ∧ B x ≤ Rows.uptoBulk y.1) (fun i hi => by
   have h1 := hat i hi
   obtain ⟨y, hy⟩ : ∃ y, elems[i]? = some y := ⟨elems[i], List.getElem?_eq_getElem (by omega)⟩
   rw [hy] at h1
   obtain ⟨c, hc, hc2⟩ := Option.bind_eq_some_iff.1 h1
   obtain ⟨x, k1, k2, k3⟩ := hd (dat := y.1) (ps := y.2) hc2
   exact ⟨x, c, y, hc, hy, k1, k2, k3⟩)
  have hm' : xs.length ≤ maxLen := by omega
  refine ⟨xs, ⟨some a, cap, by rw [hxl], by omega, rfl, by simp only [maxLen] at hm'; omega, fun _ => ⟨a, rfl, fun j p hj => ?_⟩⟩, ⟨hm', fun x hxm => ?_⟩, ?_⟩
  ·obtain ⟨c, y, hc, _, hk, _⟩ := hx j p hj
   refine ⟨c, d.K_len hk, hk, fun i u hu => ?_⟩
   obtain ⟨_, hcl, hcc⟩ := World.cells?_some hc
   have hi : i < c.length := (List.getElem?_eq_some_iff.1 hu).1
   have := hcc i (by omega)
   rw [hu] at this
   rw [← hsz]
   rw [Addr.add_add] at this
   exact this
  ·obtain ⟨i, hi, rfl⟩ := List.getElem_of_mem hxm
   obtain ⟨_, _, _, _, _, hok, _⟩ := hx i _ (List.getElem?_eq_getElem hi)
   exact hok
  ·simp only [Prod.mk.injEq] at he0
   obtain ⟨rfl, _⟩ := he0
   have := sum_le xs (elems.map (·.1)) B (by simp; omega) (fun i x y hxi hyi => by
    obtain ⟨_, z, _, hz, _, _, hb⟩ := hx i x hxi
    rw [List.getElem?_map, hz] at hyi
    simp at hyi
    subst hyi
    exact hb)
   simp only [Rows.uptoBulk]
   omega
def RdgF {α : Type} (P : Program) (off : Nat) (fs : List Field) (d : Kd α) (Ok : α → Prop) (B : α → Nat) : Prop :=
 ∀ {H : Type} {enc : TypeId × Value → H} {w : World} {base : Nat} {spare : Nat → Bool} {held : Bool} {fuel : Nat} {cs : List Value} (xs : List (DataW H × List MemPlace)),
  cs.length = off + d.sz → xs.length = fs.length → (∀ (i : Nat) (f : Field), fs[i]? = some f → DataW.trod enc P w base spare held fuel f.type ((cs.drop f.offset).take (P.cellsOf f.type)) = xs[i]?) →
  ∃ x, d.K w x (cs.drop off) ∧ Ok x ∧ B x ≤ Rows.uptoBulkAll (xs.map (·.1))
theorem RdgF.one {α : Type} {P : Program} {off : Nat} {f : Field} {d : Kd α} {Ok : α → Prop} {B : α → Nat} (ho : f.offset = off) (hs : P.cellsOf f.type = d.sz) (hd : Rdg P f.type d Ok B) : RdgF P off [f] d Ok B := by
 intro H enc w base spare held fuel cs xs hl hx h
 match xs, hx with
 | [y], _ =>
  have h0 := h 0 f rfl
  rw [ho, hs] at h0
  have e : (cs.drop off).take d.sz = cs.drop off := List.take_of_length_le (by simp; omega)
  rw [e] at h0
  obtain ⟨x, k1, k2, k3⟩ := hd (dat := y.1) (ps := y.2) h0
  exact ⟨x, k1, k2, by simpa [Rows.uptoBulkAll] using k3⟩
theorem RdgF.cons {α β : Type} {P : Program} {off : Nat} {f : Field} {fs : List Field} {a : Kd α} {b : Kd β} {OkA : α → Prop} {OkB : β → Prop} {BA : α → Nat} {BB : β → Nat}
  (ho : f.offset = off) (hs : P.cellsOf f.type = a.sz) (ha : Rdg P f.type a OkA BA) (hb : RdgF P (off + a.sz) fs b OkB BB) : RdgF P off (f :: fs) (Kd.pair a b) (fun x => OkA x.1 ∧ OkB x.2) (fun x => BA x.1 + BB x.2) := by
 intro H enc w base spare held fuel cs xs hl hx h
 match xs, hx with
 | y :: ys, hx =>
  have hl' : cs.length = off + (a.sz + b.sz) := hl
  have h0 := h 0 f rfl
  rw [ho, hs] at h0
  obtain ⟨x, k1, k2, k3⟩ := ha (dat := y.1) (ps := y.2) h0
  obtain ⟨z, m1, m2, m3⟩ := hb (cs := cs) ys (by omega) (by simpa using hx) (fun i f' hf => by simpa using h (i + 1) f' (by simpa using hf))
  refine ⟨(x, z), ⟨(cs.drop off).take a.sz, cs.drop (off + a.sz), ?_, k1, m1⟩, ⟨k2, m2⟩, ?_⟩
  ·rw [← List.drop_drop, List.take_append_drop]
  ·simp only [List.map_cons, Rows.uptoBulkAll]; omega
theorem Rdg.struct {α : Type} {P : Program} {t : TypeId} {fs : Array Field} {d : Kd α} {Ok : α → Prop} {B : α → Nat} (ht : P.underlying t = some (.struct fs)) (hs : P.cellsOf t = d.sz) (hf : RdgF P 0 fs.toList d Ok B) : Rdg P t d Ok B := by
 intro H enc w base spare held fuel cs dat ps h
 obtain ⟨xs, n, rfl, e, hl, hlen, hx⟩ := DataW.trod_struct ht h
 obtain ⟨x, k1, k2, k3⟩ := hf (cs := cs) xs (by omega) (by simpa using hlen) (fun i f hf => hx i f (by simpa using hf))
 simp only [Prod.mk.injEq] at e
 obtain ⟨rfl, _⟩ := e
 refine ⟨x, by simpa using k1, k2, ?_⟩
 simp only [Rows.uptoBulk]
 omega
theorem Rdg.iso {α β : Type} {P : Program} {t : TypeId} {d : Kd α} {Ok : α → Prop} {B : α → Nat} {f : β → α} (g : α → β) (hg : ∀ x, f (g x) = x) (hd : Rdg P t d Ok B) : Rdg P t (Kd.iso d f) (fun y => Ok (f y)) (fun y => B (f y)) := by
 intro H enc w base spare held fuel cs dat ps h
 obtain ⟨x, k1, k2, k3⟩ := hd h
 refine ⟨g x, ?_, by show Ok (f (g x)); rw [hg]; exact k2, by show B (f (g x)) ≤ _; rw [hg]; exact k3⟩
 show d.K w (f (g x)) cs
 rw [hg]; exact k1
theorem open_rows {α : Type} {P : Program} {W : World} {r : Reach} {b : Nat} {t e : TypeId} {v : Value} {d : Kd α} {Ok : α → Prop} {B : α → Nat} {H : Type} {enc : TypeId × Value → H} {base : Nat} {spare : Nat → Bool} {held : Bool} {dat : DataW H} {ps : List MemPlace}
  (ht : P.underlying t = some (.slice e)) (hsz : P.cellsOf e = d.sz) (hd : Rdg P e d Ok B) (hv : Value.okWide P W r b t v) (h : DataW.Trod enc P W base spare held t v dat ps) :
  ∃ A c xs, v = .slice A xs.length c ∧ xs.length ≤ c ∧ d.C W A xs.length xs ∧ xs.length ≤ maxLen ∧ (∀ x ∈ xs, Ok x) ∧ (xs.map B).sum + 1 ≤ Rows.uptoBulk dat := by
 obtain ⟨A, len, cap, rfl⟩ := okWide_slice ht hv
 obtain ⟨fuel, hf⟩ := h
 obtain ⟨xs, ⟨A', c', he, hc, hC⟩, ⟨h1, h2⟩, h3⟩ := Rdg.slice ht hsz hd hf
 simp [Value.cells] at he
 obtain ⟨rfl, rfl, rfl⟩ := he
 exact ⟨A, cap, xs, rfl, hc, hC, h1, h2, h3⟩
end Go.Proofs.YtagokgijffpdnaaQ
namespace Go.Proofs.Ytagokgijffpdnaa.G
open Go.RowKit Go.Proofs.YtagokgijffpdnaaQ Go.Proofs.YtagokgijffpdnaaW.PrintWords Go.Proofs.YtagokgijffpdnaaW.PrintLast Go.Proofs.YtagokgijffpdnaaW.PrintMore
set_option linter.unusedVariables false
set_option linter.unusedSimpArgs false
abbrev SV := S34
abbrev SP := S36
abbrev SE := S32
def OkV (v : SV) : Prop := (Lit.int .i64 v.f1).wf = true ∧ v.f2.size ≤ maxLen
def OkP (p : SP) : Prop := (Lit.int .i64 p.f0).wf = true ∧ (Lit.int .i64 p.f1).wf = true ∧ OkV p.f2 ∧ OkV p.f3
def OkE (x : SE) : Prop := (x.f0.length ≤ maxLen ∧ ∀ y ∈ x.f0, (Lit.int .i64 y).wf = true) ∧ (x.f1.length ≤ maxLen ∧ ∀ y ∈ x.f1, OkP y) ∧ (Lit.int .i64 x.f2).wf = true ∧ (Lit.int .i64 x.f3).wf = true
theorem val_flds : ∃ a b c : Field, (∃ fs : Array Field, Try.prog.underlying 34 = some (.struct fs) ∧ fs.toList = [a, b, c]) ∧ (a.offset = 0 ∧ b.offset = 1 ∧ c.offset = 2) ∧
  Try.prog.underlying a.type = some .bool ∧ Try.prog.underlying b.type = some (.int .i64) ∧ Try.prog.underlying c.type = some .string ∧ Try.prog.cellsOf a.type = 1 ∧ Try.prog.cellsOf b.type = 1 ∧ Try.prog.cellsOf c.type = 1 :=
 ⟨_, _, _, ⟨_, Try.underlying34, rfl⟩, ⟨rfl, rfl, rfl⟩, by kernel_rfl, by kernel_rfl, by kernel_rfl, by kernel_rfl, by kernel_rfl, by kernel_rfl⟩
theorem val_rdg : Rdg Try.prog 34 k34 OkV (fun x => x.f2.size + 1) := by
 obtain ⟨a, b, c, ⟨fs, h0, hfs⟩, ⟨oa, ob, oc⟩, ua, ub, uc, sa, sb, sc⟩ := val_flds
 have ha : Rdg Try.prog a.type Kd.bool (fun _ => True) (fun _ => 1) := Rdg.bool ua
 have hb : Rdg Try.prog b.type (Kd.int .i64) (fun x => (Lit.int .i64 x).wf = true) (fun _ => 1) := Rdg.int ub
 have hc : Rdg Try.prog c.type Kd.string (fun s => s.size ≤ maxLen) (fun s => s.size + 1) := Rdg.string uc
 have f3 : RdgF Try.prog 2 [c] Kd.string (fun s => s.size ≤ maxLen) (fun s => s.size + 1) := RdgF.one oc sc hc
 have f2 : RdgF Try.prog 1 [b, c] (Kd.pair (Kd.int .i64) Kd.string) (fun x => (Lit.int .i64 x.1).wf = true ∧ x.2.size ≤ maxLen) (fun x => 1 + (x.2.size + 1)) := RdgF.cons ob sb hb f3
 have f1 : RdgF Try.prog 0 [a, b, c] (Kd.pair Kd.bool (Kd.pair (Kd.int .i64) Kd.string)) (fun x => True ∧ (Lit.int .i64 x.2.1).wf = true ∧ x.2.2.size ≤ maxLen) (fun x => 1 + (1 + (x.2.2.size + 1))) := RdgF.cons oa sa ha f2
 rw [← hfs] at f1
 have hs : Rdg Try.prog 34 (Kd.pair Kd.bool (Kd.pair (Kd.int .i64) Kd.string)) (fun x => True ∧ (Lit.int .i64 x.2.1).wf = true ∧ x.2.2.size ≤ maxLen) (fun x => 1 + (1 + (x.2.2.size + 1))) := Rdg.struct h0 (by kernel_rfl) f1
 have hi : Rdg Try.prog 34 k34 (fun x => True ∧ (Lit.int .i64 x.f1).wf = true ∧ x.f2.size ≤ maxLen) (fun x => 1 + (1 + (x.f2.size + 1))) := Rdg.iso (f := fun x : SV => (x.f0, x.f1, x.f2)) (fun p => ⟨p.1, p.2.1, p.2.2⟩) (fun _ => rfl) hs
 intro H enc w base spare held fuel cs dat ps hh
 obtain ⟨x, k1, k2, k3⟩ := hi hh
 exact ⟨x, k1, k2.2, Nat.le_trans (by simp only; omega) k3⟩
theorem part_flds : ∃ a b c d : Field, (∃ fs : Array Field, Try.prog.underlying 36 = some (.struct fs) ∧ fs.toList = [a, b, c, d]) ∧ (a.offset = 0 ∧ b.offset = 1 ∧ c.offset = 2 ∧ d.offset = 5) ∧
  Try.prog.underlying a.type = some (.int .i64) ∧ Try.prog.underlying b.type = some (.int .i64) ∧ c.type = 34 ∧ d.type = 34 ∧ Try.prog.cellsOf a.type = 1 ∧ Try.prog.cellsOf b.type = 1 ∧ Try.prog.cellsOf c.type = 3 ∧ Try.prog.cellsOf d.type = 3 :=
 ⟨_, _, _, _, ⟨_, Try.underlying36, rfl⟩, ⟨rfl, rfl, rfl, rfl⟩, by kernel_rfl, by kernel_rfl, rfl, rfl, by kernel_rfl, by kernel_rfl, by kernel_rfl, by kernel_rfl⟩
def BP (p : SP) : Nat := p.f2.f2.size + p.f3.f2.size + 1
theorem part_rdg : Rdg Try.prog 36 k36 OkP BP := by
 obtain ⟨a, b, c, d, ⟨fs, h0, hfs⟩, ⟨oa, ob, oc, od⟩, ua, ub, uc, ud, sa, sb, sc, sd⟩ := part_flds
 have ha : Rdg Try.prog a.type (Kd.int .i64) (fun x => (Lit.int .i64 x).wf = true) (fun _ => 1) := Rdg.int ua
 have hb : Rdg Try.prog b.type (Kd.int .i64) (fun x => (Lit.int .i64 x).wf = true) (fun _ => 1) := Rdg.int ub
 have hc : Rdg Try.prog c.type k34 OkV (fun x => x.f2.size + 1) := by rw [uc]; exact val_rdg
 have hd : Rdg Try.prog d.type k34 OkV (fun x => x.f2.size + 1) := by rw [ud]; exact val_rdg
 have f4 : RdgF Try.prog 5 [d] k34 OkV (fun x => x.f2.size + 1) := RdgF.one od sd hd
 have f3 : RdgF Try.prog 2 [c, d] (Kd.pair k34 k34) (fun x => OkV x.1 ∧ OkV x.2) (fun x => (x.1.f2.size + 1) + (x.2.f2.size + 1)) := RdgF.cons oc sc hc f4
 have f2 : RdgF Try.prog 1 [b, c, d] (Kd.pair (Kd.int .i64) (Kd.pair k34 k34)) (fun x => (Lit.int .i64 x.1).wf = true ∧ OkV x.2.1 ∧ OkV x.2.2) (fun x => 1 + ((x.2.1.f2.size + 1) + (x.2.2.f2.size + 1))) := RdgF.cons ob sb hb f3
 have f1 : RdgF Try.prog 0 [a, b, c, d] (Kd.pair (Kd.int .i64) (Kd.pair (Kd.int .i64) (Kd.pair k34 k34))) (fun x => (Lit.int .i64 x.1).wf = true ∧ (Lit.int .i64 x.2.1).wf = true ∧ OkV x.2.2.1 ∧ OkV x.2.2.2) (fun x => 1 + (1 + ((x.2.2.1.f2.size + 1) + (x.2.2.2.f2.size + 1)))) := RdgF.cons oa sa ha f2
 rw [← hfs] at f1
 have hs : Rdg Try.prog 36 (Kd.pair (Kd.int .i64) (Kd.pair (Kd.int .i64) (Kd.pair k34 k34))) (fun x => (Lit.int .i64 x.1).wf = true ∧ (Lit.int .i64 x.2.1).wf = true ∧ OkV x.2.2.1 ∧ OkV x.2.2.2) (fun x => 1 + (1 + ((x.2.2.1.f2.size + 1) + (x.2.2.2.f2.size + 1)))) := Rdg.struct h0 (by kernel_rfl) f1
 have hi : Rdg Try.prog 36 k36 (fun x => (Lit.int .i64 x.f0).wf = true ∧ (Lit.int .i64 x.f1).wf = true ∧ OkV x.f2 ∧ OkV x.f3) (fun x => 1 + (1 + ((x.f2.f2.size + 1) + (x.f3.f2.size + 1)))) := Rdg.iso (f := fun x : SP => (x.f0, x.f1, x.f2, x.f3)) (fun p => ⟨p.1, p.2.1, p.2.2.1, p.2.2.2⟩) (fun _ => rfl) hs
 intro H enc w base spare held fuel cs dat ps hh
 obtain ⟨x, k1, k2, k3⟩ := hi hh
 exact ⟨x, k1, k2, Nat.le_trans (by simp only [BP]; omega) k3⟩
theorem edit_flds : ∃ a b c d : Field, (∃ fs : Array Field, Try.prog.underlying 32 = some (.struct fs) ∧ fs.toList = [a, b, c, d]) ∧ (a.offset = 0 ∧ b.offset = 1 ∧ c.offset = 2 ∧ d.offset = 3) ∧
  Try.prog.underlying a.type = some (.slice 3) ∧ Try.prog.underlying b.type = some (.slice 36) ∧ Try.prog.underlying c.type = some (.int .i64) ∧ Try.prog.underlying d.type = some (.int .i64) ∧ Try.prog.cellsOf a.type = 1 ∧ Try.prog.cellsOf b.type = 1 ∧ Try.prog.cellsOf c.type = 1 ∧ Try.prog.cellsOf d.type = 1 :=
 ⟨_, _, _, _, ⟨_, Try.underlying32, rfl⟩, ⟨rfl, rfl, rfl, rfl⟩, by kernel_rfl, by kernel_rfl, by kernel_rfl, by kernel_rfl, by kernel_rfl, by kernel_rfl, by kernel_rfl, by kernel_rfl⟩
def BE (x : SE) : Nat := (x.f0.map fun _ => 1).sum + 1 + ((x.f1.map BP).sum + 1)
theorem edit_rdg : Rdg Try.prog 32 k32 OkE BE := by
 obtain ⟨a, b, c, d, ⟨fs, h0, hfs⟩, ⟨oa, ob, oc, od⟩, ua, ub, uc, ud, sa, sb, sc, sd⟩ := edit_flds
 have ha : Rdg Try.prog a.type (Kd.slice 3 (Kd.int .i64)) (fun xs => xs.length ≤ maxLen ∧ ∀ x ∈ xs, (Lit.int .i64 x).wf = true) (fun xs => (xs.map fun _ => 1).sum + 1) := Rdg.slice ua (by kernel_rfl) (Rdg.int Try.underlying3)
 have hb : Rdg Try.prog b.type (Kd.slice 36 k36) (fun xs => xs.length ≤ maxLen ∧ ∀ x ∈ xs, OkP x) (fun xs => (xs.map BP).sum + 1) := Rdg.slice ub (by kernel_rfl) part_rdg
 have hc : Rdg Try.prog c.type (Kd.int .i64) (fun x => (Lit.int .i64 x).wf = true) (fun _ => 1) := Rdg.int uc
 have hd : Rdg Try.prog d.type (Kd.int .i64) (fun x => (Lit.int .i64 x).wf = true) (fun _ => 1) := Rdg.int ud
 have f4 : RdgF Try.prog 3 [d] (Kd.int .i64) (fun x => (Lit.int .i64 x).wf = true) (fun _ => 1) := RdgF.one od sd hd
 have f3 : RdgF Try.prog 2 [c, d] (Kd.pair (Kd.int .i64) (Kd.int .i64)) (fun x => (Lit.int .i64 x.1).wf = true ∧ (Lit.int .i64 x.2).wf = true) (fun x => 1 + 1) := RdgF.cons oc sc hc f4
 have f2 : RdgF Try.prog 1 [b, c, d] (Kd.pair (Kd.slice 36 k36) (Kd.pair (Kd.int .i64) (Kd.int .i64))) (fun x => (x.1.length ≤ maxLen ∧ ∀ y ∈ x.1, OkP y) ∧ (Lit.int .i64 x.2.1).wf = true ∧ (Lit.int .i64 x.2.2).wf = true) (fun x => ((x.1.map BP).sum + 1) + (1 + 1)) := RdgF.cons ob sb hb f3
 have f1 : RdgF Try.prog 0 [a, b, c, d] (Kd.pair (Kd.slice 3 (Kd.int .i64)) (Kd.pair (Kd.slice 36 k36) (Kd.pair (Kd.int .i64) (Kd.int .i64)))) (fun x => (x.1.length ≤ maxLen ∧ ∀ y ∈ x.1, (Lit.int .i64 y).wf = true) ∧ (x.2.1.length ≤ maxLen ∧ ∀ y ∈ x.2.1, OkP y) ∧ (Lit.int .i64 x.2.2.1).wf = true ∧ (Lit.int .i64 x.2.2.2).wf = true) (fun x => ((x.1.map fun _ => 1).sum + 1) + (((x.2.1.map BP).sum + 1) + (1 + 1))) := RdgF.cons oa sa ha f2
 rw [← hfs] at f1
 have hs : Rdg Try.prog 32 (Kd.pair (Kd.slice 3 (Kd.int .i64)) (Kd.pair (Kd.slice 36 k36) (Kd.pair (Kd.int .i64) (Kd.int .i64)))) (fun x => (x.1.length ≤ maxLen ∧ ∀ y ∈ x.1, (Lit.int .i64 y).wf = true) ∧ (x.2.1.length ≤ maxLen ∧ ∀ y ∈ x.2.1, OkP y) ∧ (Lit.int .i64 x.2.2.1).wf = true ∧ (Lit.int .i64 x.2.2.2).wf = true) (fun x => ((x.1.map fun _ => 1).sum + 1) + (((x.2.1.map BP).sum + 1) + (1 + 1))) := Rdg.struct h0 (by kernel_rfl) f1
 have hi : Rdg Try.prog 32 k32 (fun x => (x.f0.length ≤ maxLen ∧ ∀ y ∈ x.f0, (Lit.int .i64 y).wf = true) ∧ (x.f1.length ≤ maxLen ∧ ∀ y ∈ x.f1, OkP y) ∧ (Lit.int .i64 x.f2).wf = true ∧ (Lit.int .i64 x.f3).wf = true) (fun x => ((x.f0.map fun _ => 1).sum + 1) + (((x.f1.map BP).sum + 1) + (1 + 1))) := Rdg.iso (f := fun x : SE => (x.f0, x.f1, x.f2, x.f3)) (fun p => ⟨p.1, p.2.1, p.2.2.1, p.2.2.2⟩) (fun _ => rfl) hs
 intro H enc w base spare held fuel cs dat ps hh
 obtain ⟨x, k1, k2, k3⟩ := hi hh
 exact ⟨x, k1, k2, Nat.le_trans (by simp only [BE]; omega) k3⟩
structure Inv (s : List SP) (sf sn : Int) (n : Nat) : Prop where
 wf : wfP s = true
 nd : (idsOf s).Nodup
 lt : ∀ x ∈ idsOf s, x < sn
 len : s.length ≤ n
theorem Inv.nil (n : Nat) : Inv [] 0 0 n := ⟨rfl, List.nodup_nil, fun x hx => by simp [idsOf] at hx, Nat.zero_le _⟩
theorem addB_spec : ∀ (a : List SP) (ids : List Int) (nx : Int), addB nx ids a = true → ids.Nodup → (∀ x ∈ ids, x < nx) → (ids ++ idsOf a).Nodup ∧ ∀ x ∈ ids ++ idsOf a, x < nx
 | [], ids, nx, _, hn, hl => by simpa [idsOf] using ⟨hn, hl⟩
 | p :: a, ids, nx, h, hn, hl => by
  unfold addB at h
  simp only [Bool.and_eq_true, Bool.not_eq_true', decide_eq_false_iff_not] at h
  obtain ⟨h1, h2, h3⟩ := h
  have h2' : ¬ p.f0 ∈ ids := by simpa using h2
  have hl' : ∀ x ∈ ids ++ [p.f0], x < nx := fun x hx => by
   rcases List.mem_append.mp hx with h | h
   ·exact hl x h
   ·rw [List.mem_singleton] at h; omega
  have := addB_spec a (ids ++ [p.f0]) nx h3 (List.nodup_append.mpr ⟨hn, by simp, fun x hx y hy e => by rw [List.mem_singleton] at hy; subst hy; subst e; exact h2' hx⟩) hl'
  rw [List.append_assoc] at this
  exact this
theorem kept_sub (s : List SP) (d : List Int) : (idsOf (keptL s d)).Sublist (idsOf s) := List.Sublist.map _ List.filter_sublist
theorem apply_ok {s : List SP} {sf sn : Int} {d : List Int} {a : List SP} {fl nx : Int} {r : List SP} {rf rn : Int} (h : applyL s sf sn d a fl nx = (r, rf, rn, 0)) :
  rightB d a fl nx = true ∧ sf ≤ fl ∧ sn ≤ nx ∧ d.all (goodD s d) = true ∧ addB nx (idsOf (keptL s d)) a = true ∧ r = keptL s d ++ a ∧ rf = fl ∧ rn = nx := by
 unfold applyL at h
 split at h
 ·rename_i hc
  simp only [Bool.and_eq_true, decide_eq_true_eq] at hc
  simp only [Prod.mk.injEq] at h
  exact ⟨hc.1, hc.2.1, hc.2.2.1, hc.2.2.2.1, hc.2.2.2.2, h.1.symm, h.2.1.symm, h.2.2.1.symm⟩
 ·simp only [Prod.mk.injEq] at h
  exact absurd h.2.2.2 (by decide)
theorem Inv.step {s : List SP} {sf sn : Int} {n : Nat} (hI : Inv s sf sn n) {d : List Int} {a : List SP} {fl nx : Int} {r : List SP} {rf rn : Int} (h : applyL s sf sn d a fl nx = (r, rf, rn, 0)) : Inv r rf rn (n + 1000) ∧ sf ≤ rf ∧ sn ≤ rn := by
 obtain ⟨h1, h2, h3, h4, h5, rfl, rfl, rfl⟩ := apply_ok h
 obtain ⟨q1, q2, q3, q4, q5, q6⟩ := right_d h1
 have hs := kept_sub s d
 have ha := addB_spec a _ _ h5 (hs.nodup hI.nd) (fun x hx => by have := hI.lt x (hs.subset hx); omega)
 refine ⟨⟨?_, ?_, ?_, ?_⟩, h2, h3⟩
 ·unfold wfP
  rw [List.all_append, Bool.and_eq_true]
  refine ⟨?_, List.all_eq_true.mpr (fun p hp => wf_of (by have := q4 p hp; omega) (by have := q4 p hp; omega))⟩
  have := hI.wf
  unfold wfP at this
  rw [List.all_eq_true] at this ⊢
  exact fun p hp => this p (List.mem_filter.mp hp).1
 ·rw [idsOf_app]; exact ha.1
 ·rw [idsOf_app]; exact ha.2
 ·have h6 : (keptL s d).length ≤ s.length := List.length_filter_le _ _
  have := hI.len
  rw [List.length_append]; omega
end Go.Proofs.Ytagokgijffpdnaa.G
namespace Go.Proofs.Ytagokgijffpdnaa.G
open Go.RowKit Go.Proofs.YtagokgijffpdnaaQ Go.Proofs.YtagokgijffpdnaaW.PrintWords Go.Proofs.YtagokgijffpdnaaW.PrintLast Go.Proofs.YtagokgijffpdnaaW.PrintMore
attribute [local go_sem] max2_int min2_int max_two min_two max_three min_three max_four min_four   -- for this text's walks alone
set_option linter.unusedVariables false
set_option linter.unusedSimpArgs false
def tally_big.l0 : Nat → List Int → Int → Int → Option (List Int)
 | 0, _, _, _ => none
 | k + 1, x0, x1, x2 => if x2 ≥ 0 then (if 0 ≤ (wrap64 (8 * x2)) then (if x0.length < 140737488355328 then (tally_big.l0 k (x0 ++ [(shr .u64 x1 (wrap64 (8 * x2))) % 256]) x1 (wrap64 (x2 - 1))) else (none)) else (none)) else (some x0)
def tally_big.f (k : Nat) (l0 : List Int) (a1 : Int) (a2 : Int) : Option (List Int) := tally_big.l0 k l0 a1 (wrap64 (a2 - 1))
theorem tally_big.mono_l : ∀ k, (∀ y0 y1 y2, LeO (tally_big.l0 k y0 y1 y2) (tally_big.l0 (k + 1) y0 y1 y2))
 | 0 => fun _ _ _ r h => by simp [tally_big.l0] at h
 | k + 1 => by
  have ih0 := tally_big.mono_l k
  ·intro y0 y1 y2
   unfold tally_big.l0
   repeat' first
   | (with_reducible exact ih0 _ _ _)
   | (with_reducible exact LeO.refl _)
   | (with_reducible exact LeO.none _)
   | (with_reducible refine LeO.ite ?_ ?_)
   | (with_reducible refine LeO.bind ?_ (fun _ => ?_))
   | exact ih0 _ _ _
   | exact LeO.none _
   | refine LeO.ite ?_ ?_
   | refine LeO.bind ?_ (fun _ => ?_)
theorem tally_big.mono : ∀ a0 a1 a2 k, LeO (tally_big.f k a0 a1 a2) (tally_big.f (k + 1) a0 a1 a2) := by
 intro a0 a1 a2 k
 have ih0 := tally_big.mono_l k
 unfold tally_big.f
 repeat' first
   | (with_reducible exact ih0 _ _ _)
   | (with_reducible exact LeO.refl _)
   | (with_reducible exact LeO.none _)
   | (with_reducible refine LeO.ite ?_ ?_)
   | (with_reducible refine LeO.bind ?_ (fun _ => ?_))
   | exact ih0 _ _ _
   | exact LeO.none _
   | refine LeO.ite ?_ ?_
   | refine LeO.bind ?_ (fun _ => ?_)
set_option maxHeartbeats 8000000 in
set_option maxRecDepth 100000 in
theorem tally_big.calls (k : Nat) (P0_ : Nat → Prop) (u9000_ : Value) (l0 : List Int) (a1 : Int) (a2 : Int) (r : List Int) (w0 w : World) (hB : Below w0.heap.size w0 w) (ho0 : Kd.R (Kd.int .u8) 5 w w0.heap.size P0_ u9000_ l0) (h : tally_big.f k l0 a1 a2 = some r) :
  Calls Try.prog 63 #[u9000_, .int .u64 a1, .int .i64 a2] w fun e w' => ∃ v0_ : Value, e = .returned (v0_) ∧ Kd.R (Kd.int .u8) 5 w' w0.heap.size (fun k_ => (P0_ k_ ∨ w.heap.size ≤ k_)) v0_ r ∧ Below w0.heap.size w0 w' ∧ Kept w w' (fun k_ => P0_ k_) := by
 have HO0 := Aside0.mk (show Kd.R (Kd.int .u8) 5 w w0.heap.size (fun k_ => (P0_ k_ ∨ w.heap.size ≤ k_)) u9000_ l0 from Kd.R_mono ho0 (fun k_ hk => (.inl hk)))
 have HK := Aside0.mk (Kept.refl w (fun k_ => P0_ k_))
 have HW0 := Aside0.mk hB.size
 have HB := Aside0.mk hB
 clear hB
 have H : (tally_big.l0 k l0 a1 (wrap64 (a2 - 1))) = some r := h
 clear h
 have H' := Aside0.mk H
 clear H
 go_enter Try.func63, Try.ntmps63
 go_wp2
 go_loopg [0, 2] k (fun kq v0 v2 w' => ∃ (x0_1 : List Int) (x2_1 : Int), v2 = .int .i64 x2_1 ∧ Aside0 (tally_big.l0 kq x0_1 a1 x2_1 = some r) ∧ Aside0 (kq ≤ k) ∧ Aside0 (Kd.R (Kd.int .u8) 5 w' w0.heap.size (fun k_ => (P0_ k_ ∨ w.heap.size ≤ k_)) v0 x0_1) ∧ Aside0 (Kept w w' (fun k_ => P0_ k_)) ∧ Aside0 (Below w0.heap.size w0 w'))
 case atStart => exact ⟨(l0), (wrap64 (a2 - 1)), z4_, H', ⟨Nat.le_refl _⟩, ⟨by (with_reducible repeat (first | apply Kd.R_alloc | apply Kd.R_drewN | apply Kd.R_drew)); exact HO0.out⟩, ⟨z3_⟩, ⟨z0_⟩⟩
 case round =>
  clear H'
  try clear p2
  obtain ⟨x0_1, x2_1, rfl, HA, HK1, HO_0, HK, HB⟩ := hrel
  cases gk with
  | zero => exact absurd HA.out (by simp [tally_big.l0])
  | succ k1 =>
   have H := HA.out
   clear HA
   simp only [tally_big.l0] at H
   by_cases c4 : x2_1 ≥ 0
   ·rw [if_pos c4] at H
    have c4b0 : decide (0 ≤ x2_1) = true := decide_eq_true c4
    clear c4
    obtain ⟨ji5, hji5⟩ : ∃ j_ : Int, (wrap64 (8 * x2_1)) = j_ := ⟨_, rfl⟩
    replace H : (if 0 ≤ (ji5) then (if x0_1.length < 140737488355328 then (tally_big.l0 k1 (x0_1 ++ [(shr .u64 a1 (ji5)) % 256]) a1 (wrap64 (x2_1 - 1))) else (none)) else (none)) = some r := by first | (rw [hji5] at H; exact H) | (simp only [hji5] at H ⊢; exact H)
    have hji5w : (IntKind.i64.wrap (8 * x2_1)) = ji5 := (i64_w _).trans hji5
    by_cases c6 : 0 ≤ (ji5)
    ·rw [if_pos c6] at H
     have c6b0 := eq_true c6
     have c6b1 : decide (0 ≤ (ji5)) = true := decide_eq_true c6
     clear c6
     obtain ⟨ji7, hji7⟩ : ∃ j_ : Int, (shr .u64 a1 (ji5)) = j_ := ⟨_, rfl⟩
     replace H : (if x0_1.length < 140737488355328 then (tally_big.l0 k1 (x0_1 ++ [(ji7) % 256]) a1 (wrap64 (x2_1 - 1))) else (none)) = some r := by first | (rw [hji7] at H; exact H) | (simp only [hji7] at H ⊢; exact H)
     have hji7_ : (a1 / 2 ^ min (ji5).toNat 64) = ji7 := hji7
     have hji7z : (ji5) ≤ 64 → (a1 / 2 ^ (ji5).toNat) = ji7 := shr_small hji7
     by_cases c8 : x0_1.length < 140737488355328
     ·rw [if_pos c8] at H
      have LMc8 := Aside0.mk c8
      clear c8
      obtain ⟨y193, hy193⟩ : ∃ y_ : List Int, y_ = (x0_1 ++ [(ji7) % 256]) := ⟨_, rfl⟩
      replace H : (tally_big.l0 k1 y193 a1 (wrap64 (x2_1 - 1))) = some r := by first | (rw [hy193]; with_reducible exact H) | (have H2_ := (Option.bind_some _ _).symm.trans H; rw [hy193]; with_reducible exact H2_) | (have H2_ := (Option.bind_some _ _).symm.trans H; with_reducible exact H2_) | with_reducible exact H | (rw [hy193]; exact H) | exact H
      have Ny193 := Aside0.mk hy193
      clear hy193
      have H' := Aside0.mk H
      clear H
      go_wp2_with (first | ((with_reducible refine gate_builtin (b := .append) (xs := #[.tmp 13, .tmp 19]) rfl ?_); at_builtin; refine Kd.R_append (Kd.int .u8) (w0 := w0) w0.heap.size rfl (.tmp 13) (.tmp 19) 51 5 (.int .u8 0) 1 rfl Try.underlying51 info5 rfl (by decide) (by omega) u0 x0_1 ((ji7) % 256) [.int .u8 ((ji7) % 256)] (fun k_ => (P0_ k_ ∨ w.heap.size ≤ k_)) (fun _ => False) rfl rfl ?aP (fun _ hk => hk.elim) ?aF ?aO ?aB ?aS ?aL ?_; (case aP => exact rfl); (case aB => exact z0_); (case aF => exact (fun k_ hk => (.inr (Nat.le_trans (by first | exact HK.out.1 | exact (show Kept w _ (fun k_ => P0_ k_) from z3_).1) hk)))); (case aO => exact (by (with_reducible repeat (first | apply Kd.R_alloc | apply Kd.R_drewN | apply Kd.R_drew)); exact HO_0.out)); (case aS => exact (below_size z0_)); (case aL => have := LMc8.out; omega); intro v194 w9 ho hb hg hat; rw [← Ny193.out] at ho; have n0_ := Aside0.mk (hb); have n1_ := Aside0.mk (Kept.of_grown (S := (fun k_ => P0_ k_)) hg z3_ (fun k_ e_ => (HO_0.out.1 k_ e_))); have n2_ := Aside0.mk (ho); clear HB; clear HK; clear HO_0; have HB := n0_; have HK := n1_; have HO195 := n2_; clear n0_ n1_ n2_; clear ho hb hg hat))
      go_roundg k1
      case measure => have := HK1.out; omega
      case rel => exact ⟨(y193), (wrap64 (x2_1 - 1)), z4_, H', ⟨by have := HK1.out; omega⟩, ⟨by (with_reducible repeat (first | apply Kd.R_alloc | apply Kd.R_drewN | apply Kd.R_drew)); exact HO195.out⟩, ⟨z3_⟩, ⟨z0_⟩⟩
     ·rw [if_neg c8] at H
      exact absurd H (by simp)
    ·rw [if_neg c6] at H
     exact absurd H (by simp)
   ·rw [if_neg c4] at H
    have c4b0 : decide (0 ≤ x2_1) = false := decide_eq_false c4
    clear c4
    obtain rfl := Option.some.inj H
    go_wp2
    go_ret
    exact ⟨_, z2_, by (with_reducible repeat (first | apply Kd.R_alloc | apply Kd.R_drewN | apply Kd.R_drew)); exact HO_0.out, z0_, z3_⟩
def tally_Uint.f (k : Nat) (l0 : List Int) (a1 : Int) : Option (List Int) := if (a1 / 64) = 0 then (if l0.length < 140737488355328 then (some (l0 ++ [(a1) % 256])) else (none)) else (if (a1 / 16384) = 0 then ((tally_big.f k l0 (Go.bits .or .u64 a1 16384) 2).bind fun t199 => (some t199)) else (if (a1 / 1073741824) = 0 then ((tally_big.f k l0 (Go.bits .or .u64 a1 2147483648) 4).bind fun t202 => (some t202)) else (if l0.length < 140737488355328 then ((tally_big.f k (l0 ++ [192]) a1 8).bind fun t208 => (some t208)) else (none))))
theorem tally_Uint.mono : ∀ a0 a1 k, LeO (tally_Uint.f k a0 a1) (tally_Uint.f (k + 1) a0 a1) := by
 intro a0 a1 k
 unfold tally_Uint.f
 repeat' first
   | (with_reducible exact tally_big.mono _ _ _ _)
   | (with_reducible exact LeO.refl _)
   | (with_reducible exact LeO.none _)
   | (with_reducible refine LeO.ite ?_ ?_)
   | (with_reducible refine LeO.bind ?_ (fun _ => ?_))
   | exact tally_big.mono _ _ _ _
   | exact LeO.none _
   | refine LeO.ite ?_ ?_
   | refine LeO.bind ?_ (fun _ => ?_)
set_option maxHeartbeats 8000000 in
set_option maxRecDepth 100000 in
theorem tally_Uint.calls (k : Nat) (P0_ : Nat → Prop) (u9000_ : Value) (l0 : List Int) (a1 : Int) (r : List Int) (w0 w : World) (hB : Below w0.heap.size w0 w) (ho0 : Kd.R (Kd.int .u8) 5 w w0.heap.size P0_ u9000_ l0) (h : tally_Uint.f k l0 a1 = some r) :
  Calls Try.prog 38 #[u9000_, .int .u64 a1] w fun e w' => ∃ v0_ : Value, e = .returned (v0_) ∧ Kd.R (Kd.int .u8) 5 w' w0.heap.size (fun k_ => (P0_ k_ ∨ w.heap.size ≤ k_)) v0_ r ∧ Below w0.heap.size w0 w' ∧ Kept w w' (fun k_ => P0_ k_) := by
 have HO0 := Aside0.mk (show Kd.R (Kd.int .u8) 5 w w0.heap.size (fun k_ => (P0_ k_ ∨ w.heap.size ≤ k_)) u9000_ l0 from Kd.R_mono ho0 (fun k_ hk => (.inl hk)))
 have HK := Aside0.mk (Kept.refl w (fun k_ => P0_ k_))
 have HW0 := Aside0.mk hB.size
 have HB := Aside0.mk hB
 clear hB
 have H : (if (a1 / 64) = 0 then (if l0.length < 140737488355328 then (some (l0 ++ [(a1) % 256])) else (none)) else (if (a1 / 16384) = 0 then ((tally_big.f k l0 (Go.bits .or .u64 a1 16384) 2).bind fun t199 => (some t199)) else (if (a1 / 1073741824) = 0 then ((tally_big.f k l0 (Go.bits .or .u64 a1 2147483648) 4).bind fun t202 => (some t202)) else (if l0.length < 140737488355328 then ((tally_big.f k (l0 ++ [192]) a1 8).bind fun t208 => (some t208)) else (none))))) = some r := h
 clear h
 by_cases c3 : (a1 / 64) = 0
 ·rw [if_pos c3] at H
  have c3b0 : ((a1 / 64) == 0) = true := beq_iff_eq.mpr c3
  have c3b1 : ((a1 / 64) != 0) = false := bne_eq_false_iff_eq.mpr c3
  clear c3
  by_cases c4 : l0.length < 140737488355328
  ·rw [if_pos c4] at H
   have LMc4 := Aside0.mk c4
   clear c4
   obtain ⟨y196, hy196⟩ : ∃ y_ : List Int, y_ = (l0 ++ [(a1) % 256]) := ⟨_, rfl⟩
   replace H : (some y196) = some r := by first | (rw [hy196]; with_reducible exact H) | (have H2_ := (Option.bind_some _ _).symm.trans H; rw [hy196]; with_reducible exact H2_) | (have H2_ := (Option.bind_some _ _).symm.trans H; with_reducible exact H2_) | with_reducible exact H | (rw [hy196]; exact H) | exact H
   have Ny196 := Aside0.mk hy196
   clear hy196
   obtain rfl := Option.some.inj H
   go_enter Try.func38, Try.ntmps38
   go_wp2_with (first | ((with_reducible refine gate_builtin (b := .append) (xs := #[.tmp 9, .tmp 12]) rfl ?_); at_builtin; refine Kd.R_append (Kd.int .u8) (w0 := w0) w0.heap.size rfl (.tmp 9) (.tmp 12) 51 5 (.int .u8 0) 1 rfl Try.underlying51 info5 rfl (by decide) (by omega) u9000_ l0 ((a1) % 256) [.int .u8 ((a1) % 256)] (fun k_ => (P0_ k_ ∨ w.heap.size ≤ k_)) (fun _ => False) rfl rfl ?aP (fun _ hk => hk.elim) ?aF ?aO ?aB ?aS ?aL ?_; (case aP => exact rfl); (case aB => exact z0_); (case aF => exact (fun k_ hk => (.inr (Nat.le_trans (by first | exact HK.out.1 | exact (show Kept w _ (fun k_ => P0_ k_) from z3_).1) hk)))); (case aO => exact (by (with_reducible repeat (first | apply Kd.R_alloc | apply Kd.R_drewN | apply Kd.R_drew)); exact HO0.out)); (case aS => exact (below_size z0_)); (case aL => have := LMc4.out; omega); intro v197 w5 ho hb hg hat; rw [← Ny196.out] at ho; have n0_ := Aside0.mk (hb); have n1_ := Aside0.mk (Kept.of_grown (S := (fun k_ => P0_ k_)) hg z3_ (fun k_ e_ => (HO0.out.1 k_ e_))); have n2_ := Aside0.mk (ho); clear HB; clear HK; clear HO0; have HB := n0_; have HK := n1_; have HO198 := n2_; clear n0_ n1_ n2_; clear ho hb hg hat))
   go_ret
   exact ⟨_, z2_, by (with_reducible repeat (first | apply Kd.R_alloc | apply Kd.R_drewN | apply Kd.R_drew)); exact HO198.out, z0_, z3_⟩
  ·rw [if_neg c4] at H
   exact absurd H (by simp)
 ·rw [if_neg c3] at H
  have c3b0 : ((a1 / 64) == 0) = false := beq_eq_false_iff_ne.mpr c3
  have c3b1 : ((a1 / 64) != 0) = true := bne_iff_ne.mpr c3
  by_cases c6 : (a1 / 16384) = 0
  ·rw [if_pos c6] at H
   have c6b0 : ((a1 / 16384) == 0) = true := beq_iff_eq.mpr c6
   have c6b1 : ((a1 / 16384) != 0) = false := bne_eq_false_iff_eq.mpr c6
   clear c6
   replace H := Option.bind_eq_some_iff.mp H
   obtain ⟨t199, A70, H⟩ := H
   replace H : (some t199) = some r := H
   have A7 := Aside0.mk A70
   clear A70
   obtain rfl := Option.some.inj H
   obtain ⟨Ao8, co8, eo8⟩ := Kd.R_slice HO0.out
   subst eo8
   go_enter Try.func38, Try.ntmps38
   go_wp2_with (first | ((with_reducible refine gate_callee (f := 63) rfl ?_); refine goesL_ (some 21) rfl rfl Try.func63 (by kernel_rfl) rfl #[.slice Ao8 l0.length co8, .int .u64 (Go.bits .or .u64 a1 16384), .int .i64 2] rfl (by (try simp only [List.map_toArray, List.map_cons, List.map_nil]); first | done | rfl | (simp only [List.length_drop, List.length_take]; rfl) | (go_simp; simp [IntKind.wrap, IntKind.bits, IntKind.signed]; omega)) ?_; (with_reducible refine (tally_big.calls k (fun k_ => some k_ = (.slice Ao8 l0.length co8 : Value).ownBlock) (.slice Ao8 l0.length co8) l0 (Go.bits .or .u64 a1 16384) 2 t199 w0 _ ?side1 ?side2 A7.out).mono ?_); (case side1 => repeat (first | (with_reducible first | exact HB.out | apply below_alloc | apply pw_below_drewN | apply below_drew1) | exact HB.out)); (case side2 => exact Kd.R_tight rfl HO0.out); rintro e w9 ⟨v200, rfl, ho0, hb, hkp⟩; refine ⟨_, rfl, ?_⟩; have n0_ := Aside0.mk (Kd.R_mono (ok' := fun k_ => (P0_ k_ ∨ w.heap.size ≤ k_)) ho0 (fun k_ hk_ => Or.elim hk_ (fun hs_ => (HO0.out.1 k_ (hs_).symm)) (fun hn_ => (.inr (Nat.le_trans (by first | exact HK.out.1 | exact (show Kept w _ (fun k_ => P0_ k_) from z3_).1) hn_))))); have n1_ := Aside0.mk (Kept.then_ (S := (fun k_ => P0_ k_)) z3_ hkp (fun k_ hs_ => (fun e_ => (HO0.out.1 k_ e_.symm)) hs_)); have n2_ := Aside0.mk (hb); clear HK; clear HB; clear HO0; have HO201 := n0_; have HK := n1_; have HB := n2_; clear n0_ n1_ n2_; (try clear hb); (try clear hkp); (try clear ho0)))
   go_ret
   exact ⟨_, z2_, by (with_reducible repeat (first | apply Kd.R_alloc | apply Kd.R_drewN | apply Kd.R_drew)); exact HO201.out, z0_, z3_⟩
  ·rw [if_neg c6] at H
   have c6b0 : ((a1 / 16384) == 0) = false := beq_eq_false_iff_ne.mpr c6
   have c6b1 : ((a1 / 16384) != 0) = true := bne_iff_ne.mpr c6
   by_cases c10 : (a1 / 1073741824) = 0
   ·rw [if_pos c10] at H
    have c10b0 : ((a1 / 1073741824) == 0) = true := beq_iff_eq.mpr c10
    have c10b1 : ((a1 / 1073741824) != 0) = false := bne_eq_false_iff_eq.mpr c10
    clear c10
    replace H := Option.bind_eq_some_iff.mp H
    obtain ⟨t202, A110, H⟩ := H
    replace H : (some t202) = some r := H
    have A11 := Aside0.mk A110
    clear A110
    obtain rfl := Option.some.inj H
    obtain ⟨Ao12, co12, eo12⟩ := Kd.R_slice HO0.out
    subst eo12
    go_enter Try.func38, Try.ntmps38
    go_wp2_with (first | ((with_reducible refine gate_callee (f := 63) rfl ?_); refine goesL_ (some 29) rfl rfl Try.func63 (by kernel_rfl) rfl #[.slice Ao12 l0.length co12, .int .u64 (Go.bits .or .u64 a1 2147483648), .int .i64 4] rfl (by (try simp only [List.map_toArray, List.map_cons, List.map_nil]); first | done | rfl | (simp only [List.length_drop, List.length_take]; rfl) | (go_simp; simp [IntKind.wrap, IntKind.bits, IntKind.signed]; omega)) ?_; (with_reducible refine (tally_big.calls k (fun k_ => some k_ = (.slice Ao12 l0.length co12 : Value).ownBlock) (.slice Ao12 l0.length co12) l0 (Go.bits .or .u64 a1 2147483648) 4 t202 w0 _ ?side1 ?side2 A11.out).mono ?_); (case side1 => repeat (first | (with_reducible first | exact HB.out | apply below_alloc | apply pw_below_drewN | apply below_drew1) | exact HB.out)); (case side2 => exact Kd.R_tight rfl HO0.out); rintro e w13 ⟨v203, rfl, ho0, hb, hkp⟩; refine ⟨_, rfl, ?_⟩; have n0_ := Aside0.mk (Kd.R_mono (ok' := fun k_ => (P0_ k_ ∨ w.heap.size ≤ k_)) ho0 (fun k_ hk_ => Or.elim hk_ (fun hs_ => (HO0.out.1 k_ (hs_).symm)) (fun hn_ => (.inr (Nat.le_trans (by first | exact HK.out.1 | exact (show Kept w _ (fun k_ => P0_ k_) from z3_).1) hn_))))); have n1_ := Aside0.mk (Kept.then_ (S := (fun k_ => P0_ k_)) z3_ hkp (fun k_ hs_ => (fun e_ => (HO0.out.1 k_ e_.symm)) hs_)); have n2_ := Aside0.mk (hb); clear HK; clear HB; clear HO0; have HO204 := n0_; have HK := n1_; have HB := n2_; clear n0_ n1_ n2_; (try clear hb); (try clear hkp); (try clear ho0)))
    go_ret
    exact ⟨_, z2_, by (with_reducible repeat (first | apply Kd.R_alloc | apply Kd.R_drewN | apply Kd.R_drew)); exact HO204.out, z0_, z3_⟩
   ·rw [if_neg c10] at H
    have c10b0 : ((a1 / 1073741824) == 0) = false := beq_eq_false_iff_ne.mpr c10
    have c10b1 : ((a1 / 1073741824) != 0) = true := bne_iff_ne.mpr c10
    by_cases c14 : l0.length < 140737488355328
    ·rw [if_pos c14] at H
     have LMc14 := Aside0.mk c14
     clear c14
     obtain ⟨y205, hy205⟩ : ∃ y_ : List Int, y_ = (l0 ++ [192]) := ⟨_, rfl⟩
     replace H : ((tally_big.f k y205 a1 8).bind fun t208 => (some t208)) = some r := by first | (rw [hy205]; with_reducible exact H) | (have H2_ := (Option.bind_some _ _).symm.trans H; rw [hy205]; with_reducible exact H2_) | (have H2_ := (Option.bind_some _ _).symm.trans H; with_reducible exact H2_) | with_reducible exact H | (rw [hy205]; exact H) | exact H
     have Ny205 := Aside0.mk hy205
     clear hy205
     replace H := Option.bind_eq_some_iff.mp H
     obtain ⟨t208, A150, H⟩ := H
     replace H : (some t208) = some r := H
     have A15 := Aside0.mk A150
     clear A150
     obtain rfl := Option.some.inj H
     go_enter Try.func38, Try.ntmps38
     go_wp2_with (first | ((with_reducible refine gate_builtin (b := .append) (xs := #[.tmp 30, .tmp 31]) rfl ?_); at_builtin; refine Kd.R_append (Kd.int .u8) (w0 := w0) w0.heap.size rfl (.tmp 30) (.tmp 31) 51 5 (.int .u8 0) 1 rfl Try.underlying51 info5 rfl (by decide) (by omega) u9000_ l0 192 [.int .u8 192] (fun k_ => (P0_ k_ ∨ w.heap.size ≤ k_)) (fun _ => False) rfl rfl ?aP (fun _ hk => hk.elim) ?aF ?aO ?aB ?aS ?aL ?_; (case aP => exact rfl); (case aB => exact z0_); (case aF => exact (fun k_ hk => (.inr (Nat.le_trans (by first | exact HK.out.1 | exact (show Kept w _ (fun k_ => P0_ k_) from z3_).1) hk)))); (case aO => exact (by (with_reducible repeat (first | apply Kd.R_alloc | apply Kd.R_drewN | apply Kd.R_drew)); exact HO0.out)); (case aS => exact (below_size z0_)); (case aL => have := LMc14.out; omega); intro v206 w16 ho hb hg hat; rw [← Ny205.out] at ho; have n0_ := Aside0.mk (hb); have n1_ := Aside0.mk (Kept.of_grown (S := (fun k_ => P0_ k_)) hg z3_ (fun k_ e_ => (HO0.out.1 k_ e_))); have n2_ := Aside0.mk (ho); clear HB; clear HK; clear HO0; have HB := n0_; have HK := n1_; have HO207 := n2_; clear n0_ n1_ n2_; clear ho hb hg hat; obtain ⟨Ao17, co17, eo17⟩ := Kd.R_slice HO207.out; subst eo17) | ((with_reducible refine gate_callee (f := 63) rfl ?_); refine goesL_ (some 34) rfl rfl Try.func63 (by kernel_rfl) rfl #[.slice Ao17 y205.length co17, .int .u64 a1, .int .i64 8] rfl (by (try simp only [List.map_toArray, List.map_cons, List.map_nil]); first | done | rfl | (simp only [List.length_drop, List.length_take]; rfl) | (go_simp; simp [IntKind.wrap, IntKind.bits, IntKind.signed]; omega)) ?_; (with_reducible refine (tally_big.calls k (fun k_ => some k_ = (.slice Ao17 y205.length co17 : Value).ownBlock) (.slice Ao17 y205.length co17) y205 a1 8 t208 w0 _ ?side1 ?side2 A15.out).mono ?_); (case side1 => repeat (first | (with_reducible first | exact HB.out | apply below_alloc | apply pw_below_drewN | apply below_drew1) | exact HB.out)); (case side2 => exact Kd.R_tight rfl HO207.out); rintro e w18 ⟨v209, rfl, ho0, hb, hkp⟩; refine ⟨_, rfl, ?_⟩; have n0_ := Aside0.mk (Kd.R_mono (ok' := fun k_ => (P0_ k_ ∨ w.heap.size ≤ k_)) ho0 (fun k_ hk_ => Or.elim hk_ (fun hs_ => (HO207.out.1 k_ (hs_).symm)) (fun hn_ => (.inr (Nat.le_trans (by first | exact HK.out.1 | exact (show Kept w _ (fun k_ => P0_ k_) from z3_).1) hn_))))); have n1_ := Aside0.mk (Kept.then_ (S := (fun k_ => P0_ k_)) z3_ hkp (fun k_ hs_ => (fun e_ => (HO207.out.1 k_ e_.symm)) hs_)); have n2_ := Aside0.mk (hb); clear HK; clear HB; clear HO207; have HO210 := n0_; have HK := n1_; have HB := n2_; clear n0_ n1_ n2_; (try clear hb); (try clear hkp); (try clear ho0)))
     go_ret
     exact ⟨_, z2_, by (with_reducible repeat (first | apply Kd.R_alloc | apply Kd.R_drewN | apply Kd.R_drew)); exact HO210.out, z0_, z3_⟩
    ·rw [if_neg c14] at H
     exact absurd H (by simp)
def manifest_nums.l0 : Nat → List Int → List Int → Int → Int → Option (List Int)
 | 0, _, _, _, _ => none
 | k + 1, x0, x7, x8, x9 => if x9 < x8 then (if 0 ≤ x9 then (if x9 < (x7.length : Int) then ((tally_Uint.f k x0 (IntKind.u64.wrap (rd x7 x9))).bind fun t212 => (manifest_nums.l0 k t212 x7 x8 (wrap64 (x9 + 1)))) else (none)) else (none)) else (some x0)
def manifest_nums.f (k : Nat) (l0 : List Int) (l1 : List Int) : Option (List Int) := manifest_nums.l0 k l0 l1 (l1.length : Int) 0
theorem manifest_nums.mono_l : ∀ k, (∀ y0 y1 y2 y3, LeO (manifest_nums.l0 k y0 y1 y2 y3) (manifest_nums.l0 (k + 1) y0 y1 y2 y3))
 | 0 => fun _ _ _ _ r h => by simp [manifest_nums.l0] at h
 | k + 1 => by
  have ih0 := manifest_nums.mono_l k
  ·intro y0 y1 y2 y3
   unfold manifest_nums.l0
   repeat' first
   | (with_reducible exact ih0 _ _ _ _)
   | (with_reducible exact tally_Uint.mono _ _ _)
   | (with_reducible exact LeO.refl _)
   | (with_reducible exact LeO.none _)
   | (with_reducible refine LeO.ite ?_ ?_)
   | (with_reducible refine LeO.bind ?_ (fun _ => ?_))
   | exact ih0 _ _ _ _
   | exact tally_Uint.mono _ _ _
   | exact LeO.none _
   | refine LeO.ite ?_ ?_
   | refine LeO.bind ?_ (fun _ => ?_)
theorem manifest_nums.mono : ∀ a0 a1 k, LeO (manifest_nums.f k a0 a1) (manifest_nums.f (k + 1) a0 a1) := by
 intro a0 a1 k
 have ih0 := manifest_nums.mono_l k
 unfold manifest_nums.f
 repeat' first
   | (with_reducible exact ih0 _ _ _ _)
   | (with_reducible exact tally_Uint.mono _ _ _)
   | (with_reducible exact LeO.refl _)
   | (with_reducible exact LeO.none _)
   | (with_reducible refine LeO.ite ?_ ?_)
   | (with_reducible refine LeO.bind ?_ (fun _ => ?_))
   | exact ih0 _ _ _ _
   | exact tally_Uint.mono _ _ _
   | exact LeO.none _
   | refine LeO.ite ?_ ?_
   | refine LeO.bind ?_ (fun _ => ?_)
set_option maxHeartbeats 8000000 in
set_option maxRecDepth 100000 in
theorem manifest_nums.calls (k : Nat) (P0_ : Nat → Prop) (u9000_ : Value) (l0 : List Int) (A1 : Option Addr) (c1 : Nat) (l1 : List Int) (r : List Int) (w0 w : World) (hB : Below w0.heap.size w0 w) (ho0 : Kd.R (Kd.int .u8) 5 w w0.heap.size P0_ u9000_ l0) (hr1 : ∀ W_, Kept w W_ (fun k_ => P0_ k_) → Kd.C (Kd.int .i64) W_ A1 l1.length l1) (hc1 : l1.length ≤ c1) (h : manifest_nums.f k l0 l1 = some r) :
  Calls Try.prog 20 #[u9000_, .slice A1 l1.length c1] w fun e w' => ∃ v0_ : Value, e = .returned (v0_) ∧ Kd.R (Kd.int .u8) 5 w' w0.heap.size (fun k_ => (P0_ k_ ∨ w.heap.size ≤ k_)) v0_ r ∧ Below w0.heap.size w0 w' ∧ Kept w w' (fun k_ => P0_ k_) := by
 have HO0 := Aside0.mk (show Kd.R (Kd.int .u8) 5 w w0.heap.size (fun k_ => (P0_ k_ ∨ w.heap.size ≤ k_)) u9000_ l0 from Kd.R_mono ho0 (fun k_ hk => (.inl hk)))
 have HR1 := Aside0.mk hr1
 have HC1 := Aside0.mk hc1
 clear hr1 hc1
 have HK := Aside0.mk (Kept.refl w (fun k_ => P0_ k_))
 have HW0 := Aside0.mk hB.size
 have HB := Aside0.mk hB
 clear hB
 have H : (manifest_nums.l0 k l0 l1 (l1.length : Int) 0) = some r := h
 clear h
 have H' := Aside0.mk H
 clear H
 go_enter Try.func20, Try.ntmps20
 go_wp2
 go_loopg [0, 9] k (fun kq v0 v9 w' => ∃ (x0_1 : List Int) (x9_1 : Int), v9 = .int .i64 x9_1 ∧ Aside0 (manifest_nums.l0 kq x0_1 l1 (l1.length : Int) x9_1 = some r) ∧ Aside0 (kq ≤ k) ∧ Aside0 (Kd.R (Kd.int .u8) 5 w' w0.heap.size (fun k_ => (P0_ k_ ∨ w.heap.size ≤ k_)) v0 x0_1) ∧ Aside0 (Kept w w' (fun k_ => P0_ k_)) ∧ Aside0 (Below w0.heap.size w0 w'))
 case atStart => exact ⟨(l0), (0), z4_, H', ⟨Nat.le_refl _⟩, ⟨by (with_reducible repeat (first | apply Kd.R_alloc | apply Kd.R_drewN | apply Kd.R_drew)); exact HO0.out⟩, ⟨z3_⟩, ⟨z0_⟩⟩
 case round =>
  clear H'
  try clear c1
  try clear c2
  try clear p2
  obtain ⟨x0_1, x9_1, rfl, HA, HK1, HO_0, HK, HB⟩ := hrel
  cases gk with
  | zero => exact absurd HA.out (by simp [manifest_nums.l0])
  | succ k1 =>
   have H := HA.out
   clear HA
   simp only [manifest_nums.l0] at H
   by_cases c3 : x9_1 < (l1.length : Int)
   ·rw [if_pos c3] at H
    have c3b0 : decide (x9_1 < (l1.length : Int)) = true := decide_eq_true c3
    clear c3
    by_cases c4 : 0 ≤ x9_1
    ·rw [if_pos c4] at H
     have c4b0 : decide (0 ≤ x9_1) = true := decide_eq_true c4
     clear c4
     by_cases c5 : x9_1 < (l1.length : Int)
     ·rw [if_pos c5] at H
      have c5b0 : decide (x9_1 < (l1.length : Int)) = true := decide_eq_true c5
      clear c5
      replace H := Option.bind_eq_some_iff.mp H
      obtain ⟨t212, A60, H⟩ := H
      replace H : (manifest_nums.l0 k1 t212 l1 (l1.length : Int) (wrap64 (x9_1 + 1))) = some r := H
      have A6 := Aside0.mk A60
      clear A60
      have H' := Aside0.mk H
      clear H
      have p211 : 0 ≤ (x9_1 : Int) := of_decide_eq_true z5_
      have q211 : x9_1 < (l1.length : Int) := of_decide_eq_true z5_
      obtain ⟨ad211, e211, hx211_0⟩ := Kd.at_int (Kd.C_kept_now HR1.out HK.out) x9_1 p211 q211
      cases e211
      replace p211 := eq_true p211
      replace q211 := eq_true q211
      obtain ⟨Ao7, co7, eo7⟩ := Kd.R_slice HO_0.out
      subst eo7
      go_wp2_with (first | ((with_reducible refine gate_callee (f := 38) rfl ?_); refine goesL_ (some 16) rfl rfl Try.func38 (by kernel_rfl) rfl #[.slice Ao7 x0_1.length co7, .int .u64 (IntKind.u64.wrap (rd l1 x9_1))] rfl (by (try simp only [List.map_toArray, List.map_cons, List.map_nil]); first | done | rfl | (simp only [List.length_drop, List.length_take]; rfl) | (go_simp; simp [IntKind.wrap, IntKind.bits, IntKind.signed]; omega)) ?_; (with_reducible refine (tally_Uint.calls k1 (fun k_ => some k_ = (.slice Ao7 x0_1.length co7 : Value).ownBlock) (.slice Ao7 x0_1.length co7) x0_1 (IntKind.u64.wrap (rd l1 x9_1)) t212 w0 _ ?side1 ?side2 A6.out).mono ?_); (case side1 => repeat (first | (with_reducible first | exact HB.out | apply below_alloc | apply pw_below_drewN | apply below_drew1) | exact HB.out)); (case side2 => exact Kd.R_tight rfl HO_0.out); rintro e w8 ⟨v213, rfl, ho0, hb, hkp⟩; refine ⟨_, rfl, ?_⟩; have n0_ := Aside0.mk (Kd.R_mono (ok' := fun k_ => (P0_ k_ ∨ w.heap.size ≤ k_)) ho0 (fun k_ hk_ => Or.elim hk_ (fun hs_ => (HO_0.out.1 k_ (hs_).symm)) (fun hn_ => (.inr (Nat.le_trans (by first | exact HK.out.1 | exact (show Kept w _ (fun k_ => P0_ k_) from z3_).1) hn_))))); have n1_ := Aside0.mk (Kept.then_ (S := (fun k_ => P0_ k_)) z3_ hkp (fun k_ hs_ => (fun e_ => (HO_0.out.1 k_ e_.symm)) hs_)); have n2_ := Aside0.mk (hb); clear HK; clear HB; clear HO_0; have HO214 := n0_; have HK := n1_; have HB := n2_; clear n0_ n1_ n2_; (try clear hb); (try clear hkp); (try clear ho0)))
      go_roundg k1
      case measure => have := HK1.out; omega
      case rel => exact ⟨(t212), (wrap64 (x9_1 + 1)), z4_, H', ⟨by have := HK1.out; omega⟩, ⟨by (with_reducible repeat (first | apply Kd.R_alloc | apply Kd.R_drewN | apply Kd.R_drew)); exact HO214.out⟩, ⟨z3_⟩, ⟨z0_⟩⟩
     ·rw [if_neg c5] at H
      exact absurd H (by simp)
    ·rw [if_neg c4] at H
     exact absurd H (by simp)
   ·rw [if_neg c3] at H
    have c3b0 : decide (x9_1 < (l1.length : Int)) = false := decide_eq_false c3
    clear c3
    obtain rfl := Option.some.inj H
    go_wp2
    go_ret
    exact ⟨_, z2_, by (with_reducible repeat (first | apply Kd.R_alloc | apply Kd.R_drewN | apply Kd.R_drew)); exact HO_0.out, z0_, z3_⟩
def tally_Text.f (k : Nat) (l0 : List Int) (a1 : ByteArray) : Option (List Int) := (tally_Uint.f k l0 (IntKind.u64.wrap ((a1.size : Int)))).bind fun t215 => (if t215.length + a1.size < 140737488355328 then (some (t215 ++ bytesOf a1)) else (none))
theorem tally_Text.mono : ∀ a0 a1 k, LeO (tally_Text.f k a0 a1) (tally_Text.f (k + 1) a0 a1) := by
 intro a0 a1 k
 unfold tally_Text.f
 repeat' first
   | (with_reducible exact tally_Uint.mono _ _ _)
   | (with_reducible exact LeO.refl _)
   | (with_reducible exact LeO.none _)
   | (with_reducible refine LeO.ite ?_ ?_)
   | (with_reducible refine LeO.bind ?_ (fun _ => ?_))
   | exact tally_Uint.mono _ _ _
   | exact LeO.none _
   | refine LeO.ite ?_ ?_
   | refine LeO.bind ?_ (fun _ => ?_)
set_option maxHeartbeats 8000000 in
set_option maxRecDepth 100000 in
theorem tally_Text.calls (k : Nat) (P0_ : Nat → Prop) (u9000_ : Value) (l0 : List Int) (a1 : ByteArray) (r : List Int) (w0 w : World) (hB : Below w0.heap.size w0 w) (ho0 : Kd.R (Kd.int .u8) 5 w w0.heap.size P0_ u9000_ l0) (h : tally_Text.f k l0 a1 = some r) :
  Calls Try.prog 39 #[u9000_, .string a1] w fun e w' => ∃ v0_ : Value, e = .returned (v0_) ∧ Kd.R (Kd.int .u8) 5 w' w0.heap.size (fun k_ => (P0_ k_ ∨ w.heap.size ≤ k_)) v0_ r ∧ Below w0.heap.size w0 w' ∧ Kept w w' (fun k_ => P0_ k_) := by
 have HO0 := Aside0.mk (show Kd.R (Kd.int .u8) 5 w w0.heap.size (fun k_ => (P0_ k_ ∨ w.heap.size ≤ k_)) u9000_ l0 from Kd.R_mono ho0 (fun k_ hk => (.inl hk)))
 have HK := Aside0.mk (Kept.refl w (fun k_ => P0_ k_))
 have HW0 := Aside0.mk hB.size
 have HB := Aside0.mk hB
 clear hB
 have H : ((tally_Uint.f k l0 (IntKind.u64.wrap ((a1.size : Int)))).bind fun t215 => (if t215.length + a1.size < 140737488355328 then (some (t215 ++ bytesOf a1)) else (none))) = some r := h
 clear h
 replace H := Option.bind_eq_some_iff.mp H
 obtain ⟨t215, A30, H⟩ := H
 replace H : (if t215.length + a1.size < 140737488355328 then (some (t215 ++ bytesOf a1)) else (none)) = some r := H
 have A3 := Aside0.mk A30
 clear A30
 by_cases c4 : t215.length + a1.size < 140737488355328
 ·rw [if_pos c4] at H
  have LMc4 := Aside0.mk c4
  clear c4
  obtain ⟨y218, hy218⟩ : ∃ y_ : List Int, y_ = (t215 ++ bytesOf a1) := ⟨_, rfl⟩
  replace H : (some y218) = some r := by first | (rw [hy218]; with_reducible exact H) | (have H2_ := (Option.bind_some _ _).symm.trans H; rw [hy218]; with_reducible exact H2_) | (have H2_ := (Option.bind_some _ _).symm.trans H; with_reducible exact H2_) | with_reducible exact H | (rw [hy218]; exact H) | exact H
  have Ny218 := Aside0.mk hy218
  clear hy218
  obtain rfl := Option.some.inj H
  obtain ⟨Ao5, co5, eo5⟩ := Kd.R_slice HO0.out
  subst eo5
  go_enter Try.func39, Try.ntmps39
  go_wp2_with (first | ((with_reducible refine gate_callee (f := 38) rfl ?_); refine goesL_ (some 9) rfl rfl Try.func38 (by kernel_rfl) rfl #[.slice Ao5 l0.length co5, .int .u64 (IntKind.u64.wrap ((a1.size : Int)))] rfl (by (try simp only [List.map_toArray, List.map_cons, List.map_nil]); first | done | rfl | (simp only [List.length_drop, List.length_take]; rfl) | (go_simp; simp [IntKind.wrap, IntKind.bits, IntKind.signed]; omega)) ?_; (with_reducible refine (tally_Uint.calls k (fun k_ => some k_ = (.slice Ao5 l0.length co5 : Value).ownBlock) (.slice Ao5 l0.length co5) l0 (IntKind.u64.wrap ((a1.size : Int))) t215 w0 _ ?side1 ?side2 A3.out).mono ?_); (case side1 => repeat (first | (with_reducible first | exact HB.out | apply below_alloc | apply pw_below_drewN | apply below_drew1) | exact HB.out)); (case side2 => exact Kd.R_tight rfl HO0.out); rintro e w6 ⟨v216, rfl, ho0, hb, hkp⟩; refine ⟨_, rfl, ?_⟩; have n0_ := Aside0.mk (Kd.R_mono (ok' := fun k_ => (P0_ k_ ∨ w.heap.size ≤ k_)) ho0 (fun k_ hk_ => Or.elim hk_ (fun hs_ => (HO0.out.1 k_ (hs_).symm)) (fun hn_ => (.inr (Nat.le_trans (by first | exact HK.out.1 | exact (show Kept w _ (fun k_ => P0_ k_) from z3_).1) hn_))))); have n1_ := Aside0.mk (Kept.then_ (S := (fun k_ => P0_ k_)) z3_ hkp (fun k_ hs_ => (fun e_ => (HO0.out.1 k_ e_.symm)) hs_)); have n2_ := Aside0.mk (hb); clear HK; clear HB; clear HO0; have HO217 := n0_; have HK := n1_; have HB := n2_; clear n0_ n1_ n2_; (try clear hb); (try clear hkp); (try clear ho0)) | (at_builtin; refine R_append_str (w0 := w0) w0.heap.size rfl (.tmp 9) _ 51 9 5 rfl Try.underlying51 Try.underlying9 info5 v216 t215 a1 (fun k_ => (P0_ k_ ∨ w.heap.size ≤ k_)) rfl rfl ?aF ?aO ?aB ?aS ?aL ?_; (case aB => exact z0_); (case aF => exact (fun k_ hk => (.inr (Nat.le_trans (by first | exact HK.out.1 | exact (show Kept w _ (fun k_ => P0_ k_) from z3_).1) hk)))); (case aO => exact (by (with_reducible repeat (first | apply Kd.R_alloc | apply Kd.R_drewN | apply Kd.R_drew)); exact HO217.out)); (case aS => exact (below_size z0_)); (case aL => have := LMc4.out; omega); intro v219 w7 ho hb hg hat; rw [← Ny218.out] at ho; have n0_ := Aside0.mk (hb); have n1_ := Aside0.mk (Kept.of_grown (S := (fun k_ => P0_ k_)) hg z3_ (fun k_ e_ => (HO217.out.1 k_ e_))); have n2_ := Aside0.mk (ho); clear HB; clear HK; clear HO217; have HB := n0_; have HK := n1_; have HO220 := n2_; clear n0_ n1_ n2_; clear ho hb hg hat))
  go_ret
  exact ⟨_, z2_, by (with_reducible repeat (first | apply Kd.R_alloc | apply Kd.R_drewN | apply Kd.R_drew)); exact HO220.out, z0_, z3_⟩
 ·rw [if_neg c4] at H
  exact absurd H (by simp)
def tally_Int.f (k : Nat) (l0 : List Int) (a1 : Int) : Option (List Int) := (tally_Uint.f k l0 (Go.bits .xor .u64 (IntKind.u64.wrap (wrap64 (a1 * 2))) (IntKind.u64.wrap (a1 / 9223372036854775808)))).bind fun t221 => (some t221)
theorem tally_Int.mono : ∀ a0 a1 k, LeO (tally_Int.f k a0 a1) (tally_Int.f (k + 1) a0 a1) := by
 intro a0 a1 k
 unfold tally_Int.f
 repeat' first
   | (with_reducible exact tally_Uint.mono _ _ _)
   | (with_reducible exact LeO.refl _)
   | (with_reducible exact LeO.none _)
   | (with_reducible refine LeO.ite ?_ ?_)
   | (with_reducible refine LeO.bind ?_ (fun _ => ?_))
   | exact tally_Uint.mono _ _ _
   | exact LeO.none _
   | refine LeO.ite ?_ ?_
   | refine LeO.bind ?_ (fun _ => ?_)
set_option maxHeartbeats 8000000 in
set_option maxRecDepth 100000 in
theorem tally_Int.calls (k : Nat) (P0_ : Nat → Prop) (u9000_ : Value) (l0 : List Int) (a1 : Int) (r : List Int) (w0 w : World) (hB : Below w0.heap.size w0 w) (ho0 : Kd.R (Kd.int .u8) 5 w w0.heap.size P0_ u9000_ l0) (h : tally_Int.f k l0 a1 = some r) :
  Calls Try.prog 40 #[u9000_, .int .i64 a1] w fun e w' => ∃ v0_ : Value, e = .returned (v0_) ∧ Kd.R (Kd.int .u8) 5 w' w0.heap.size (fun k_ => (P0_ k_ ∨ w.heap.size ≤ k_)) v0_ r ∧ Below w0.heap.size w0 w' ∧ Kept w w' (fun k_ => P0_ k_) := by
 have HO0 := Aside0.mk (show Kd.R (Kd.int .u8) 5 w w0.heap.size (fun k_ => (P0_ k_ ∨ w.heap.size ≤ k_)) u9000_ l0 from Kd.R_mono ho0 (fun k_ hk => (.inl hk)))
 have HK := Aside0.mk (Kept.refl w (fun k_ => P0_ k_))
 have HW0 := Aside0.mk hB.size
 have HB := Aside0.mk hB
 clear hB
 have H : ((tally_Uint.f k l0 (Go.bits .xor .u64 (IntKind.u64.wrap (wrap64 (a1 * 2))) (IntKind.u64.wrap (a1 / 9223372036854775808)))).bind fun t221 => (some t221)) = some r := h
 clear h
 replace H := Option.bind_eq_some_iff.mp H
 obtain ⟨t221, A30, H⟩ := H
 replace H : (some t221) = some r := H
 have A3 := Aside0.mk A30
 clear A30
 obtain rfl := Option.some.inj H
 obtain ⟨Ao4, co4, eo4⟩ := Kd.R_slice HO0.out
 subst eo4
 go_enter Try.func40, Try.ntmps40
 go_wp2_with (first | ((with_reducible refine gate_callee (f := 38) rfl ?_); refine goesL_ (some 13) rfl rfl Try.func38 (by kernel_rfl) rfl #[.slice Ao4 l0.length co4, .int .u64 (Go.bits .xor .u64 (IntKind.u64.wrap (wrap64 (a1 * 2))) (IntKind.u64.wrap (a1 / 9223372036854775808)))] rfl (by (try simp only [List.map_toArray, List.map_cons, List.map_nil]); first | done | rfl | (simp only [List.length_drop, List.length_take]; rfl) | (go_simp; simp [IntKind.wrap, IntKind.bits, IntKind.signed]; omega)) ?_; (with_reducible refine (tally_Uint.calls k (fun k_ => some k_ = (.slice Ao4 l0.length co4 : Value).ownBlock) (.slice Ao4 l0.length co4) l0 (Go.bits .xor .u64 (IntKind.u64.wrap (wrap64 (a1 * 2))) (IntKind.u64.wrap (a1 / 9223372036854775808))) t221 w0 _ ?side1 ?side2 A3.out).mono ?_); (case side1 => repeat (first | (with_reducible first | exact HB.out | apply below_alloc | apply pw_below_drewN | apply below_drew1) | exact HB.out)); (case side2 => exact Kd.R_tight rfl HO0.out); rintro e w5 ⟨v222, rfl, ho0, hb, hkp⟩; refine ⟨_, rfl, ?_⟩; have n0_ := Aside0.mk (Kd.R_mono (ok' := fun k_ => (P0_ k_ ∨ w.heap.size ≤ k_)) ho0 (fun k_ hk_ => Or.elim hk_ (fun hs_ => (HO0.out.1 k_ (hs_).symm)) (fun hn_ => (.inr (Nat.le_trans (by first | exact HK.out.1 | exact (show Kept w _ (fun k_ => P0_ k_) from z3_).1) hn_))))); have n1_ := Aside0.mk (Kept.then_ (S := (fun k_ => P0_ k_)) z3_ hkp (fun k_ hs_ => (fun e_ => (HO0.out.1 k_ e_.symm)) hs_)); have n2_ := Aside0.mk (hb); clear HK; clear HB; clear HO0; have HO223 := n0_; have HK := n1_; have HB := n2_; clear n0_ n1_ n2_; (try clear hb); (try clear hkp); (try clear ho0)))
 go_ret
 exact ⟨_, z2_, by (with_reducible repeat (first | apply Kd.R_alloc | apply Kd.R_drewN | apply Kd.R_drew)); exact HO223.out, z0_, z3_⟩
def manifest_bounds.l0 : Nat → List Int → List (S34) → Int → Int → Option (List Int)
 | 0, _, _, _, _ => none
 | k + 1, x0, x7, x8, x9 => if x9 < x8 then (if 0 ≤ x9 then (if x9 < (x7.length : Int) then ((tally_Int.f k x0 ((rd_T34 x7 x9).f1)).bind fun t226 => ((tally_Text.f k t226 ((rd_T34 x7 x9).f2)).bind fun t229 => (manifest_bounds.l0 k t229 x7 x8 (wrap64 (x9 + 1))))) else (none)) else (none)) else (some x0)
def manifest_bounds.f (k : Nat) (l0 : List Int) (l1 : List (S34)) : Option (List Int) := manifest_bounds.l0 k l0 l1 (l1.length : Int) 0
theorem manifest_bounds.mono_l : ∀ k, (∀ y0 y1 y2 y3, LeO (manifest_bounds.l0 k y0 y1 y2 y3) (manifest_bounds.l0 (k + 1) y0 y1 y2 y3))
 | 0 => fun _ _ _ _ r h => by simp [manifest_bounds.l0] at h
 | k + 1 => by
  have ih0 := manifest_bounds.mono_l k
  ·intro y0 y1 y2 y3
   unfold manifest_bounds.l0
   repeat' first
   | (with_reducible exact ih0 _ _ _ _)
   | (with_reducible exact tally_Int.mono _ _ _)
   | (with_reducible exact tally_Text.mono _ _ _)
   | (with_reducible exact LeO.refl _)
   | (with_reducible exact LeO.none _)
   | (with_reducible refine LeO.ite ?_ ?_)
   | (with_reducible refine LeO.bind ?_ (fun _ => ?_))
   | exact ih0 _ _ _ _
   | exact tally_Int.mono _ _ _
   | exact tally_Text.mono _ _ _
   | exact LeO.none _
   | refine LeO.ite ?_ ?_
   | refine LeO.bind ?_ (fun _ => ?_)
theorem manifest_bounds.mono : ∀ a0 a1 k, LeO (manifest_bounds.f k a0 a1) (manifest_bounds.f (k + 1) a0 a1) := by
 intro a0 a1 k
 have ih0 := manifest_bounds.mono_l k
 unfold manifest_bounds.f
 repeat' first
   | (with_reducible exact ih0 _ _ _ _)
   | (with_reducible exact tally_Int.mono _ _ _)
   | (with_reducible exact tally_Text.mono _ _ _)
   | (with_reducible exact LeO.refl _)
   | (with_reducible exact LeO.none _)
   | (with_reducible refine LeO.ite ?_ ?_)
   | (with_reducible refine LeO.bind ?_ (fun _ => ?_))
   | exact ih0 _ _ _ _
   | exact tally_Int.mono _ _ _
   | exact tally_Text.mono _ _ _
   | exact LeO.none _
   | refine LeO.ite ?_ ?_
   | refine LeO.bind ?_ (fun _ => ?_)
def manifest_bounds.T4 : Bool × List (List Nat × List Nat) := (true, [([], []), ([], []), ([1], [1]), ([0, 2], [0, 2]), ([], []), ([4], [4]), ([3, 5, 3], [3, 5]), ([6, 6, 0, 1, 2, 3, 4, 5, 6], [0, 6])])
def manifest_bounds.B4 : List Nat := [0, 0, 2, 7, 0, 16, 63, 127]
theorem manifest_bounds.tab4 : rtab .any (opsOf Try.f21 4) = manifest_bounds.T4 := by kernel_rfl
theorem manifest_bounds.bits4 : waitsOk manifest_bounds.T4.2 manifest_bounds.B4 = true := by kernel_rfl
set_option maxHeartbeats 8000000 in
set_option maxRecDepth 100000 in
theorem manifest_bounds.calls (k : Nat) (P0_ : Nat → Prop) (u9000_ : Value) (l0 : List Int) (A1 : Option Addr) (c1 : Nat) (l1 : List (S34)) (r : List Int) (w0 w : World) (hB : Below w0.heap.size w0 w) (ho0 : Kd.R (Kd.int .u8) 5 w w0.heap.size P0_ u9000_ l0) (hr1 : ∀ W_, Kept w W_ (fun k_ => P0_ k_) → Kd.C k34 W_ A1 l1.length l1) (hc1 : l1.length ≤ c1) (h : manifest_bounds.f k l0 l1 = some r) :
  Calls Try.prog 21 #[u9000_, .slice A1 l1.length c1] w fun e w' => ∃ v0_ : Value, e = .returned (v0_) ∧ Kd.R (Kd.int .u8) 5 w' w0.heap.size (fun k_ => (P0_ k_ ∨ w.heap.size ≤ k_)) v0_ r ∧ Below w0.heap.size w0 w' ∧ Kept w w' (fun k_ => P0_ k_) := by
 have hu34 := Try.underlying34
 have HO0 := Aside0.mk (show Kd.R (Kd.int .u8) 5 w w0.heap.size (fun k_ => (P0_ k_ ∨ w.heap.size ≤ k_)) u9000_ l0 from Kd.R_mono ho0 (fun k_ hk => (.inl hk)))
 have HR1 := Aside0.mk hr1
 have HC1 := Aside0.mk hc1
 clear hr1 hc1
 have HK := Aside0.mk (Kept.refl w (fun k_ => P0_ k_))
 have HW0 := Aside0.mk hB.size
 have HB := Aside0.mk hB
 clear hB
 have H : (manifest_bounds.l0 k l0 l1 (l1.length : Int) 0) = some r := h
 clear h
 have H' := Aside0.mk H
 clear H
 go_enter Try.func21, Try.ntmps21
 go_wp2
 go_loopg [0, 9] k (fun kq v0 v9 w' => ∃ (x0_1 : List Int) (x9_1 : Int), v9 = .int .i64 x9_1 ∧ Aside0 (manifest_bounds.l0 kq x0_1 l1 (l1.length : Int) x9_1 = some r) ∧ Aside0 (kq ≤ k) ∧ Aside0 (Kd.R (Kd.int .u8) 5 w' w0.heap.size (fun k_ => (P0_ k_ ∨ w.heap.size ≤ k_)) v0 x0_1) ∧ Aside0 (Kept w w' (fun k_ => P0_ k_)) ∧ Aside0 (Below w0.heap.size w0 w'))
 case atStart => exact ⟨(l0), (0), z4_, H', ⟨Nat.le_refl _⟩, ⟨by (with_reducible repeat (first | apply Kd.R_alloc | apply Kd.R_drewN | apply Kd.R_drew)); exact HO0.out⟩, ⟨z3_⟩, ⟨z0_⟩⟩
 case round =>
  clear H'
  try clear c1
  try clear c2
  try clear p2
  obtain ⟨x0_1, x9_1, rfl, HA, HK1, HO_0, HK, HB⟩ := hrel
  cases gk with
  | zero => exact absurd HA.out (by simp [manifest_bounds.l0])
  | succ k1 =>
   have H := HA.out
   clear HA
   simp only [manifest_bounds.l0] at H
   by_cases c3 : x9_1 < (l1.length : Int)
   ·rw [if_pos c3] at H
    have c3b0 : decide (x9_1 < (l1.length : Int)) = true := decide_eq_true c3
    clear c3
    by_cases c4 : 0 ≤ x9_1
    ·rw [if_pos c4] at H
     have c4b0 : decide (0 ≤ x9_1) = true := decide_eq_true c4
     clear c4
     by_cases c5 : x9_1 < (l1.length : Int)
     ·rw [if_pos c5] at H
      have c5b0 : decide (x9_1 < (l1.length : Int)) = true := decide_eq_true c5
      clear c5
      replace H := Option.bind_eq_some_iff.mp H
      obtain ⟨t226, A60, H⟩ := H
      replace H : ((tally_Text.f k1 t226 ((rd_T34 l1 x9_1).f2)).bind fun t229 => (manifest_bounds.l0 k1 t229 l1 (l1.length : Int) (wrap64 (x9_1 + 1)))) = some r := H
      have A6 := Aside0.mk A60
      clear A60
      replace H := Option.bind_eq_some_iff.mp H
      obtain ⟨t229, A70, H⟩ := H
      replace H : (manifest_bounds.l0 k1 t229 l1 (l1.length : Int) (wrap64 (x9_1 + 1))) = some r := H
      have A7 := Aside0.mk A70
      clear A70
      have H' := Aside0.mk H
      clear H
      have p224 : 0 ≤ (x9_1 : Int) := of_decide_eq_true z5_
      have q224 : x9_1 < (l1.length : Int) := of_decide_eq_true z5_
      obtain ⟨ad224, e224, hx224_0, hx224_1, hx224_2⟩ := at_T34 (Kd.C_kept_now HR1.out HK.out) x9_1 p224 q224
      cases e224
      replace p224 := eq_true p224
      replace q224 := eq_true q224
      try go_wp2_with (first | ((with_reducible refine gate_dst (N := 6) rfl ?_); refine box_event ?hg (N := 6) ?hd (cs := #[.bool false, .int .i64 0, .string (⟨#[]⟩ : ByteArray)]) (t := 34) ?hr ?_; (case hd => rfl); (case hg => rfl); (case hr => first | (go_simp; done) | (go_simp; rfl)); intro gb225 hg w8 hbox hb; have n0_ := Aside0.mk (Kd.R_below (by (with_reducible repeat (first | apply Kd.R_alloc | apply Kd.R_drewN | apply Kd.R_drew)); exact HO_0.out) hb); have n1_ := Aside0.mk (Kept.below (S := (fun k_ => P0_ k_)) z3_ hb); have n2_ := Aside0.mk (below_step z0_ hb); have n3_ := Aside0.mk (hbox); have n4_ := Aside0.mk ((by rw [hg]; exact (by first | exact HK.out.1 | exact (show Kept w _ (fun k_ => P0_ k_) from z3_).1) : w.heap.size ≤ gb225)); have n5_ := Aside0.mk ((by rw [hg]; exact (below_size z0_) : w0.heap.size ≤ gb225)); clear HO_0; clear HK; clear HB; have HO_0 := n0_; have HK := n1_; have HB := n2_; have BK225 := n3_; have GW225 := n4_; have GE225 := n5_; clear n0_ n1_ n2_ n3_ n4_ n5_; clear hb hbox hg; have hcz9_0 : w8.cell? ⟨gb225, 0, none⟩ = some (.bool false) := (blk_cell BK225.out 0).trans rfl; have hcz9_1 : w8.cell? ⟨gb225, 1, none⟩ = some (.int .i64 0) := (blk_cell BK225.out 1).trans rfl; have hcz9_2 : w8.cell? ⟨gb225, 2, none⟩ = some (.string (⟨#[]⟩ : ByteArray)) := (blk_cell BK225.out 2).trans rfl; have hfz9_0 := blk_frozen BK225.out 0; have hfz9_1 := blk_frozen BK225.out 1; have hfz9_2 := blk_frozen BK225.out 2))
      have n0_ : Aside0 (Kd.R (Kd.int .u8) 5 (((w8.setCell ⟨gb225, 0, none⟩ (.bool ((rd_T34 l1 x9_1).f0))).setCell ⟨gb225, 1, none⟩ (.int .i64 ((rd_T34 l1 x9_1).f1))).setCell ⟨gb225, 2, none⟩ (.string ((rd_T34 l1 x9_1).f2))) w0.heap.size (fun k_ => (P0_ k_ ∨ w.heap.size ≤ k_)) u0 x0_1) := ⟨by (with_reducible repeat (first | apply Kd.R_alloc | apply Kd.R_drewN | apply Kd.R_drew)); exact Kd.R_mono (Kd.R_far (p := ⟨gb225, 2, none⟩) (Kd.R_far (p := ⟨gb225, 1, none⟩) (Kd.R_far (p := ⟨gb225, 0, none⟩) (Kd.R_types HO_0.out BK225.out (by decide)) (fun _ hk => hk.2) (.bool ((rd_T34 l1 x9_1).f0))) (fun _ hk => hk.2) (.int .i64 ((rd_T34 l1 x9_1).f1))) (fun _ hk => hk.2) (.string ((rd_T34 l1 x9_1).f2))) (fun _ hk => hk.1)⟩
      have n1_ : Aside0 ((((w8.setCell ⟨gb225, 0, none⟩ (.bool ((rd_T34 l1 x9_1).f0))).setCell ⟨gb225, 1, none⟩ (.int .i64 ((rd_T34 l1 x9_1).f1))).setCell ⟨gb225, 2, none⟩ (.string ((rd_T34 l1 x9_1).f2))).heap[gb225]? = some (.cells #[.bool ((rd_T34 l1 x9_1).f0), .int .i64 ((rd_T34 l1 x9_1).f1), .string ((rd_T34 l1 x9_1).f2)] 34 (0, 0))) := ⟨by (with_reducible repeat (first | refine blk_drewN ?_ _ | refine blk_drew ?_ | refine blk_alloc ?_ _)); refine blk_put (cs := #[.bool ((rd_T34 l1 x9_1).f0), .int .i64 ((rd_T34 l1 x9_1).f1), .string (⟨#[]⟩ : ByteArray)]) ?_ 2 _ rfl; (with_reducible repeat (first | refine blk_drewN ?_ _ | refine blk_drew ?_ | refine blk_alloc ?_ _)); refine blk_put (cs := #[.bool ((rd_T34 l1 x9_1).f0), .int .i64 0, .string (⟨#[]⟩ : ByteArray)]) ?_ 1 _ rfl; (with_reducible repeat (first | refine blk_drewN ?_ _ | refine blk_drew ?_ | refine blk_alloc ?_ _)); refine blk_put (cs := #[.bool false, .int .i64 0, .string (⟨#[]⟩ : ByteArray)]) ?_ 0 _ rfl; (with_reducible repeat (first | refine blk_drewN ?_ _ | refine blk_drew ?_ | refine blk_alloc ?_ _)); exact BK225.out⟩
      have n2_ : Aside0 (Kept w (((w8.setCell ⟨gb225, 0, none⟩ (.bool ((rd_T34 l1 x9_1).f0))).setCell ⟨gb225, 1, none⟩ (.int .i64 ((rd_T34 l1 x9_1).f1))).setCell ⟨gb225, 2, none⟩ (.string ((rd_T34 l1 x9_1).f2))) (fun k_ => P0_ k_)) := ⟨z21_⟩
      have n3_ : Aside0 (Below w0.heap.size w0 (((w8.setCell ⟨gb225, 0, none⟩ (.bool ((rd_T34 l1 x9_1).f0))).setCell ⟨gb225, 1, none⟩ (.int .i64 ((rd_T34 l1 x9_1).f1))).setCell ⟨gb225, 2, none⟩ (.string ((rd_T34 l1 x9_1).f2)))) := ⟨by repeat (first | (with_reducible first | exact HB.out | apply below_alloc | apply pw_below_drewN | apply below_drew1 | refine below_set ?_ GE225.out) | exact HB.out)⟩
      (try clear HO_0)
      (try clear BK225)
      (try clear HK)
      (try clear HB)
      generalize (((w8.setCell ⟨gb225, 0, none⟩ (.bool ((rd_T34 l1 x9_1).f0))).setCell ⟨gb225, 1, none⟩ (.int .i64 ((rd_T34 l1 x9_1).f1))).setCell ⟨gb225, 2, none⟩ (.string ((rd_T34 l1 x9_1).f2))) = w10 at n0_ n1_ n2_ n3_ ⊢
      have HO_0 := n0_
      have BK225 := n1_
      have HK := n2_
      have HB := n3_
      clear n0_ n1_ n2_ n3_
      have n0_ := Aside0.mk (Kd.R_drew HO_0.out)
      have n1_ := Aside0.mk (blk_drew BK225.out)
      have n2_ := Aside0.mk (Kept.drew HK.out)
      have n3_ := Aside0.mk (below_drew1 HB.out)
      clear HO_0
      clear BK225
      clear HK
      clear HB
      have HO_0 := n0_
      have BK225 := n1_
      have HK := n2_
      have HB := n3_
      clear n0_ n1_ n2_ n3_
      obtain ⟨Ao12, co12, eo12⟩ := Kd.R_slice HO_0.out
      (first | subst eo12 | (injection eo12 with f1_ f2_ f3_; have f4_ := f1_.symm; have f5_ := f3_.symm; clear f1_ f2_ f3_; subst f4_; subst f5_))
      refine start_ (n := 8) (S := fun w' => w'.cell? ⟨gb225, 0, none⟩ = some (.bool ((rd_T34 l1 x9_1).f0)) ∧ w'.cell? ⟨gb225, 1, none⟩ = some (.int .i64 ((rd_T34 l1 x9_1).f1)) ∧ w'.cell? ⟨gb225, 2, none⟩ = some (.string ((rd_T34 l1 x9_1).f2))) (ds := []) (bs_ 8 0) (by kernel_rfl) rfl rfl ⟨(blk_cell BK225.out 0).trans rfl, (blk_cell BK225.out 1).trans rfl, (blk_cell BK225.out 2).trans rfl⟩ (fun hHeld => ?_); refine with_tabW manifest_bounds.tab4 manifest_bounds.bits4 (fun HT_ HW_ => ?_)
      generalize w10.drew = w11 at HO_0 BK225 HK HB hHeld ⊢
      refine pA_ 0 (some 13) (bs_ 8 1) HT_ ?_ ?_ ?_ ?_ ?_
      rotate_left; (intro w'; go_simp; with_reducible rfl); rotate_left; (simp only [PT_]; rfl)
      refine pA_ 1 (some 14) (bs_ 8 3) HT_ ?_ ?_ ?_ ?_ ?_
      rotate_left; (intro w'; go_simp; with_reducible rfl); rotate_left; (simp only [PT_]; rfl)
      refine pA_ 4 (some 17) (bs_ 8 19) HT_ ?_ ?_ ?_ ?_ ?_
      rotate_left; (intro w'; go_simp; with_reducible rfl); rotate_left; (simp only [PT_]; rfl)
      refine take_ (i := 2) (N := some 15) (v := ?_) (a' := ?_) (bs_ 8 23) rfl rfl (take_ofW HT_.out HW_.out (by kernel_rfl)) (fun _ _ _ h => h) (Or.inl ⟨by rfl, ?_⟩) hHeld ?_ ?_
      rotate_left
      ·rintro w' ⟨s0, s1, s2⟩
       go_simp
       with_reducible rfl
      rotate_left
      ·simp only [PT_]
       rfl
      refine take_ (i := 5) (N := some 18) (v := ?_) (a' := ?_) (bs_ 8 55) rfl rfl (take_ofW HT_.out HW_.out (by kernel_rfl)) (fun _ _ _ h => h) (Or.inl ⟨by rfl, ?_⟩) hHeld ?_ ?_
      rotate_left
      ·rintro w' ⟨s0, s1, s2⟩
       go_simp
       with_reducible rfl
      rotate_left
      ·simp only [PT_]
       rfl
      refine oA_ 3 (some 16) (bs_ 8 63) HT_ (fun K hK => ?_)
      refine goes_ Try.func40 (by kernel_rfl) rfl #[.slice Ao12 x0_1.length co12, .int .i64 ((rd_T34 l1 x9_1).f1)] (by rfl) rfl rfl (by (try simp only [List.map_toArray, List.map_cons, List.map_nil]); first | done | rfl | (simp only [List.length_drop, List.length_take]; rfl)) ?_
      with_reducible refine (tally_Int.calls k1 (fun k_ => some k_ = (.slice Ao12 x0_1.length co12 : Value).ownBlock) (.slice Ao12 x0_1.length co12) x0_1 ((rd_T34 l1 x9_1).f1) t226 w0 _ ?side1 ?side2 A6.out).mono ?_
      (case side1 => repeat (first | (with_reducible first | exact HB.out | apply below_alloc | apply pw_below_drewN | apply below_drew1 | refine below_set ?_ GE225.out) | exact HB.out))
      (case side2 => exact Kd.R_tight rfl HO_0.out)
      rintro e w13 ⟨v227, rfl, ho0, hb, hkp⟩
      refine ⟨_, rfl, ?_⟩
      have n0_ := Aside0.mk (blk_kept (by (with_reducible repeat (first | refine blk_drewN ?_ _ | refine blk_drew ?_ | refine blk_alloc ?_ _)); exact BK225.out) hkp (fun hs_ => (fun e_ => (Kd.R_ne HO_0.out BK225.out (by decide)) e_) hs_))
      have n1_ := Aside0.mk (Kd.R_mono (ok' := fun k_ => (P0_ k_ ∨ w.heap.size ≤ k_)) ho0 (fun k_ hk_ => Or.elim hk_ (fun hs_ => (HO_0.out.1 k_ (hs_).symm)) (fun hn_ => (.inr (Nat.le_trans (by first | exact HK.out.1 | exact (show Kept w _ (fun k_ => P0_ k_) from z21_).1) hn_)))))
      have n2_ := Aside0.mk (Kept.then_ (S := (fun k_ => P0_ k_)) z21_ hkp (fun k_ hs_ => (fun e_ => (HO_0.out.1 k_ e_.symm)) hs_))
      have n3_ := Aside0.mk (hb)
      clear BK225
      clear HK
      clear HB
      clear HO_0
      have BK225 := n0_
      have HO228 := n1_
      have HK := n2_
      have HB := n3_
      clear n0_ n1_ n2_ n3_
      (try clear hb)
      (try clear hkp)
      (try clear ho0)
      obtain ⟨Ao14, co14, eo14⟩ := Kd.R_slice HO228.out
      (first | subst eo14 | (injection eo14 with f1_ f2_ f3_; have f4_ := f1_.symm; have f5_ := f3_.symm; clear f1_ f2_ f3_; subst f4_; subst f5_))
      refine hK.out _ _ ⟨(blk_cell BK225.out 0).trans rfl, (blk_cell BK225.out 1).trans rfl, (blk_cell BK225.out 2).trans rfl⟩ (fun hHeld => ?_)
      clear hK K
      refine norm_ (a' := ?_) ?_ ?_; rotate_left; (show Act.put _ (some 16) _ = _; simp only [PT_]; rfl)
      refine oA_ 6 (some 19) (bs_ 8 127) HT_ (fun K hK => ?_)
      refine goes_ Try.func39 (by kernel_rfl) rfl #[.slice Ao14 t226.length co14, .string ((rd_T34 l1 x9_1).f2)] (by rfl) rfl rfl (by (try simp only [List.map_toArray, List.map_cons, List.map_nil]); first | done | rfl | (simp only [List.length_drop, List.length_take]; rfl)) ?_
      with_reducible refine (tally_Text.calls k1 (fun k_ => some k_ = (.slice Ao14 t226.length co14 : Value).ownBlock) (.slice Ao14 t226.length co14) t226 ((rd_T34 l1 x9_1).f2) t229 w0 _ ?side1 ?side2 A7.out).mono ?_
      (case side1 => repeat (first | (with_reducible first | exact HB.out | apply below_alloc | apply pw_below_drewN | apply below_drew1 | refine below_set ?_ GE225.out) | exact HB.out))
      (case side2 => exact Kd.R_tight rfl HO228.out)
      rintro e w15 ⟨v230, rfl, ho0, hb, hkp⟩
      refine ⟨_, rfl, ?_⟩
      have n0_ := Aside0.mk (blk_kept (by (with_reducible repeat (first | refine blk_drewN ?_ _ | refine blk_drew ?_ | refine blk_alloc ?_ _)); exact BK225.out) hkp (fun hs_ => (fun e_ => (Kd.R_ne HO228.out BK225.out (by decide)) e_) hs_))
      have n1_ := Aside0.mk (Kd.R_mono (ok' := fun k_ => (P0_ k_ ∨ w.heap.size ≤ k_)) ho0 (fun k_ hk_ => Or.elim hk_ (fun hs_ => (HO228.out.1 k_ (hs_).symm)) (fun hn_ => (.inr (Nat.le_trans (by first | exact HK.out.1 | exact (show Kept w _ (fun k_ => P0_ k_) from z21_).1) hn_)))))
      have n2_ := Aside0.mk (Kept.then_ (S := (fun k_ => P0_ k_)) z21_ hkp (fun k_ hs_ => (fun e_ => (HO228.out.1 k_ e_.symm)) hs_))
      have n3_ := Aside0.mk (hb)
      clear BK225
      clear HK
      clear HB
      clear HO228
      have BK225 := n0_
      have HO231 := n1_
      have HK := n2_
      have HB := n3_
      clear n0_ n1_ n2_ n3_
      (try clear hb)
      (try clear hkp)
      (try clear ho0)
      refine hK.out _ _ ⟨(blk_cell BK225.out 0).trans rfl, (blk_cell BK225.out 1).trans rfl, (blk_cell BK225.out 2).trans rfl⟩ (fun hHeld => ?_)
      clear hK K
      refine norm_ (a' := ?_) ?_ ?_; rotate_left; (show Act.put _ (some 19) _ = _; simp only [PT_]; rfl)
      refine pA_ 7 (some 0) (bs_ 8 255) HT_ ?_ ?_ ?_ ?_ ?_
      rotate_left; (intro w'; go_simp; with_reducible rfl); rotate_left; (simp only [PT_]; rfl)
      refine done_ (done_of HT_.out (by kernel_rfl)) ?_
      try go_wp2
      go_roundg k1
      case measure => have := HK1.out; omega
      case rel => exact ⟨(t229), (wrap64 (x9_1 + 1)), z4_, H', ⟨by have := HK1.out; omega⟩, ⟨by (with_reducible repeat (first | apply Kd.R_alloc | apply Kd.R_drewN | apply Kd.R_drew)); exact HO231.out⟩, ⟨z21_⟩, ⟨by repeat (first | (with_reducible first | exact HB.out | apply below_alloc | apply pw_below_drewN | apply below_drew1 | refine below_set ?_ GE225.out) | exact HB.out)⟩⟩
     ·rw [if_neg c5] at H
      exact absurd H (by simp)
    ·rw [if_neg c4] at H
     exact absurd H (by simp)
   ·rw [if_neg c3] at H
    have c3b0 : decide (x9_1 < (l1.length : Int)) = false := decide_eq_false c3
    clear c3
    obtain rfl := Option.some.inj H
    go_wp2
    go_ret
    exact ⟨_, z2_, by (with_reducible repeat (first | apply Kd.R_alloc | apply Kd.R_drewN | apply Kd.R_drew)); exact HO_0.out, z0_, z3_⟩
def frame_put.l0 : Nat → List Int → Int → Int → Option (List Int)
 | 0, _, _, _ => none
 | k + 1, x0, x1, x5 => if x5 < 4 then (if x0.length < 140737488355328 then (frame_put.l0 k (x0 ++ [(x1) % 256]) (x1 / 256) (wrap64 (x5 + 1))) else (none)) else (some x0)
def frame_put.f (k : Nat) (l0 : List Int) (a1 : Int) : Option (List Int) := frame_put.l0 k l0 a1 0
theorem frame_put.mono_l : ∀ k, (∀ y0 y1 y2, LeO (frame_put.l0 k y0 y1 y2) (frame_put.l0 (k + 1) y0 y1 y2))
 | 0 => fun _ _ _ r h => by simp [frame_put.l0] at h
 | k + 1 => by
  have ih0 := frame_put.mono_l k
  ·intro y0 y1 y2
   unfold frame_put.l0
   repeat' first
   | (with_reducible exact ih0 _ _ _)
   | (with_reducible exact LeO.refl _)
   | (with_reducible exact LeO.none _)
   | (with_reducible refine LeO.ite ?_ ?_)
   | (with_reducible refine LeO.bind ?_ (fun _ => ?_))
   | exact ih0 _ _ _
   | exact LeO.none _
   | refine LeO.ite ?_ ?_
   | refine LeO.bind ?_ (fun _ => ?_)
theorem frame_put.mono : ∀ a0 a1 k, LeO (frame_put.f k a0 a1) (frame_put.f (k + 1) a0 a1) := by
 intro a0 a1 k
 have ih0 := frame_put.mono_l k
 unfold frame_put.f
 repeat' first
   | (with_reducible exact ih0 _ _ _)
   | (with_reducible exact LeO.refl _)
   | (with_reducible exact LeO.none _)
   | (with_reducible refine LeO.ite ?_ ?_)
   | (with_reducible refine LeO.bind ?_ (fun _ => ?_))
   | exact ih0 _ _ _
   | exact LeO.none _
   | refine LeO.ite ?_ ?_
   | refine LeO.bind ?_ (fun _ => ?_)
set_option maxHeartbeats 8000000 in
set_option maxRecDepth 100000 in
theorem frame_put.calls (k : Nat) (P0_ : Nat → Prop) (u9000_ : Value) (l0 : List Int) (a1 : Int) (r : List Int) (w0 w : World) (hB : Below w0.heap.size w0 w) (ho0 : Kd.R (Kd.int .u8) 5 w w0.heap.size P0_ u9000_ l0) (h : frame_put.f k l0 a1 = some r) :
  Calls Try.prog 41 #[u9000_, .int .u32 a1] w fun e w' => ∃ v0_ : Value, e = .returned (v0_) ∧ Kd.R (Kd.int .u8) 5 w' w0.heap.size (fun k_ => (P0_ k_ ∨ w.heap.size ≤ k_)) v0_ r ∧ Below w0.heap.size w0 w' ∧ Kept w w' (fun k_ => P0_ k_) := by
 have HO0 := Aside0.mk (show Kd.R (Kd.int .u8) 5 w w0.heap.size (fun k_ => (P0_ k_ ∨ w.heap.size ≤ k_)) u9000_ l0 from Kd.R_mono ho0 (fun k_ hk => (.inl hk)))
 have HK := Aside0.mk (Kept.refl w (fun k_ => P0_ k_))
 have HW0 := Aside0.mk hB.size
 have HB := Aside0.mk hB
 clear hB
 have H : (frame_put.l0 k l0 a1 0) = some r := h
 clear h
 have H' := Aside0.mk H
 clear H
 go_enter Try.func41, Try.ntmps41
 go_wp2
 go_loopg [0, 1, 5] k (fun kq v0 v1 v5 w' => ∃ (x0_1 : List Int) (x1_1 : Int) (x5_1 : Int), v1 = .int .u32 x1_1 ∧ v5 = .int .i64 x5_1 ∧ Aside0 (frame_put.l0 kq x0_1 x1_1 x5_1 = some r) ∧ Aside0 (kq ≤ k) ∧ Aside0 (Kd.R (Kd.int .u8) 5 w' w0.heap.size (fun k_ => (P0_ k_ ∨ w.heap.size ≤ k_)) v0 x0_1) ∧ Aside0 (Kept w w' (fun k_ => P0_ k_)) ∧ Aside0 (Below w0.heap.size w0 w'))
 case atStart => exact ⟨(l0), (a1), (0), z4_, z4_, H', ⟨Nat.le_refl _⟩, ⟨by (with_reducible repeat (first | apply Kd.R_alloc | apply Kd.R_drewN | apply Kd.R_drew)); exact HO0.out⟩, ⟨z3_⟩, ⟨z0_⟩⟩
 case round =>
  clear H'
  try clear p2
  obtain ⟨x0_1, x1_1, x5_1, rfl, rfl, HA, HK1, HO_0, HK, HB⟩ := hrel
  cases gk with
  | zero => exact absurd HA.out (by simp [frame_put.l0])
  | succ k1 =>
   have H := HA.out
   clear HA
   simp only [frame_put.l0] at H
   by_cases c3 : x5_1 < 4
   ·rw [if_pos c3] at H
    have c3b0 : decide (x5_1 < 4) = true := decide_eq_true c3
    clear c3
    by_cases c4 : x0_1.length < 140737488355328
    ·rw [if_pos c4] at H
     have LMc4 := Aside0.mk c4
     clear c4
     obtain ⟨y232, hy232⟩ : ∃ y_ : List Int, y_ = (x0_1 ++ [(x1_1) % 256]) := ⟨_, rfl⟩
     replace H : (frame_put.l0 k1 y232 (x1_1 / 256) (wrap64 (x5_1 + 1))) = some r := by first | (rw [hy232]; with_reducible exact H) | (have H2_ := (Option.bind_some _ _).symm.trans H; rw [hy232]; with_reducible exact H2_) | (have H2_ := (Option.bind_some _ _).symm.trans H; with_reducible exact H2_) | with_reducible exact H | (rw [hy232]; exact H) | exact H
     have Ny232 := Aside0.mk hy232
     clear hy232
     have H' := Aside0.mk H
     clear H
     go_wp2_with (first | ((with_reducible refine gate_builtin (b := .append) (xs := #[.tmp 7, .tmp 10]) rfl ?_); at_builtin; refine Kd.R_append (Kd.int .u8) (w0 := w0) w0.heap.size rfl (.tmp 7) (.tmp 10) 51 5 (.int .u8 0) 1 rfl Try.underlying51 info5 rfl (by decide) (by omega) u0 x0_1 ((x1_1) % 256) [.int .u8 ((x1_1) % 256)] (fun k_ => (P0_ k_ ∨ w.heap.size ≤ k_)) (fun _ => False) rfl rfl ?aP (fun _ hk => hk.elim) ?aF ?aO ?aB ?aS ?aL ?_; (case aP => exact rfl); (case aB => exact z0_); (case aF => exact (fun k_ hk => (.inr (Nat.le_trans (by first | exact HK.out.1 | exact (show Kept w _ (fun k_ => P0_ k_) from z3_).1) hk)))); (case aO => exact (by (with_reducible repeat (first | apply Kd.R_alloc | apply Kd.R_drewN | apply Kd.R_drew)); exact HO_0.out)); (case aS => exact (below_size z0_)); (case aL => have := LMc4.out; omega); intro v233 w5 ho hb hg hat; rw [← Ny232.out] at ho; have n0_ := Aside0.mk (hb); have n1_ := Aside0.mk (Kept.of_grown (S := (fun k_ => P0_ k_)) hg z3_ (fun k_ e_ => (HO_0.out.1 k_ e_))); have n2_ := Aside0.mk (ho); clear HB; clear HK; clear HO_0; have HB := n0_; have HK := n1_; have HO234 := n2_; clear n0_ n1_ n2_; clear ho hb hg hat))
     go_roundg k1
     case measure => have := HK1.out; omega
     case rel => exact ⟨(y232), (x1_1 / 256), (wrap64 (x5_1 + 1)), z4_, z4_, H', ⟨by have := HK1.out; omega⟩, ⟨by (with_reducible repeat (first | apply Kd.R_alloc | apply Kd.R_drewN | apply Kd.R_drew)); exact HO234.out⟩, ⟨z3_⟩, ⟨z0_⟩⟩
    ·rw [if_neg c4] at H
     exact absurd H (by simp)
   ·rw [if_neg c3] at H
    have c3b0 : decide (x5_1 < 4) = false := decide_eq_false c3
    clear c3
    obtain rfl := Option.some.inj H
    go_wp2
    go_ret
    exact ⟨_, z2_, by (with_reducible repeat (first | apply Kd.R_alloc | apply Kd.R_drewN | apply Kd.R_drew)); exact HO_0.out, z0_, z3_⟩
def frame_Sum.f (a0 : ByteArray) : Option Int := if a0.size ≤ 4611686018427387904 then some ((crc (bytesOf a0) : Nat) : Int) else none
theorem frame_Sum.calls (a0 : ByteArray) (r : Int) (w : World) (h : frame_Sum.f a0 = some r) :
  Calls Try.prog 42 #[.string a0] w fun e w' => e = .returned (.int .u32 r) ∧ Below w.heap.size w w' := by
 unfold frame_Sum.f at h
 split at h
 ·rename_i hs
  obtain rfl := Option.some.inj h
  exact Sum_calls a0 w hs
 ·exact absurd h (by simp)
def frame_Write.f (k : Nat) (a0 : ByteArray) : Option (ByteArray) := (frame_put.f k ([] : List Int) (((a0.size : Int)) % 4294967296)).bind fun t235 => (if t235.length + a0.size < 140737488355328 then ((frame_Sum.f a0).bind fun t241 => ((frame_put.f k (t235 ++ bytesOf a0) t241).bind fun t242 => (some (strOfNums t242)))) else (none))
theorem frame_Write.mono : ∀ a0 k, LeO (frame_Write.f k a0) (frame_Write.f (k + 1) a0) := by
 intro a0 k
 unfold frame_Write.f
 repeat' first
   | (with_reducible exact frame_put.mono _ _ _)
   | (with_reducible exact LeO.refl _)
   | (with_reducible exact LeO.none _)
   | (with_reducible refine LeO.ite ?_ ?_)
   | (with_reducible refine LeO.bind ?_ (fun _ => ?_))
   | exact frame_put.mono _ _ _
   | exact LeO.none _
   | refine LeO.ite ?_ ?_
   | refine LeO.bind ?_ (fun _ => ?_)
set_option maxHeartbeats 8000000 in
set_option maxRecDepth 100000 in
theorem frame_Write.calls (k : Nat) (a0 : ByteArray) (r : ByteArray) (w : World) (h : frame_Write.f k a0 = some r) :
  Calls Try.prog 22 #[.string a0] w fun e w' => e = .returned (.string r) ∧ Below w.heap.size w w' := by
 have HB := Aside0.mk (Below.refl w.heap.size w)
 have H : ((frame_put.f k ([] : List Int) (((a0.size : Int)) % 4294967296)).bind fun t235 => (if t235.length + a0.size < 140737488355328 then ((frame_Sum.f a0).bind fun t241 => ((frame_put.f k (t235 ++ bytesOf a0) t241).bind fun t242 => (some (strOfNums t242)))) else (none))) = some r := h
 clear h
 replace H := Option.bind_eq_some_iff.mp H
 obtain ⟨t235, A20, H⟩ := H
 replace H : (if t235.length + a0.size < 140737488355328 then ((frame_Sum.f a0).bind fun t241 => ((frame_put.f k (t235 ++ bytesOf a0) t241).bind fun t242 => (some (strOfNums t242)))) else (none)) = some r := H
 have A2 := Aside0.mk A20
 clear A20
 by_cases c3 : t235.length + a0.size < 140737488355328
 ·rw [if_pos c3] at H
  have LMc3 := Aside0.mk c3
  clear c3
  obtain ⟨y238, hy238⟩ : ∃ y_ : List Int, y_ = (t235 ++ bytesOf a0) := ⟨_, rfl⟩
  replace H : ((frame_Sum.f a0).bind fun t241 => ((frame_put.f k y238 t241).bind fun t242 => (some (strOfNums t242)))) = some r := by first | (rw [hy238]; with_reducible exact H) | (have H2_ := (Option.bind_some _ _).symm.trans H; rw [hy238]; with_reducible exact H2_) | (have H2_ := (Option.bind_some _ _).symm.trans H; with_reducible exact H2_) | with_reducible exact H | (rw [hy238]; exact H) | exact H
  have Ny238 := Aside0.mk hy238
  clear hy238
  replace H := Option.bind_eq_some_iff.mp H
  obtain ⟨t241, A40, H⟩ := H
  replace H : ((frame_put.f k y238 t241).bind fun t242 => (some (strOfNums t242))) = some r := H
  have A4 := Aside0.mk A40
  clear A40
  replace H := Option.bind_eq_some_iff.mp H
  obtain ⟨t242, A50, H⟩ := H
  replace H : (some (strOfNums t242)) = some r := H
  have A5 := Aside0.mk A50
  clear A50
  obtain rfl := Option.some.inj H
  go_enter Try.func22, Try.ntmps22
  go_wp2_with (first | ((with_reducible refine gate_callee (f := 41) rfl ?_); refine goesL_ (some 7) rfl rfl Try.func41 (by kernel_rfl) rfl #[.slice none 0 0, .int .u32 (((a0.size : Int)) % 4294967296)] rfl (by (try simp only [List.map_toArray, List.map_cons, List.map_nil]); first | done | rfl | (simp only [List.length_drop, List.length_take]; rfl) | (go_simp; simp [IntKind.wrap, IntKind.bits, IntKind.signed]; omega)) ?_; (refine (frame_put.calls k (fun k_ => some k_ = (.slice none 0 0 : Value).ownBlock) (.slice none 0 0) ([] : List Int) (((a0.size : Int)) % 4294967296) t235 w _ ?side1 ?side2 A2.out).mono ?_); (case side1 => repeat (first | (with_reducible first | exact HB.out | apply below_alloc | apply pw_below_drewN | apply below_drew1) | exact HB.out)); (case side2 => exact Kd.R_nil _ _ _ _ _); rintro e w6 ⟨v236, rfl, ho0, hb, hkp⟩; refine ⟨_, rfl, ?_⟩; have n0_ := Aside0.mk (Kd.R_mono (ok' := fun k_ => True) ho0 (fun k_ hk_ => trivial)); have n1_ := Aside0.mk (hb); clear HB; have HO237 := n0_; have HB := n1_; clear n0_ n1_; (try clear hb); (try clear hkp); (try clear ho0)) | (at_builtin; refine R_append_str (w0 := w) w.heap.size rfl (.tmp 7) _ 51 9 5 rfl Try.underlying51 Try.underlying9 info5 v236 t235 a0 (fun _ => True) rfl rfl ?aF ?aO ?aB ?aS ?aL ?_; (case aB => exact z0_); (case aF => exact (fun _ _ => trivial)); (case aO => exact (by (with_reducible repeat (first | apply Kd.R_alloc | apply Kd.R_drewN | apply Kd.R_drew)); exact HO237.out)); (case aS => exact (below_size z0_)); (case aL => have := LMc3.out; omega); intro v239 w7 ho hb hg hat; rw [← Ny238.out] at ho; have n0_ := Aside0.mk (hb); have n1_ := Aside0.mk (ho); clear HB; clear HO237; have HB := n0_; have HO240 := n1_; clear n0_ n1_; clear ho hb hg hat) | ((with_reducible refine gate_callee (f := 42) rfl ?_); refine goesL_ (some 12) rfl rfl Try.func42 (by kernel_rfl) rfl #[.string a0] rfl (by (try simp only [List.map_toArray, List.map_cons, List.map_nil]); first | done | rfl | (simp only [List.length_drop, List.length_take]; rfl) | (go_simp; simp [IntKind.wrap, IntKind.bits, IntKind.signed]; omega)) ?_; (with_reducible refine (frame_Sum.calls a0 t241 _ A4.out).mono ?_); rintro e w8 ⟨rfl, hb⟩; refine ⟨_, rfl, ?_⟩; have n0_ := Aside0.mk (Kd.R_below (by (with_reducible repeat (first | apply Kd.R_alloc | apply Kd.R_drewN | apply Kd.R_drew)); exact HO240.out) hb); have n1_ := Aside0.mk (below_step z0_ hb); clear HO240; clear HB; have HO240 := n0_; have HB := n1_; clear n0_ n1_; (try clear hb); (try clear hb2); (try clear hk); (try clear hi); obtain ⟨Ao9, co9, eo9⟩ := Kd.R_slice HO240.out; subst eo9) | ((with_reducible refine gate_callee (f := 41) rfl ?_); refine goesL_ (some 13) rfl rfl Try.func41 (by kernel_rfl) rfl #[.slice Ao9 y238.length co9, .int .u32 t241] rfl (by (try simp only [List.map_toArray, List.map_cons, List.map_nil]); first | done | rfl | (simp only [List.length_drop, List.length_take]; rfl) | (go_simp; simp [IntKind.wrap, IntKind.bits, IntKind.signed]; omega)) ?_; (with_reducible refine (frame_put.calls k (fun k_ => some k_ = (.slice Ao9 y238.length co9 : Value).ownBlock) (.slice Ao9 y238.length co9) y238 t241 t242 w _ ?side1 ?side2 A5.out).mono ?_); (case side1 => repeat (first | (with_reducible first | exact HB.out | apply below_alloc | apply pw_below_drewN | apply below_drew1) | exact HB.out)); (case side2 => exact Kd.R_tight rfl HO240.out); rintro e w10 ⟨v243, rfl, ho0, hb, hkp⟩; refine ⟨_, rfl, ?_⟩; have n0_ := Aside0.mk (Kd.R_mono (ok' := fun k_ => True) ho0 (fun k_ hk_ => trivial)); have n1_ := Aside0.mk (hb); clear HB; clear HO240; have HO244 := n0_; have HB := n1_; clear n0_ n1_; (try clear hb); (try clear hkp); (try clear ho0); have hcv11 := own_string (P := Try.prog) Try.underlying51 Try.underlying5 Try.underlying9 (Kd.own_of_R HO244.out)))
  go_ret
  exact ⟨z2_, z0_⟩
 ·rw [if_neg c3] at H
  exact absurd H (by simp)
end Go.Proofs.Ytagokgijffpdnaa.G
