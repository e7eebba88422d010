-- Written by a driver of this session (wip/gen/drive.py), which runs the kit's print with additions of its own; not print.sh's own output.
import Derived.Test.YtpbeppmldckjlaaG0
import Derived.Test.YtpbeppmldckjlaaG6
import Derived.Test.YtpbeppmldckjlaaG7
import Derived.Test.YtpbeppmldckjlaaG8
namespace Go.Proofs.Ytpbeppmldckjlaa.G
open Go.RowKit Go.Proofs.YtpbeppmldckjlaaQ Go.Proofs.YtpbeppmldckjlaaW.PrintWords Go.Proofs.YtpbeppmldckjlaaW.PrintLast Go.Proofs.YtpbeppmldckjlaaW.PrintMore
attribute [local go_sem] max2_int min2_int max_two min_two max_three min_three max_four min_four   -- for this text's walks alone
set_option linter.unusedVariables false
set_option linter.unusedSimpArgs false

/-! ### tithebarnlaw07_DeedsCols: function 8 -/
def tithebarnlaw07_DeedsCols.j0 : Nat → List (S39) → ByteArray → Bool → Option (Bool)
  | 0, _, _, _ => none
  | k + 1, x0, x5, x31 => if x31 = true then (some true) else (if 0 ≤ (wrap64 ((x0.length : Int) - 1)) then (if (wrap64 ((x0.length : Int) - 1)) ≤ (x0.length : Int) then ((deeds_Read.f (x0.take ((wrap64 ((x0.length : Int) - 1)) : Int).toNat) x5).bind fun bt423 => (if ([] : List (S39)).length + x0.length < 8796093022208 then ((some (([] : List (S39)) ++ x0 : List (S39))).bind fun y429 => (if y429.length < 8796093022208 then ((deeds_Read.f (y429 ++ [(⟨1, false⟩ : S39)]) x5).bind fun bt435 => (if bt423.2.2 = 5 then (some (bt435.2.2 == 2)) else (some false))) else (none))) else (none))) else (none)) else (none))
def tithebarnlaw07_DeedsCols.f (k : Nat) (l0 : List (S39)) (l1 : List (S43)) : Option (Bool) := (tithebarnlaw07_lives.f k).bind fun t416 => (if t416 = true then ((deeds_Write.f k l0 false l1).bind fun bt417 => (if bt417.2 = 0 then (if (l0.length : Int) < 2 then (tithebarnlaw07_DeedsCols.j0 k l0 bt417.1 true) else (tithebarnlaw07_DeedsCols.j0 k l0 bt417.1 (decide ((l0.length : Int) ≥ 6)))) else (tithebarnlaw07_DeedsCols.j0 k l0 bt417.1 true))) else (some false))
theorem tithebarnlaw07_DeedsCols.mono_l : ∀ k, (∀ y0 y1 y2, LeO (tithebarnlaw07_DeedsCols.j0 k y0 y1 y2) (tithebarnlaw07_DeedsCols.j0 (k + 1) y0 y1 y2))
  | 0 => fun _ _ _ r h => by simp [tithebarnlaw07_DeedsCols.j0] at h
  | k + 1 => by
    have ih0 := tithebarnlaw07_DeedsCols.mono_l k
    · intro y0 y1 y2
      unfold tithebarnlaw07_DeedsCols.j0
      repeat' first
      | (with_reducible exact ih0 _ _ _)
      | (with_reducible exact deeds_Write.mono _ _ _ _)
      | (with_reducible exact tithebarnlaw07_lives.mono _)
      | (with_reducible exact LeO.refl _)
      | (with_reducible exact LeO.none _)
      | (with_reducible refine LeO.ite ?_ ?_)
      | (with_reducible refine LeO.bind ?_ (fun _ => ?_))
      | exact ih0 _ _ _
      | exact deeds_Write.mono _ _ _ _
      | exact tithebarnlaw07_lives.mono _
      | exact LeO.none _
      | refine LeO.ite ?_ ?_
      | refine LeO.bind ?_ (fun _ => ?_)
theorem tithebarnlaw07_DeedsCols.mono : ∀ a0 a1 k, LeO (tithebarnlaw07_DeedsCols.f k a0 a1) (tithebarnlaw07_DeedsCols.f (k + 1) a0 a1) := by
  intro a0 a1 k
  have ih0 := tithebarnlaw07_DeedsCols.mono_l k
  unfold tithebarnlaw07_DeedsCols.f
  repeat' first
      | (with_reducible exact ih0 _ _ _)
      | (with_reducible exact deeds_Write.mono _ _ _ _)
      | (with_reducible exact tithebarnlaw07_lives.mono _)
      | (with_reducible exact LeO.refl _)
      | (with_reducible exact LeO.none _)
      | (with_reducible refine LeO.ite ?_ ?_)
      | (with_reducible refine LeO.bind ?_ (fun _ => ?_))
      | exact ih0 _ _ _
      | exact deeds_Write.mono _ _ _ _
      | exact tithebarnlaw07_lives.mono _
      | exact LeO.none _
      | refine LeO.ite ?_ ?_
      | refine LeO.bind ?_ (fun _ => ?_)
set_option maxHeartbeats 8000000 in
set_option maxRecDepth 100000 in
theorem tithebarnlaw07_DeedsCols.calls (k : Nat) (A0 : Option Addr) (c0 : Nat) (l0 : List (S39)) (A1 : Option Addr) (c1 : Nat) (l1 : List (S43)) (r : Bool) (w : World) (hr0 : Kd.C k39 w A0 l0.length l0) (hc0 : l0.length ≤ c0) (hr1 : Kd.C k43 w A1 l1.length l1) (hc1 : l1.length ≤ c1) (h : tithebarnlaw07_DeedsCols.f k l0 l1 = some r) :
    Calls Try.prog 8 #[.slice A0 l0.length c0, .slice A1 l1.length c1] w fun e w' => e = .returned (.bool r) ∧ Below w.heap.size w w' := by
  have hu26 := Try.underlying26
  have hu39 := Try.underlying39
  have HR0 := Aside0.mk hr0
  have HC0 := Aside0.mk hc0
  clear hr0 hc0
  have HR1 := Aside0.mk hr1
  have HC1 := Aside0.mk hc1
  clear hr1 hc1
  have HB := Aside0.mk (Below.refl w.heap.size w)
  have H : ((tithebarnlaw07_lives.f k).bind fun t416 => (if t416 = true then ((deeds_Write.f k l0 false l1).bind fun bt417 => (if bt417.2 = 0 then (if (l0.length : Int) < 2 then (tithebarnlaw07_DeedsCols.j0 k l0 bt417.1 true) else (tithebarnlaw07_DeedsCols.j0 k l0 bt417.1 (decide ((l0.length : Int) ≥ 6)))) else (tithebarnlaw07_DeedsCols.j0 k l0 bt417.1 true))) else (some false))) = some r := h
  clear h
  replace H := Option.bind_eq_some_iff.mp H
  obtain ⟨t416, A30, H⟩ := H
  replace H : (if t416 = true then ((deeds_Write.f k l0 false l1).bind fun bt417 => (if bt417.2 = 0 then (if (l0.length : Int) < 2 then (tithebarnlaw07_DeedsCols.j0 k l0 bt417.1 true) else (tithebarnlaw07_DeedsCols.j0 k l0 bt417.1 (decide ((l0.length : Int) ≥ 6)))) else (tithebarnlaw07_DeedsCols.j0 k l0 bt417.1 true))) else (some false)) = some r := H
  have A3 := Aside0.mk A30
  clear A30
  by_cases c4 : t416 = true
  · subst c4
    have H1 : ((deeds_Write.f k l0 false l1).bind fun bt417 => (if bt417.2 = 0 then (if (l0.length : Int) < 2 then (tithebarnlaw07_DeedsCols.j0 k l0 bt417.1 true) else (tithebarnlaw07_DeedsCols.j0 k l0 bt417.1 (decide ((l0.length : Int) ≥ 6)))) else (tithebarnlaw07_DeedsCols.j0 k l0 bt417.1 true))) = some r := by rw [if_pos rfl] at H; exact H
    clear H
    have H := H1
    clear H1
    replace H := Option.bind_eq_some_iff.mp H
    obtain ⟨⟨t417, t418⟩, A50, H⟩ := H
    replace H : (if t418 = 0 then (if (l0.length : Int) < 2 then (tithebarnlaw07_DeedsCols.j0 k l0 t417 true) else (tithebarnlaw07_DeedsCols.j0 k l0 t417 (decide ((l0.length : Int) ≥ 6)))) else (tithebarnlaw07_DeedsCols.j0 k l0 t417 true)) = some r := H
    have A5 := Aside0.mk A50
    clear A50
    have HC6 := Aside0.mk H
    clear H
    go_enter Try.func8, Try.ntmps8
    go_upto_region 4 with (first | ((with_reducible refine gate_callee (f := 9) rfl ?_); refine goesL_ (some 11) rfl rfl Try.func9 (by kernel_rfl) rfl #[] rfl (by (try simp only [List.map_toArray, List.map_cons, List.map_nil]); first | done | rfl | (simp only [List.length_drop, List.length_take]; rfl) | (go_simp; simp [IntKind.wrap, IntKind.bits, IntKind.signed]; omega)) ?_; (with_reducible refine (tithebarnlaw07_lives.calls k  true _ A3.out).mono ?_); rintro e w7 ⟨rfl, hb⟩; refine ⟨_, rfl, ?_⟩; have n0_ := Aside0.mk (below_step (by repeat (first | (with_reducible first | exact HB.out | apply below_alloc | apply pw_below_drewN | apply below_drew1) | exact HB.out)) hb); clear HB; have HB := n0_; clear n0_; (try clear hb); (try clear hb2); (try clear hk); (try clear hi)) | ((with_reducible refine gate_callee (f := 10) rfl ?_); refine goesL_ (some 17) rfl rfl Try.func10 (by kernel_rfl) rfl #[.slice A0 l0.length c0, .agg #[.bool false, .slice A1 l1.length c1]] rfl (by (try simp only [List.map_toArray, List.map_cons, List.map_nil]); first | done | rfl | (simp only [List.length_drop, List.length_take]; rfl) | (go_simp; simp [IntKind.wrap, IntKind.bits, IntKind.signed]; omega)) ?_; (with_reducible refine (deeds_Write.calls k _ _ l0 false _ _ l1 t417 t418 _ ?side1 ?side2 ?side3 ?side4 A5.out).mono ?_); (case side1 => repeat (first | exact (Kd.C_below HR0.out HB.out) | (with_reducible refine Kd.C_alloc ?_ _) | (with_reducible refine Kd.C_drewN ?_ _) | (with_reducible refine Kd.C_drew ?_))); (case side2 => exact HC0.out); (case side3 => repeat (first | exact (Kd.C_below HR1.out HB.out) | (with_reducible refine Kd.C_alloc ?_ _) | (with_reducible refine Kd.C_drewN ?_ _) | (with_reducible refine Kd.C_drew ?_))); (case side4 => exact HC1.out); rintro e w8 ⟨rfl, hb⟩; refine ⟨_, rfl, ?_⟩; have n0_ := Aside0.mk (below_step (by repeat (first | (with_reducible first | exact HB.out | apply below_alloc | apply pw_below_drewN | apply below_drew1) | exact HB.out)) hb); clear HB; have HB := n0_; clear n0_; (try clear hb); (try clear hb2); (try clear hk); (try clear hi)))
    (try simp only [Act.put, List.setIfInBounds_toArray, List.set_cons_zero, List.set_cons_succ])
    go_cut [31] (fun v31 wc => ∃ (kq : Nat) (x31_5 : Bool), v31 = .bool x31_5 ∧ Aside0 (tithebarnlaw07_DeedsCols.j0 kq l0 t417 x31_5 = some r) ∧ Aside0 (kq ≤ k) ∧ Aside0 (Below w.heap.size w wc))
    case first =>
      have H := HC6.out
      clear HC6
      by_cases c9 : t418 = 0
      · rw [if_pos c9] at H
        have c9b0 : (t418 == 0) = true := beq_iff_eq.mpr c9
        have c9b1 : (t418 != 0) = false := bne_eq_false_iff_eq.mpr c9
        clear c9
        (first | rw [c9b0] | (simp only [i64_w, i32_w]; rw [c9b0]) | skip)
        by_cases c10 : (l0.length : Int) < 2
        · rw [if_pos c10] at H
          have c10b0 : decide ((l0.length : Int) < 2) = true := decide_eq_true c10
          have c10b1 : decide (l0.length < 2) = true := decide_eq_true (by omega)
          clear c10
          have H' := Aside0.mk H
          clear H
          go_wp2
          go_meet
          case rel => exact ⟨_, (true), (by first | rfl | (simp; done) | (simp [*]; done)), H', ⟨by first | omega | exact Nat.le_refl _⟩, ⟨by repeat (first | (with_reducible first | exact HB.out | apply below_alloc | apply pw_below_drewN | apply below_drew1) | exact HB.out)⟩⟩
        · rw [if_neg c10] at H
          have c10b0 : decide ((l0.length : Int) < 2) = false := decide_eq_false c10
          have c10b1 : decide (l0.length < 2) = false := decide_eq_false (by omega)
          clear c10
          have H' := Aside0.mk H
          clear H
          go_wp2
          go_meet
          case rel => exact ⟨_, (decide ((l0.length : Int) ≥ 6)), (by first | rfl | (simp; done) | (simp [*]; done)), H', ⟨by first | omega | exact Nat.le_refl _⟩, ⟨by repeat (first | (with_reducible first | exact HB.out | apply below_alloc | apply pw_below_drewN | apply below_drew1) | exact HB.out)⟩⟩
      · rw [if_neg c9] at H
        have c9b0 : (t418 == 0) = false := beq_eq_false_iff_ne.mpr c9
        have c9b1 : (t418 != 0) = true := bne_iff_ne.mpr c9
        (first | rw [c9b0] | (simp only [i64_w, i32_w]; rw [c9b0]) | skip)
        have H' := Aside0.mk H
        clear H
        go_wp2
        go_meet
        case rel => exact ⟨_, (true), (by first | rfl | (simp; done) | (simp [*]; done)), H', ⟨by first | omega | exact Nat.le_refl _⟩, ⟨by repeat (first | (with_reducible first | exact HB.out | apply below_alloc | apply pw_below_drewN | apply below_drew1) | exact HB.out)⟩⟩
    case rest =>
      clear HC6
      try clear c1
      try clear p2
      try clear c4
      try clear c8
      try clear c9
      try clear c9b0
      try clear c9b1
      try clear c10
      try clear c10b0
      try clear c10b1
      obtain ⟨kq, x31_5, rfl, HA, HJ5, HB⟩ := hcut
      cases kq with
      | zero => exact absurd HA.out (by simp [tithebarnlaw07_DeedsCols.j0])
      | succ kj5 =>
        have H := HA.out
        clear HA
        simp only [tithebarnlaw07_DeedsCols.j0] at H
        by_cases c11 : x31_5 = true
        · subst c11
          have H1 : (some true) = some r := by rw [if_pos rfl] at H; exact H
          clear H
          have H := H1
          clear H1
          obtain rfl := Option.some.inj H
          go_wp2
          go_ret
          exact ⟨by first | rfl | (simp [errW_none, errW_some] <;> rfl) | (simp [*, errW_none, errW_some] <;> rfl), by repeat (first | (with_reducible first | exact HB.out | apply below_alloc | apply pw_below_drewN | apply below_drew1) | exact HB.out)⟩
        · replace c11 := Bool.eq_false_iff.mpr c11
          subst c11
          have H1 : (if 0 ≤ (wrap64 ((l0.length : Int) - 1)) then (if (wrap64 ((l0.length : Int) - 1)) ≤ (l0.length : Int) then ((deeds_Read.f (l0.take ((wrap64 ((l0.length : Int) - 1)) : Int).toNat) t417).bind fun bt423 => (if ([] : List (S39)).length + l0.length < 8796093022208 then ((some (([] : List (S39)) ++ l0 : List (S39))).bind fun y429 => (if y429.length < 8796093022208 then ((deeds_Read.f (y429 ++ [(⟨1, false⟩ : S39)]) t417).bind fun bt435 => (if bt423.2.2 = 5 then (some (bt435.2.2 == 2)) else (some false))) else (none))) else (none))) else (none)) else (none)) = some r := by rw [if_neg (show ¬ (false = true) by decide)] at H; exact H
          clear H
          have H := H1
          clear H1
          obtain ⟨ji12, hji12⟩ : ∃ j_ : Int, (wrap64 ((l0.length : Int) - 1)) = j_ := ⟨_, rfl⟩
          replace H : (if 0 ≤ (ji12) then (if (ji12) ≤ (l0.length : Int) then ((deeds_Read.f (l0.take ((ji12) : Int).toNat) t417).bind fun bt423 => (if ([] : List (S39)).length + l0.length < 8796093022208 then ((some (([] : List (S39)) ++ l0 : List (S39))).bind fun y429 => (if y429.length < 8796093022208 then ((deeds_Read.f (y429 ++ [(⟨1, false⟩ : S39)]) t417).bind fun bt435 => (if bt423.2.2 = 5 then (some (bt435.2.2 == 2)) else (some false))) else (none))) else (none))) else (none)) else (none)) = some r := by first | (rw [hji12] at H; exact H) | (simp only [hji12] at H ⊢; exact H)
          have hji12w : (IntKind.i64.wrap ((l0.length : Int) - 1)) = ji12 := (i64_w _).trans hji12
          by_cases c13 : 0 ≤ (ji12)
          · rw [if_pos c13] at H
            have c13b0 := eq_true c13
            have c13b1 : decide (0 ≤ (ji12)) = true := decide_eq_true c13
            clear c13
            by_cases c14 : (ji12) ≤ (l0.length : Int)
            · rw [if_pos c14] at H
              have c14b0 := eq_true c14
              have c14b1 : decide ((ji12) ≤ (l0.length : Int)) = true := decide_eq_true c14
              clear c14
              obtain ⟨y419, hy419⟩ : ∃ y_ : List (S39), y_ = (l0.take ((ji12) : Int).toNat) := ⟨_, rfl⟩
              replace H : ((deeds_Read.f y419 t417).bind fun bt423 => (if ([] : List (S39)).length + l0.length < 8796093022208 then ((some (([] : List (S39)) ++ l0 : List (S39))).bind fun y429 => (if y429.length < 8796093022208 then ((deeds_Read.f (y429 ++ [(⟨1, false⟩ : S39)]) t417).bind fun bt435 => (if bt423.2.2 = 5 then (some (bt435.2.2 == 2)) else (some false))) else (none))) else (none))) = some r := by first | (rw [hy419]; with_reducible exact H) | (have H2_ := (Option.bind_some _ _).symm.trans H; rw [hy419]; with_reducible exact H2_) | (have H2_ := (Option.bind_some _ _).symm.trans H; with_reducible exact H2_) | with_reducible exact H | (rw [hy419]; exact H) | exact H
              have Ny419 := Aside0.mk hy419
              clear hy419
              replace H := Option.bind_eq_some_iff.mp H
              obtain ⟨⟨t423, t424, t427⟩, A150, H⟩ := H
              replace H : (if ([] : List (S39)).length + l0.length < 8796093022208 then ((some (([] : List (S39)) ++ l0 : List (S39))).bind fun y429 => (if y429.length < 8796093022208 then ((deeds_Read.f (y429 ++ [(⟨1, false⟩ : S39)]) t417).bind fun bt435 => (if t427 = 5 then (some (bt435.2.2 == 2)) else (some false))) else (none))) else (none)) = some r := H
              have A15 := Aside0.mk A150
              clear A150
              by_cases c16 : ([] : List (S39)).length + l0.length < 8796093022208
              · rw [if_pos c16] at H
                have LMc16 := Aside0.mk c16
                clear c16
                obtain ⟨y429, hy429⟩ : ∃ y_ : List (S39), y_ = (([] : List (S39)) ++ l0) := ⟨_, rfl⟩
                replace H : (if y429.length < 8796093022208 then ((deeds_Read.f (y429 ++ [(⟨1, false⟩ : S39)]) t417).bind fun bt435 => (if t427 = 5 then (some (bt435.2.2 == 2)) else (some false))) else (none)) = some r := by first | (rw [hy429]; with_reducible exact H) | (have H2_ := (Option.bind_some _ _).symm.trans H; rw [hy429]; with_reducible exact H2_) | (have H2_ := (Option.bind_some _ _).symm.trans H; with_reducible exact H2_) | with_reducible exact H | (rw [hy429]; exact H) | exact H
                have Ny429 := Aside0.mk hy429
                clear hy429
                by_cases c17 : y429.length < 8796093022208
                · rw [if_pos c17] at H
                  have LMc17 := Aside0.mk c17
                  clear c17
                  obtain ⟨y432, hy432⟩ : ∃ y_ : List (S39), y_ = (y429 ++ [(⟨1, false⟩ : S39)]) := ⟨_, rfl⟩
                  replace H : ((deeds_Read.f y432 t417).bind fun bt435 => (if t427 = 5 then (some (bt435.2.2 == 2)) else (some false))) = some r := by first | (rw [hy432]; with_reducible exact H) | (have H2_ := (Option.bind_some _ _).symm.trans H; rw [hy432]; with_reducible exact H2_) | (have H2_ := (Option.bind_some _ _).symm.trans H; with_reducible exact H2_) | with_reducible exact H | (rw [hy432]; exact H) | exact H
                  have Ny432 := Aside0.mk hy432
                  clear hy432
                  replace H := Option.bind_eq_some_iff.mp H
                  obtain ⟨⟨t435, t436, t439⟩, A180, H⟩ := H
                  replace H : (if t427 = 5 then (some (t439 == 2)) else (some false)) = some r := H
                  have A18 := Aside0.mk A180
                  clear A180
                  by_cases c19 : t427 = 5
                  · rw [if_pos c19] at H
                    have c19b0 : (t427 == 5) = true := beq_iff_eq.mpr c19
                    have c19b1 : (t427 != 5) = false := bne_eq_false_iff_eq.mpr c19
                    clear c19
                    obtain rfl := Option.some.inj H
                    have q20 : ((ji12) : Int) ≤ ((l0.length : Int) : Int) := of_decide_eq_true (by first | (with_reducible assumption) | assumption)
                    obtain ⟨i020, hi020, _, hsz20, _⟩ := info_parts info39
                    have hroom20 : l0.length ≤ c0 := HC0.out
                    have hC20 : Kd.C k39 _ A0 l0.length l0 := HR0.out
                    have hcut20 := cut_to (P := Try.prog) 22 39 .i64 Try.underlying22 hi020 A0 l0.length c0 (ji12) (of_decide_eq_true (by first | (with_reducible assumption) | assumption)) q20 hroom20
                    have hr20 := Kd.C_take (m := ((ji12) : Int).toNat) hC20 (by omega)
                    have hy20 : y419.length = ((ji12) : Int).toNat := (by rw [Ny419.out, List.length_take]; omega)
                    rw [← Ny419.out] at hr20
                    rw [← hy20] at hcut20
                    have HR422 := Aside0.mk hr20
                    have HC422 := Aside0.mk (show y419.length ≤ c0 from by omega)
                    clear hr20 hC20 hroom20 hi020 hsz20
                    have KY20 := Aside0.mk hy20
                    clear hy20
                    replace q20 := eq_true q20
                    go_wp2_with (first | ((with_reducible refine gate_callee (f := 12) rfl ?_); refine goesL_ (some 39) rfl rfl Try.func12 (by kernel_rfl) rfl #[.slice A0 y419.length c0, .string t417] rfl (by (try simp only [List.map_toArray, List.map_cons, List.map_nil]); first | done | rfl | (simp only [List.length_drop, List.length_take]; rfl) | (go_simp; simp [IntKind.wrap, IntKind.bits, IntKind.signed]; omega)) ?_; (with_reducible refine (deeds_Read.calls _ _ y419 t417 t423 t424 t427 _ ?side1 ?side2 A15.out).mono ?_); (case side1 => repeat (first | exact (Kd.C_below HR422.out HB.out) | (with_reducible refine Kd.C_alloc ?_ _) | (with_reducible refine Kd.C_drewN ?_ _) | (with_reducible refine Kd.C_drew ?_))); (case side2 => exact HC422.out); rintro e w21 ⟨v425, rfl, ho0, hb⟩; refine ⟨_, rfl, ?_⟩; have n0_ := Aside0.mk (Kd.R_lower ho0 (below_size (by repeat (first | (with_reducible first | exact HB.out | apply below_alloc | apply pw_below_drewN | apply below_drew1) | exact HB.out)))); have n1_ := Aside0.mk (below_step (by repeat (first | (with_reducible first | exact HB.out | apply below_alloc | apply pw_below_drewN | apply below_drew1) | exact HB.out)) hb); clear HB; have HO426 := n0_; have HB := n1_; clear n0_ n1_; (try clear hb); (try clear hb2); (try clear hk); (try clear hi); (try clear ho0)) | ((with_reducible refine gate_dst (N := 7) rfl ?_); (try (refine gate_guard (by rfl) ?_; dsimp only)); refine box_event ?hg (N := 7) ?hd (cs := #[.bool false, .slice none 0 0]) (t := 26) ?hr ?_; (case hd => rfl); (case hg => rfl); (case hr => first | (go_simp; done) | (go_simp; rfl)); intro gb428 hg w22 hbox hb; have n0_ := Aside0.mk (Kd.R_below (by (with_reducible repeat (first | apply Kd.R_alloc | apply Kd.R_drewN | apply Kd.R_drew)); exact HO426.out) hb); have n1_ := Aside0.mk (below_step (by repeat (first | (with_reducible first | exact HB.out | apply below_alloc | apply pw_below_drewN | apply below_drew1) | exact HB.out)) hb); have n2_ := Aside0.mk (hbox); have n3_ := Aside0.mk ((by rw [hg]; exact (below_size (by repeat (first | (with_reducible first | exact HB.out | apply below_alloc | apply pw_below_drewN | apply below_drew1) | exact HB.out))) : w.heap.size ≤ gb428)); have n4_ := Aside0.mk ((by rw [hg]; exact (below_size (by repeat (first | (with_reducible first | exact HB.out | apply below_alloc | apply pw_below_drewN | apply below_drew1) | exact HB.out))) : w.heap.size ≤ gb428)); clear HO426; clear HB; have HO426 := n0_; have HB := n1_; have BK428 := n2_; have GW428 := n3_; have GE428 := n4_; clear n0_ n1_ n2_ n3_ n4_; clear hb hbox hg; have hcz23_0 : w22.cell? ⟨gb428, 0, none⟩ = some (.bool false) := (blk_cell BK428.out 0).trans rfl; have hcz23_1 : w22.cell? ⟨gb428, 1, none⟩ = some (.slice none 0 0) := (blk_cell BK428.out 1).trans rfl; have hfz23_0 := blk_frozen BK428.out 0; have hfz23_1 := blk_frozen BK428.out 1; obtain ⟨Ao24, co24, eo24⟩ := Kd.R_slice HO426.out; subst eo24) | ((with_reducible refine gate_builtin (b := .append) (xs := #[.const (.slice none 0 0), .tmp 43]) rfl ?_); (try (refine gate_guard (by rfl) ?_; dsimp only)); at_builtin; refine Kd.R_append_rows k39 (w0 := w) w.heap.size rfl (.const (.slice none 0 0)) (.tmp 43) 22 39 (.agg #[(.int .i64 0), (.bool false)]) 16 rfl Try.underlying22 info39 rfl (by decide) (by omega) (.slice none 0 0) ([] : List (S39)) l0 _ _ _ (fun _ => True) (fun _ => False) rfl rfl ?aO ?aR (fun _ _ h => h) (fun _ h => h.elim) ?aF ?aB ?aS ?aL ?_; (case aR => exact Kd.C_below HR0.out (by repeat (first | (with_reducible first | exact HB.out | apply below_alloc | apply pw_below_drewN | apply below_drew1 | refine below_set ?_ GE428.out) | exact HB.out))); (case aB => exact (by repeat (first | (with_reducible first | exact HB.out | apply below_alloc | apply pw_below_drewN | apply below_drew1 | refine below_set ?_ GE428.out) | exact HB.out))); (case aF => exact (fun _ _ => trivial)); (case aO => exact ((Kd.R_nil _ _ _ _ (fun _ => True)))); (case aS => exact (below_size (by repeat (first | (with_reducible first | exact HB.out | apply below_alloc | apply pw_below_drewN | apply below_drew1 | refine below_set ?_ GE428.out) | exact HB.out)))); (case aL => have := LMc16.out; omega); intro v430 w25 ho hb hg hat; rw [← Ny429.out] at ho; have n0_ := Aside0.mk (Kd.R_grown (by (with_reducible repeat (first | apply Kd.R_alloc | apply Kd.R_drewN | apply Kd.R_drew)); exact (Kd.R_mono (Kd.R_far (p := ⟨gb428, 1, none⟩) (Kd.R_far (p := ⟨gb428, 0, none⟩) (Kd.R_types HO426.out BK428.out (by decide)) (fun _ hk => hk.2) (.bool t423)) (fun _ hk => hk.2) (.slice Ao24 t424.length co24)) (fun _ h_ => h_.1))) hg (fun _ _ => by simp [Value.ownBlock])); have n1_ := Aside0.mk (blk_grown (g := gb428) (o := .cells #[.bool t423, .slice Ao24 t424.length co24] 26 (0, 0)) (by (with_reducible repeat (first | refine blk_drewN ?_ _ | refine blk_drew ?_ | refine blk_alloc ?_ _)); refine blk_put (cs := #[.bool t423, .slice none 0 0]) ?_ 1 _ rfl; (with_reducible repeat (first | refine blk_drewN ?_ _ | refine blk_drew ?_ | refine blk_alloc ?_ _)); refine blk_put (cs := #[.bool false, .slice none 0 0]) ?_ 0 _ rfl; (with_reducible repeat (first | refine blk_drewN ?_ _ | refine blk_drew ?_ | refine blk_alloc ?_ _)); exact BK428.out) hg (by simp [Value.ownBlock])); have n2_ := Aside0.mk (hb); have n3_ := Aside0.mk (ho); clear HO426; clear BK428; clear HB; have HO426 := n0_; have BK428 := n1_; have HB := n2_; have HO431 := n3_; clear n0_ n1_ n2_ n3_; clear ho hb hg hat) | ((with_reducible refine gate_builtin (b := .append) (xs := #[.tmp 44, .tmp 46]) rfl ?_); (try (refine gate_guard (by rfl) ?_; dsimp only)); at_builtin; refine Kd.R_append k39 (w0 := w) w.heap.size rfl (.tmp 44) (.tmp 46) 22 39 (.agg #[(.int .i64 0), (.bool false)]) 16 rfl Try.underlying22 info39 rfl (by decide) (by omega) v430 y429 (⟨1, false⟩ : S39) [.int .i64 1, .bool false] (fun _ => True) (fun _ => False) rfl rfl ?aP (fun _ hk => hk.elim) ?aF ?aO ?aB ?aS ?aL ?_; (case aP => exact k39_mkM _ _ _ (⟨1, false⟩ : S39)); (case aB => exact (by repeat (first | (with_reducible first | exact HB.out | apply below_alloc | apply pw_below_drewN | apply below_drew1 | refine below_set ?_ GE428.out) | exact HB.out))); (case aF => exact (fun _ _ => trivial)); (case aO => exact (by (with_reducible repeat (first | apply Kd.R_alloc | apply Kd.R_drewN | apply Kd.R_drew)); exact HO431.out)); (case aS => exact (below_size (by repeat (first | (with_reducible first | exact HB.out | apply below_alloc | apply pw_below_drewN | apply below_drew1 | refine below_set ?_ GE428.out) | exact HB.out)))); (case aL => have := LMc17.out; omega); intro v433 w26 ho hb hg hat; rw [← Ny432.out] at ho; have n0_ := Aside0.mk (Kd.R_over' (by (with_reducible repeat (first | apply Kd.R_alloc | apply Kd.R_drewN | apply Kd.R_drew)); exact HO426.out) (Kd.R_typed (by (with_reducible repeat (first | apply Kd.R_alloc | apply Kd.R_drewN | apply Kd.R_drew)); exact HO431.out)) (by decide) hg); have n1_ := Aside0.mk (blk_grown (g := gb428) (o := .cells #[.bool t423, .slice Ao24 t424.length co24] 26 (0, 0)) (by (with_reducible repeat (first | refine blk_drewN ?_ _ | refine blk_drew ?_ | refine blk_alloc ?_ _)); exact BK428.out) hg (Kd.R_ne HO431.out BK428.out (by decide))); have n2_ := Aside0.mk (hb); have n3_ := Aside0.mk (ho); clear HO426; clear BK428; clear HB; clear HO431; have HO426 := n0_; have BK428 := n1_; have HB := n2_; have HO434 := n3_; clear n0_ n1_ n2_ n3_; clear ho hb hg hat; obtain ⟨Ao27, co27, eo27⟩ := Kd.R_slice HO434.out; subst eo27) | ((with_reducible refine gate_callee (f := 12) rfl ?_); refine goesL_ (some 49) rfl rfl Try.func12 (by kernel_rfl) rfl #[.slice Ao27 y432.length co27, .string t417] rfl (by (try simp only [List.map_toArray, List.map_cons, List.map_nil]); first | done | rfl | (simp only [List.length_drop, List.length_take]; rfl) | (go_simp; simp [IntKind.wrap, IntKind.bits, IntKind.signed]; omega)) ?_; (with_reducible refine (deeds_Read.calls _ _ y432 t417 t435 t436 t439 _ ?side1 ?side2 A18.out).mono ?_); (case side1 => repeat (first | exact (Kd.R_reads' HO434.out).2.2 | (with_reducible refine Kd.C_alloc ?_ _) | (with_reducible refine Kd.C_drewN ?_ _) | (with_reducible refine Kd.C_drew ?_))); (case side2 => exact (Kd.R_reads' HO434.out).2.1); rintro e w28 ⟨v437, rfl, ho0, hb⟩; refine ⟨_, rfl, ?_⟩; have n0_ := Aside0.mk (Kd.R_elder' (by (with_reducible repeat (first | apply Kd.R_alloc | apply Kd.R_drewN | apply Kd.R_drew)); exact HO426.out) (Kd.R_base ho0) hb); have n1_ := Aside0.mk (Kd.R_below (by (with_reducible repeat (first | apply Kd.R_alloc | apply Kd.R_drewN | apply Kd.R_drew)); exact HO434.out) hb); have n2_ := Aside0.mk (Kd.R_lower (Kd.R_new' ho0 (Kd.R_lt (by (with_reducible repeat (first | apply Kd.R_alloc | apply Kd.R_drewN | apply Kd.R_drew)); exact HO426.out))) (below_size (by repeat (first | (with_reducible first | exact HB.out | apply below_alloc | apply pw_below_drewN | apply below_drew1 | refine below_set ?_ GE428.out) | exact HB.out)))); have n3_ := Aside0.mk (blk_below (g := gb428) (o := .cells #[.bool t423, .slice Ao24 t424.length co24] 26 (0, 0)) (by (with_reducible repeat (first | refine blk_drewN ?_ _ | refine blk_drew ?_ | refine blk_alloc ?_ _)); exact BK428.out) hb); have n4_ := Aside0.mk (below_step (by repeat (first | (with_reducible first | exact HB.out | apply below_alloc | apply pw_below_drewN | apply below_drew1 | refine below_set ?_ GE428.out) | exact HB.out)) hb); clear HO426; clear HO434; clear BK428; clear HB; have HO426 := n0_; have HO434 := n1_; have HO438 := n2_; have BK428 := n3_; have HB := n4_; clear n0_ n1_ n2_ n3_ n4_; (try clear hb); (try clear hb2); (try clear hk); (try clear hi); (try clear ho0)) | ((with_reducible refine gate_dst (N := 9) rfl ?_); (try (refine gate_guard (by rfl) ?_; dsimp only)); refine box_event ?hg (N := 9) ?hd (cs := #[.bool false, .slice none 0 0]) (t := 26) ?hr ?_; (case hd => rfl); (case hg => rfl); (case hr => first | (go_simp; done) | (go_simp; rfl)); intro gb440 hg w29 hbox hb; have n0_ := Aside0.mk (Kd.R_below (by (with_reducible repeat (first | apply Kd.R_alloc | apply Kd.R_drewN | apply Kd.R_drew)); exact HO426.out) hb); have n1_ := Aside0.mk (Kd.R_below (by (with_reducible repeat (first | apply Kd.R_alloc | apply Kd.R_drewN | apply Kd.R_drew)); exact HO434.out) hb); have n2_ := Aside0.mk (Kd.R_below (by (with_reducible repeat (first | apply Kd.R_alloc | apply Kd.R_drewN | apply Kd.R_drew)); exact HO438.out) hb); have n3_ := Aside0.mk (blk_below (g := gb428) (o := .cells #[.bool t423, .slice Ao24 t424.length co24] 26 (0, 0)) (by (with_reducible repeat (first | refine blk_drewN ?_ _ | refine blk_drew ?_ | refine blk_alloc ?_ _)); exact BK428.out) hb); have n4_ := Aside0.mk (below_step (by repeat (first | (with_reducible first | exact HB.out | apply below_alloc | apply pw_below_drewN | apply below_drew1 | refine below_set ?_ GE428.out) | exact HB.out)) hb); have n5_ := Aside0.mk (hbox); have n6_ := Aside0.mk ((by rw [hg]; exact (below_size (by repeat (first | (with_reducible first | exact HB.out | apply below_alloc | apply pw_below_drewN | apply below_drew1 | refine below_set ?_ GE428.out) | exact HB.out))) : w.heap.size ≤ gb440)); have n7_ := Aside0.mk ((by rw [hg]; exact (below_size (by repeat (first | (with_reducible first | exact HB.out | apply below_alloc | apply pw_below_drewN | apply below_drew1 | refine below_set ?_ GE428.out) | exact HB.out))) : w.heap.size ≤ gb440)); have n8_ := Aside0.mk ((by rw [hg]; exact Nat.ne_of_lt (blk_lt (g := gb428) (o := .cells #[.bool t423, .slice Ao24 t424.length co24] 26 (0, 0)) (by (with_reducible repeat (first | refine blk_drewN ?_ _ | refine blk_drew ?_ | refine blk_alloc ?_ _)); exact BK428.out)) : gb428 ≠ gb440)); have n9_ := Aside0.mk ((by rw [hg]; exact Nat.ne_of_gt (blk_lt (g := gb428) (o := .cells #[.bool t423, .slice Ao24 t424.length co24] 26 (0, 0)) (by (with_reducible repeat (first | refine blk_drewN ?_ _ | refine blk_drew ?_ | refine blk_alloc ?_ _)); exact BK428.out)) : gb440 ≠ gb428)); clear HO426; clear HO434; clear HO438; clear BK428; clear HB; have HO426 := n0_; have HO434 := n1_; have HO438 := n2_; have BK428 := n3_; have HB := n4_; have BK440 := n5_; have GW440 := n6_; have GE440 := n7_; have NB428_440 := n8_; have NB440_428 := n9_; clear n0_ n1_ n2_ n3_ n4_ n5_ n6_ n7_ n8_ n9_; clear hb hbox hg; have hnb30 := NB440_428.out; have hnc30 := NB428_440.out; have hcz31_0 : w29.cell? ⟨gb440, 0, none⟩ = some (.bool false) := (blk_cell BK440.out 0).trans rfl; have hcz31_1 : w29.cell? ⟨gb440, 1, none⟩ = some (.slice none 0 0) := (blk_cell BK440.out 1).trans rfl; have hfz31_0 := blk_frozen BK440.out 0; have hfz31_1 := blk_frozen BK440.out 1; obtain ⟨Ao32, co32, eo32⟩ := Kd.R_slice HO438.out; subst eo32))
                    go_ret
                    exact ⟨by first | rfl | (simp [errW_none, errW_some] <;> rfl) | (simp only [← hji12]; first | rfl | (simp [errW_none, errW_some] <;> rfl)) | (simp [*, errW_none, errW_some] <;> rfl), by repeat (first | (with_reducible first | exact HB.out | apply below_alloc | apply pw_below_drewN | apply below_drew1 | refine below_set ?_ GE428.out | refine below_set ?_ GE440.out) | exact HB.out)⟩
                  · rw [if_neg c19] at H
                    have c19b0 : (t427 == 5) = false := beq_eq_false_iff_ne.mpr c19
                    have c19b1 : (t427 != 5) = true := bne_iff_ne.mpr c19
                    obtain rfl := Option.some.inj H
                    have q33 : ((ji12) : Int) ≤ ((l0.length : Int) : Int) := of_decide_eq_true (by first | (with_reducible assumption) | assumption)
                    obtain ⟨i033, hi033, _, hsz33, _⟩ := info_parts info39
                    have hroom33 : l0.length ≤ c0 := HC0.out
                    have hC33 : Kd.C k39 _ A0 l0.length l0 := HR0.out
                    have hcut33 := cut_to (P := Try.prog) 22 39 .i64 Try.underlying22 hi033 A0 l0.length c0 (ji12) (of_decide_eq_true (by first | (with_reducible assumption) | assumption)) q33 hroom33
                    have hr33 := Kd.C_take (m := ((ji12) : Int).toNat) hC33 (by omega)
                    have hy33 : y419.length = ((ji12) : Int).toNat := (by rw [Ny419.out, List.length_take]; omega)
                    rw [← Ny419.out] at hr33
                    rw [← hy33] at hcut33
                    have HR422 := Aside0.mk hr33
                    have HC422 := Aside0.mk (show y419.length ≤ c0 from by omega)
                    clear hr33 hC33 hroom33 hi033 hsz33
                    have KY33 := Aside0.mk hy33
                    clear hy33
                    replace q33 := eq_true q33
                    go_wp2_with (first | ((with_reducible refine gate_callee (f := 12) rfl ?_); refine goesL_ (some 39) rfl rfl Try.func12 (by kernel_rfl) rfl #[.slice A0 y419.length c0, .string t417] rfl (by (try simp only [List.map_toArray, List.map_cons, List.map_nil]); first | done | rfl | (simp only [List.length_drop, List.length_take]; rfl) | (go_simp; simp [IntKind.wrap, IntKind.bits, IntKind.signed]; omega)) ?_; (with_reducible refine (deeds_Read.calls _ _ y419 t417 t423 t424 t427 _ ?side1 ?side2 A15.out).mono ?_); (case side1 => repeat (first | exact (Kd.C_below HR422.out HB.out) | (with_reducible refine Kd.C_alloc ?_ _) | (with_reducible refine Kd.C_drewN ?_ _) | (with_reducible refine Kd.C_drew ?_))); (case side2 => exact HC422.out); rintro e w34 ⟨v425, rfl, ho0, hb⟩; refine ⟨_, rfl, ?_⟩; have n0_ := Aside0.mk (Kd.R_lower ho0 (below_size (by repeat (first | (with_reducible first | exact HB.out | apply below_alloc | apply pw_below_drewN | apply below_drew1) | exact HB.out)))); have n1_ := Aside0.mk (below_step (by repeat (first | (with_reducible first | exact HB.out | apply below_alloc | apply pw_below_drewN | apply below_drew1) | exact HB.out)) hb); clear HB; have HO426 := n0_; have HB := n1_; clear n0_ n1_; (try clear hb); (try clear hb2); (try clear hk); (try clear hi); (try clear ho0)) | ((with_reducible refine gate_dst (N := 7) rfl ?_); (try (refine gate_guard (by rfl) ?_; dsimp only)); refine box_event ?hg (N := 7) ?hd (cs := #[.bool false, .slice none 0 0]) (t := 26) ?hr ?_; (case hd => rfl); (case hg => rfl); (case hr => first | (go_simp; done) | (go_simp; rfl)); intro gb428 hg w35 hbox hb; have n0_ := Aside0.mk (Kd.R_below (by (with_reducible repeat (first | apply Kd.R_alloc | apply Kd.R_drewN | apply Kd.R_drew)); exact HO426.out) hb); have n1_ := Aside0.mk (below_step (by repeat (first | (with_reducible first | exact HB.out | apply below_alloc | apply pw_below_drewN | apply below_drew1) | exact HB.out)) hb); have n2_ := Aside0.mk (hbox); have n3_ := Aside0.mk ((by rw [hg]; exact (below_size (by repeat (first | (with_reducible first | exact HB.out | apply below_alloc | apply pw_below_drewN | apply below_drew1) | exact HB.out))) : w.heap.size ≤ gb428)); have n4_ := Aside0.mk ((by rw [hg]; exact (below_size (by repeat (first | (with_reducible first | exact HB.out | apply below_alloc | apply pw_below_drewN | apply below_drew1) | exact HB.out))) : w.heap.size ≤ gb428)); clear HO426; clear HB; have HO426 := n0_; have HB := n1_; have BK428 := n2_; have GW428 := n3_; have GE428 := n4_; clear n0_ n1_ n2_ n3_ n4_; clear hb hbox hg; have hcz36_0 : w35.cell? ⟨gb428, 0, none⟩ = some (.bool false) := (blk_cell BK428.out 0).trans rfl; have hcz36_1 : w35.cell? ⟨gb428, 1, none⟩ = some (.slice none 0 0) := (blk_cell BK428.out 1).trans rfl; have hfz36_0 := blk_frozen BK428.out 0; have hfz36_1 := blk_frozen BK428.out 1; obtain ⟨Ao37, co37, eo37⟩ := Kd.R_slice HO426.out; subst eo37) | ((with_reducible refine gate_builtin (b := .append) (xs := #[.const (.slice none 0 0), .tmp 43]) rfl ?_); (try (refine gate_guard (by rfl) ?_; dsimp only)); at_builtin; refine Kd.R_append_rows k39 (w0 := w) w.heap.size rfl (.const (.slice none 0 0)) (.tmp 43) 22 39 (.agg #[(.int .i64 0), (.bool false)]) 16 rfl Try.underlying22 info39 rfl (by decide) (by omega) (.slice none 0 0) ([] : List (S39)) l0 _ _ _ (fun _ => True) (fun _ => False) rfl rfl ?aO ?aR (fun _ _ h => h) (fun _ h => h.elim) ?aF ?aB ?aS ?aL ?_; (case aR => exact Kd.C_below HR0.out (by repeat (first | (with_reducible first | exact HB.out | apply below_alloc | apply pw_below_drewN | apply below_drew1 | refine below_set ?_ GE428.out) | exact HB.out))); (case aB => exact (by repeat (first | (with_reducible first | exact HB.out | apply below_alloc | apply pw_below_drewN | apply below_drew1 | refine below_set ?_ GE428.out) | exact HB.out))); (case aF => exact (fun _ _ => trivial)); (case aO => exact ((Kd.R_nil _ _ _ _ (fun _ => True)))); (case aS => exact (below_size (by repeat (first | (with_reducible first | exact HB.out | apply below_alloc | apply pw_below_drewN | apply below_drew1 | refine below_set ?_ GE428.out) | exact HB.out)))); (case aL => have := LMc16.out; omega); intro v430 w38 ho hb hg hat; rw [← Ny429.out] at ho; have n0_ := Aside0.mk (Kd.R_grown (by (with_reducible repeat (first | apply Kd.R_alloc | apply Kd.R_drewN | apply Kd.R_drew)); exact (Kd.R_mono (Kd.R_far (p := ⟨gb428, 1, none⟩) (Kd.R_far (p := ⟨gb428, 0, none⟩) (Kd.R_types HO426.out BK428.out (by decide)) (fun _ hk => hk.2) (.bool t423)) (fun _ hk => hk.2) (.slice Ao37 t424.length co37)) (fun _ h_ => h_.1))) hg (fun _ _ => by simp [Value.ownBlock])); have n1_ := Aside0.mk (blk_grown (g := gb428) (o := .cells #[.bool t423, .slice Ao37 t424.length co37] 26 (0, 0)) (by (with_reducible repeat (first | refine blk_drewN ?_ _ | refine blk_drew ?_ | refine blk_alloc ?_ _)); refine blk_put (cs := #[.bool t423, .slice none 0 0]) ?_ 1 _ rfl; (with_reducible repeat (first | refine blk_drewN ?_ _ | refine blk_drew ?_ | refine blk_alloc ?_ _)); refine blk_put (cs := #[.bool false, .slice none 0 0]) ?_ 0 _ rfl; (with_reducible repeat (first | refine blk_drewN ?_ _ | refine blk_drew ?_ | refine blk_alloc ?_ _)); exact BK428.out) hg (by simp [Value.ownBlock])); have n2_ := Aside0.mk (hb); have n3_ := Aside0.mk (ho); clear HO426; clear BK428; clear HB; have HO426 := n0_; have BK428 := n1_; have HB := n2_; have HO431 := n3_; clear n0_ n1_ n2_ n3_; clear ho hb hg hat) | ((with_reducible refine gate_builtin (b := .append) (xs := #[.tmp 44, .tmp 46]) rfl ?_); (try (refine gate_guard (by rfl) ?_; dsimp only)); at_builtin; refine Kd.R_append k39 (w0 := w) w.heap.size rfl (.tmp 44) (.tmp 46) 22 39 (.agg #[(.int .i64 0), (.bool false)]) 16 rfl Try.underlying22 info39 rfl (by decide) (by omega) v430 y429 (⟨1, false⟩ : S39) [.int .i64 1, .bool false] (fun _ => True) (fun _ => False) rfl rfl ?aP (fun _ hk => hk.elim) ?aF ?aO ?aB ?aS ?aL ?_; (case aP => exact k39_mkM _ _ _ (⟨1, false⟩ : S39)); (case aB => exact (by repeat (first | (with_reducible first | exact HB.out | apply below_alloc | apply pw_below_drewN | apply below_drew1 | refine below_set ?_ GE428.out) | exact HB.out))); (case aF => exact (fun _ _ => trivial)); (case aO => exact (by (with_reducible repeat (first | apply Kd.R_alloc | apply Kd.R_drewN | apply Kd.R_drew)); exact HO431.out)); (case aS => exact (below_size (by repeat (first | (with_reducible first | exact HB.out | apply below_alloc | apply pw_below_drewN | apply below_drew1 | refine below_set ?_ GE428.out) | exact HB.out)))); (case aL => have := LMc17.out; omega); intro v433 w39 ho hb hg hat; rw [← Ny432.out] at ho; have n0_ := Aside0.mk (Kd.R_over' (by (with_reducible repeat (first | apply Kd.R_alloc | apply Kd.R_drewN | apply Kd.R_drew)); exact HO426.out) (Kd.R_typed (by (with_reducible repeat (first | apply Kd.R_alloc | apply Kd.R_drewN | apply Kd.R_drew)); exact HO431.out)) (by decide) hg); have n1_ := Aside0.mk (blk_grown (g := gb428) (o := .cells #[.bool t423, .slice Ao37 t424.length co37] 26 (0, 0)) (by (with_reducible repeat (first | refine blk_drewN ?_ _ | refine blk_drew ?_ | refine blk_alloc ?_ _)); exact BK428.out) hg (Kd.R_ne HO431.out BK428.out (by decide))); have n2_ := Aside0.mk (hb); have n3_ := Aside0.mk (ho); clear HO426; clear BK428; clear HB; clear HO431; have HO426 := n0_; have BK428 := n1_; have HB := n2_; have HO434 := n3_; clear n0_ n1_ n2_ n3_; clear ho hb hg hat; obtain ⟨Ao40, co40, eo40⟩ := Kd.R_slice HO434.out; subst eo40) | ((with_reducible refine gate_callee (f := 12) rfl ?_); refine goesL_ (some 49) rfl rfl Try.func12 (by kernel_rfl) rfl #[.slice Ao40 y432.length co40, .string t417] rfl (by (try simp only [List.map_toArray, List.map_cons, List.map_nil]); first | done | rfl | (simp only [List.length_drop, List.length_take]; rfl) | (go_simp; simp [IntKind.wrap, IntKind.bits, IntKind.signed]; omega)) ?_; (with_reducible refine (deeds_Read.calls _ _ y432 t417 t435 t436 t439 _ ?side1 ?side2 A18.out).mono ?_); (case side1 => repeat (first | exact (Kd.R_reads' HO434.out).2.2 | (with_reducible refine Kd.C_alloc ?_ _) | (with_reducible refine Kd.C_drewN ?_ _) | (with_reducible refine Kd.C_drew ?_))); (case side2 => exact (Kd.R_reads' HO434.out).2.1); rintro e w41 ⟨v437, rfl, ho0, hb⟩; refine ⟨_, rfl, ?_⟩; have n0_ := Aside0.mk (Kd.R_elder' (by (with_reducible repeat (first | apply Kd.R_alloc | apply Kd.R_drewN | apply Kd.R_drew)); exact HO426.out) (Kd.R_base ho0) hb); have n1_ := Aside0.mk (Kd.R_below (by (with_reducible repeat (first | apply Kd.R_alloc | apply Kd.R_drewN | apply Kd.R_drew)); exact HO434.out) hb); have n2_ := Aside0.mk (Kd.R_lower (Kd.R_new' ho0 (Kd.R_lt (by (with_reducible repeat (first | apply Kd.R_alloc | apply Kd.R_drewN | apply Kd.R_drew)); exact HO426.out))) (below_size (by repeat (first | (with_reducible first | exact HB.out | apply below_alloc | apply pw_below_drewN | apply below_drew1 | refine below_set ?_ GE428.out) | exact HB.out)))); have n3_ := Aside0.mk (blk_below (g := gb428) (o := .cells #[.bool t423, .slice Ao37 t424.length co37] 26 (0, 0)) (by (with_reducible repeat (first | refine blk_drewN ?_ _ | refine blk_drew ?_ | refine blk_alloc ?_ _)); exact BK428.out) hb); have n4_ := Aside0.mk (below_step (by repeat (first | (with_reducible first | exact HB.out | apply below_alloc | apply pw_below_drewN | apply below_drew1 | refine below_set ?_ GE428.out) | exact HB.out)) hb); clear HO426; clear HO434; clear BK428; clear HB; have HO426 := n0_; have HO434 := n1_; have HO438 := n2_; have BK428 := n3_; have HB := n4_; clear n0_ n1_ n2_ n3_ n4_; (try clear hb); (try clear hb2); (try clear hk); (try clear hi); (try clear ho0)) | ((with_reducible refine gate_dst (N := 9) rfl ?_); (try (refine gate_guard (by rfl) ?_; dsimp only)); refine box_event ?hg (N := 9) ?hd (cs := #[.bool false, .slice none 0 0]) (t := 26) ?hr ?_; (case hd => rfl); (case hg => rfl); (case hr => first | (go_simp; done) | (go_simp; rfl)); intro gb440 hg w42 hbox hb; have n0_ := Aside0.mk (Kd.R_below (by (with_reducible repeat (first | apply Kd.R_alloc | apply Kd.R_drewN | apply Kd.R_drew)); exact HO426.out) hb); have n1_ := Aside0.mk (Kd.R_below (by (with_reducible repeat (first | apply Kd.R_alloc | apply Kd.R_drewN | apply Kd.R_drew)); exact HO434.out) hb); have n2_ := Aside0.mk (Kd.R_below (by (with_reducible repeat (first | apply Kd.R_alloc | apply Kd.R_drewN | apply Kd.R_drew)); exact HO438.out) hb); have n3_ := Aside0.mk (blk_below (g := gb428) (o := .cells #[.bool t423, .slice Ao37 t424.length co37] 26 (0, 0)) (by (with_reducible repeat (first | refine blk_drewN ?_ _ | refine blk_drew ?_ | refine blk_alloc ?_ _)); exact BK428.out) hb); have n4_ := Aside0.mk (below_step (by repeat (first | (with_reducible first | exact HB.out | apply below_alloc | apply pw_below_drewN | apply below_drew1 | refine below_set ?_ GE428.out) | exact HB.out)) hb); have n5_ := Aside0.mk (hbox); have n6_ := Aside0.mk ((by rw [hg]; exact (below_size (by repeat (first | (with_reducible first | exact HB.out | apply below_alloc | apply pw_below_drewN | apply below_drew1 | refine below_set ?_ GE428.out) | exact HB.out))) : w.heap.size ≤ gb440)); have n7_ := Aside0.mk ((by rw [hg]; exact (below_size (by repeat (first | (with_reducible first | exact HB.out | apply below_alloc | apply pw_below_drewN | apply below_drew1 | refine below_set ?_ GE428.out) | exact HB.out))) : w.heap.size ≤ gb440)); have n8_ := Aside0.mk ((by rw [hg]; exact Nat.ne_of_lt (blk_lt (g := gb428) (o := .cells #[.bool t423, .slice Ao37 t424.length co37] 26 (0, 0)) (by (with_reducible repeat (first | refine blk_drewN ?_ _ | refine blk_drew ?_ | refine blk_alloc ?_ _)); exact BK428.out)) : gb428 ≠ gb440)); have n9_ := Aside0.mk ((by rw [hg]; exact Nat.ne_of_gt (blk_lt (g := gb428) (o := .cells #[.bool t423, .slice Ao37 t424.length co37] 26 (0, 0)) (by (with_reducible repeat (first | refine blk_drewN ?_ _ | refine blk_drew ?_ | refine blk_alloc ?_ _)); exact BK428.out)) : gb440 ≠ gb428)); clear HO426; clear HO434; clear HO438; clear BK428; clear HB; have HO426 := n0_; have HO434 := n1_; have HO438 := n2_; have BK428 := n3_; have HB := n4_; have BK440 := n5_; have GW440 := n6_; have GE440 := n7_; have NB428_440 := n8_; have NB440_428 := n9_; clear n0_ n1_ n2_ n3_ n4_ n5_ n6_ n7_ n8_ n9_; clear hb hbox hg; have hnb43 := NB440_428.out; have hnc43 := NB428_440.out; have hcz44_0 : w42.cell? ⟨gb440, 0, none⟩ = some (.bool false) := (blk_cell BK440.out 0).trans rfl; have hcz44_1 : w42.cell? ⟨gb440, 1, none⟩ = some (.slice none 0 0) := (blk_cell BK440.out 1).trans rfl; have hfz44_0 := blk_frozen BK440.out 0; have hfz44_1 := blk_frozen BK440.out 1; obtain ⟨Ao45, co45, eo45⟩ := Kd.R_slice HO438.out; subst eo45))
                    go_ret
                    exact ⟨by first | rfl | (simp [errW_none, errW_some] <;> rfl) | (simp only [← hji12]; first | rfl | (simp [errW_none, errW_some] <;> rfl)) | (simp [*, errW_none, errW_some] <;> rfl), by repeat (first | (with_reducible first | exact HB.out | apply below_alloc | apply pw_below_drewN | apply below_drew1 | refine below_set ?_ GE428.out | refine below_set ?_ GE440.out) | exact HB.out)⟩
                · rw [if_neg c17] at H
                  exact absurd H (by simp)
              · rw [if_neg c16] at H
                exact absurd H (by simp)
            · rw [if_neg c14] at H
              exact absurd H (by simp)
          · rw [if_neg c13] at H
            exact absurd H (by simp)
  · replace c4 := Bool.eq_false_iff.mpr c4
    subst c4
    have H1 : (some false) = some r := by rw [if_neg (show ¬ (false = true) by decide)] at H; exact H
    clear H
    have H := H1
    clear H1
    obtain rfl := Option.some.inj H
    go_enter Try.func8, Try.ntmps8
    go_wp2_with (first | ((with_reducible refine gate_callee (f := 9) rfl ?_); refine goesL_ (some 11) rfl rfl Try.func9 (by kernel_rfl) rfl #[] rfl (by (try simp only [List.map_toArray, List.map_cons, List.map_nil]); first | done | rfl | (simp only [List.length_drop, List.length_take]; rfl) | (go_simp; simp [IntKind.wrap, IntKind.bits, IntKind.signed]; omega)) ?_; (with_reducible refine (tithebarnlaw07_lives.calls k  false _ A3.out).mono ?_); rintro e w46 ⟨rfl, hb⟩; refine ⟨_, rfl, ?_⟩; have n0_ := Aside0.mk (below_step (by repeat (first | (with_reducible first | exact HB.out | apply below_alloc | apply pw_below_drewN | apply below_drew1) | exact HB.out)) hb); clear HB; have HB := n0_; clear n0_; (try clear hb); (try clear hb2); (try clear hk); (try clear hi)))
    go_ret
    exact ⟨by first | rfl | (simp [errW_none, errW_some] <;> rfl) | (simp [*, errW_none, errW_some] <;> rfl), by repeat (first | (with_reducible first | exact HB.out | apply below_alloc | apply pw_below_drewN | apply below_drew1) | exact HB.out)⟩

end Go.Proofs.Ytpbeppmldckjlaa.G
