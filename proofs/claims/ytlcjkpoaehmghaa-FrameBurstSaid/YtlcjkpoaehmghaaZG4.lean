import Derived.Test.YtlcjkpoaehmghaaZG0
import Derived.Test.YtlcjkpoaehmghaaZG1
import Derived.Test.YtlcjkpoaehmghaaZG2
namespace Go.Proofs.Ytlcjkpoaehmghaa.G
open Go.RowKit Go.Proofs.YtlcjkpoaehmghaaQ Go.Proofs.YtlcjkpoaehmghaaW.PrintWords Go.Proofs.YtlcjkpoaehmghaaW.PrintLast Go.Proofs.YtlcjkpoaehmghaaW.PrintMore
attribute [local go_sem] max2_int min2_int max_two min_two max_three min_three max_four min_four   -- for this text's walks alone
set_option linter.unusedVariables false
set_option linter.unusedSimpArgs false
mutual
def tithebarnlaw08_FrameTorn.j0 : Nat → List ByteArray → Int → Bool → Option (Bool)
  | 0, _, _, _ => none
  | k + 1, x0, x1, x19 => if x19 = true then ((tithebarnlaw08_lives.f).bind fun t190 => (some t190)) else (tithebarnlaw08_FrameTorn.l0 k x0 x1 (⟨#[]⟩ : ByteArray) ([] : List Int) 0)
def tithebarnlaw08_FrameTorn.l0 : Nat → List ByteArray → Int → ByteArray → List Int → Int → Option (Bool)
  | 0, _, _, _, _, _ => none
  | k + 1, x0, x1, x5, x6, x7 => if x7 < (x0.length : Int) then (if 0 ≤ x7 then ((frame_Write.f k (rdOf ByteArray.empty x0 x7)).bind fun t192 => (if x5.size + t192.size ≤ 9223372036854775807 then (if x6.length < 17592186044416 then (tithebarnlaw08_FrameTorn.l0 k x0 x1 (x5 ++ t192) (x6 ++ [((x5.size : Int) + (t192.size : Int))]) (wrap64 (x7 + 1))) else (none)) else (none))) else (none)) else (if (IntKind.u64.wrap (wrap64 ((x5.size : Int) + 1))) = 0 then (none) else (if 0 ≤ (wrap64 (Int.tmod (IntKind.u64.wrap (x1)) (IntKind.u64.wrap (wrap64 ((x5.size : Int) + 1))))) then (if (wrap64 (Int.tmod (IntKind.u64.wrap (x1)) (IntKind.u64.wrap (wrap64 ((x5.size : Int) + 1))))) ≤ (x5.size : Int) then ((frame_Scan.f k (x5.extract 0 ((wrap64 (Int.tmod (IntKind.u64.wrap (x1)) (IntKind.u64.wrap (wrap64 ((x5.size : Int) + 1))))) : Int).toNat)).bind fun bt196 => (tithebarnlaw08_FrameTorn.l1 k x0 x6 (wrap64 (Int.tmod (IntKind.u64.wrap (x1)) (IntKind.u64.wrap (wrap64 ((x5.size : Int) + 1))))) bt196.1 bt196.2.1 bt196.2.2 0)) else (none)) else (none)))
def tithebarnlaw08_FrameTorn.l1 : Nat → List ByteArray → List Int → Int → List ByteArray → Int → Int → Int → Option (Bool)
  | 0, _, _, _, _, _, _, _ => none
  | k + 1, x0, x6, x8, x9, x10, x11, x12 => if x12 < (x6.length : Int) then (if 0 ≤ x12 then (if (rd x6 x12) ≤ x8 then (tithebarnlaw08_FrameTorn.l1 k x0 x6 x8 x9 x10 x11 (wrap64 (x12 + 1))) else (if x12 > 0 then (if 0 ≤ (wrap64 (x12 - 1)) then (if (wrap64 (x12 - 1)) < (x6.length : Int) then (if x11 = 0 then (if x10 = (rd x6 (wrap64 (x12 - 1))) then (if x12 ≤ (x0.length : Int) then ((tithebarnref05_Same.f k x9 (x0.take (x12 : Int).toNat)).bind fun t204 => (some t204)) else (none)) else (some false)) else (some false)) else (none)) else (none)) else (if x11 = 0 then (if x10 = 0 then (if x12 ≤ (x0.length : Int) then ((tithebarnref05_Same.f k x9 (x0.take (x12 : Int).toNat)).bind fun t206 => (some t206)) else (none)) else (some false)) else (some false)))) else (none)) else (if x12 > 0 then (if 0 ≤ (wrap64 (x12 - 1)) then (if (wrap64 (x12 - 1)) < (x6.length : Int) then (if x11 = 0 then (if x10 = (rd x6 (wrap64 (x12 - 1))) then (if 0 ≤ x12 then (if x12 ≤ (x0.length : Int) then ((tithebarnref05_Same.f k x9 (x0.take (x12 : Int).toNat)).bind fun t209 => (some t209)) else (none)) else (none)) else (some false)) else (some false)) else (none)) else (none)) else (if x11 = 0 then (if x10 = 0 then (if 0 ≤ x12 then (if x12 ≤ (x0.length : Int) then ((tithebarnref05_Same.f k x9 (x0.take (x12 : Int).toNat)).bind fun t211 => (some t211)) else (none)) else (none)) else (some false)) else (some false)))
end
def tithebarnlaw08_FrameTorn.f (k : Nat) (l0 : List ByteArray) (a1 : Int) : Option (Bool) := (tithebarnlaw08_lives.f).bind fun t188 => (if t188 = true then ((tithebarnlaw08_long.f k l0).bind fun t189 => (tithebarnlaw08_FrameTorn.j0 k l0 a1 t189)) else (tithebarnlaw08_FrameTorn.j0 k l0 a1 true))
theorem tithebarnlaw08_FrameTorn.mono_l : ∀ k, (∀ y0 y1 y2, LeO (tithebarnlaw08_FrameTorn.j0 k y0 y1 y2) (tithebarnlaw08_FrameTorn.j0 (k + 1) y0 y1 y2)) ∧ (∀ y0 y1 y2 y3 y4, LeO (tithebarnlaw08_FrameTorn.l0 k y0 y1 y2 y3 y4) (tithebarnlaw08_FrameTorn.l0 (k + 1) y0 y1 y2 y3 y4)) ∧ (∀ y0 y1 y2 y3 y4 y5 y6, LeO (tithebarnlaw08_FrameTorn.l1 k y0 y1 y2 y3 y4 y5 y6) (tithebarnlaw08_FrameTorn.l1 (k + 1) y0 y1 y2 y3 y4 y5 y6))
  | 0 => ⟨fun _ _ _ r h => by simp [tithebarnlaw08_FrameTorn.j0] at h, fun _ _ _ _ _ r h => by simp [tithebarnlaw08_FrameTorn.l0] at h, fun _ _ _ _ _ _ _ r h => by simp [tithebarnlaw08_FrameTorn.l1] at h⟩
  | k + 1 => by
    obtain ⟨ih0, ih1, ih2⟩ := tithebarnlaw08_FrameTorn.mono_l k
    refine ⟨?_, ?_, ?_⟩
    · intro y0 y1 y2
      unfold tithebarnlaw08_FrameTorn.j0
      repeat' first
      | (with_reducible exact ih0 _ _ _)
      | (with_reducible exact ih1 _ _ _ _ _)
      | (with_reducible exact ih2 _ _ _ _ _ _ _)
      | (with_reducible exact frame_Scan.mono _ _)
      | (with_reducible exact frame_Write.mono _ _)
      | (with_reducible exact tithebarnlaw08_long.mono _ _)
      | (with_reducible exact tithebarnref05_Same.mono _ _ _)
      | (with_reducible exact LeO.refl _)
      | (with_reducible exact LeO.none _)
      | (with_reducible refine LeO.ite ?_ ?_)
      | (with_reducible refine LeO.bind ?_ (fun _ => ?_))
      | exact ih0 _ _ _
      | exact ih1 _ _ _ _ _
      | exact ih2 _ _ _ _ _ _ _
      | exact frame_Scan.mono _ _
      | exact frame_Write.mono _ _
      | exact tithebarnlaw08_long.mono _ _
      | exact tithebarnref05_Same.mono _ _ _
      | exact LeO.none _
      | refine LeO.ite ?_ ?_
      | refine LeO.bind ?_ (fun _ => ?_)
    · intro y0 y1 y2 y3 y4
      unfold tithebarnlaw08_FrameTorn.l0
      repeat' first
      | (with_reducible exact ih0 _ _ _)
      | (with_reducible exact ih1 _ _ _ _ _)
      | (with_reducible exact ih2 _ _ _ _ _ _ _)
      | (with_reducible exact frame_Scan.mono _ _)
      | (with_reducible exact frame_Write.mono _ _)
      | (with_reducible exact tithebarnlaw08_long.mono _ _)
      | (with_reducible exact tithebarnref05_Same.mono _ _ _)
      | (with_reducible exact LeO.refl _)
      | (with_reducible exact LeO.none _)
      | (with_reducible refine LeO.ite ?_ ?_)
      | (with_reducible refine LeO.bind ?_ (fun _ => ?_))
      | exact ih0 _ _ _
      | exact ih1 _ _ _ _ _
      | exact ih2 _ _ _ _ _ _ _
      | exact frame_Scan.mono _ _
      | exact frame_Write.mono _ _
      | exact tithebarnlaw08_long.mono _ _
      | exact tithebarnref05_Same.mono _ _ _
      | exact LeO.none _
      | refine LeO.ite ?_ ?_
      | refine LeO.bind ?_ (fun _ => ?_)
    · intro y0 y1 y2 y3 y4 y5 y6
      unfold tithebarnlaw08_FrameTorn.l1
      repeat' first
      | (with_reducible exact ih0 _ _ _)
      | (with_reducible exact ih1 _ _ _ _ _)
      | (with_reducible exact ih2 _ _ _ _ _ _ _)
      | (with_reducible exact frame_Scan.mono _ _)
      | (with_reducible exact frame_Write.mono _ _)
      | (with_reducible exact tithebarnlaw08_long.mono _ _)
      | (with_reducible exact tithebarnref05_Same.mono _ _ _)
      | (with_reducible exact LeO.refl _)
      | (with_reducible exact LeO.none _)
      | (with_reducible refine LeO.ite ?_ ?_)
      | (with_reducible refine LeO.bind ?_ (fun _ => ?_))
      | exact ih0 _ _ _
      | exact ih1 _ _ _ _ _
      | exact ih2 _ _ _ _ _ _ _
      | exact frame_Scan.mono _ _
      | exact frame_Write.mono _ _
      | exact tithebarnlaw08_long.mono _ _
      | exact tithebarnref05_Same.mono _ _ _
      | exact LeO.none _
      | refine LeO.ite ?_ ?_
      | refine LeO.bind ?_ (fun _ => ?_)
theorem tithebarnlaw08_FrameTorn.mono : ∀ a0 a1 k, LeO (tithebarnlaw08_FrameTorn.f k a0 a1) (tithebarnlaw08_FrameTorn.f (k + 1) a0 a1) := by
  intro a0 a1 k
  obtain ⟨ih0, ih1, ih2⟩ := tithebarnlaw08_FrameTorn.mono_l k
  unfold tithebarnlaw08_FrameTorn.f
  repeat' first
      | (with_reducible exact ih0 _ _ _)
      | (with_reducible exact ih1 _ _ _ _ _)
      | (with_reducible exact ih2 _ _ _ _ _ _ _)
      | (with_reducible exact frame_Scan.mono _ _)
      | (with_reducible exact frame_Write.mono _ _)
      | (with_reducible exact tithebarnlaw08_long.mono _ _)
      | (with_reducible exact tithebarnref05_Same.mono _ _ _)
      | (with_reducible exact LeO.refl _)
      | (with_reducible exact LeO.none _)
      | (with_reducible refine LeO.ite ?_ ?_)
      | (with_reducible refine LeO.bind ?_ (fun _ => ?_))
      | exact ih0 _ _ _
      | exact ih1 _ _ _ _ _
      | exact ih2 _ _ _ _ _ _ _
      | exact frame_Scan.mono _ _
      | exact frame_Write.mono _ _
      | exact tithebarnlaw08_long.mono _ _
      | exact tithebarnref05_Same.mono _ _ _
      | exact LeO.none _
      | refine LeO.ite ?_ ?_
      | refine LeO.bind ?_ (fun _ => ?_)
set_option maxHeartbeats 8000000 in
set_option maxRecDepth 100000 in
theorem tithebarnlaw08_FrameTorn.calls (k : Nat) (A0 : Option Addr) (c0 : Nat) (l0 : List ByteArray) (a1 : Int) (r : Bool) (w : World) (hr0 : Kd.C Kd.string w A0 l0.length l0) (hc0 : l0.length ≤ c0) (h : tithebarnlaw08_FrameTorn.f k l0 a1 = some r) :
    Calls Try.prog 4 #[.slice A0 l0.length c0, .int .i64 a1] w fun e w' => e = .returned (.bool r) ∧ Below w.heap.size w w' := by
  have HR0 := Aside0.mk hr0
  have HC0 := Aside0.mk hc0
  clear hr0 hc0
  have HB := Aside0.mk (Below.refl w.heap.size w)
  have H : ((tithebarnlaw08_lives.f).bind fun t188 => (if t188 = true then ((tithebarnlaw08_long.f k l0).bind fun t189 => (tithebarnlaw08_FrameTorn.j0 k l0 a1 t189)) else (tithebarnlaw08_FrameTorn.j0 k l0 a1 true))) = some r := h
  clear h
  have HC3 := Aside0.mk H
  clear H
  go_enter Try.func4, Try.ntmps4
  go_upto_region 1 with (fail)
  go_cut [19] (fun v19 wc => ∃ (kq : Nat) (x19_2 : Bool), v19 = .bool x19_2 ∧ Aside0 (tithebarnlaw08_FrameTorn.j0 kq l0 a1 x19_2 = some r) ∧ Aside0 (kq ≤ k) ∧ Aside0 (Below w.heap.size w wc))
  case first =>
    have H := HC3.out
    clear HC3
    replace H := Option.bind_eq_some_iff.mp H
    obtain ⟨t188, A40, H⟩ := H
    replace H : (if t188 = true then ((tithebarnlaw08_long.f k l0).bind fun t189 => (tithebarnlaw08_FrameTorn.j0 k l0 a1 t189)) else (tithebarnlaw08_FrameTorn.j0 k l0 a1 true)) = some r := H
    have A4 := Aside0.mk A40
    clear A40
    by_cases c5 : t188 = true
    · subst c5
      have H1 : ((tithebarnlaw08_long.f k l0).bind fun t189 => (tithebarnlaw08_FrameTorn.j0 k l0 a1 t189)) = some r := by rw [if_pos rfl] at H; exact H
      clear H
      have H := H1
      clear H1
      replace H := Option.bind_eq_some_iff.mp H
      obtain ⟨t189, A60, H⟩ := H
      replace H : (tithebarnlaw08_FrameTorn.j0 k l0 a1 t189) = some r := H
      have A6 := Aside0.mk A60
      clear A60
      have H' := Aside0.mk H
      clear H
      go_wp2_with (first | ((with_reducible refine gate_callee (f := 9) rfl ?_); refine goesL_ (some 14) rfl rfl Try.func9 (by kernel_rfl) rfl #[] rfl (by (try simp only [List.map_toArray, List.map_cons, List.map_nil]); first | done | rfl | (simp only [List.length_drop, List.length_take]; rfl) | (go_simp; simp [IntKind.wrap, IntKind.bits, IntKind.signed]; omega)) ?_; (with_reducible refine (tithebarnlaw08_lives.calls  true _ A4.out).mono ?_); rintro e w7 ⟨rfl, hb⟩; refine ⟨_, rfl, ?_⟩; have n0_ := Aside0.mk (below_step (by repeat (first | (with_reducible first | exact HB.out | apply below_alloc | apply pw_below_drewN | apply below_drew1) | exact HB.out)) hb); clear HB; have HB := n0_; clear n0_; (try clear hb); (try clear hb2); (try clear hk); (try clear hi)) | (go_at_call 14; (with_reducible refine (tithebarnlaw08_long.calls k _ _ l0 t189 _ ?side1 ?side2 A6.out).mono ?_); (case side1 => repeat (first | exact (Kd.C_below HR0.out HB.out) | (with_reducible refine Kd.C_alloc ?_ _) | (with_reducible refine Kd.C_drewN ?_ _) | (with_reducible refine Kd.C_drew ?_))); (case side2 => exact HC0.out); rintro e w' ⟨rfl, ⟨nd, rfl⟩⟩))
      go_meet
      case rel => exact ⟨_, (t189), (by first | rfl | (simp; done) | (simp [*]; done)), H', ⟨by first | omega | exact Nat.le_refl _⟩, ⟨by repeat (first | (with_reducible first | exact HB.out | apply below_alloc | apply pw_below_drewN | apply below_drew1) | exact HB.out)⟩⟩
    · replace c5 := Bool.eq_false_iff.mpr c5
      subst c5
      have H1 : (tithebarnlaw08_FrameTorn.j0 k l0 a1 true) = some r := by rw [if_neg (show ¬ (false = true) by decide)] at H; exact H
      clear H
      have H := H1
      clear H1
      have H' := Aside0.mk H
      clear H
      go_wp2_with (first | ((with_reducible refine gate_callee (f := 9) rfl ?_); refine goesL_ (some 14) rfl rfl Try.func9 (by kernel_rfl) rfl #[] rfl (by (try simp only [List.map_toArray, List.map_cons, List.map_nil]); first | done | rfl | (simp only [List.length_drop, List.length_take]; rfl) | (go_simp; simp [IntKind.wrap, IntKind.bits, IntKind.signed]; omega)) ?_; (with_reducible refine (tithebarnlaw08_lives.calls  false _ A4.out).mono ?_); rintro e w8 ⟨rfl, hb⟩; refine ⟨_, rfl, ?_⟩; have n0_ := Aside0.mk (below_step (by repeat (first | (with_reducible first | exact HB.out | apply below_alloc | apply pw_below_drewN | apply below_drew1) | exact HB.out)) hb); clear HB; have HB := n0_; clear n0_; (try clear hb); (try clear hb2); (try clear hk); (try clear hi)))
      go_meet
      case rel => exact ⟨_, (true), (by first | rfl | (simp; done) | (simp [*]; done)), H', ⟨by first | omega | exact Nat.le_refl _⟩, ⟨by repeat (first | (with_reducible first | exact HB.out | apply below_alloc | apply pw_below_drewN | apply below_drew1) | exact HB.out)⟩⟩
  case rest =>
    clear HC3
    try clear p2
    try clear c4
    try clear c5
    obtain ⟨kq, x19_2, rfl, HA, HJ2, HB⟩ := hcut
    cases kq with
    | zero => exact absurd HA.out (by simp [tithebarnlaw08_FrameTorn.j0])
    | succ kj2 =>
      have H := HA.out
      clear HA
      simp only [tithebarnlaw08_FrameTorn.j0] at H
      by_cases c9 : x19_2 = true
      · subst c9
        have H1 : ((tithebarnlaw08_lives.f).bind fun t190 => (some t190)) = some r := by rw [if_pos rfl] at H; exact H
        clear H
        have H := H1
        clear H1
        replace H := Option.bind_eq_some_iff.mp H
        obtain ⟨t190, A100, H⟩ := H
        replace H : (some t190) = some r := H
        have A10 := Aside0.mk A100
        clear A100
        obtain rfl := Option.some.inj H
        go_wp2_with (first | ((with_reducible refine gate_callee (f := 9) rfl ?_); refine goesL_ (some 20) rfl rfl Try.func9 (by kernel_rfl) rfl #[] rfl (by (try simp only [List.map_toArray, List.map_cons, List.map_nil]); first | done | rfl | (simp only [List.length_drop, List.length_take]; rfl) | (go_simp; simp [IntKind.wrap, IntKind.bits, IntKind.signed]; omega)) ?_; (with_reducible refine (tithebarnlaw08_lives.calls  t190 _ A10.out).mono ?_); rintro e w11 ⟨rfl, hb⟩; refine ⟨_, rfl, ?_⟩; have n0_ := Aside0.mk (below_step (by repeat (first | (with_reducible first | exact HB.out | apply below_alloc | apply pw_below_drewN | apply below_drew1) | exact HB.out)) hb); clear HB; have HB := n0_; clear n0_; (try clear hb); (try clear hb2); (try clear hk); (try clear hi)))
        go_ret
        exact ⟨by first | rfl | (simp [errW_none, errW_some] <;> rfl) | (simp [*, errW_none, errW_some] <;> rfl), by repeat (first | (with_reducible first | exact HB.out | apply below_alloc | apply pw_below_drewN | apply below_drew1) | exact HB.out)⟩
      · replace c9 := Bool.eq_false_iff.mpr c9
        subst c9
        have H1 : (tithebarnlaw08_FrameTorn.l0 kj2 l0 a1 (⟨#[]⟩ : ByteArray) ([] : List Int) 0) = some r := by rw [if_neg (show ¬ (false = true) by decide)] at H; exact H
        clear H
        have H := H1
        clear H1
        have H' := Aside0.mk H
        clear H
        go_wp2
        go_loopg [5, 6, 7] kj2 (fun kq v5 v6 v7 w' => ∃ (x5_2 : ByteArray) (x6_2 : List Int) (x7_2 : Int), v5 = .string x5_2 ∧ v7 = .int .i64 x7_2 ∧ Aside0 (tithebarnlaw08_FrameTorn.l0 kq l0 a1 x5_2 x6_2 x7_2 = some r) ∧ Aside0 (kq ≤ kj2) ∧ Aside0 (Kd.R (Kd.int .i64) 3 w' w.heap.size (fun _ => True) v6 x6_2) ∧ Aside0 (Below w.heap.size w w'))
        case atStart => exact ⟨((⟨#[]⟩ : ByteArray)), (([] : List Int)), (0), (by first | rfl | (simp; done) | (simp [*]; done)), (by first | rfl | (simp; done) | (simp [*]; done)), H', ⟨Nat.le_refl _⟩, ⟨by first | exact Kd.R_nil _ _ _ _ _ | exact Kd.N_nil _ _ _ _ _ | exact Kd.V_nil _ _ _ _ _ | exact Kd.Q_nil _ _ _ _ _ | exact Kd.S_nil _ _ _ _ _⟩, ⟨by repeat (first | (with_reducible first | exact HB.out | apply below_alloc | apply pw_below_drewN | apply below_drew1) | exact HB.out)⟩⟩
        case round =>
          clear H'
          try clear p2
          try clear c4
          try clear c5
          try clear c9
          try clear p2
          obtain ⟨x5_2, x6_2, x7_2, rfl, rfl, HA, HK2, HO_6, HB⟩ := hrel
          cases gk with
          | zero => exact absurd HA.out (by simp [tithebarnlaw08_FrameTorn.l0])
          | succ k2 =>
            have H := HA.out
            clear HA
            simp only [tithebarnlaw08_FrameTorn.l0] at H
            by_cases c12 : x7_2 < (l0.length : Int)
            · rw [if_pos c12] at H
              have c12b0 : decide (x7_2 < (l0.length : Int)) = true := decide_eq_true c12
              clear c12
              by_cases c13 : 0 ≤ x7_2
              · rw [if_pos c13] at H
                have c13b0 : decide (0 ≤ x7_2) = true := decide_eq_true c13
                clear c13
                replace H := Option.bind_eq_some_iff.mp H
                obtain ⟨t192, A140, H⟩ := H
                replace H : (if x5_2.size + t192.size ≤ 9223372036854775807 then (if x6_2.length < 17592186044416 then (tithebarnlaw08_FrameTorn.l0 k2 l0 a1 (x5_2 ++ t192) (x6_2 ++ [((x5_2.size : Int) + (t192.size : Int))]) (wrap64 (x7_2 + 1))) else (none)) else (none)) = some r := H
                have A14 := Aside0.mk A140
                clear A140
                by_cases c15 : x5_2.size + t192.size ≤ 9223372036854775807
                · rw [if_pos c15] at H
                  have c15b0 := eq_true c15
                  have c15b1 : decide (x5_2.size + t192.size ≤ 9223372036854775807) = true := decide_eq_true c15
                  try have c15b2 : (9223372036854775807 < x5_2.size + t192.size) = False := eq_false (Nat.not_lt.2 c15)
                  try (have c15b3 := c15b2; simp only [ByteArray.size_append] at c15b3)
                  try (have c15b4 := c15b0; simp only [ByteArray.size_append] at c15b4)
                  try (have c15b5 := c15b1; simp only [ByteArray.size_append] at c15b5)
                  by_cases c16 : x6_2.length < 17592186044416
                  · rw [if_pos c16] at H
                    have LMc16 := Aside0.mk c16
                    clear c16
                    obtain ⟨y193, hy193⟩ : ∃ y_ : List Int, y_ = (x6_2 ++ [((x5_2.size : Int) + (t192.size : Int))]) := ⟨_, rfl⟩
                    replace H : (tithebarnlaw08_FrameTorn.l0 k2 l0 a1 (x5_2 ++ t192) y193 (wrap64 (x7_2 + 1))) = some r := by first | (rw [hy193]; with_reducible exact H) | (have H2_ := (Option.bind_some _ _).symm.trans H; rw [hy193]; with_reducible exact H2_) | (have H2_ := (Option.bind_some _ _).symm.trans H; with_reducible exact H2_) | with_reducible exact H | (rw [hy193]; exact H) | exact H
                    have Ny193 := Aside0.mk hy193
                    clear hy193
                    have H' := Aside0.mk H
                    clear H
                    have p191 : 0 ≤ (x7_2 : Int) := of_decide_eq_true (by first | (with_reducible assumption) | assumption)
                    have q191 : x7_2 < (l0.length : Int) := of_decide_eq_true (by first | (with_reducible assumption) | assumption)
                    obtain ⟨ad191, e191, hx191_0⟩ := Kd.at_string HR0.out x7_2 p191 q191
                    cases e191
                    replace hx191_0 := (HB.out.cell (World.block_lt_of_cell? w _ hx191_0)).trans hx191_0
                    replace p191 := eq_true p191
                    replace q191 := eq_true q191
                    go_wp2_with (first | ((with_reducible refine gate_callee (f := 12) rfl ?_); refine goesL_ (some 32) rfl rfl Try.func12 (by kernel_rfl) rfl #[.string (rdOf ByteArray.empty l0 x7_2)] rfl (by (try simp only [List.map_toArray, List.map_cons, List.map_nil]); first | done | rfl | (simp only [List.length_drop, List.length_take]; rfl) | (go_simp; simp [IntKind.wrap, IntKind.bits, IntKind.signed]; omega)) ?_; (with_reducible refine (frame_Write.calls k2 (rdOf ByteArray.empty l0 x7_2) t192 _ A14.out).mono ?_); rintro e w17 ⟨rfl, hb⟩; refine ⟨_, rfl, ?_⟩; have n0_ := Aside0.mk (Kd.R_below (by (with_reducible repeat (first | apply Kd.R_alloc | apply Kd.R_drewN | apply Kd.R_drew)); exact HO_6.out) hb); have n1_ := Aside0.mk (below_step (by repeat (first | (with_reducible first | exact HB.out | apply below_alloc | apply pw_below_drewN | apply below_drew1) | exact HB.out)) hb); clear HO_6; clear HB; have HO_6 := n0_; have HB := n1_; clear n0_ n1_; (try clear hb); (try clear hb2); (try clear hk); (try clear hi)) | ((with_reducible refine gate_builtin (b := .append) (xs := #[.tmp 34, .tmp 37]) rfl ?_); at_builtin; refine Kd.R_append (Kd.int .i64) (w0 := w) w.heap.size rfl (.tmp 34) (.tmp 37) 29 3 (.int .i64 0) 8 rfl Try.underlying29 info3 rfl (by decide) (by omega) u6 x6_2 ((x5_2.size : Int) + (t192.size : Int)) [.int .i64 ((x5_2.size : Int) + (t192.size : Int))] (fun _ => True) (fun _ => False) rfl rfl ?aP (fun _ hk => hk.elim) ?aF ?aO ?aB ?aS ?aL ?_; (case aP => exact rfl); (case aB => exact (by repeat (first | (with_reducible first | exact HB.out | apply below_alloc | apply pw_below_drewN | apply below_drew1) | exact HB.out))); (case aF => exact (fun _ _ => trivial)); (case aO => exact (by (with_reducible repeat (first | apply Kd.R_alloc | apply Kd.R_drewN | apply Kd.R_drew)); exact HO_6.out)); (case aS => exact (below_size (by repeat (first | (with_reducible first | exact HB.out | apply below_alloc | apply pw_below_drewN | apply below_drew1) | exact HB.out)))); (case aL => have := LMc16.out; omega); intro v194 w18 ho hb hg hat; rw [← Ny193.out] at ho; have n0_ := Aside0.mk (hb); have n1_ := Aside0.mk (ho); clear HB; clear HO_6; have HB := n0_; have HO195 := n1_; clear n0_ n1_; clear ho hb hg hat))
                    go_roundg k2
                    case measure => have := HJ2.out; have := HK2.out; omega
                    case rel => exact ⟨(x5_2 ++ t192), (y193), (wrap64 (x7_2 + 1)), (by first | rfl | (simp; done) | (simp [*]; done)), (by first | rfl | (simp; done) | (simp [*]; done)), H', ⟨by have := HJ2.out; have := HK2.out; omega⟩, ⟨by (with_reducible repeat (first | apply Kd.R_alloc | apply Kd.R_drewN | apply Kd.R_drew)); exact HO195.out⟩, ⟨by repeat (first | (with_reducible first | exact HB.out | apply below_alloc | apply pw_below_drewN | apply below_drew1) | exact HB.out)⟩⟩
                  · rw [if_neg c16] at H
                    exact absurd H (by simp)
                · rw [if_neg c15] at H
                  exact absurd H (by simp)
              · rw [if_neg c13] at H
                exact absurd H (by simp)
            · rw [if_neg c12] at H
              have c12b0 : decide (x7_2 < (l0.length : Int)) = false := decide_eq_false c12
              clear c12
              by_cases c19 : (IntKind.u64.wrap (wrap64 ((x5_2.size : Int) + 1))) = 0
              · rw [if_pos c19] at H
                exact absurd H (by simp)
              · rw [if_neg c19] at H
                have c19b0 : ((IntKind.u64.wrap (wrap64 ((x5_2.size : Int) + 1))) == 0) = false := beq_eq_false_iff_ne.mpr c19
                have c19b1 : ((IntKind.u64.wrap (wrap64 ((x5_2.size : Int) + 1))) != 0) = true := bne_iff_ne.mpr c19
                obtain ⟨ji20, hji20⟩ : ∃ j_ : Int, (wrap64 (Int.tmod (IntKind.u64.wrap (a1)) (IntKind.u64.wrap (wrap64 ((x5_2.size : Int) + 1))))) = j_ := ⟨_, rfl⟩
                replace H : (if 0 ≤ (ji20) then (if (ji20) ≤ (x5_2.size : Int) then ((frame_Scan.f k2 (x5_2.extract 0 ((ji20) : Int).toNat)).bind fun bt196 => (tithebarnlaw08_FrameTorn.l1 k2 l0 x6_2 ji20 bt196.1 bt196.2.1 bt196.2.2 0)) else (none)) else (none)) = some r := by first | (rw [hji20] at H; exact H) | (simp only [hji20] at H ⊢; exact H)
                have hji20w : (IntKind.i64.wrap (Int.tmod (IntKind.u64.wrap (a1)) (IntKind.u64.wrap (wrap64 ((x5_2.size : Int) + 1))))) = ji20 := (i64_w _).trans hji20
                by_cases c21 : 0 ≤ (ji20)
                · rw [if_pos c21] at H
                  have c21b0 := eq_true c21
                  have c21b1 : decide (0 ≤ (ji20)) = true := decide_eq_true c21
                  clear c21
                  by_cases c22 : (ji20) ≤ (x5_2.size : Int)
                  · rw [if_pos c22] at H
                    have c22b0 := eq_true c22
                    have c22b1 : decide ((ji20) ≤ (x5_2.size : Int)) = true := decide_eq_true c22
                    clear c22
                    replace H := Option.bind_eq_some_iff.mp H
                    obtain ⟨⟨t196, t197, t198⟩, A230, H⟩ := H
                    replace H : (tithebarnlaw08_FrameTorn.l1 k2 l0 x6_2 ji20 t196 t197 t198 0) = some r := H
                    have A23 := Aside0.mk A230
                    clear A230
                    have H' := Aside0.mk H
                    clear H
                    go_wp2_with (first | ((with_reducible refine gate_callee (f := 15) rfl ?_); refine goesL_ (some 51) rfl rfl Try.func15 (by kernel_rfl) rfl #[.string (x5_2.extract 0 ((ji20) : Int).toNat)] rfl (by (try simp only [List.map_toArray, List.map_cons, List.map_nil]); first | done | (simp only [hji20]; rfl) | rfl | (simp only [List.length_drop, List.length_take]; rfl) | (go_simp; simp [IntKind.wrap, IntKind.bits, IntKind.signed]; omega)) ?_; (with_reducible refine (frame_Scan.calls k2 (x5_2.extract 0 ((ji20) : Int).toNat) t196 t197 t198 _ A23.out).mono ?_); rintro e w24 ⟨v199, rfl, ho0, hb⟩; refine ⟨_, rfl, ?_⟩; have n0_ := Aside0.mk (Kd.R_below (by (with_reducible repeat (first | apply Kd.R_alloc | apply Kd.R_drewN | apply Kd.R_drew)); exact HO_6.out) hb); have n1_ := Aside0.mk (Kd.R_lower ho0 (below_size (by repeat (first | (with_reducible first | exact HB.out | apply below_alloc | apply pw_below_drewN | apply below_drew1) | exact HB.out)))); have n2_ := Aside0.mk (below_step (by repeat (first | (with_reducible first | exact HB.out | apply below_alloc | apply pw_below_drewN | apply below_drew1) | exact HB.out)) hb); clear HO_6; clear HB; have HO_6 := n0_; have HO200 := n1_; have HB := n2_; clear n0_ n1_ n2_; (try clear hb); (try clear hb2); (try clear hk); (try clear hi); (try clear ho0)))
                    go_loopg [12] k2 (fun kq v12 w' => ∃ (x12_3 : Int), v12 = .int .i64 x12_3 ∧ Aside0 (tithebarnlaw08_FrameTorn.l1 kq l0 x6_2 ji20 t196 t197 t198 x12_3 = some r) ∧ Aside0 (kq ≤ k2) ∧ Aside0 (Kd.R (Kd.int .i64) 3 w' w.heap.size (fun _ => True) u6 x6_2) ∧ Aside0 (Kd.R Kd.string 9 w' w.heap.size (fun _ => True) v199 t196) ∧ Aside0 (Below w.heap.size w w'))
                    case atStart => exact ⟨(0), (by first | rfl | (simp; done) | (simp [*]; done)), H', ⟨Nat.le_refl _⟩, ⟨by (with_reducible repeat (first | apply Kd.R_alloc | apply Kd.R_drewN | apply Kd.R_drew)); exact HO_6.out⟩, ⟨by (with_reducible repeat (first | apply Kd.R_alloc | apply Kd.R_drewN | apply Kd.R_drew)); exact HO200.out⟩, ⟨by repeat (first | (with_reducible first | exact HB.out | apply below_alloc | apply pw_below_drewN | apply below_drew1) | exact HB.out)⟩⟩
                    case round =>
                      clear H'
                      try clear c1
                      try clear p1
                      try clear q1
                      try clear hx1
                      try clear c2
                      try clear p2
                      try clear c4
                      try clear c5
                      try clear p6
                      try clear c9
                      try clear c12
                      try clear c12b0
                      try clear c13
                      try clear c13b0
                      try clear c15
                      try clear c15b0
                      try clear c15b1
                      try clear c15b2
                      try clear c16
                      try clear c19
                      try clear c19b0
                      try clear c19b1
                      try clear p19
                      try clear q19
                      try clear hx19
                      try clear c21
                      try clear c21b0
                      try clear c21b1
                      try clear c22
                      try clear c22b0
                      try clear c22b1
                      try clear hx191_0
                      try clear p191
                      try clear p2
                      try clear q191
                      obtain ⟨x12_3, rfl, HA, HK3, HO_6, HO_9, HB⟩ := hrel
                      cases gk with
                      | zero => exact absurd HA.out (by simp [tithebarnlaw08_FrameTorn.l1])
                      | succ k3 =>
                        have H := HA.out
                        clear HA
                        simp only [tithebarnlaw08_FrameTorn.l1] at H
                        by_cases c25 : x12_3 < (x6_2.length : Int)
                        · rw [if_pos c25] at H
                          have c25b0 : decide (x12_3 < (x6_2.length : Int)) = true := decide_eq_true c25
                          clear c25
                          by_cases c26 : 0 ≤ x12_3
                          · rw [if_pos c26] at H
                            have c26b0 : decide (0 ≤ x12_3) = true := decide_eq_true c26
                            clear c26
                            by_cases c27 : (rd x6_2 x12_3) ≤ ji20
                            · rw [if_pos c27] at H
                              have c27b0 : decide ((rd x6_2 x12_3) ≤ ji20) = true := decide_eq_true c27
                              clear c27
                              have H' := Aside0.mk H
                              clear H
                              obtain ⟨Ao28, co28, eo28⟩ := Kd.R_slice HO_6.out
                              subst eo28
                              have p201 : 0 ≤ (x12_3 : Int) := of_decide_eq_true (by first | (with_reducible assumption) | assumption)
                              have q201 : x12_3 < (x6_2.length : Int) := of_decide_eq_true (by first | (with_reducible assumption) | assumption)
                              obtain ⟨ad201, e201, hx201_0⟩ := Kd.at_int (Kd.R_reads' HO_6.out).2.2 x12_3 p201 q201
                              cases e201
                              replace p201 := eq_true p201
                              replace q201 := eq_true q201
                              go_wp2
                              go_roundg k3
                              case measure => have := HJ2.out; have := HK2.out; have := HK3.out; omega
                              case rel => exact ⟨(wrap64 (x12_3 + 1)), (by first | rfl | (simp; done) | (simp [*]; done)), H', ⟨by have := HJ2.out; have := HK2.out; have := HK3.out; omega⟩, ⟨by (with_reducible repeat (first | apply Kd.R_alloc | apply Kd.R_drewN | apply Kd.R_drew)); exact HO_6.out⟩, ⟨by (with_reducible repeat (first | apply Kd.R_alloc | apply Kd.R_drewN | apply Kd.R_drew)); exact HO_9.out⟩, ⟨by repeat (first | (with_reducible first | exact HB.out | apply below_alloc | apply pw_below_drewN | apply below_drew1) | exact HB.out)⟩⟩
                            · rw [if_neg c27] at H
                              have c27b0 : decide ((rd x6_2 x12_3) ≤ ji20) = false := decide_eq_false c27
                              clear c27
                              by_cases c29 : x12_3 > 0
                              · rw [if_pos c29] at H
                                have c29b0 : decide (0 < x12_3) = true := decide_eq_true c29
                                clear c29
                                obtain ⟨ji30, hji30⟩ : ∃ j_ : Int, (wrap64 (x12_3 - 1)) = j_ := ⟨_, rfl⟩
                                replace H : (if 0 ≤ (ji30) then (if (ji30) < (x6_2.length : Int) then (if t198 = 0 then (if t197 = (rd x6_2 (ji30)) then (if x12_3 ≤ (l0.length : Int) then ((tithebarnref05_Same.f k3 t196 (l0.take (x12_3 : Int).toNat)).bind fun t204 => (some t204)) else (none)) else (some false)) else (some false)) else (none)) else (none)) = some r := by first | (rw [hji30] at H; exact H) | (simp only [hji30] at H ⊢; exact H)
                                have hji30w : (IntKind.i64.wrap (x12_3 - 1)) = ji30 := (i64_w _).trans hji30
                                by_cases c31 : 0 ≤ (ji30)
                                · rw [if_pos c31] at H
                                  have c31b0 : decide (0 ≤ (ji30)) = true := decide_eq_true c31
                                  clear c31
                                  by_cases c32 : (ji30) < (x6_2.length : Int)
                                  · rw [if_pos c32] at H
                                    have c32b0 : decide ((ji30) < (x6_2.length : Int)) = true := decide_eq_true c32
                                    clear c32
                                    by_cases c33 : t198 = 0
                                    · rw [if_pos c33] at H
                                      have c33b0 : (t198 == 0) = true := beq_iff_eq.mpr c33
                                      have c33b1 : (t198 != 0) = false := bne_eq_false_iff_eq.mpr c33
                                      clear c33
                                      by_cases c34 : t197 = (rd x6_2 (ji30))
                                      · rw [if_pos c34] at H
                                        have c34b0 : (t197 == (rd x6_2 (ji30))) = true := beq_iff_eq.mpr c34
                                        have c34b1 : (t197 != (rd x6_2 (ji30))) = false := bne_eq_false_iff_eq.mpr c34
                                        clear c34
                                        have c35b0 := eq_true (of_decide_eq_true (by first | (with_reducible assumption) | assumption) : 0 ≤ x12_3)
                                        by_cases c36 : x12_3 ≤ (l0.length : Int)
                                        · rw [if_pos c36] at H
                                          have c36b0 := eq_true c36
                                          have c36b1 : decide (x12_3 ≤ (l0.length : Int)) = true := decide_eq_true c36
                                          clear c36
                                          replace H := Option.bind_eq_some_iff.mp H
                                          obtain ⟨t204, A370, H⟩ := H
                                          replace H : (some t204) = some r := H
                                          have A37 := Aside0.mk A370
                                          clear A370
                                          obtain rfl := Option.some.inj H
                                          obtain ⟨Ao38, co38, eo38⟩ := Kd.R_slice HO_6.out
                                          subst eo38
                                          have p201 : 0 ≤ (x12_3 : Int) := of_decide_eq_true (by first | (with_reducible assumption) | assumption)
                                          have q201 : x12_3 < (x6_2.length : Int) := of_decide_eq_true (by first | (with_reducible assumption) | assumption)
                                          obtain ⟨ad201, e201, hx201_0⟩ := Kd.at_int (Kd.R_reads' HO_6.out).2.2 x12_3 p201 q201
                                          cases e201
                                          replace p201 := eq_true p201
                                          replace q201 := eq_true q201
                                          have p202 : 0 ≤ ((ji30) : Int) := of_decide_eq_true (by first | (with_reducible assumption) | assumption)
                                          have q202 : (ji30) < (x6_2.length : Int) := of_decide_eq_true (by first | (with_reducible assumption) | assumption)
                                          obtain ⟨ad202, e202, hx202_0⟩ := Kd.at_int (Kd.R_reads' HO_6.out).2.2 (ji30) p202 q202
                                          obtain rfl : ad201 = ad202 := (by injection e202)
                                          replace p202 := eq_true p202
                                          replace q202 := eq_true q202
                                          obtain ⟨i039, hi039, _, hsz39, _⟩ := info_parts info9
                                          obtain ⟨hcut39, hA39, hC39⟩ := print_take_of (P := Try.prog) Value.string (⟨#[]⟩ : ByteArray) 27 9 .i64 Try.underlying27 hi039 hsz39 A0 c0 l0 x12_3 (of_decide_eq_true (by first | (with_reducible assumption) | assumption)) (of_decide_eq_true (by first | (with_reducible assumption) | assumption)) HC0.out
                                          have HR203 := Aside0.mk (Kd.C_of_reads (h1 := fun _ => rfl) (hA39 _ (Kd.reads_of_C HR0.out)))
                                          have HC203 := Aside0.mk hC39
                                          clear hA39 hC39 hi039 hsz39
                                          obtain ⟨Ao40, co40, eo40⟩ := Kd.R_slice HO_9.out
                                          subst eo40
                                          go_wp2_with (first | (go_at_call 16; refine calls_of_args (args' := #[.slice Ao40 t196.length co40, .slice A0 (l0.take (x12_3 : Int).toNat).length c0]) (by first | (rw [show (l0.take (x12_3 : Int).toNat).length = x12_3.toNat from (by rw [List.length_take]; have h_ : (x12_3 : Int) ≤ (l0.length : Int) := of_decide_eq_true (by first | (with_reducible assumption) | assumption); omega)] <;> rfl) | rfl) ?_; (with_reducible refine (tithebarnref05_Same.calls k3 _ _ t196 _ _ (l0.take (x12_3 : Int).toNat) t204 _ ?side1 ?side2 ?side3 ?side4 A37.out).mono ?_); (case side1 => repeat (first | exact (Kd.R_reads' HO_9.out).2.2 | (with_reducible refine Kd.C_alloc ?_ _) | (with_reducible refine Kd.C_drewN ?_ _) | (with_reducible refine Kd.C_drew ?_))); (case side2 => exact (Kd.R_reads' HO_9.out).2.1); (case side3 => repeat (first | exact (Kd.C_below HR203.out HB.out) | (with_reducible refine Kd.C_alloc ?_ _) | (with_reducible refine Kd.C_drewN ?_ _) | (with_reducible refine Kd.C_drew ?_))); (case side4 => exact HC203.out); rintro e w' ⟨rfl, ⟨nd, rfl⟩⟩))
                                          go_ret
                                          exact ⟨by first | rfl | (simp [errW_none, errW_some] <;> rfl) | (simp only [← hji20, ← hji30]; first | rfl | (simp [errW_none, errW_some] <;> rfl)) | (simp [*, errW_none, errW_some] <;> rfl), by repeat (first | (with_reducible first | exact HB.out | apply below_alloc | apply pw_below_drewN | apply below_drew1) | exact HB.out)⟩
                                        · rw [if_neg c36] at H
                                          exact absurd H (by simp)
                                      · rw [if_neg c34] at H
                                        have c34b0 : (t197 == (rd x6_2 (ji30))) = false := beq_eq_false_iff_ne.mpr c34
                                        have c34b1 : (t197 != (rd x6_2 (ji30))) = true := bne_iff_ne.mpr c34
                                        obtain rfl := Option.some.inj H
                                        obtain ⟨Ao41, co41, eo41⟩ := Kd.R_slice HO_6.out
                                        subst eo41
                                        have p201 : 0 ≤ (x12_3 : Int) := of_decide_eq_true (by first | (with_reducible assumption) | assumption)
                                        have q201 : x12_3 < (x6_2.length : Int) := of_decide_eq_true (by first | (with_reducible assumption) | assumption)
                                        obtain ⟨ad201, e201, hx201_0⟩ := Kd.at_int (Kd.R_reads' HO_6.out).2.2 x12_3 p201 q201
                                        cases e201
                                        replace p201 := eq_true p201
                                        replace q201 := eq_true q201
                                        have p202 : 0 ≤ ((ji30) : Int) := of_decide_eq_true (by first | (with_reducible assumption) | assumption)
                                        have q202 : (ji30) < (x6_2.length : Int) := of_decide_eq_true (by first | (with_reducible assumption) | assumption)
                                        obtain ⟨ad202, e202, hx202_0⟩ := Kd.at_int (Kd.R_reads' HO_6.out).2.2 (ji30) p202 q202
                                        obtain rfl : ad201 = ad202 := (by injection e202)
                                        replace p202 := eq_true p202
                                        replace q202 := eq_true q202
                                        go_wp2
                                        go_ret
                                        exact ⟨by first | rfl | (simp [errW_none, errW_some] <;> rfl) | (simp only [← hji20, ← hji30]; first | rfl | (simp [errW_none, errW_some] <;> rfl)) | (simp [*, errW_none, errW_some] <;> rfl), by repeat (first | (with_reducible first | exact HB.out | apply below_alloc | apply pw_below_drewN | apply below_drew1) | exact HB.out)⟩
                                    · rw [if_neg c33] at H
                                      have c33b0 : (t198 == 0) = false := beq_eq_false_iff_ne.mpr c33
                                      have c33b1 : (t198 != 0) = true := bne_iff_ne.mpr c33
                                      obtain rfl := Option.some.inj H
                                      obtain ⟨Ao42, co42, eo42⟩ := Kd.R_slice HO_6.out
                                      subst eo42
                                      have p201 : 0 ≤ (x12_3 : Int) := of_decide_eq_true (by first | (with_reducible assumption) | assumption)
                                      have q201 : x12_3 < (x6_2.length : Int) := of_decide_eq_true (by first | (with_reducible assumption) | assumption)
                                      obtain ⟨ad201, e201, hx201_0⟩ := Kd.at_int (Kd.R_reads' HO_6.out).2.2 x12_3 p201 q201
                                      cases e201
                                      replace p201 := eq_true p201
                                      replace q201 := eq_true q201
                                      have p202 : 0 ≤ ((ji30) : Int) := of_decide_eq_true (by first | (with_reducible assumption) | assumption)
                                      have q202 : (ji30) < (x6_2.length : Int) := of_decide_eq_true (by first | (with_reducible assumption) | assumption)
                                      obtain ⟨ad202, e202, hx202_0⟩ := Kd.at_int (Kd.R_reads' HO_6.out).2.2 (ji30) p202 q202
                                      obtain rfl : ad201 = ad202 := (by injection e202)
                                      replace p202 := eq_true p202
                                      replace q202 := eq_true q202
                                      go_wp2
                                      go_ret
                                      exact ⟨by first | rfl | (simp [errW_none, errW_some] <;> rfl) | (simp only [← hji20, ← hji30]; first | rfl | (simp [errW_none, errW_some] <;> rfl)) | (simp [*, errW_none, errW_some] <;> rfl), by repeat (first | (with_reducible first | exact HB.out | apply below_alloc | apply pw_below_drewN | apply below_drew1) | exact HB.out)⟩
                                  · rw [if_neg c32] at H
                                    exact absurd H (by simp)
                                · rw [if_neg c31] at H
                                  exact absurd H (by simp)
                              · rw [if_neg c29] at H
                                have c29b0 : decide (0 < x12_3) = false := decide_eq_false c29
                                clear c29
                                by_cases c43 : t198 = 0
                                · rw [if_pos c43] at H
                                  have c43b0 : (t198 == 0) = true := beq_iff_eq.mpr c43
                                  have c43b1 : (t198 != 0) = false := bne_eq_false_iff_eq.mpr c43
                                  clear c43
                                  by_cases c44 : t197 = 0
                                  · rw [if_pos c44] at H
                                    have c44b0 : (t197 == 0) = true := beq_iff_eq.mpr c44
                                    have c44b1 : (t197 != 0) = false := bne_eq_false_iff_eq.mpr c44
                                    clear c44
                                    have c45b0 := eq_true (of_decide_eq_true (by first | (with_reducible assumption) | assumption) : 0 ≤ x12_3)
                                    by_cases c46 : x12_3 ≤ (l0.length : Int)
                                    · rw [if_pos c46] at H
                                      have c46b0 := eq_true c46
                                      have c46b1 : decide (x12_3 ≤ (l0.length : Int)) = true := decide_eq_true c46
                                      clear c46
                                      replace H := Option.bind_eq_some_iff.mp H
                                      obtain ⟨t206, A470, H⟩ := H
                                      replace H : (some t206) = some r := H
                                      have A47 := Aside0.mk A470
                                      clear A470
                                      obtain rfl := Option.some.inj H
                                      obtain ⟨Ao48, co48, eo48⟩ := Kd.R_slice HO_6.out
                                      subst eo48
                                      have p201 : 0 ≤ (x12_3 : Int) := of_decide_eq_true (by first | (with_reducible assumption) | assumption)
                                      have q201 : x12_3 < (x6_2.length : Int) := of_decide_eq_true (by first | (with_reducible assumption) | assumption)
                                      obtain ⟨ad201, e201, hx201_0⟩ := Kd.at_int (Kd.R_reads' HO_6.out).2.2 x12_3 p201 q201
                                      cases e201
                                      replace p201 := eq_true p201
                                      replace q201 := eq_true q201
                                      obtain ⟨i049, hi049, _, hsz49, _⟩ := info_parts info9
                                      obtain ⟨hcut49, hA49, hC49⟩ := print_take_of (P := Try.prog) Value.string (⟨#[]⟩ : ByteArray) 27 9 .i64 Try.underlying27 hi049 hsz49 A0 c0 l0 x12_3 (of_decide_eq_true (by first | (with_reducible assumption) | assumption)) (of_decide_eq_true (by first | (with_reducible assumption) | assumption)) HC0.out
                                      have HR205 := Aside0.mk (Kd.C_of_reads (h1 := fun _ => rfl) (hA49 _ (Kd.reads_of_C HR0.out)))
                                      have HC205 := Aside0.mk hC49
                                      clear hA49 hC49 hi049 hsz49
                                      obtain ⟨Ao50, co50, eo50⟩ := Kd.R_slice HO_9.out
                                      subst eo50
                                      go_wp2_with (first | (go_at_call 16; refine calls_of_args (args' := #[.slice Ao50 t196.length co50, .slice A0 (l0.take (x12_3 : Int).toNat).length c0]) (by first | (rw [show (l0.take (x12_3 : Int).toNat).length = x12_3.toNat from (by rw [List.length_take]; have h_ : (x12_3 : Int) ≤ (l0.length : Int) := of_decide_eq_true (by first | (with_reducible assumption) | assumption); omega)] <;> rfl) | rfl) ?_; (with_reducible refine (tithebarnref05_Same.calls k3 _ _ t196 _ _ (l0.take (x12_3 : Int).toNat) t206 _ ?side1 ?side2 ?side3 ?side4 A47.out).mono ?_); (case side1 => repeat (first | exact (Kd.R_reads' HO_9.out).2.2 | (with_reducible refine Kd.C_alloc ?_ _) | (with_reducible refine Kd.C_drewN ?_ _) | (with_reducible refine Kd.C_drew ?_))); (case side2 => exact (Kd.R_reads' HO_9.out).2.1); (case side3 => repeat (first | exact (Kd.C_below HR205.out HB.out) | (with_reducible refine Kd.C_alloc ?_ _) | (with_reducible refine Kd.C_drewN ?_ _) | (with_reducible refine Kd.C_drew ?_))); (case side4 => exact HC205.out); rintro e w' ⟨rfl, ⟨nd, rfl⟩⟩))
                                      go_ret
                                      exact ⟨by first | rfl | (simp [errW_none, errW_some] <;> rfl) | (simp only [← hji20]; first | rfl | (simp [errW_none, errW_some] <;> rfl)) | (simp [*, errW_none, errW_some] <;> rfl), by repeat (first | (with_reducible first | exact HB.out | apply below_alloc | apply pw_below_drewN | apply below_drew1) | exact HB.out)⟩
                                    · rw [if_neg c46] at H
                                      exact absurd H (by simp)
                                  · rw [if_neg c44] at H
                                    have c44b0 : (t197 == 0) = false := beq_eq_false_iff_ne.mpr c44
                                    have c44b1 : (t197 != 0) = true := bne_iff_ne.mpr c44
                                    obtain rfl := Option.some.inj H
                                    obtain ⟨Ao51, co51, eo51⟩ := Kd.R_slice HO_6.out
                                    subst eo51
                                    have p201 : 0 ≤ (x12_3 : Int) := of_decide_eq_true (by first | (with_reducible assumption) | assumption)
                                    have q201 : x12_3 < (x6_2.length : Int) := of_decide_eq_true (by first | (with_reducible assumption) | assumption)
                                    obtain ⟨ad201, e201, hx201_0⟩ := Kd.at_int (Kd.R_reads' HO_6.out).2.2 x12_3 p201 q201
                                    cases e201
                                    replace p201 := eq_true p201
                                    replace q201 := eq_true q201
                                    go_wp2
                                    go_ret
                                    exact ⟨by first | rfl | (simp [errW_none, errW_some] <;> rfl) | (simp only [← hji20]; first | rfl | (simp [errW_none, errW_some] <;> rfl)) | (simp [*, errW_none, errW_some] <;> rfl), by repeat (first | (with_reducible first | exact HB.out | apply below_alloc | apply pw_below_drewN | apply below_drew1) | exact HB.out)⟩
                                · rw [if_neg c43] at H
                                  have c43b0 : (t198 == 0) = false := beq_eq_false_iff_ne.mpr c43
                                  have c43b1 : (t198 != 0) = true := bne_iff_ne.mpr c43
                                  obtain rfl := Option.some.inj H
                                  obtain ⟨Ao52, co52, eo52⟩ := Kd.R_slice HO_6.out
                                  subst eo52
                                  have p201 : 0 ≤ (x12_3 : Int) := of_decide_eq_true (by first | (with_reducible assumption) | assumption)
                                  have q201 : x12_3 < (x6_2.length : Int) := of_decide_eq_true (by first | (with_reducible assumption) | assumption)
                                  obtain ⟨ad201, e201, hx201_0⟩ := Kd.at_int (Kd.R_reads' HO_6.out).2.2 x12_3 p201 q201
                                  cases e201
                                  replace p201 := eq_true p201
                                  replace q201 := eq_true q201
                                  go_wp2
                                  go_ret
                                  exact ⟨by first | rfl | (simp [errW_none, errW_some] <;> rfl) | (simp only [← hji20]; first | rfl | (simp [errW_none, errW_some] <;> rfl)) | (simp [*, errW_none, errW_some] <;> rfl), by repeat (first | (with_reducible first | exact HB.out | apply below_alloc | apply pw_below_drewN | apply below_drew1) | exact HB.out)⟩
                          · rw [if_neg c26] at H
                            exact absurd H (by simp)
                        · rw [if_neg c25] at H
                          have c25b0 : decide (x12_3 < (x6_2.length : Int)) = false := decide_eq_false c25
                          clear c25
                          by_cases c53 : x12_3 > 0
                          · rw [if_pos c53] at H
                            have c53b0 : decide (0 < x12_3) = true := decide_eq_true c53
                            clear c53
                            obtain ⟨ji54, hji54⟩ : ∃ j_ : Int, (wrap64 (x12_3 - 1)) = j_ := ⟨_, rfl⟩
                            replace H : (if 0 ≤ (ji54) then (if (ji54) < (x6_2.length : Int) then (if t198 = 0 then (if t197 = (rd x6_2 (ji54)) then (if 0 ≤ x12_3 then (if x12_3 ≤ (l0.length : Int) then ((tithebarnref05_Same.f k3 t196 (l0.take (x12_3 : Int).toNat)).bind fun t209 => (some t209)) else (none)) else (none)) else (some false)) else (some false)) else (none)) else (none)) = some r := by first | (rw [hji54] at H; exact H) | (simp only [hji54] at H ⊢; exact H)
                            have hji54w : (IntKind.i64.wrap (x12_3 - 1)) = ji54 := (i64_w _).trans hji54
                            by_cases c55 : 0 ≤ (ji54)
                            · rw [if_pos c55] at H
                              have c55b0 : decide (0 ≤ (ji54)) = true := decide_eq_true c55
                              clear c55
                              by_cases c56 : (ji54) < (x6_2.length : Int)
                              · rw [if_pos c56] at H
                                have c56b0 : decide ((ji54) < (x6_2.length : Int)) = true := decide_eq_true c56
                                clear c56
                                by_cases c57 : t198 = 0
                                · rw [if_pos c57] at H
                                  have c57b0 : (t198 == 0) = true := beq_iff_eq.mpr c57
                                  have c57b1 : (t198 != 0) = false := bne_eq_false_iff_eq.mpr c57
                                  clear c57
                                  by_cases c58 : t197 = (rd x6_2 (ji54))
                                  · rw [if_pos c58] at H
                                    have c58b0 : (t197 == (rd x6_2 (ji54))) = true := beq_iff_eq.mpr c58
                                    have c58b1 : (t197 != (rd x6_2 (ji54))) = false := bne_eq_false_iff_eq.mpr c58
                                    clear c58
                                    by_cases c59 : 0 ≤ x12_3
                                    · rw [if_pos c59] at H
                                      have c59b0 := eq_true c59
                                      have c59b1 : decide (0 ≤ x12_3) = true := decide_eq_true c59
                                      clear c59
                                      by_cases c60 : x12_3 ≤ (l0.length : Int)
                                      · rw [if_pos c60] at H
                                        have c60b0 := eq_true c60
                                        have c60b1 : decide (x12_3 ≤ (l0.length : Int)) = true := decide_eq_true c60
                                        clear c60
                                        replace H := Option.bind_eq_some_iff.mp H
                                        obtain ⟨t209, A610, H⟩ := H
                                        replace H : (some t209) = some r := H
                                        have A61 := Aside0.mk A610
                                        clear A610
                                        obtain rfl := Option.some.inj H
                                        obtain ⟨Ao62, co62, eo62⟩ := Kd.R_slice HO_6.out
                                        subst eo62
                                        have p207 : 0 ≤ ((ji54) : Int) := of_decide_eq_true (by first | (with_reducible assumption) | assumption)
                                        have q207 : (ji54) < (x6_2.length : Int) := of_decide_eq_true (by first | (with_reducible assumption) | assumption)
                                        obtain ⟨ad207, e207, hx207_0⟩ := Kd.at_int (Kd.R_reads' HO_6.out).2.2 (ji54) p207 q207
                                        cases e207
                                        replace p207 := eq_true p207
                                        replace q207 := eq_true q207
                                        obtain ⟨i063, hi063, _, hsz63, _⟩ := info_parts info9
                                        obtain ⟨hcut63, hA63, hC63⟩ := print_take_of (P := Try.prog) Value.string (⟨#[]⟩ : ByteArray) 27 9 .i64 Try.underlying27 hi063 hsz63 A0 c0 l0 x12_3 (of_decide_eq_true (by first | (with_reducible assumption) | assumption)) (of_decide_eq_true (by first | (with_reducible assumption) | assumption)) HC0.out
                                        have HR208 := Aside0.mk (Kd.C_of_reads (h1 := fun _ => rfl) (hA63 _ (Kd.reads_of_C HR0.out)))
                                        have HC208 := Aside0.mk hC63
                                        clear hA63 hC63 hi063 hsz63
                                        obtain ⟨Ao64, co64, eo64⟩ := Kd.R_slice HO_9.out
                                        subst eo64
                                        go_wp2_with (first | (go_at_call 16; refine calls_of_args (args' := #[.slice Ao64 t196.length co64, .slice A0 (l0.take (x12_3 : Int).toNat).length c0]) (by first | (rw [show (l0.take (x12_3 : Int).toNat).length = x12_3.toNat from (by rw [List.length_take]; have h_ : (x12_3 : Int) ≤ (l0.length : Int) := of_decide_eq_true (by first | (with_reducible assumption) | assumption); omega)] <;> rfl) | rfl) ?_; (with_reducible refine (tithebarnref05_Same.calls k3 _ _ t196 _ _ (l0.take (x12_3 : Int).toNat) t209 _ ?side1 ?side2 ?side3 ?side4 A61.out).mono ?_); (case side1 => repeat (first | exact (Kd.R_reads' HO_9.out).2.2 | (with_reducible refine Kd.C_alloc ?_ _) | (with_reducible refine Kd.C_drewN ?_ _) | (with_reducible refine Kd.C_drew ?_))); (case side2 => exact (Kd.R_reads' HO_9.out).2.1); (case side3 => repeat (first | exact (Kd.C_below HR208.out HB.out) | (with_reducible refine Kd.C_alloc ?_ _) | (with_reducible refine Kd.C_drewN ?_ _) | (with_reducible refine Kd.C_drew ?_))); (case side4 => exact HC208.out); rintro e w' ⟨rfl, ⟨nd, rfl⟩⟩))
                                        go_ret
                                        exact ⟨by first | rfl | (simp [errW_none, errW_some] <;> rfl) | (simp only [← hji20, ← hji54]; first | rfl | (simp [errW_none, errW_some] <;> rfl)) | (simp [*, errW_none, errW_some] <;> rfl), by repeat (first | (with_reducible first | exact HB.out | apply below_alloc | apply pw_below_drewN | apply below_drew1) | exact HB.out)⟩
                                      · rw [if_neg c60] at H
                                        exact absurd H (by simp)
                                    · rw [if_neg c59] at H
                                      exact absurd H (by simp)
                                  · rw [if_neg c58] at H
                                    have c58b0 : (t197 == (rd x6_2 (ji54))) = false := beq_eq_false_iff_ne.mpr c58
                                    have c58b1 : (t197 != (rd x6_2 (ji54))) = true := bne_iff_ne.mpr c58
                                    obtain rfl := Option.some.inj H
                                    obtain ⟨Ao65, co65, eo65⟩ := Kd.R_slice HO_6.out
                                    subst eo65
                                    have p207 : 0 ≤ ((ji54) : Int) := of_decide_eq_true (by first | (with_reducible assumption) | assumption)
                                    have q207 : (ji54) < (x6_2.length : Int) := of_decide_eq_true (by first | (with_reducible assumption) | assumption)
                                    obtain ⟨ad207, e207, hx207_0⟩ := Kd.at_int (Kd.R_reads' HO_6.out).2.2 (ji54) p207 q207
                                    cases e207
                                    replace p207 := eq_true p207
                                    replace q207 := eq_true q207
                                    go_wp2
                                    go_ret
                                    exact ⟨by first | rfl | (simp [errW_none, errW_some] <;> rfl) | (simp only [← hji20, ← hji54]; first | rfl | (simp [errW_none, errW_some] <;> rfl)) | (simp [*, errW_none, errW_some] <;> rfl), by repeat (first | (with_reducible first | exact HB.out | apply below_alloc | apply pw_below_drewN | apply below_drew1) | exact HB.out)⟩
                                · rw [if_neg c57] at H
                                  have c57b0 : (t198 == 0) = false := beq_eq_false_iff_ne.mpr c57
                                  have c57b1 : (t198 != 0) = true := bne_iff_ne.mpr c57
                                  obtain rfl := Option.some.inj H
                                  obtain ⟨Ao66, co66, eo66⟩ := Kd.R_slice HO_6.out
                                  subst eo66
                                  have p207 : 0 ≤ ((ji54) : Int) := of_decide_eq_true (by first | (with_reducible assumption) | assumption)
                                  have q207 : (ji54) < (x6_2.length : Int) := of_decide_eq_true (by first | (with_reducible assumption) | assumption)
                                  obtain ⟨ad207, e207, hx207_0⟩ := Kd.at_int (Kd.R_reads' HO_6.out).2.2 (ji54) p207 q207
                                  cases e207
                                  replace p207 := eq_true p207
                                  replace q207 := eq_true q207
                                  go_wp2
                                  go_ret
                                  exact ⟨by first | rfl | (simp [errW_none, errW_some] <;> rfl) | (simp only [← hji20, ← hji54]; first | rfl | (simp [errW_none, errW_some] <;> rfl)) | (simp [*, errW_none, errW_some] <;> rfl), by repeat (first | (with_reducible first | exact HB.out | apply below_alloc | apply pw_below_drewN | apply below_drew1) | exact HB.out)⟩
                              · rw [if_neg c56] at H
                                exact absurd H (by simp)
                            · rw [if_neg c55] at H
                              exact absurd H (by simp)
                          · rw [if_neg c53] at H
                            have c53b0 : decide (0 < x12_3) = false := decide_eq_false c53
                            clear c53
                            by_cases c67 : t198 = 0
                            · rw [if_pos c67] at H
                              have c67b0 : (t198 == 0) = true := beq_iff_eq.mpr c67
                              have c67b1 : (t198 != 0) = false := bne_eq_false_iff_eq.mpr c67
                              clear c67
                              by_cases c68 : t197 = 0
                              · rw [if_pos c68] at H
                                have c68b0 : (t197 == 0) = true := beq_iff_eq.mpr c68
                                have c68b1 : (t197 != 0) = false := bne_eq_false_iff_eq.mpr c68
                                clear c68
                                by_cases c69 : 0 ≤ x12_3
                                · rw [if_pos c69] at H
                                  have c69b0 := eq_true c69
                                  have c69b1 : decide (0 ≤ x12_3) = true := decide_eq_true c69
                                  clear c69
                                  by_cases c70 : x12_3 ≤ (l0.length : Int)
                                  · rw [if_pos c70] at H
                                    have c70b0 := eq_true c70
                                    have c70b1 : decide (x12_3 ≤ (l0.length : Int)) = true := decide_eq_true c70
                                    clear c70
                                    replace H := Option.bind_eq_some_iff.mp H
                                    obtain ⟨t211, A710, H⟩ := H
                                    replace H : (some t211) = some r := H
                                    have A71 := Aside0.mk A710
                                    clear A710
                                    obtain rfl := Option.some.inj H
                                    obtain ⟨Ao72, co72, eo72⟩ := Kd.R_slice HO_6.out
                                    subst eo72
                                    obtain ⟨i073, hi073, _, hsz73, _⟩ := info_parts info9
                                    obtain ⟨hcut73, hA73, hC73⟩ := print_take_of (P := Try.prog) Value.string (⟨#[]⟩ : ByteArray) 27 9 .i64 Try.underlying27 hi073 hsz73 A0 c0 l0 x12_3 (of_decide_eq_true (by first | (with_reducible assumption) | assumption)) (of_decide_eq_true (by first | (with_reducible assumption) | assumption)) HC0.out
                                    have HR210 := Aside0.mk (Kd.C_of_reads (h1 := fun _ => rfl) (hA73 _ (Kd.reads_of_C HR0.out)))
                                    have HC210 := Aside0.mk hC73
                                    clear hA73 hC73 hi073 hsz73
                                    obtain ⟨Ao74, co74, eo74⟩ := Kd.R_slice HO_9.out
                                    subst eo74
                                    go_wp2_with (first | (go_at_call 16; refine calls_of_args (args' := #[.slice Ao74 t196.length co74, .slice A0 (l0.take (x12_3 : Int).toNat).length c0]) (by first | (rw [show (l0.take (x12_3 : Int).toNat).length = x12_3.toNat from (by rw [List.length_take]; have h_ : (x12_3 : Int) ≤ (l0.length : Int) := of_decide_eq_true (by first | (with_reducible assumption) | assumption); omega)] <;> rfl) | rfl) ?_; (with_reducible refine (tithebarnref05_Same.calls k3 _ _ t196 _ _ (l0.take (x12_3 : Int).toNat) t211 _ ?side1 ?side2 ?side3 ?side4 A71.out).mono ?_); (case side1 => repeat (first | exact (Kd.R_reads' HO_9.out).2.2 | (with_reducible refine Kd.C_alloc ?_ _) | (with_reducible refine Kd.C_drewN ?_ _) | (with_reducible refine Kd.C_drew ?_))); (case side2 => exact (Kd.R_reads' HO_9.out).2.1); (case side3 => repeat (first | exact (Kd.C_below HR210.out HB.out) | (with_reducible refine Kd.C_alloc ?_ _) | (with_reducible refine Kd.C_drewN ?_ _) | (with_reducible refine Kd.C_drew ?_))); (case side4 => exact HC210.out); rintro e w' ⟨rfl, ⟨nd, rfl⟩⟩))
                                    go_ret
                                    exact ⟨by first | rfl | (simp [errW_none, errW_some] <;> rfl) | (simp only [← hji20]; first | rfl | (simp [errW_none, errW_some] <;> rfl)) | (simp [*, errW_none, errW_some] <;> rfl), by repeat (first | (with_reducible first | exact HB.out | apply below_alloc | apply pw_below_drewN | apply below_drew1) | exact HB.out)⟩
                                  · rw [if_neg c70] at H
                                    exact absurd H (by simp)
                                · rw [if_neg c69] at H
                                  exact absurd H (by simp)
                              · rw [if_neg c68] at H
                                have c68b0 : (t197 == 0) = false := beq_eq_false_iff_ne.mpr c68
                                have c68b1 : (t197 != 0) = true := bne_iff_ne.mpr c68
                                obtain rfl := Option.some.inj H
                                obtain ⟨Ao75, co75, eo75⟩ := Kd.R_slice HO_6.out
                                subst eo75
                                go_wp2
                                go_ret
                                exact ⟨by first | rfl | (simp [errW_none, errW_some] <;> rfl) | (simp only [← hji20]; first | rfl | (simp [errW_none, errW_some] <;> rfl)) | (simp [*, errW_none, errW_some] <;> rfl), by repeat (first | (with_reducible first | exact HB.out | apply below_alloc | apply pw_below_drewN | apply below_drew1) | exact HB.out)⟩
                            · rw [if_neg c67] at H
                              have c67b0 : (t198 == 0) = false := beq_eq_false_iff_ne.mpr c67
                              have c67b1 : (t198 != 0) = true := bne_iff_ne.mpr c67
                              obtain rfl := Option.some.inj H
                              obtain ⟨Ao76, co76, eo76⟩ := Kd.R_slice HO_6.out
                              subst eo76
                              go_wp2
                              go_ret
                              exact ⟨by first | rfl | (simp [errW_none, errW_some] <;> rfl) | (simp only [← hji20]; first | rfl | (simp [errW_none, errW_some] <;> rfl)) | (simp [*, errW_none, errW_some] <;> rfl), by repeat (first | (with_reducible first | exact HB.out | apply below_alloc | apply pw_below_drewN | apply below_drew1) | exact HB.out)⟩
                  · rw [if_neg c22] at H
                    exact absurd H (by simp)
                · rw [if_neg c21] at H
                  exact absurd H (by simp)
end Go.Proofs.Ytlcjkpoaehmghaa.G
