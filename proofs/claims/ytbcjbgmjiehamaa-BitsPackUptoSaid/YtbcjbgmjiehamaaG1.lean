-- Written by a driver of this session (wip/gen/drive.py), which runs the kit's print with additions of its own; not print.sh's own output.
import Derived.Test.YtbcjbgmjiehamaaG0
namespace Go.Proofs.Ytbcjbgmjiehamaa.G
open Go.RowKit Go.Proofs.YtbcjbgmjiehamaaQ Go.Proofs.YtbcjbgmjiehamaaW.PrintWords Go.Proofs.YtbcjbgmjiehamaaW.PrintLast Go.Proofs.YtbcjbgmjiehamaaW.PrintMore
attribute [local go_sem] max2_int min2_int max_two min_two max_three min_three max_four min_four   -- for this text's walks alone
set_option linter.unusedVariables false
set_option linter.unusedSimpArgs false

/-! ### bits_Len64: function 24 -/
def bits_Len64.j0 : Nat → Int → Int → Option (Int)
  | 0, _, _ => none
  | k + 1, x0, x2 => if x0 ≥ 65536 then (if (x0 / 65536) ≥ 256 then (if 0 ≤ (((x0 / 65536) / 256) % 256) then (if (((x0 / 65536) / 256) % 256) < 256 then (some (wrap64 ((wrap64 ((wrap64 (x2 + 16)) + 8)) + (wrap64 (bt (⟨#[0, 1, 2, 2, 3, 3, 3, 3, 4, 4, 4, 4, 4, 4, 4, 4, 5, 5, 5, 5, 5, 5, 5, 5, 5, 5, 5, 5, 5, 5, 5, 5, 6, 6, 6, 6, 6, 6, 6, 6, 6, 6, 6, 6, 6, 6, 6, 6, 6, 6, 6, 6, 6, 6, 6, 6, 6, 6, 6, 6, 6, 6, 6, 6, 7, 7, 7, 7, 7, 7, 7, 7, 7, 7, 7, 7, 7, 7, 7, 7, 7, 7, 7, 7, 7, 7, 7, 7, 7, 7, 7, 7, 7, 7, 7, 7, 7, 7, 7, 7, 7, 7, 7, 7, 7, 7, 7, 7, 7, 7, 7, 7, 7, 7, 7, 7, 7, 7, 7, 7, 7, 7, 7, 7, 7, 7, 7, 7, 8, 8, 8, 8, 8, 8, 8, 8, 8, 8, 8, 8, 8, 8, 8, 8, 8, 8, 8, 8, 8, 8, 8, 8, 8, 8, 8, 8, 8, 8, 8, 8, 8, 8, 8, 8, 8, 8, 8, 8, 8, 8, 8, 8, 8, 8, 8, 8, 8, 8, 8, 8, 8, 8, 8, 8, 8, 8, 8, 8, 8, 8, 8, 8, 8, 8, 8, 8, 8, 8, 8, 8, 8, 8, 8, 8, 8, 8, 8, 8, 8, 8, 8, 8, 8, 8, 8, 8, 8, 8, 8, 8, 8, 8, 8, 8, 8, 8, 8, 8, 8, 8, 8, 8, 8, 8, 8, 8, 8, 8, 8, 8, 8, 8, 8, 8, 8, 8, 8, 8, 8, 8, 8, 8, 8, 8, 8, 8]⟩ : ByteArray) (((x0 / 65536) / 256) % 256)))))) else (none)) else (none)) else (if 0 ≤ ((x0 / 65536) % 256) then (if ((x0 / 65536) % 256) < 256 then (some (wrap64 ((wrap64 (x2 + 16)) + (wrap64 (bt (⟨#[0, 1, 2, 2, 3, 3, 3, 3, 4, 4, 4, 4, 4, 4, 4, 4, 5, 5, 5, 5, 5, 5, 5, 5, 5, 5, 5, 5, 5, 5, 5, 5, 6, 6, 6, 6, 6, 6, 6, 6, 6, 6, 6, 6, 6, 6, 6, 6, 6, 6, 6, 6, 6, 6, 6, 6, 6, 6, 6, 6, 6, 6, 6, 6, 7, 7, 7, 7, 7, 7, 7, 7, 7, 7, 7, 7, 7, 7, 7, 7, 7, 7, 7, 7, 7, 7, 7, 7, 7, 7, 7, 7, 7, 7, 7, 7, 7, 7, 7, 7, 7, 7, 7, 7, 7, 7, 7, 7, 7, 7, 7, 7, 7, 7, 7, 7, 7, 7, 7, 7, 7, 7, 7, 7, 7, 7, 7, 7, 8, 8, 8, 8, 8, 8, 8, 8, 8, 8, 8, 8, 8, 8, 8, 8, 8, 8, 8, 8, 8, 8, 8, 8, 8, 8, 8, 8, 8, 8, 8, 8, 8, 8, 8, 8, 8, 8, 8, 8, 8, 8, 8, 8, 8, 8, 8, 8, 8, 8, 8, 8, 8, 8, 8, 8, 8, 8, 8, 8, 8, 8, 8, 8, 8, 8, 8, 8, 8, 8, 8, 8, 8, 8, 8, 8, 8, 8, 8, 8, 8, 8, 8, 8, 8, 8, 8, 8, 8, 8, 8, 8, 8, 8, 8, 8, 8, 8, 8, 8, 8, 8, 8, 8, 8, 8, 8, 8, 8, 8, 8, 8, 8, 8, 8, 8, 8, 8, 8, 8, 8, 8, 8, 8, 8, 8, 8, 8]⟩ : ByteArray) ((x0 / 65536) % 256)))))) else (none)) else (none))) else (if x0 ≥ 256 then (if 0 ≤ ((x0 / 256) % 256) then (if ((x0 / 256) % 256) < 256 then (some (wrap64 ((wrap64 (x2 + 8)) + (wrap64 (bt (⟨#[0, 1, 2, 2, 3, 3, 3, 3, 4, 4, 4, 4, 4, 4, 4, 4, 5, 5, 5, 5, 5, 5, 5, 5, 5, 5, 5, 5, 5, 5, 5, 5, 6, 6, 6, 6, 6, 6, 6, 6, 6, 6, 6, 6, 6, 6, 6, 6, 6, 6, 6, 6, 6, 6, 6, 6, 6, 6, 6, 6, 6, 6, 6, 6, 7, 7, 7, 7, 7, 7, 7, 7, 7, 7, 7, 7, 7, 7, 7, 7, 7, 7, 7, 7, 7, 7, 7, 7, 7, 7, 7, 7, 7, 7, 7, 7, 7, 7, 7, 7, 7, 7, 7, 7, 7, 7, 7, 7, 7, 7, 7, 7, 7, 7, 7, 7, 7, 7, 7, 7, 7, 7, 7, 7, 7, 7, 7, 7, 8, 8, 8, 8, 8, 8, 8, 8, 8, 8, 8, 8, 8, 8, 8, 8, 8, 8, 8, 8, 8, 8, 8, 8, 8, 8, 8, 8, 8, 8, 8, 8, 8, 8, 8, 8, 8, 8, 8, 8, 8, 8, 8, 8, 8, 8, 8, 8, 8, 8, 8, 8, 8, 8, 8, 8, 8, 8, 8, 8, 8, 8, 8, 8, 8, 8, 8, 8, 8, 8, 8, 8, 8, 8, 8, 8, 8, 8, 8, 8, 8, 8, 8, 8, 8, 8, 8, 8, 8, 8, 8, 8, 8, 8, 8, 8, 8, 8, 8, 8, 8, 8, 8, 8, 8, 8, 8, 8, 8, 8, 8, 8, 8, 8, 8, 8, 8, 8, 8, 8, 8, 8, 8, 8, 8, 8, 8, 8]⟩ : ByteArray) ((x0 / 256) % 256)))))) else (none)) else (none)) else (if 0 ≤ ((x0) % 256) then (if ((x0) % 256) < 256 then (some (wrap64 (x2 + (wrap64 (bt (⟨#[0, 1, 2, 2, 3, 3, 3, 3, 4, 4, 4, 4, 4, 4, 4, 4, 5, 5, 5, 5, 5, 5, 5, 5, 5, 5, 5, 5, 5, 5, 5, 5, 6, 6, 6, 6, 6, 6, 6, 6, 6, 6, 6, 6, 6, 6, 6, 6, 6, 6, 6, 6, 6, 6, 6, 6, 6, 6, 6, 6, 6, 6, 6, 6, 7, 7, 7, 7, 7, 7, 7, 7, 7, 7, 7, 7, 7, 7, 7, 7, 7, 7, 7, 7, 7, 7, 7, 7, 7, 7, 7, 7, 7, 7, 7, 7, 7, 7, 7, 7, 7, 7, 7, 7, 7, 7, 7, 7, 7, 7, 7, 7, 7, 7, 7, 7, 7, 7, 7, 7, 7, 7, 7, 7, 7, 7, 7, 7, 8, 8, 8, 8, 8, 8, 8, 8, 8, 8, 8, 8, 8, 8, 8, 8, 8, 8, 8, 8, 8, 8, 8, 8, 8, 8, 8, 8, 8, 8, 8, 8, 8, 8, 8, 8, 8, 8, 8, 8, 8, 8, 8, 8, 8, 8, 8, 8, 8, 8, 8, 8, 8, 8, 8, 8, 8, 8, 8, 8, 8, 8, 8, 8, 8, 8, 8, 8, 8, 8, 8, 8, 8, 8, 8, 8, 8, 8, 8, 8, 8, 8, 8, 8, 8, 8, 8, 8, 8, 8, 8, 8, 8, 8, 8, 8, 8, 8, 8, 8, 8, 8, 8, 8, 8, 8, 8, 8, 8, 8, 8, 8, 8, 8, 8, 8, 8, 8, 8, 8, 8, 8, 8, 8, 8, 8, 8, 8]⟩ : ByteArray) ((x0) % 256)))))) else (none)) else (none)))
def bits_Len64.f (k : Nat) (a0 : Int) : Option (Int) := if a0 ≥ 4294967296 then (bits_Len64.j0 k (a0 / 4294967296) 32) else (bits_Len64.j0 k a0 0)
theorem bits_Len64.mono_l : ∀ k, (∀ y0 y1, LeO (bits_Len64.j0 k y0 y1) (bits_Len64.j0 (k + 1) y0 y1))
  | 0 => fun _ _ r h => by simp [bits_Len64.j0] at h
  | k + 1 => by
    have ih0 := bits_Len64.mono_l k
    · intro y0 y1
      unfold bits_Len64.j0
      repeat' first
      | (with_reducible exact ih0 _ _)
      | (with_reducible exact LeO.refl _)
      | (with_reducible exact LeO.none _)
      | (with_reducible refine LeO.ite ?_ ?_)
      | (with_reducible refine LeO.bind ?_ (fun _ => ?_))
      | exact ih0 _ _
      | exact LeO.none _
      | refine LeO.ite ?_ ?_
      | refine LeO.bind ?_ (fun _ => ?_)
theorem bits_Len64.mono : ∀ a0 k, LeO (bits_Len64.f k a0) (bits_Len64.f (k + 1) a0) := by
  intro a0 k
  have ih0 := bits_Len64.mono_l k
  unfold bits_Len64.f
  repeat' first
      | (with_reducible exact ih0 _ _)
      | (with_reducible exact LeO.refl _)
      | (with_reducible exact LeO.none _)
      | (with_reducible refine LeO.ite ?_ ?_)
      | (with_reducible refine LeO.bind ?_ (fun _ => ?_))
      | exact ih0 _ _
      | exact LeO.none _
      | refine LeO.ite ?_ ?_
      | refine LeO.bind ?_ (fun _ => ?_)
set_option maxHeartbeats 8000000 in
set_option maxRecDepth 100000 in
theorem bits_Len64.calls (k : Nat) (a0 : Int) (r : Int) (w : World) (h : bits_Len64.f k a0 = some r) :
    Calls Try.prog 24 #[.int .u64 a0] w fun e w' => e = .returned (.int .i64 r) ∧ Drawn0 w w' := by
  have H : (if a0 ≥ 4294967296 then (bits_Len64.j0 k (a0 / 4294967296) 32) else (bits_Len64.j0 k a0 0)) = some r := h
  clear h
  have HC2 := Aside0.mk H
  clear H
  go_enter Try.func24, Try.ntmps24
  go_upto_if 4 with (fail)
  go_cut [0, 2] (fun v0 v2 wc => ∃ (kq : Nat) (x0_1 : Int) (x2_1 : Int), v0 = .int .u64 x0_1 ∧ v2 = .int .i64 x2_1 ∧ Aside0 (bits_Len64.j0 kq x0_1 x2_1 = some r) ∧ Aside0 (kq ≤ k) ∧ Drawn0 w wc)
  case first =>
    have H := HC2.out
    clear HC2
    by_cases c3 : a0 ≥ 4294967296
    · rw [if_pos c3] at H
      have c3b0 : decide (4294967296 ≤ a0) = true := decide_eq_true c3
      clear c3
      (first | rw [c3b0] | (simp only [i64_w, i32_w]; rw [c3b0]) | skip)
      have H' := Aside0.mk H
      clear H
      go_wp2
      go_meet
      case rel => exact ⟨_, (a0 / 4294967296), (32), (by first | rfl | (simp; done) | (simp [*]; done)), (by first | rfl | (simp; done) | (simp [*]; done)), H', ⟨by first | omega | exact Nat.le_refl _⟩, by repeat (first | exact Drawn0.refl _ | apply Drawn0.step)⟩
    · rw [if_neg c3] at H
      have c3b0 : decide (4294967296 ≤ a0) = false := decide_eq_false c3
      clear c3
      (first | rw [c3b0] | (simp only [i64_w, i32_w]; rw [c3b0]) | skip)
      have H' := Aside0.mk H
      clear H
      go_wp2
      go_meet
      case rel => exact ⟨_, (a0), (0), (by first | rfl | (simp; done) | (simp [*]; done)), (by first | rfl | (simp; done) | (simp [*]; done)), H', ⟨by first | omega | exact Nat.le_refl _⟩, by repeat (first | exact Drawn0.refl _ | apply Drawn0.step)⟩
  case rest =>
    clear HC2
    try clear c2
    try clear p2
    try clear c3
    try clear c3b0
    obtain ⟨kq, x0_1, x2_1, rfl, rfl, HA, HJ1, ⟨mc1, rfl⟩⟩ := hcut
    cases kq with
    | zero => exact absurd HA.out (by simp [bits_Len64.j0])
    | succ kj1 =>
      have H := HA.out
      clear HA
      simp only [bits_Len64.j0] at H
      by_cases c4 : x0_1 ≥ 65536
      · rw [if_pos c4] at H
        have c4b0 : decide (65536 ≤ x0_1) = true := decide_eq_true c4
        clear c4
        by_cases c5 : (x0_1 / 65536) ≥ 256
        · rw [if_pos c5] at H
          have c5b0 : decide (256 ≤ (x0_1 / 65536)) = true := decide_eq_true c5
          clear c5
          obtain ⟨ji6, hji6⟩ : ∃ j_ : Int, (((x0_1 / 65536) / 256) % 256) = j_ := ⟨_, rfl⟩
          replace H : (if 0 ≤ (ji6) then (if (ji6) < 256 then (some (wrap64 ((wrap64 ((wrap64 (x2_1 + 16)) + 8)) + (wrap64 (bt (⟨#[0, 1, 2, 2, 3, 3, 3, 3, 4, 4, 4, 4, 4, 4, 4, 4, 5, 5, 5, 5, 5, 5, 5, 5, 5, 5, 5, 5, 5, 5, 5, 5, 6, 6, 6, 6, 6, 6, 6, 6, 6, 6, 6, 6, 6, 6, 6, 6, 6, 6, 6, 6, 6, 6, 6, 6, 6, 6, 6, 6, 6, 6, 6, 6, 7, 7, 7, 7, 7, 7, 7, 7, 7, 7, 7, 7, 7, 7, 7, 7, 7, 7, 7, 7, 7, 7, 7, 7, 7, 7, 7, 7, 7, 7, 7, 7, 7, 7, 7, 7, 7, 7, 7, 7, 7, 7, 7, 7, 7, 7, 7, 7, 7, 7, 7, 7, 7, 7, 7, 7, 7, 7, 7, 7, 7, 7, 7, 7, 8, 8, 8, 8, 8, 8, 8, 8, 8, 8, 8, 8, 8, 8, 8, 8, 8, 8, 8, 8, 8, 8, 8, 8, 8, 8, 8, 8, 8, 8, 8, 8, 8, 8, 8, 8, 8, 8, 8, 8, 8, 8, 8, 8, 8, 8, 8, 8, 8, 8, 8, 8, 8, 8, 8, 8, 8, 8, 8, 8, 8, 8, 8, 8, 8, 8, 8, 8, 8, 8, 8, 8, 8, 8, 8, 8, 8, 8, 8, 8, 8, 8, 8, 8, 8, 8, 8, 8, 8, 8, 8, 8, 8, 8, 8, 8, 8, 8, 8, 8, 8, 8, 8, 8, 8, 8, 8, 8, 8, 8, 8, 8, 8, 8, 8, 8, 8, 8, 8, 8, 8, 8, 8, 8, 8, 8, 8, 8]⟩ : ByteArray) (ji6)))))) else (none)) else (none)) = some r := by first | (rw [hji6] at H; exact H) | (simp only [hji6] at H ⊢; exact H)
          by_cases c7 : 0 ≤ (ji6)
          · rw [if_pos c7] at H
            have c7b0 : decide (0 ≤ (ji6)) = true := decide_eq_true c7
            clear c7
            by_cases c8 : (ji6) < 256
            · rw [if_pos c8] at H
              have c8b0 : decide ((ji6) < 256) = true := decide_eq_true c8
              clear c8
              obtain rfl := Option.some.inj H
              have p9 : 0 ≤ ((ji6) : Int) := of_decide_eq_true (by first | (with_reducible assumption) | assumption)
              have q9 : (ji6) < (256 : Int) := of_decide_eq_true (by first | (with_reducible assumption) | assumption)
              have hx9 := bt_at (⟨#[0, 1, 2, 2, 3, 3, 3, 3, 4, 4, 4, 4, 4, 4, 4, 4, 5, 5, 5, 5, 5, 5, 5, 5, 5, 5, 5, 5, 5, 5, 5, 5, 6, 6, 6, 6, 6, 6, 6, 6, 6, 6, 6, 6, 6, 6, 6, 6, 6, 6, 6, 6, 6, 6, 6, 6, 6, 6, 6, 6, 6, 6, 6, 6, 7, 7, 7, 7, 7, 7, 7, 7, 7, 7, 7, 7, 7, 7, 7, 7, 7, 7, 7, 7, 7, 7, 7, 7, 7, 7, 7, 7, 7, 7, 7, 7, 7, 7, 7, 7, 7, 7, 7, 7, 7, 7, 7, 7, 7, 7, 7, 7, 7, 7, 7, 7, 7, 7, 7, 7, 7, 7, 7, 7, 7, 7, 7, 7, 8, 8, 8, 8, 8, 8, 8, 8, 8, 8, 8, 8, 8, 8, 8, 8, 8, 8, 8, 8, 8, 8, 8, 8, 8, 8, 8, 8, 8, 8, 8, 8, 8, 8, 8, 8, 8, 8, 8, 8, 8, 8, 8, 8, 8, 8, 8, 8, 8, 8, 8, 8, 8, 8, 8, 8, 8, 8, 8, 8, 8, 8, 8, 8, 8, 8, 8, 8, 8, 8, 8, 8, 8, 8, 8, 8, 8, 8, 8, 8, 8, 8, 8, 8, 8, 8, 8, 8, 8, 8, 8, 8, 8, 8, 8, 8, 8, 8, 8, 8, 8, 8, 8, 8, 8, 8, 8, 8, 8, 8, 8, 8, 8, 8, 8, 8, 8, 8, 8, 8, 8, 8, 8, 8, 8, 8, 8, 8]⟩ : ByteArray) (ji6)
              replace p9 := eq_true p9
              replace q9 := eq_true q9
              go_wp2
              go_ret
              exact ⟨by first | rfl | (simp; done) | (simp only [← hji6] <;> (first | rfl | simp)) | (simp [*]; done), by repeat (first | exact Drawn0.refl _ | apply Drawn0.step)⟩
            · rw [if_neg c8] at H
              exact absurd H (by simp)
          · rw [if_neg c7] at H
            exact absurd H (by simp)
        · rw [if_neg c5] at H
          have c5b0 : decide (256 ≤ (x0_1 / 65536)) = false := decide_eq_false c5
          clear c5
          obtain ⟨ji10, hji10⟩ : ∃ j_ : Int, ((x0_1 / 65536) % 256) = j_ := ⟨_, rfl⟩
          replace H : (if 0 ≤ (ji10) then (if (ji10) < 256 then (some (wrap64 ((wrap64 (x2_1 + 16)) + (wrap64 (bt (⟨#[0, 1, 2, 2, 3, 3, 3, 3, 4, 4, 4, 4, 4, 4, 4, 4, 5, 5, 5, 5, 5, 5, 5, 5, 5, 5, 5, 5, 5, 5, 5, 5, 6, 6, 6, 6, 6, 6, 6, 6, 6, 6, 6, 6, 6, 6, 6, 6, 6, 6, 6, 6, 6, 6, 6, 6, 6, 6, 6, 6, 6, 6, 6, 6, 7, 7, 7, 7, 7, 7, 7, 7, 7, 7, 7, 7, 7, 7, 7, 7, 7, 7, 7, 7, 7, 7, 7, 7, 7, 7, 7, 7, 7, 7, 7, 7, 7, 7, 7, 7, 7, 7, 7, 7, 7, 7, 7, 7, 7, 7, 7, 7, 7, 7, 7, 7, 7, 7, 7, 7, 7, 7, 7, 7, 7, 7, 7, 7, 8, 8, 8, 8, 8, 8, 8, 8, 8, 8, 8, 8, 8, 8, 8, 8, 8, 8, 8, 8, 8, 8, 8, 8, 8, 8, 8, 8, 8, 8, 8, 8, 8, 8, 8, 8, 8, 8, 8, 8, 8, 8, 8, 8, 8, 8, 8, 8, 8, 8, 8, 8, 8, 8, 8, 8, 8, 8, 8, 8, 8, 8, 8, 8, 8, 8, 8, 8, 8, 8, 8, 8, 8, 8, 8, 8, 8, 8, 8, 8, 8, 8, 8, 8, 8, 8, 8, 8, 8, 8, 8, 8, 8, 8, 8, 8, 8, 8, 8, 8, 8, 8, 8, 8, 8, 8, 8, 8, 8, 8, 8, 8, 8, 8, 8, 8, 8, 8, 8, 8, 8, 8, 8, 8, 8, 8, 8, 8]⟩ : ByteArray) (ji10)))))) else (none)) else (none)) = some r := by first | (rw [hji10] at H; exact H) | (simp only [hji10] at H ⊢; exact H)
          by_cases c11 : 0 ≤ (ji10)
          · rw [if_pos c11] at H
            have c11b0 : decide (0 ≤ (ji10)) = true := decide_eq_true c11
            clear c11
            by_cases c12 : (ji10) < 256
            · rw [if_pos c12] at H
              have c12b0 : decide ((ji10) < 256) = true := decide_eq_true c12
              clear c12
              obtain rfl := Option.some.inj H
              have p13 : 0 ≤ ((ji10) : Int) := of_decide_eq_true (by first | (with_reducible assumption) | assumption)
              have q13 : (ji10) < (256 : Int) := of_decide_eq_true (by first | (with_reducible assumption) | assumption)
              have hx13 := bt_at (⟨#[0, 1, 2, 2, 3, 3, 3, 3, 4, 4, 4, 4, 4, 4, 4, 4, 5, 5, 5, 5, 5, 5, 5, 5, 5, 5, 5, 5, 5, 5, 5, 5, 6, 6, 6, 6, 6, 6, 6, 6, 6, 6, 6, 6, 6, 6, 6, 6, 6, 6, 6, 6, 6, 6, 6, 6, 6, 6, 6, 6, 6, 6, 6, 6, 7, 7, 7, 7, 7, 7, 7, 7, 7, 7, 7, 7, 7, 7, 7, 7, 7, 7, 7, 7, 7, 7, 7, 7, 7, 7, 7, 7, 7, 7, 7, 7, 7, 7, 7, 7, 7, 7, 7, 7, 7, 7, 7, 7, 7, 7, 7, 7, 7, 7, 7, 7, 7, 7, 7, 7, 7, 7, 7, 7, 7, 7, 7, 7, 8, 8, 8, 8, 8, 8, 8, 8, 8, 8, 8, 8, 8, 8, 8, 8, 8, 8, 8, 8, 8, 8, 8, 8, 8, 8, 8, 8, 8, 8, 8, 8, 8, 8, 8, 8, 8, 8, 8, 8, 8, 8, 8, 8, 8, 8, 8, 8, 8, 8, 8, 8, 8, 8, 8, 8, 8, 8, 8, 8, 8, 8, 8, 8, 8, 8, 8, 8, 8, 8, 8, 8, 8, 8, 8, 8, 8, 8, 8, 8, 8, 8, 8, 8, 8, 8, 8, 8, 8, 8, 8, 8, 8, 8, 8, 8, 8, 8, 8, 8, 8, 8, 8, 8, 8, 8, 8, 8, 8, 8, 8, 8, 8, 8, 8, 8, 8, 8, 8, 8, 8, 8, 8, 8, 8, 8, 8, 8]⟩ : ByteArray) (ji10)
              replace p13 := eq_true p13
              replace q13 := eq_true q13
              go_wp2
              go_ret
              exact ⟨by first | rfl | (simp; done) | (simp only [← hji10] <;> (first | rfl | simp)) | (simp [*]; done), by repeat (first | exact Drawn0.refl _ | apply Drawn0.step)⟩
            · rw [if_neg c12] at H
              exact absurd H (by simp)
          · rw [if_neg c11] at H
            exact absurd H (by simp)
      · rw [if_neg c4] at H
        have c4b0 : decide (65536 ≤ x0_1) = false := decide_eq_false c4
        clear c4
        by_cases c14 : x0_1 ≥ 256
        · rw [if_pos c14] at H
          have c14b0 : decide (256 ≤ x0_1) = true := decide_eq_true c14
          clear c14
          obtain ⟨ji15, hji15⟩ : ∃ j_ : Int, ((x0_1 / 256) % 256) = j_ := ⟨_, rfl⟩
          replace H : (if 0 ≤ (ji15) then (if (ji15) < 256 then (some (wrap64 ((wrap64 (x2_1 + 8)) + (wrap64 (bt (⟨#[0, 1, 2, 2, 3, 3, 3, 3, 4, 4, 4, 4, 4, 4, 4, 4, 5, 5, 5, 5, 5, 5, 5, 5, 5, 5, 5, 5, 5, 5, 5, 5, 6, 6, 6, 6, 6, 6, 6, 6, 6, 6, 6, 6, 6, 6, 6, 6, 6, 6, 6, 6, 6, 6, 6, 6, 6, 6, 6, 6, 6, 6, 6, 6, 7, 7, 7, 7, 7, 7, 7, 7, 7, 7, 7, 7, 7, 7, 7, 7, 7, 7, 7, 7, 7, 7, 7, 7, 7, 7, 7, 7, 7, 7, 7, 7, 7, 7, 7, 7, 7, 7, 7, 7, 7, 7, 7, 7, 7, 7, 7, 7, 7, 7, 7, 7, 7, 7, 7, 7, 7, 7, 7, 7, 7, 7, 7, 7, 8, 8, 8, 8, 8, 8, 8, 8, 8, 8, 8, 8, 8, 8, 8, 8, 8, 8, 8, 8, 8, 8, 8, 8, 8, 8, 8, 8, 8, 8, 8, 8, 8, 8, 8, 8, 8, 8, 8, 8, 8, 8, 8, 8, 8, 8, 8, 8, 8, 8, 8, 8, 8, 8, 8, 8, 8, 8, 8, 8, 8, 8, 8, 8, 8, 8, 8, 8, 8, 8, 8, 8, 8, 8, 8, 8, 8, 8, 8, 8, 8, 8, 8, 8, 8, 8, 8, 8, 8, 8, 8, 8, 8, 8, 8, 8, 8, 8, 8, 8, 8, 8, 8, 8, 8, 8, 8, 8, 8, 8, 8, 8, 8, 8, 8, 8, 8, 8, 8, 8, 8, 8, 8, 8, 8, 8, 8, 8]⟩ : ByteArray) (ji15)))))) else (none)) else (none)) = some r := by first | (rw [hji15] at H; exact H) | (simp only [hji15] at H ⊢; exact H)
          by_cases c16 : 0 ≤ (ji15)
          · rw [if_pos c16] at H
            have c16b0 : decide (0 ≤ (ji15)) = true := decide_eq_true c16
            clear c16
            by_cases c17 : (ji15) < 256
            · rw [if_pos c17] at H
              have c17b0 : decide ((ji15) < 256) = true := decide_eq_true c17
              clear c17
              obtain rfl := Option.some.inj H
              have p18 : 0 ≤ ((ji15) : Int) := of_decide_eq_true (by first | (with_reducible assumption) | assumption)
              have q18 : (ji15) < (256 : Int) := of_decide_eq_true (by first | (with_reducible assumption) | assumption)
              have hx18 := bt_at (⟨#[0, 1, 2, 2, 3, 3, 3, 3, 4, 4, 4, 4, 4, 4, 4, 4, 5, 5, 5, 5, 5, 5, 5, 5, 5, 5, 5, 5, 5, 5, 5, 5, 6, 6, 6, 6, 6, 6, 6, 6, 6, 6, 6, 6, 6, 6, 6, 6, 6, 6, 6, 6, 6, 6, 6, 6, 6, 6, 6, 6, 6, 6, 6, 6, 7, 7, 7, 7, 7, 7, 7, 7, 7, 7, 7, 7, 7, 7, 7, 7, 7, 7, 7, 7, 7, 7, 7, 7, 7, 7, 7, 7, 7, 7, 7, 7, 7, 7, 7, 7, 7, 7, 7, 7, 7, 7, 7, 7, 7, 7, 7, 7, 7, 7, 7, 7, 7, 7, 7, 7, 7, 7, 7, 7, 7, 7, 7, 7, 8, 8, 8, 8, 8, 8, 8, 8, 8, 8, 8, 8, 8, 8, 8, 8, 8, 8, 8, 8, 8, 8, 8, 8, 8, 8, 8, 8, 8, 8, 8, 8, 8, 8, 8, 8, 8, 8, 8, 8, 8, 8, 8, 8, 8, 8, 8, 8, 8, 8, 8, 8, 8, 8, 8, 8, 8, 8, 8, 8, 8, 8, 8, 8, 8, 8, 8, 8, 8, 8, 8, 8, 8, 8, 8, 8, 8, 8, 8, 8, 8, 8, 8, 8, 8, 8, 8, 8, 8, 8, 8, 8, 8, 8, 8, 8, 8, 8, 8, 8, 8, 8, 8, 8, 8, 8, 8, 8, 8, 8, 8, 8, 8, 8, 8, 8, 8, 8, 8, 8, 8, 8, 8, 8, 8, 8, 8, 8]⟩ : ByteArray) (ji15)
              replace p18 := eq_true p18
              replace q18 := eq_true q18
              go_wp2
              go_ret
              exact ⟨by first | rfl | (simp; done) | (simp only [← hji15] <;> (first | rfl | simp)) | (simp [*]; done), by repeat (first | exact Drawn0.refl _ | apply Drawn0.step)⟩
            · rw [if_neg c17] at H
              exact absurd H (by simp)
          · rw [if_neg c16] at H
            exact absurd H (by simp)
        · rw [if_neg c14] at H
          have c14b0 : decide (256 ≤ x0_1) = false := decide_eq_false c14
          clear c14
          obtain ⟨ji19, hji19⟩ : ∃ j_ : Int, ((x0_1) % 256) = j_ := ⟨_, rfl⟩
          replace H : (if 0 ≤ (ji19) then (if (ji19) < 256 then (some (wrap64 (x2_1 + (wrap64 (bt (⟨#[0, 1, 2, 2, 3, 3, 3, 3, 4, 4, 4, 4, 4, 4, 4, 4, 5, 5, 5, 5, 5, 5, 5, 5, 5, 5, 5, 5, 5, 5, 5, 5, 6, 6, 6, 6, 6, 6, 6, 6, 6, 6, 6, 6, 6, 6, 6, 6, 6, 6, 6, 6, 6, 6, 6, 6, 6, 6, 6, 6, 6, 6, 6, 6, 7, 7, 7, 7, 7, 7, 7, 7, 7, 7, 7, 7, 7, 7, 7, 7, 7, 7, 7, 7, 7, 7, 7, 7, 7, 7, 7, 7, 7, 7, 7, 7, 7, 7, 7, 7, 7, 7, 7, 7, 7, 7, 7, 7, 7, 7, 7, 7, 7, 7, 7, 7, 7, 7, 7, 7, 7, 7, 7, 7, 7, 7, 7, 7, 8, 8, 8, 8, 8, 8, 8, 8, 8, 8, 8, 8, 8, 8, 8, 8, 8, 8, 8, 8, 8, 8, 8, 8, 8, 8, 8, 8, 8, 8, 8, 8, 8, 8, 8, 8, 8, 8, 8, 8, 8, 8, 8, 8, 8, 8, 8, 8, 8, 8, 8, 8, 8, 8, 8, 8, 8, 8, 8, 8, 8, 8, 8, 8, 8, 8, 8, 8, 8, 8, 8, 8, 8, 8, 8, 8, 8, 8, 8, 8, 8, 8, 8, 8, 8, 8, 8, 8, 8, 8, 8, 8, 8, 8, 8, 8, 8, 8, 8, 8, 8, 8, 8, 8, 8, 8, 8, 8, 8, 8, 8, 8, 8, 8, 8, 8, 8, 8, 8, 8, 8, 8, 8, 8, 8, 8, 8, 8]⟩ : ByteArray) (ji19)))))) else (none)) else (none)) = some r := by first | (rw [hji19] at H; exact H) | (simp only [hji19] at H ⊢; exact H)
          by_cases c20 : 0 ≤ (ji19)
          · rw [if_pos c20] at H
            have c20b0 : decide (0 ≤ (ji19)) = true := decide_eq_true c20
            clear c20
            by_cases c21 : (ji19) < 256
            · rw [if_pos c21] at H
              have c21b0 : decide ((ji19) < 256) = true := decide_eq_true c21
              clear c21
              obtain rfl := Option.some.inj H
              have p22 : 0 ≤ ((ji19) : Int) := of_decide_eq_true (by first | (with_reducible assumption) | assumption)
              have q22 : (ji19) < (256 : Int) := of_decide_eq_true (by first | (with_reducible assumption) | assumption)
              have hx22 := bt_at (⟨#[0, 1, 2, 2, 3, 3, 3, 3, 4, 4, 4, 4, 4, 4, 4, 4, 5, 5, 5, 5, 5, 5, 5, 5, 5, 5, 5, 5, 5, 5, 5, 5, 6, 6, 6, 6, 6, 6, 6, 6, 6, 6, 6, 6, 6, 6, 6, 6, 6, 6, 6, 6, 6, 6, 6, 6, 6, 6, 6, 6, 6, 6, 6, 6, 7, 7, 7, 7, 7, 7, 7, 7, 7, 7, 7, 7, 7, 7, 7, 7, 7, 7, 7, 7, 7, 7, 7, 7, 7, 7, 7, 7, 7, 7, 7, 7, 7, 7, 7, 7, 7, 7, 7, 7, 7, 7, 7, 7, 7, 7, 7, 7, 7, 7, 7, 7, 7, 7, 7, 7, 7, 7, 7, 7, 7, 7, 7, 7, 8, 8, 8, 8, 8, 8, 8, 8, 8, 8, 8, 8, 8, 8, 8, 8, 8, 8, 8, 8, 8, 8, 8, 8, 8, 8, 8, 8, 8, 8, 8, 8, 8, 8, 8, 8, 8, 8, 8, 8, 8, 8, 8, 8, 8, 8, 8, 8, 8, 8, 8, 8, 8, 8, 8, 8, 8, 8, 8, 8, 8, 8, 8, 8, 8, 8, 8, 8, 8, 8, 8, 8, 8, 8, 8, 8, 8, 8, 8, 8, 8, 8, 8, 8, 8, 8, 8, 8, 8, 8, 8, 8, 8, 8, 8, 8, 8, 8, 8, 8, 8, 8, 8, 8, 8, 8, 8, 8, 8, 8, 8, 8, 8, 8, 8, 8, 8, 8, 8, 8, 8, 8, 8, 8, 8, 8, 8, 8]⟩ : ByteArray) (ji19)
              replace p22 := eq_true p22
              replace q22 := eq_true q22
              go_wp2
              go_ret
              exact ⟨by first | rfl | (simp; done) | (simp only [← hji19] <;> (first | rfl | simp)) | (simp [*]; done), by repeat (first | exact Drawn0.refl _ | apply Drawn0.step)⟩
            · rw [if_neg c21] at H
              exact absurd H (by simp)
          · rw [if_neg c20] at H
            exact absurd H (by simp)

/-! ### bits_Width: function 12 -/
def bits_Width.l0 : Nat → Int → List Int → Int → Int → Option (Int)
  | 0, _, _, _, _ => none
  | k + 1, x3, x6, x7, x8 => if x8 < x7 then (if 0 ≤ x8 then (if x8 < (x6.length : Int) then (bits_Width.l0 k (Go.bits .or .u64 x3 (rd x6 x8)) x6 x7 (wrap64 (x8 + 1))) else (none)) else (none)) else ((bits_Len64.f k x3).bind fun t102 => (some t102))
def bits_Width.f (k : Nat) (l0 : List Int) : Option (Int) := bits_Width.l0 k 0 l0 (l0.length : Int) 0
theorem bits_Width.mono_l : ∀ k, (∀ y0 y1 y2 y3, LeO (bits_Width.l0 k y0 y1 y2 y3) (bits_Width.l0 (k + 1) y0 y1 y2 y3))
  | 0 => fun _ _ _ _ r h => by simp [bits_Width.l0] at h
  | k + 1 => by
    have ih0 := bits_Width.mono_l k
    · intro y0 y1 y2 y3
      unfold bits_Width.l0
      repeat' first
      | (with_reducible exact ih0 _ _ _ _)
      | (with_reducible exact bits_Len64.mono _ _)
      | (with_reducible exact LeO.refl _)
      | (with_reducible exact LeO.none _)
      | (with_reducible refine LeO.ite ?_ ?_)
      | (with_reducible refine LeO.bind ?_ (fun _ => ?_))
      | exact ih0 _ _ _ _
      | exact bits_Len64.mono _ _
      | exact LeO.none _
      | refine LeO.ite ?_ ?_
      | refine LeO.bind ?_ (fun _ => ?_)
theorem bits_Width.mono : ∀ a0 k, LeO (bits_Width.f k a0) (bits_Width.f (k + 1) a0) := by
  intro a0 k
  have ih0 := bits_Width.mono_l k
  unfold bits_Width.f
  repeat' first
      | (with_reducible exact ih0 _ _ _ _)
      | (with_reducible exact bits_Len64.mono _ _)
      | (with_reducible exact LeO.refl _)
      | (with_reducible exact LeO.none _)
      | (with_reducible refine LeO.ite ?_ ?_)
      | (with_reducible refine LeO.bind ?_ (fun _ => ?_))
      | exact ih0 _ _ _ _
      | exact bits_Len64.mono _ _
      | exact LeO.none _
      | refine LeO.ite ?_ ?_
      | refine LeO.bind ?_ (fun _ => ?_)
set_option maxHeartbeats 8000000 in
set_option maxRecDepth 100000 in
theorem bits_Width.calls (k : Nat) (A0 : Option Addr) (c0 : Nat) (l0 : List Int) (r : Int) (w : World) (hr0 : Kd.C (Kd.int .u64) w A0 l0.length l0) (hc0 : l0.length ≤ c0) (h : bits_Width.f k l0 = some r) :
    Calls Try.prog 12 #[.slice A0 l0.length c0] w fun e w' => e = .returned (.int .i64 r) ∧ Drawn0 w w' := by
  have HR0 := Aside0.mk hr0
  have HC0 := Aside0.mk hc0
  clear hr0 hc0
  have H : (bits_Width.l0 k 0 l0 (l0.length : Int) 0) = some r := h
  clear h
  have H' := Aside0.mk H
  clear H
  go_enter Try.func12, Try.ntmps12
  go_wp2
  go_loopg [3, 8] k (fun kq v3 v8 w' => ∃ (x3_1 : Int) (x8_1 : Int), v3 = .int .u64 x3_1 ∧ v8 = .int .i64 x8_1 ∧ Aside0 (bits_Width.l0 kq x3_1 l0 (l0.length : Int) x8_1 = some r) ∧ Aside0 (kq ≤ k) ∧ Drawn0 w w')
  case atStart => exact ⟨(0), (0), (by first | rfl | (simp; done) | (simp [*]; done)), (by first | rfl | (simp; done) | (simp [*]; done)), H', ⟨Nat.le_refl _⟩, by repeat (first | exact Drawn0.refl _ | apply Drawn0.step)⟩
  case round =>
    clear H'
    try clear c1
    obtain ⟨x3_1, x8_1, rfl, rfl, HA, HK1, ⟨m1, rfl⟩⟩ := hrel
    cases gk with
    | zero => exact absurd HA.out (by simp [bits_Width.l0])
    | succ k1 =>
      have H := HA.out
      clear HA
      simp only [bits_Width.l0] at H
      by_cases c2 : x8_1 < (l0.length : Int)
      · rw [if_pos c2] at H
        have c2b0 : decide (x8_1 < (l0.length : Int)) = true := decide_eq_true c2
        clear c2
        by_cases c3 : 0 ≤ x8_1
        · rw [if_pos c3] at H
          have c3b0 : decide (0 ≤ x8_1) = true := decide_eq_true c3
          clear c3
          by_cases c4 : x8_1 < (l0.length : Int)
          · rw [if_pos c4] at H
            have c4b0 : decide (x8_1 < (l0.length : Int)) = true := decide_eq_true c4
            clear c4
            have H' := Aside0.mk H
            clear H
            have p101 : 0 ≤ (x8_1 : Int) := of_decide_eq_true (by first | (with_reducible assumption) | assumption)
            have q101 : x8_1 < (l0.length : Int) := of_decide_eq_true (by first | (with_reducible assumption) | assumption)
            obtain ⟨ad101, e101, hx101_0⟩ := Kd.at_int HR0.out x8_1 p101 q101
            cases e101
            replace p101 := eq_true p101
            replace q101 := eq_true q101
            go_wp2
            go_roundg k1
            case measure => have := HK1.out; omega
            case rel => exact ⟨(Go.bits .or .u64 x3_1 (rd l0 x8_1)), (wrap64 (x8_1 + 1)), (by first | rfl | (simp; done) | (simp [*]; done)), (by first | rfl | (simp; done) | (simp [*]; done)), H', ⟨by have := HK1.out; omega⟩, by repeat (first | exact Drawn0.refl _ | apply Drawn0.step)⟩
          · rw [if_neg c4] at H
            exact absurd H (by simp)
        · rw [if_neg c3] at H
          exact absurd H (by simp)
      · rw [if_neg c2] at H
        have c2b0 : decide (x8_1 < (l0.length : Int)) = false := decide_eq_false c2
        clear c2
        replace H := Option.bind_eq_some_iff.mp H
        obtain ⟨t102, A50, H⟩ := H
        replace H : (some t102) = some r := H
        have A5 := Aside0.mk A50
        clear A50
        obtain rfl := Option.some.inj H
        go_wp2_with (first | ((with_reducible refine gate_callee (f := 24) rfl ?_); refine goesL_ (some 17) rfl rfl Try.func24 (by kernel_rfl) rfl #[.int .u64 x3_1] rfl (by (try simp only [List.map_toArray, List.map_cons, List.map_nil]); first | done | rfl | (simp only [List.length_drop, List.length_take]; rfl) | (go_simp; simp [IntKind.wrap, IntKind.bits, IntKind.signed]; omega)) ?_; (with_reducible refine (bits_Len64.calls k1 x3_1 t102 _ A5.out).mono ?_); rintro e w' ⟨rfl, ⟨nd, rfl⟩⟩; refine ⟨_, rfl, ?_⟩))
        go_ret
        exact ⟨by first | rfl | (simp; done) | (simp [*]; done), by repeat (first | exact Drawn0.refl _ | apply Drawn0.step)⟩

-- NOT PRINTED: function 22 (bits_writer_put)

/-! ### bits_Pack: function 10 -/
theorem bits_Pack.tab : ∀ i : Nat, i < 256 → bt (⟨#[0, 1, 2, 2, 3, 3, 3, 3, 4, 4, 4, 4, 4, 4, 4, 4, 5, 5, 5, 5, 5, 5, 5, 5, 5, 5, 5, 5, 5, 5, 5, 5, 6, 6, 6, 6, 6, 6, 6, 6, 6, 6, 6, 6, 6, 6, 6, 6, 6, 6, 6, 6, 6, 6, 6, 6, 6, 6, 6, 6, 6, 6, 6, 6, 7, 7, 7, 7, 7, 7, 7, 7, 7, 7, 7, 7, 7, 7, 7, 7, 7, 7, 7, 7, 7, 7, 7, 7, 7, 7, 7, 7, 7, 7, 7, 7, 7, 7, 7, 7, 7, 7, 7, 7, 7, 7, 7, 7, 7, 7, 7, 7, 7, 7, 7, 7, 7, 7, 7, 7, 7, 7, 7, 7, 7, 7, 7, 7, 8, 8, 8, 8, 8, 8, 8, 8, 8, 8, 8, 8, 8, 8, 8, 8, 8, 8, 8, 8, 8, 8, 8, 8, 8, 8, 8, 8, 8, 8, 8, 8, 8, 8, 8, 8, 8, 8, 8, 8, 8, 8, 8, 8, 8, 8, 8, 8, 8, 8, 8, 8, 8, 8, 8, 8, 8, 8, 8, 8, 8, 8, 8, 8, 8, 8, 8, 8, 8, 8, 8, 8, 8, 8, 8, 8, 8, 8, 8, 8, 8, 8, 8, 8, 8, 8, 8, 8, 8, 8, 8, 8, 8, 8, 8, 8, 8, 8, 8, 8, 8, 8, 8, 8, 8, 8, 8, 8, 8, 8, 8, 8, 8, 8, 8, 8, 8, 8, 8, 8, 8, 8, 8, 8, 8, 8, 8, 8]⟩ : ByteArray) (i : Int) = ((blen i : Nat) : Int) := by decide +kernel
theorem bits_Pack.len0 {k x : Nat} {n : Int} (hx : x < 4294967296) (h0 : 0 ≤ n) (h1 : n ≤ 32) : bits_Len64.j0 (k + 1) (x : Int) n = some (((blen x : Nat) : Int) + n) := by
  have T := bits_Pack.tab
  unfold bits_Len64.j0
  generalize (⟨#[0, 1, 2, 2, 3, 3, 3, 3, 4, 4, 4, 4, 4, 4, 4, 4, 5, 5, 5, 5, 5, 5, 5, 5, 5, 5, 5, 5, 5, 5, 5, 5, 6, 6, 6, 6, 6, 6, 6, 6, 6, 6, 6, 6, 6, 6, 6, 6, 6, 6, 6, 6, 6, 6, 6, 6, 6, 6, 6, 6, 6, 6, 6, 6, 7, 7, 7, 7, 7, 7, 7, 7, 7, 7, 7, 7, 7, 7, 7, 7, 7, 7, 7, 7, 7, 7, 7, 7, 7, 7, 7, 7, 7, 7, 7, 7, 7, 7, 7, 7, 7, 7, 7, 7, 7, 7, 7, 7, 7, 7, 7, 7, 7, 7, 7, 7, 7, 7, 7, 7, 7, 7, 7, 7, 7, 7, 7, 7, 8, 8, 8, 8, 8, 8, 8, 8, 8, 8, 8, 8, 8, 8, 8, 8, 8, 8, 8, 8, 8, 8, 8, 8, 8, 8, 8, 8, 8, 8, 8, 8, 8, 8, 8, 8, 8, 8, 8, 8, 8, 8, 8, 8, 8, 8, 8, 8, 8, 8, 8, 8, 8, 8, 8, 8, 8, 8, 8, 8, 8, 8, 8, 8, 8, 8, 8, 8, 8, 8, 8, 8, 8, 8, 8, 8, 8, 8, 8, 8, 8, 8, 8, 8, 8, 8, 8, 8, 8, 8, 8, 8, 8, 8, 8, 8, 8, 8, 8, 8, 8, 8, 8, 8, 8, 8, 8, 8, 8, 8, 8, 8, 8, 8, 8, 8, 8, 8, 8, 8, 8, 8, 8, 8, 8, 8, 8, 8]⟩ : ByteArray) = tb at *
  dsimp only
  have b8 : ∀ y : Nat, y < 65536 → 256 ≤ y → blen y = blen (y / 256) + 8 := fun y _ h => blen_div (k := 8) h
  have w0 : ∀ y : Nat, y < 256 → wrap64 (bt tb (y : Int)) = ((blen y : Nat) : Int) := fun y hy => by
    have h := blen_le (n := y) (w := 8); have : blen y ≤ 8 := h.2 (by omega)
    rw [T y hy, w64 (by omega) (by omega)]
  have w1 : ∀ y : Nat, y < 256 → ((blen y : Nat) : Int) ≤ 8 := fun y hy => by
    have h := blen_le (n := y) (w := 8); have : blen y ≤ 8 := h.2 (by omega)
    omega
  by_cases c1 : 65536 ≤ x
  · have e1 : ((x : Int) / 65536) = ((x / 65536 : Nat) : Int) := by omega
    have b16 : blen x = blen (x / 65536) + 16 := blen_div (k := 16) c1
    rw [if_pos (by omega), e1]
    obtain ⟨y, hy⟩ : ∃ y, x / 65536 = y := ⟨_, rfl⟩
    rw [hy] at b16 ⊢
    have hyl : y < 65536 := by omega
    by_cases c2 : 256 ≤ y
    · have e2 : (((y : Nat) : Int) / 256) % 256 = ((y / 256 : Nat) : Int) := by omega
      have h := w1 (y / 256) (by omega)
      rw [if_pos (by omega), e2, if_pos (by omega), if_pos (by omega), w0 _ (by omega), w64 (x := n + 16) (by omega) (by omega), w64 (x := n + 16 + 8) (by omega) (by omega), w64 (by omega) (by omega), b16, b8 y hyl c2]
      congr 1 <;> omega
    · have e2 : (((y : Nat) : Int)) % 256 = ((y : Nat) : Int) := by omega
      have h := w1 y (by omega)
      rw [if_neg (by omega), e2, if_pos (by omega), if_pos (by omega), w0 _ (by omega), w64 (x := n + 16) (by omega) (by omega), w64 (by omega) (by omega), b16]
      congr 1 <;> omega
  · rw [if_neg (by omega)]
    by_cases c2 : 256 ≤ x
    · have e2 : (((x : Nat) : Int) / 256) % 256 = ((x / 256 : Nat) : Int) := by omega
      have h := w1 (x / 256) (by omega)
      rw [if_pos (by omega), e2, if_pos (by omega), if_pos (by omega), w0 _ (by omega), w64 (x := n + 8) (by omega) (by omega), w64 (by omega) (by omega), b8 x (by omega) c2]
      congr 1 <;> omega
    · have e2 : (((x : Nat) : Int)) % 256 = ((x : Nat) : Int) := by omega
      have h := w1 x (by omega)
      rw [if_neg (by omega), e2, if_pos (by omega), if_pos (by omega), w0 _ (by omega), w64 (by omega) (by omega)]
      congr 1 <;> omega
theorem bits_Pack.len {k x : Nat} (hk : 1 ≤ k) (hx : x < 18446744073709551616) : bits_Len64.f k (x : Int) = some ((blen x : Nat) : Int) := by
  obtain ⟨k, rfl⟩ : ∃ m, k = m + 1 := ⟨k - 1, by omega⟩
  unfold bits_Len64.f
  by_cases c : 4294967296 ≤ x
  · have e : ((x : Int) / 4294967296) = ((x / 4294967296 : Nat) : Int) := by omega
    have b : blen x = blen (x / 4294967296) + 32 := blen_div (k := 32) c
    rw [if_pos (by omega), e, bits_Pack.len0 (by omega) (by omega) (by omega), b]
    congr 1
  · rw [if_neg (by omega), bits_Pack.len0 (by omega) (by omega) (by omega)]
    congr 1 <;> omega
theorem bits_Pack.wid0 {l : List Int} (hl : l.length ≤ 17592186044416) (h : U64 l) : ∀ (d k i a : Nat), i + d = l.length → d + 1 < k → a < 18446744073709551616 → bits_Width.l0 k (a : Int) l (l.length : Int) (i : Int) = some ((blen (((unats l).drop i).foldl (· ||| ·) a) : Nat) : Int) := by
  intro d
  induction d with
  | zero =>
    intro k i a hi hk ha
    obtain ⟨k, rfl⟩ : ∃ m, k = m + 1 := ⟨k - 1, by omega⟩
    simp only [bits_Width.l0]
    rw [if_neg (by omega), bits_Pack.len (by omega) ha, List.drop_eq_nil_of_le (by rw [unats_len]; omega)]
    rfl
  | succ d ih =>
    intro k i a hi hk ha
    obtain ⟨k, rfl⟩ : ∃ m, k = m + 1 := ⟨k - 1, by omega⟩
    obtain ⟨e, hx⟩ := rd_unats h (show i < l.length by omega)
    simp only [bits_Width.l0]
    have e2 : wrap64 ((i : Int) + 1) = ((i + 1 : Nat) : Int) := by rw [w64 (by omega) (by omega)]; omega
    have hil : i < (unats l).length := by rw [unats_len]; omega
    have e3 : (unats l).drop i = (unats l).getD i 0 :: (unats l).drop (i + 1) := by
      rw [List.drop_eq_getElem_cons hil, List.getD_eq_getElem?_getD, List.getElem?_eq_getElem hil]; rfl
    rw [if_pos (by omega), if_pos (by omega), if_pos (by omega), e, e2, Go.u64_or_nat _ _ ha hx, ih k (i + 1) _ (by omega) (by omega) (or_lt (w := 64) |>.2 ⟨ha, hx⟩), e3]
    rfl
theorem bits_Pack.wid {l : List Int} {k : Nat} (hl : l.length ≤ 17592186044416) (h : U64 l) (hk : l.length + 1 < k) : bits_Width.f k l = some ((wd (unats l) : Nat) : Int) := by
  unfold bits_Width.f
  exact bits_Pack.wid0 hl h l.length k 0 0 (by omega) (by omega) (by omega)
set_option maxHeartbeats 1000000 in
set_option maxRecDepth 100000 in
theorem bits_Pack.w1 (A0 : Option Addr) (c0 : Nat) (l0 : List Int) (a1 : Int) (w : World) (h : a1 < 0 ∨ 64 < a1) :
    Calls Try.prog 10 #[.slice A0 l0.length c0, .int .i64 a1] w fun e w' => e = .returned (.tuple #[.string ⟨#[]⟩, .int .i64 1]) ∧ Below w.heap.size w w' := by
  by_cases c : a1 < 0
  · have d1 : decide (a1 < 0) = true := decide_eq_true c
    clear h c
    go_enter Try.func10, Try.ntmps10
    go_wp2
    go_ret2
    exact ⟨rfl, Below.refl _ _⟩
  · have d1 : decide (a1 < 0) = false := decide_eq_false c
    have d2 : decide (64 < a1) = true := decide_eq_true (by omega)
    clear h c
    go_enter Try.func10, Try.ntmps10
    go_wp2
    go_ret2
    exact ⟨rfl, Below.refl _ _⟩
set_option maxHeartbeats 1000000 in
set_option maxRecDepth 100000 in
theorem bits_Pack.w2 (A0 : Option Addr) (c0 : Nat) (l0 : List Int) (a1 : Int) (w : World) (hr0 : Kd.C (Kd.int .u64) w A0 l0.length l0) (hc0 : l0.length ≤ c0) (h1 : ¬ a1 < 0) (h2 : ¬ 64 < a1) (k : Nat) (W : Int) (hW : bits_Width.f k l0 = some W) (h3 : a1 < W) :
    Calls Try.prog 10 #[.slice A0 l0.length c0, .int .i64 a1] w fun e w' => e = .returned (.tuple #[.string ⟨#[]⟩, .int .i64 4]) ∧ Below w.heap.size w w' := by
  have d1 : decide (a1 < 0) = false := decide_eq_false h1
  have d2 : decide (64 < a1) = false := decide_eq_false h2
  have d3 : decide (a1 < W) = true := decide_eq_true h3
  have HR := Aside0.mk hr0; have HC := Aside0.mk hc0; have HW := Aside0.mk hW
  clear h1 h2 h3 hr0 hc0 hW
  go_enter Try.func10, Try.ntmps10
  go_wp2_with fail
  refine (bits_Width.calls k A0 c0 l0 W _ HR.out HC.out HW.out).mono ?_; rintro e w1 ⟨rfl, ⟨nd, rfl⟩⟩
  go_wp2
  go_ret2
  exact ⟨rfl, pw_below_drewN (Below.refl _ _) _⟩
set_option maxHeartbeats 4000000 in
set_option maxRecDepth 100000 in
theorem bits_Pack.w3 (A0 : Option Addr) (c0 : Nat) (l0 : List Int) (q : Nat) (w : World) (hr0 : Kd.C (Kd.int .u64) w A0 l0.length l0) (hc0 : l0.length ≤ c0) (hq : q ≤ 64) (hU : U64 l0) (hl : l0.length ≤ 17592186043904) (hwd : wd (unats l0) ≤ q) :
    Calls Try.prog 10 #[.slice A0 l0.length c0, .int .i64 (q : Int)] w fun e w' => e = .returned (.tuple #[.string (strOfNums (ints (pk q (unats l0)))), .int .i64 0]) ∧ Below w.heap.size w w' := by
  have hW := bits_Pack.wid (k := l0.length + 2) (by omega) hU (by omega)
  obtain ⟨W, hWW⟩ : ∃ W, wd (unats l0) = W := ⟨_, rfl⟩
  have hlt : ∀ x ∈ unats l0, x < 2 ^ q := wd_le.1 hwd
  rw [hWW] at hW hwd
  have d1 : decide ((q : Int) < 0) = false := decide_eq_false (by omega)
  have d2 : decide (64 < (q : Int)) = false := decide_eq_false (by omega)
  have d3 : decide ((q : Int) < (W : Int)) = false := decide_eq_false (by omega)
  have d4 : decide (q < W) = false := decide_eq_false (by omega)
  have d5 : decide (64 < q) = false := decide_eq_false (by omega)
  have HR := Aside0.mk hr0; have HC := Aside0.mk hc0; have HW := Aside0.mk hW; have HU := Aside0.mk hU; have HLT := Aside0.mk hlt
  clear hWW hr0 hc0 hW hU hlt hwd
  go_enter Try.func10, Try.ntmps10
  go_wp2_with fail
  refine (bits_Width.calls (l0.length + 2) A0 c0 l0 _ _ HR.out HC.out HW.out).mono ?_; rintro e w1 ⟨rfl, ⟨nd, rfl⟩⟩
  go_wp2_with fail
  have hnew : WR w ((w.drewN nd).alloc (.cells #[.slice none 0 0, .int .i64 0] 46)) w.heap.size (ints (wb (val (2 ^ q) ((unats l0).take 0)) (0 * q))) (0 * q) := by
    refine ⟨.slice none 0 0, ?_, Nat.le_refl _, ?_⟩
    · rw [Nat.zero_mul]; exact heap_alloc_new (w.drewN nd) _
    · rw [Nat.zero_mul]; exact Kd.R_nil _ _ _ _ _
  have hbw : Below w.heap.size w ((w.drewN nd).alloc (.cells #[.slice none 0 0, .int .i64 0] 46)) := below_alloc (pw_below_drewN (Below.refl _ _) _) _
  have HN := Aside0.mk hnew; have HB := Aside0.mk hbw
  clear hnew hbw
  go_loopg [25] l0.length (fun gq s25 wx => ∃ i : Nat, i ≤ l0.length ∧ gq = l0.length - i ∧ s25 = .int .i64 (i : Int) ∧ Aside0 (WR w wx w.heap.size (ints (wb (val (2 ^ q) ((unats l0).take i)) (i * q))) (i * q)) ∧ Aside0 (Below w.heap.size w wx))
  case atStart => exact ⟨0, by omega, by omega, rfl, HN, HB⟩
  case round =>
    clear HN HB
    obtain ⟨i, hi, rfl, rfl, HN, HB⟩ := hrel
    by_cases hlt : i < l0.length
    · obtain ⟨g1, hg1⟩ : ∃ g1, l0.length - i = g1 + 1 := ⟨l0.length - i - 1, by omega⟩
      have k2 : decide ((i : Int) < (l0.length : Int)) = true := decide_eq_true (by omega)
      have k2' : decide (i < l0.length) = true := decide_eq_true hlt
      obtain ⟨ad, hA, hcell⟩ := Kd.at_int HR.out (i : Int) (by omega) (by omega)
      obtain ⟨hx1, hx2⟩ := rd_unats HU.out hlt
      have htk := take_unats (l := l0) hlt
      have hxq : (unats l0).getD i 0 < 2 ^ q := by
        have hil : i < (unats l0).length := by rw [unats_len]; exact hlt
        rw [List.getD_eq_getElem?_getD, List.getElem?_eq_getElem hil]; exact HLT.out _ (List.getElem_mem hil)
      have hvn := val_next (l := unats l0) (i := i) (by rw [unats_len]; omega) hxq
      have hsm := val_take_lt (l := unats l0) (i := i) HLT.out (by rw [unats_len]; omega)
      rw [hx1, Int.toNat_natCast] at hcell
      rw [← htk] at hvn
      cases hA
      replace hcell := (HB.out.cell (World.block_lt_of_cell? w _ hcell)).trans hcell
      obtain ⟨x, hxx⟩ : ∃ x, (unats l0).getD i 0 = x := ⟨_, rfl⟩
      rw [hxx] at hcell hx2 hvn
      have i1 : (0 : Int) ≤ (i : Int) := by omega
      have i2 : (i : Int) < (l0.length : Int) := by omega
      replace i1 := eq_true i1; replace i2 := eq_true i2
      have hmul : i * q + q = (i + 1) * q := by rw [Nat.succ_mul]
      have hbnd : i * q + q ≤ 1125899906842560 := by
        have : (i + 1) * q ≤ 17592186043904 * 64 := Nat.mul_le_mul (by omega) hq
        omega
      have HV := Aside0.mk hvn; have HS := Aside0.mk hsm; have HM := Aside0.mk hmul; have HBN := Aside0.mk hbnd; have HX := Aside0.mk hx2
      clear hvn hsm hmul hbnd hx1 hxx hxq htk hx2
      have HLT2 := Aside0.mk hlt; clear hlt
      go_wp2_with fail
      refine (put_calls (w0 := w) x q HS.out HX.out hq HBN.out HN.out HB.out).mono ?_; rintro e w2 ⟨rfl, hw2, hb2⟩
      rw [HV.out, HM.out] at hw2
      have HN2 := Aside0.mk hw2; have HB2 := Aside0.mk hb2
      clear hw2 hb2 HN HB
      go_wp2
      go_roundg g1
      case measure => omega
      case rel => exact ⟨i + 1, by have := HLT2.out; omega, by omega, by go_num, HN2, HB2⟩
    · have e : i = l0.length := by omega
      have k2 : decide ((i : Int) < (l0.length : Int)) = false := decide_eq_false (by omega)
      have k2' : decide (i < l0.length) = false := decide_eq_false hlt
      obtain ⟨v, h1, h2, ho⟩ := HN.out
      have hcv := own_string (P := Try.prog) Try.underlying44 Try.underlying5 Try.underlying9 (Kd.own_of_R ho)
      have c0 : wr.cell? ⟨w.heap.size, 0, none⟩ = some v := (blk_cell h1 0).trans rfl
      have HE := Aside0.mk e
      clear hlt e h1 h2 ho hi
      go_wp2
      go_ret2
      refine ⟨?_, HB.out⟩
      have e := HE.out
      subst e
      rw [pk_wb, unats_len, List.take_of_length_le (by rw [unats_len]; exact Nat.le_refl _)]
      rfl
def bits_Pack.f (l0 : List Int) (a1 : Int) : Option (ByteArray × Int) :=
  if l0.length ≤ 17592186043904 ∧ U64 l0 then some (if a1 < 0 ∨ 64 < a1 then (⟨#[]⟩, 1) else if ((wd (unats l0) : Nat) : Int) ≤ a1 then (strOfNums (ints (pk a1.toNat (unats l0))), 0) else (⟨#[]⟩, 4)) else none
theorem bits_Pack.calls (A0 : Option Addr) (c0 : Nat) (l0 : List Int) (a1 : Int) (r1 : ByteArray) (r2 : Int) (w : World) (hr0 : Kd.C (Kd.int .u64) w A0 l0.length l0) (hc0 : l0.length ≤ c0) (h : bits_Pack.f l0 a1 = some (r1, r2)) :
    Calls Try.prog 10 #[.slice A0 l0.length c0, .int .i64 a1] w fun e w' => e = .returned (.tuple #[.string r1, .int .i64 r2]) ∧ Below w.heap.size w w' := by
  unfold bits_Pack.f at h
  split at h
  · rename_i hU
    obtain ⟨hl, hU⟩ := hU
    have h := Option.some.inj h
    by_cases c : a1 < 0 ∨ 64 < a1
    · rw [if_pos c] at h
      injection h with h1 h2
      subst h1 h2
      exact bits_Pack.w1 A0 c0 l0 a1 w c
    · rw [if_neg c] at h
      obtain ⟨q, rfl⟩ : ∃ q : Nat, a1 = (q : Int) := ⟨a1.toNat, by omega⟩
      by_cases c2 : ((wd (unats l0) : Nat) : Int) ≤ (q : Int)
      · rw [if_pos c2, Int.toNat_natCast] at h
        injection h with h1 h2
        subst h1 h2
        exact bits_Pack.w3 A0 c0 l0 q w hr0 hc0 (by omega) hU hl (by omega)
      · rw [if_neg c2] at h
        injection h with h1 h2
        subst h1 h2
        exact bits_Pack.w2 A0 c0 l0 q w hr0 hc0 (by omega) (by omega) (l0.length + 2) _ (bits_Pack.wid (by omega) hU (by omega)) (by omega)
  · exact absurd h (by simp)


/-! ### bits_fits: function 25 -/
def bits_fits.f (a0 : ByteArray) (a1 : Int) : Option (Int) := if (a0.size : Int) < (wrap64 (Int.tdiv (wrap64 (a1 + 7)) 8)) then (some 2) else (if (a0.size : Int) > (wrap64 (Int.tdiv (wrap64 (a1 + 7)) 8)) then (some 3) else (if (Int.tmod a1 8) = 0 then (some 0) else (if 0 ≤ (wrap64 ((wrap64 (Int.tdiv (wrap64 (a1 + 7)) 8)) - 1)) then (if (wrap64 ((wrap64 (Int.tdiv (wrap64 (a1 + 7)) 8)) - 1)) < (a0.size : Int) then (if 0 ≤ (Int.tmod a1 8) then (if (shr .u8 (bt a0 (wrap64 ((wrap64 (Int.tdiv (wrap64 (a1 + 7)) 8)) - 1))) (Int.tmod a1 8)) = 0 then (some 0) else (some 5)) else (none)) else (none)) else (none))))
set_option maxHeartbeats 8000000 in
set_option maxRecDepth 100000 in
theorem bits_fits.calls (a0 : ByteArray) (a1 : Int) (r : Int) (w : World) (h : bits_fits.f a0 a1 = some r) :
    Calls Try.prog 25 #[.string a0, .int .i64 a1] w fun e w' => e = .returned (.int .i64 r) ∧ Drawn0 w w' := by
  have H : (if (a0.size : Int) < (wrap64 (Int.tdiv (wrap64 (a1 + 7)) 8)) then (some 2) else (if (a0.size : Int) > (wrap64 (Int.tdiv (wrap64 (a1 + 7)) 8)) then (some 3) else (if (Int.tmod a1 8) = 0 then (some 0) else (if 0 ≤ (wrap64 ((wrap64 (Int.tdiv (wrap64 (a1 + 7)) 8)) - 1)) then (if (wrap64 ((wrap64 (Int.tdiv (wrap64 (a1 + 7)) 8)) - 1)) < (a0.size : Int) then (if 0 ≤ (Int.tmod a1 8) then (if (shr .u8 (bt a0 (wrap64 ((wrap64 (Int.tdiv (wrap64 (a1 + 7)) 8)) - 1))) (Int.tmod a1 8)) = 0 then (some 0) else (some 5)) else (none)) else (none)) else (none))))) = some r := h
  clear h
  by_cases c3 : (a0.size : Int) < (wrap64 (Int.tdiv (wrap64 (a1 + 7)) 8))
  · rw [if_pos c3] at H
    have c3b0 : decide ((a0.size : Int) < (wrap64 (Int.tdiv (wrap64 (a1 + 7)) 8))) = true := decide_eq_true c3
    clear c3
    obtain rfl := Option.some.inj H
    go_enter Try.func25, Try.ntmps25
    go_wp2
    go_ret
    exact ⟨by first | rfl | (simp; done) | (simp [*]; done), by repeat (first | exact Drawn0.refl _ | apply Drawn0.step)⟩
  · rw [if_neg c3] at H
    have c3b0 : decide ((a0.size : Int) < (wrap64 (Int.tdiv (wrap64 (a1 + 7)) 8))) = false := decide_eq_false c3
    clear c3
    by_cases c4 : (a0.size : Int) > (wrap64 (Int.tdiv (wrap64 (a1 + 7)) 8))
    · rw [if_pos c4] at H
      have c4b0 : decide ((wrap64 (Int.tdiv (wrap64 (a1 + 7)) 8)) < (a0.size : Int)) = true := decide_eq_true c4
      clear c4
      obtain rfl := Option.some.inj H
      go_enter Try.func25, Try.ntmps25
      go_wp2
      go_ret
      exact ⟨by first | rfl | (simp; done) | (simp [*]; done), by repeat (first | exact Drawn0.refl _ | apply Drawn0.step)⟩
    · rw [if_neg c4] at H
      have c4b0 : decide ((wrap64 (Int.tdiv (wrap64 (a1 + 7)) 8)) < (a0.size : Int)) = false := decide_eq_false c4
      clear c4
      by_cases c5 : (Int.tmod a1 8) = 0
      · rw [if_pos c5] at H
        have c5b0 : ((Int.tmod a1 8) == 0) = true := beq_iff_eq.mpr c5
        have c5b1 : ((Int.tmod a1 8) != 0) = false := bne_eq_false_iff_eq.mpr c5
        clear c5
        obtain rfl := Option.some.inj H
        go_enter Try.func25, Try.ntmps25
        go_wp2
        go_ret
        exact ⟨by first | rfl | (simp; done) | (simp [*]; done), by repeat (first | exact Drawn0.refl _ | apply Drawn0.step)⟩
      · rw [if_neg c5] at H
        have c5b0 : ((Int.tmod a1 8) == 0) = false := beq_eq_false_iff_ne.mpr c5
        have c5b1 : ((Int.tmod a1 8) != 0) = true := bne_iff_ne.mpr c5
        obtain ⟨ji6, hji6⟩ : ∃ j_ : Int, (wrap64 ((wrap64 (Int.tdiv (wrap64 (a1 + 7)) 8)) - 1)) = j_ := ⟨_, rfl⟩
        replace H : (if 0 ≤ (ji6) then (if (ji6) < (a0.size : Int) then (if 0 ≤ (Int.tmod a1 8) then (if (shr .u8 (bt a0 (ji6)) (Int.tmod a1 8)) = 0 then (some 0) else (some 5)) else (none)) else (none)) else (none)) = some r := by first | (rw [hji6] at H; exact H) | (simp only [hji6] at H ⊢; exact H)
        have hji6w : (IntKind.i64.wrap ((wrap64 (Int.tdiv (wrap64 (a1 + 7)) 8)) - 1)) = ji6 := (i64_w _).trans hji6
        by_cases c7 : 0 ≤ (ji6)
        · rw [if_pos c7] at H
          have c7b0 : decide (0 ≤ (ji6)) = true := decide_eq_true c7
          clear c7
          by_cases c8 : (ji6) < (a0.size : Int)
          · rw [if_pos c8] at H
            have c8b0 : decide ((ji6) < (a0.size : Int)) = true := decide_eq_true c8
            clear c8
            obtain ⟨ji10, hji10⟩ : ∃ j_ : Int, (Int.tmod a1 8) = j_ := ⟨_, rfl⟩
            replace H : (if 0 ≤ (ji10) then (if (shr .u8 (bt a0 (ji6)) (ji10)) = 0 then (some 0) else (some 5)) else (none)) = some r := by first | (rw [hji10] at H; exact H) | (simp only [hji10] at H ⊢; exact H)
            (try rw [hji10] at c5b0)
            (try rw [hji10] at c5b1)
            by_cases c11 : 0 ≤ (ji10)
            · rw [if_pos c11] at H
              have c11b0 := eq_true c11
              have c11b1 : decide (0 ≤ (ji10)) = true := decide_eq_true c11
              clear c11
              obtain ⟨ji12, hji12⟩ : ∃ j_ : Int, (shr .u8 (bt a0 (ji6)) (ji10)) = j_ := ⟨_, rfl⟩
              replace H : (if (ji12) = 0 then (some 0) else (some 5)) = some r := by first | (rw [hji12] at H; exact H) | (simp only [hji12] at H ⊢; exact H)
              have hji12_ : ((bt a0 (ji6)) / 2 ^ min (ji10).toNat 8) = ji12 := hji12
              have hji12z : (ji10) ≤ 8 → ((bt a0 (ji6)) / 2 ^ (ji10).toNat) = ji12 := shr_small hji12
              by_cases c13 : (ji12) = 0
              · rw [if_pos c13] at H
                have c13b0 : ((ji12) == 0) = true := beq_iff_eq.mpr c13
                have c13b1 : ((ji12) != 0) = false := bne_eq_false_iff_eq.mpr c13
                clear c13
                obtain rfl := Option.some.inj H
                have p9 : 0 ≤ ((ji6) : Int) := of_decide_eq_true (by first | (with_reducible assumption) | assumption)
                have q9 : (ji6) < (a0.size : Int) := of_decide_eq_true (by first | (with_reducible assumption) | assumption)
                have hx9 := bt_at a0 (ji6)
                replace p9 := eq_true p9
                replace q9 := eq_true q9
                go_enter Try.func25, Try.ntmps25
                go_wp2
                go_ret
                exact ⟨by first | rfl | (simp; done) | (simp only [← hji6, ← hji10, ← hji12] <;> (first | rfl | simp)) | (simp [*]; done), by repeat (first | exact Drawn0.refl _ | apply Drawn0.step)⟩
              · rw [if_neg c13] at H
                have c13b0 : ((ji12) == 0) = false := beq_eq_false_iff_ne.mpr c13
                have c13b1 : ((ji12) != 0) = true := bne_iff_ne.mpr c13
                obtain rfl := Option.some.inj H
                have p9 : 0 ≤ ((ji6) : Int) := of_decide_eq_true (by first | (with_reducible assumption) | assumption)
                have q9 : (ji6) < (a0.size : Int) := of_decide_eq_true (by first | (with_reducible assumption) | assumption)
                have hx9 := bt_at a0 (ji6)
                replace p9 := eq_true p9
                replace q9 := eq_true q9
                go_enter Try.func25, Try.ntmps25
                go_wp2
                go_ret
                exact ⟨by first | rfl | (simp; done) | (simp only [← hji6, ← hji10, ← hji12] <;> (first | rfl | simp)) | (simp [*]; done), by repeat (first | exact Drawn0.refl _ | apply Drawn0.step)⟩
            · rw [if_neg c11] at H
              exact absurd H (by simp)
          · rw [if_neg c8] at H
            exact absurd H (by simp)
        · rw [if_neg c7] at H
          exact absurd H (by simp)

-- NOT PRINTED: function 26 (bits_reader_get)

/-! ### bits_Unpack: function 14 -/
theorem bits_Unpack.fits {s : ByteArray} {m : Nat} (hm : m ≤ 4194304) : bits_fits.f s (m : Int) = some (fitE s m) := by
  have e1 : wrap64 ((m : Int) + 7) = ((m + 7 : Nat) : Int) := by rw [w64 (by omega) (by omega)]; omega
  have e2 : Int.tdiv ((m + 7 : Nat) : Int) 8 = ((need m : Nat) : Int) := by rw [Int.tdiv_eq_ediv_of_nonneg (by omega)]; unfold need; omega
  have hnl : need m ≤ 4194304 := by unfold need; omega
  have e3 : wrap64 ((need m : Nat) : Int) = ((need m : Nat) : Int) := w64 (by omega) (by omega)
  have e4 : Int.tmod (m : Int) 8 = ((m % 8 : Nat) : Int) := by rw [Int.tmod_eq_emod_of_nonneg (by omega)]; omega
  unfold bits_fits.f fitE
  rw [e1, e2, e3, e4]
  by_cases c1 : s.size < need m
  · rw [if_pos (by omega), if_pos c1]
  · rw [if_neg (by omega), if_neg c1]
    by_cases c2 : need m < s.size
    · rw [if_pos (by omega), if_pos c2]
    · have hs : s.size = need m := by omega
      rw [if_neg (by omega), if_neg c2]
      by_cases c3 : m % 8 = 0
      · rw [if_pos (by omega), if_pos (num_whole hs c3)]
      · have hn1 : 1 ≤ need m := by unfold need; omega
        have e5 : wrap64 (((need m : Nat) : Int) - 1) = ((need m - 1 : Nat) : Int) := by rw [w64 (by omega) (by omega)]; omega
        have e6 : bt s ((need m - 1 : Nat) : Int) = ((byt s (need m - 1) : Nat) : Int) := by
          have h1 := byt_at s (need m - 1) (by omega)
          have h2 := bt_at s ((need m - 1 : Nat) : Int) (by rw [Int.toNat_natCast]; omega)
          rw [← h2, ← h1]; rfl
        have e7 : shr .u8 ((byt s (need m - 1) : Nat) : Int) ((m % 8 : Nat) : Int) = ((byt s (need m - 1) / 2 ^ (m % 8) : Nat) : Int) := by
          unfold shr
          rw [Int.toNat_natCast, Nat.min_eq_left (show m % 8 ≤ IntKind.u8.bits by show m % 8 ≤ 8; omega)]
          simp
        rw [if_neg (by omega), e5, if_pos (by omega), if_pos (by omega), if_pos (by omega), e6, e7]
        by_cases c4 : byt s (need m - 1) / 2 ^ (m % 8) = 0
        · rw [if_pos (by omega), if_pos ((num_top hs c3).2 c4)]
        · rw [if_neg (by omega), if_neg (fun h => c4 ((num_top hs c3).1 h))]
set_option maxHeartbeats 1000000 in
set_option maxRecDepth 100000 in
theorem bits_Unpack.w1 (a0 : ByteArray) (a1 a2 : Int) (w : World) (b1 b2 b3 b4 : Bool) (h1 : decide (a2 < 0) = b1) (h2 : decide (64 < a2) = b2) (h3 : decide (a1 < 0) = b3) (h4 : decide (65536 < a1) = b4) (h : (b1 || b2 || b3 || b4) = true) :
    Calls Try.prog 14 #[.string a0, .int .i64 a1, .int .i64 a2] w fun e w' => e = .returned (.tuple #[.slice none 0 0, .int .i64 1]) ∧ Below w.heap.size w w' := by
  cases b1
  · cases b2
    · cases b3
      · cases b4
        · exact absurd h (by decide)
        · clear h
          go_enter Try.func14, Try.ntmps14
          go_wp2
          go_ret2
          exact ⟨rfl, Below.refl _ _⟩
      · clear h
        go_enter Try.func14, Try.ntmps14
        go_wp2
        go_ret2
        exact ⟨rfl, Below.refl _ _⟩
    · clear h
      go_enter Try.func14, Try.ntmps14
      go_wp2
      go_ret2
      exact ⟨rfl, Below.refl _ _⟩
  · clear h
    go_enter Try.func14, Try.ntmps14
    go_wp2
    go_ret2
    exact ⟨rfl, Below.refl _ _⟩
set_option maxHeartbeats 1000000 in
set_option maxRecDepth 100000 in
theorem bits_Unpack.w2 (a0 : ByteArray) (n q : Nat) (w : World) (hn : n ≤ 65536) (hq : q ≤ 64) (E : Int) (hE : fitE a0 (n * q) = E) (h0 : E ≠ 0) :
    Calls Try.prog 14 #[.string a0, .int .i64 (n : Int), .int .i64 (q : Int)] w fun e w' => e = .returned (.tuple #[.slice none 0 0, .int .i64 E]) ∧ Below w.heap.size w w' := by
  have hm : n * q ≤ 4194304 := Nat.le_trans (Nat.mul_le_mul hn hq) (by decide)
  have hf := bits_Unpack.fits (s := a0) hm
  rw [hE] at hf
  have d1 : decide ((q : Int) < 0) = false := decide_eq_false (by omega)
  have d2 : decide (64 < (q : Int)) = false := decide_eq_false (by omega)
  have d3 : decide ((n : Int) < 0) = false := decide_eq_false (by omega)
  have d4 : decide (65536 < (n : Int)) = false := decide_eq_false (by omega)
  have d5 : (E != 0) = true := bne_iff_ne.mpr h0
  have d6 : (E == 0) = false := beq_eq_false_iff_ne.mpr h0
  have d7 : decide (64 < q) = false := decide_eq_false (by omega)
  have d8 : decide (65536 < n) = false := decide_eq_false (by omega)
  have e1 : (n : Int) * (q : Int) = ((n * q : Nat) : Int) := (Int.natCast_mul n q).symm
  have e2 : wrap64 ((n * q : Nat) : Int) = ((n * q : Nat) : Int) := w64 (by omega) (by omega)
  have e3 : IntKind.i64.wrap ((n : Int) * (q : Int)) = ((n * q : Nat) : Int) := by rw [e1, i64_w]; exact e2
  obtain ⟨m, hmm⟩ : ∃ m, n * q = m := ⟨_, rfl⟩
  rw [hmm] at e1 e2 e3 hf
  have HF := Aside0.mk hf
  clear hf hE h0 hm hmm
  go_enter Try.func14, Try.ntmps14
  go_wp2_with fail
  refine (bits_fits.calls a0 (m : Int) E _ HF.out).mono ?_; rintro e w1 ⟨rfl, ⟨nd, rfl⟩⟩
  go_wp2
  go_ret2
  exact ⟨rfl, pw_below_drewN (Below.refl _ _) _⟩
set_option maxHeartbeats 4000000 in
set_option maxRecDepth 100000 in
theorem bits_Unpack.w3 (a0 : ByteArray) (n q : Nat) (w : World) (hS : a0.size ≤ 140737488355328) (hn : n ≤ 65536) (hq : q ≤ 64) (hE : fitE a0 (n * q) = 0) :
    Calls Try.prog 14 #[.string a0, .int .i64 (n : Int), .int .i64 (q : Int)] w fun e w' => ∃ v0_ : Value, e = .returned (.tuple #[v0_, .int .i64 0]) ∧ Kd.R (Kd.int .u64) 42 w' w.heap.size (fun _ => True) v0_ (ints (dig (2 ^ q) n (num a0))) ∧ Below w.heap.size w w' := by
  have hm : n * q ≤ 4194304 := Nat.le_trans (Nat.mul_le_mul hn hq) (by decide)
  have hf := bits_Unpack.fits (s := a0) hm
  have hsz : a0.size = need (n * q) := by
    unfold fitE at hE
    split at hE
    · exact absurd hE (by decide)
    · split at hE
      · exact absurd hE (by decide)
      · omega
  have hnd := need_le (n * q)
  rw [hE] at hf
  have d1 : decide ((q : Int) < 0) = false := decide_eq_false (by omega)
  have d2 : decide (64 < (q : Int)) = false := decide_eq_false (by omega)
  have d3 : decide ((n : Int) < 0) = false := decide_eq_false (by omega)
  have d4 : decide (65536 < (n : Int)) = false := decide_eq_false (by omega)
  have d7 : decide (64 < q) = false := decide_eq_false (by omega)
  have d8 : decide (65536 < n) = false := decide_eq_false (by omega)
  have e1 : (n : Int) * (q : Int) = ((n * q : Nat) : Int) := (Int.natCast_mul n q).symm
  have e2 : wrap64 ((n * q : Nat) : Int) = ((n * q : Nat) : Int) := w64 (by omega) (by omega)
  have e3 : IntKind.i64.wrap ((n : Int) * (q : Int)) = ((n * q : Nat) : Int) := by rw [e1, i64_w]; exact e2
  have HNQ := Aside0.mk hnd
  rw [← hsz] at HNQ
  obtain ⟨m, hmm⟩ : ∃ m, n * q = m := ⟨_, rfl⟩
  rw [hmm] at e1 e2 e3 hf
  have HF := Aside0.mk hf
  clear hf hE hm hmm hsz hnd
  go_enter Try.func14, Try.ntmps14
  go_wp2_with fail
  refine (bits_fits.calls a0 (m : Int) 0 _ HF.out).mono ?_; rintro e w1 ⟨rfl, ⟨nd, rfl⟩⟩
  clear e1 e2 e3
  go_wp2_with fail
  have hnew : RD w ((w.drewN nd).alloc (.cells #[.string a0, .int .i64 0] 53)) w.heap.size a0 (0 * q) := by
    rw [Nat.zero_mul]
    exact ⟨heap_alloc_new (w.drewN nd) _, Nat.le_refl _⟩
  have hbw : Below w.heap.size w ((w.drewN nd).alloc (.cells #[.string a0, .int .i64 0] 53)) := below_alloc (pw_below_drewN (Below.refl _ _) _) _
  have HN := Aside0.mk hnew; have HB := Aside0.mk hbw
  clear hnew hbw
  have hin : (Try.prog.info? 42).map (fun i => (i.zero, i.size, i.bytes)) = some (some (.int .u64 0), 1, 8) := by kernel_rfl
  have HI := Aside0.mk hin; clear hin
  go_loopg [10, 37] n (fun gq s10 s37 wx => ∃ (i : Nat) (v : Value), i ≤ n ∧ gq = n - i ∧ s10 = v ∧ s37 = .int .i64 (i : Int) ∧ Aside0 (Kd.R (Kd.int .u64) 42 wx w.heap.size (fun k => k ≠ w.heap.size) v (ints (dig (2 ^ q) i (num a0)))) ∧ Aside0 (RD w wx w.heap.size a0 (i * q)) ∧ Aside0 (Below w.heap.size w wx))
  case atStart => exact ⟨0, _, by omega, by omega, rfl, rfl, ⟨Kd.R_nil _ _ _ _ _⟩, HN, HB⟩
  case round =>
    clear HN HB
    obtain ⟨i, v, hi, rfl, rfl, rfl, HO, HN, HB⟩ := hrel
    by_cases hlt : i < n
    · obtain ⟨g1, hg1⟩ : ∃ g1, n - i = g1 + 1 := ⟨n - i - 1, by omega⟩
      have k2 : decide ((i : Int) < (n : Int)) = true := decide_eq_true (by omega)
      have k2' : decide (i < n) = true := decide_eq_true hlt
      have hmul : i * q + q = (i + 1) * q := by rw [Nat.succ_mul]
      have hle : (i + 1) * q ≤ n * q := Nat.mul_le_mul_right _ hlt
      have hbits : i * q + q ≤ 8 * a0.size := by have := HNQ.out; omega
      have hdig := dig_succ (2 ^ q) i (num a0)
      rw [← Nat.pow_mul, Nat.mul_comm q i] at hdig
      have HM := Aside0.mk hmul; have HBI := Aside0.mk hbits; have HD := Aside0.mk hdig; have HLT2 := Aside0.mk hlt
      clear hmul hle hbits hdig hlt
      go_wp2_with fail
      refine (get_calls (w0 := w) (i * q) q hS hq HBI.out HN.out HB.out).mono ?_; rintro e w2 ⟨rfl, hr2, hb2, hk2⟩
      rw [HM.out] at hr2
      obtain ⟨x, hx⟩ : ∃ x, num a0 / 2 ^ (i * q) % 2 ^ q = x := ⟨_, rfl⟩
      rw [hx] at HD ⊢
      have HO2 := Aside0.mk (Kd.R_keep HO.out hk2 (fun _ hk => hk))
      have HN2 := Aside0.mk hr2; have HB2 := Aside0.mk hb2
      clear hx hr2 hb2 hk2 HO HN HB
      go_wp2_with ((with_reducible refine gate_builtin (b := .append) (xs := #[.tmp 39, .tmp 43]) rfl ?_); at_builtin; refine Kd.R_append (Kd.int .u64) (w0 := w) w.heap.size rfl (.tmp 39) (.tmp 43) 22 42 (.int .u64 0) 8 rfl Try.underlying22 HI.out rfl (by decide) (by omega) u10 (ints (dig (2 ^ q) i (num a0))) (x : Int) [.int .u64 (x : Int)] (fun k => k ≠ w.heap.size) (fun _ => False) rfl rfl ?aP (fun _ hk => hk.elim) ?aF ?aO ?aB ?aS ?aL ?_; (case aP => exact rfl); (case aB => exact HB2.out); (case aF => exact fun k hk e => by have := blk_lt HN2.out.1; omega); (case aO => exact HO2.out); (case aS => exact HB2.out.size); (case aL => rw [ints_len, dig_len]; omega); intro v5 w5 ho hb hg hat; have HO5 := Aside0.mk ho; have HB5 := Aside0.mk hb; have HN5 := Aside0.mk (RD.keep HN2.out hg (Kd.R_away HO2.out (fun _ hk => hk))); clear ho hb hg hat)
      go_roundg g1
      case measure => omega
      case rel =>
        have h := HO5.out
        rw [show ints (dig (2 ^ q) i (num a0)) ++ [(x : Int)] = ints (dig (2 ^ q) (i + 1) (num a0)) by rw [HD.out, ints_app]; rfl] at h
        exact ⟨i + 1, _, by have := HLT2.out; omega, by omega, rfl, by go_num, ⟨h⟩, HN5, HB5⟩
    · have e : i = n := by omega
      have k2 : decide ((i : Int) < (n : Int)) = false := decide_eq_false (by omega)
      have k2' : decide (i < n) = false := decide_eq_false hlt
      subst e
      clear hlt hi
      go_wp2
      go_ret2
      exact ⟨u10, rfl, Kd.R_mono HO.out (fun _ _ => trivial), HB.out⟩
def bits_Unpack.f (a0 : ByteArray) (a1 a2 : Int) : Option (List Int × Int) :=
  if a0.size ≤ 140737488355328 then some (if a2 < 0 ∨ 64 < a2 ∨ a1 < 0 ∨ 65536 < a1 then ([], 1) else if fitE a0 (a1.toNat * a2.toNat) = 0 then (ints (dig (2 ^ a2.toNat) a1.toNat (num a0)), 0) else ([], fitE a0 (a1.toNat * a2.toNat))) else none
theorem bits_Unpack.calls (a0 : ByteArray) (a1 : Int) (a2 : Int) (r1 : List Int) (r2 : Int) (w : World) (h : bits_Unpack.f a0 a1 a2 = some (r1, r2)) :
    Calls Try.prog 14 #[.string a0, .int .i64 a1, .int .i64 a2] w fun e w' => ∃ v0_ : Value, e = .returned (.tuple #[v0_, .int .i64 r2]) ∧ Kd.R (Kd.int .u64) 42 w' w.heap.size (fun _ => True) v0_ r1 ∧ Below w.heap.size w w' := by
  unfold bits_Unpack.f at h
  split at h
  · rename_i hS
    have h := Option.some.inj h
    by_cases c : a2 < 0 ∨ 64 < a2 ∨ a1 < 0 ∨ 65536 < a1
    · rw [if_pos c] at h
      injection h with h1 h2
      subst h1 h2
      refine (bits_Unpack.w1 a0 a1 a2 w _ _ _ _ rfl rfl rfl rfl ?_).mono ?_
      · rcases c with c | c | c | c <;> simp [c]
      · rintro e w' ⟨rfl, hb⟩
        exact ⟨_, rfl, Kd.R_nil _ _ _ _ _, hb⟩
    · rw [if_neg c] at h
      obtain ⟨q, rfl⟩ : ∃ q : Nat, a2 = (q : Int) := ⟨a2.toNat, by omega⟩
      obtain ⟨n, rfl⟩ : ∃ n : Nat, a1 = (n : Int) := ⟨a1.toNat, by omega⟩
      rw [Int.toNat_natCast, Int.toNat_natCast] at h
      by_cases c2 : fitE a0 (n * q) = 0
      · rw [if_pos c2] at h
        injection h with h1 h2
        subst h1 h2
        exact bits_Unpack.w3 a0 n q w hS (by omega) (by omega) c2
      · rw [if_neg c2] at h
        injection h with h1 h2
        subst h1 h2
        refine (bits_Unpack.w2 a0 n q w (by omega) (by omega) _ rfl c2).mono ?_
        rintro e w' ⟨rfl, hb⟩
        exact ⟨_, rfl, Kd.R_nil _ _ _ _ _, hb⟩
  · exact absurd h (by simp)


end Go.Proofs.Ytbcjbgmjiehamaa.G
