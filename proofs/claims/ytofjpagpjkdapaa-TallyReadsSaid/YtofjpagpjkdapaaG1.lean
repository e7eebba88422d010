-- Written by a driver of this session (wip/gen/drive.py), which runs the kit's print with additions of its own; not print.sh's own output.
import Derived.Test.YtofjpagpjkdapaaG0
namespace Go.Proofs.Ytofjpagpjkdapaa.G
open Go.RowKit Go.Proofs.YtofjpagpjkdapaaQ Go.Proofs.YtofjpagpjkdapaaW.PrintWords Go.Proofs.YtofjpagpjkdapaaW.PrintLast Go.Proofs.YtofjpagpjkdapaaW.PrintMore
attribute [local go_sem] max2_int min2_int max_two min_two max_three min_three max_four min_four   -- for this text's walks alone
set_option linter.unusedVariables false
set_option linter.unusedSimpArgs false

/-! ### tally_big: function 32 -/
def tally_big.l0 : Nat → List Int → Int → Int → Option (List Int)
  | 0, _, _, _ => none
  | k + 1, x0, x1, x2 => if x2 ≥ 0 then (if 0 ≤ (wrap64 (8 * x2)) then (if x0.length < 140737488355328 then (tally_big.l0 k (x0 ++ [(shr .u64 x1 (wrap64 (8 * x2))) % 256]) x1 (wrap64 (x2 - 1))) else (none)) else (none)) else (some x0)
def tally_big.f (k : Nat) (l0 : List Int) (a1 : Int) (a2 : Int) : Option (List Int) := tally_big.l0 k l0 a1 (wrap64 (a2 - 1))
theorem tally_big.mono_l : ∀ k, (∀ y0 y1 y2, LeO (tally_big.l0 k y0 y1 y2) (tally_big.l0 (k + 1) y0 y1 y2))
  | 0 => fun _ _ _ r h => by simp [tally_big.l0] at h
  | k + 1 => by
    have ih0 := tally_big.mono_l k
    · intro y0 y1 y2
      unfold tally_big.l0
      repeat' first
      | (with_reducible exact ih0 _ _ _)
      | (with_reducible exact LeO.refl _)
      | (with_reducible exact LeO.none _)
      | (with_reducible refine LeO.ite ?_ ?_)
      | (with_reducible refine LeO.bind ?_ (fun _ => ?_))
      | exact ih0 _ _ _
      | exact LeO.none _
      | refine LeO.ite ?_ ?_
      | refine LeO.bind ?_ (fun _ => ?_)
theorem tally_big.mono : ∀ a0 a1 a2 k, LeO (tally_big.f k a0 a1 a2) (tally_big.f (k + 1) a0 a1 a2) := by
  intro a0 a1 a2 k
  have ih0 := tally_big.mono_l k
  unfold tally_big.f
  repeat' first
      | (with_reducible exact ih0 _ _ _)
      | (with_reducible exact LeO.refl _)
      | (with_reducible exact LeO.none _)
      | (with_reducible refine LeO.ite ?_ ?_)
      | (with_reducible refine LeO.bind ?_ (fun _ => ?_))
      | exact ih0 _ _ _
      | exact LeO.none _
      | refine LeO.ite ?_ ?_
      | refine LeO.bind ?_ (fun _ => ?_)
set_option maxHeartbeats 8000000 in
set_option maxRecDepth 100000 in
theorem tally_big.calls (k : Nat) (P0_ : Nat → Prop) (u9000_ : Value) (l0 : List Int) (a1 : Int) (a2 : Int) (r : List Int) (w0 w : World) (hB : Below w0.heap.size w0 w) (ho0 : Kd.R (Kd.int .u8) 5 w w0.heap.size P0_ u9000_ l0) (h : tally_big.f k l0 a1 a2 = some r) :
    Calls Try.prog 32 #[u9000_, .int .u64 a1, .int .i64 a2] w fun e w' => ∃ v0_ : Value, e = .returned (v0_) ∧ Kd.R (Kd.int .u8) 5 w' w0.heap.size (fun k_ => (P0_ k_ ∨ w.heap.size ≤ k_)) v0_ r ∧ Below w0.heap.size w0 w' ∧ Kept w w' (fun k_ => P0_ k_) := by
  have HO0 := Aside0.mk (show Kd.R (Kd.int .u8) 5 w w0.heap.size (fun k_ => (P0_ k_ ∨ w.heap.size ≤ k_)) u9000_ l0 from Kd.R_mono ho0 (fun k_ hk => (.inl hk)))
  have HK := Aside0.mk (Kept.refl w (fun k_ => P0_ k_))
  have HW0 := Aside0.mk hB.size
  have HB := Aside0.mk hB
  clear hB
  have H : (tally_big.l0 k l0 a1 (wrap64 (a2 - 1))) = some r := h
  clear h
  have H' := Aside0.mk H
  clear H
  go_enter Try.func32, Try.ntmps32
  go_wp2
  go_loopg [0, 2] k (fun kq v0 v2 w' => ∃ (x0_1 : List Int) (x2_1 : Int), v2 = .int .i64 x2_1 ∧ Aside0 (tally_big.l0 kq x0_1 a1 x2_1 = some r) ∧ Aside0 (kq ≤ k) ∧ Aside0 (Kd.R (Kd.int .u8) 5 w' w0.heap.size (fun k_ => (P0_ k_ ∨ w.heap.size ≤ k_)) v0 x0_1) ∧ Aside0 (Kept w w' (fun k_ => P0_ k_)) ∧ Aside0 (Below w0.heap.size w0 w'))
  case atStart => exact ⟨(l0), (wrap64 (a2 - 1)), (by first | rfl | (simp; done) | (simp [*]; done)), H', ⟨Nat.le_refl _⟩, ⟨by (with_reducible repeat (first | apply Kd.R_alloc | apply Kd.R_drewN | apply Kd.R_drew)); exact HO0.out⟩, ⟨by repeat (first | (with_reducible first | exact HK.out | apply Kept.alloc | apply Kept.drewN | apply Kept.drew) | exact HK.out)⟩, ⟨by repeat (first | (with_reducible first | exact HB.out | apply below_alloc | apply pw_below_drewN | apply below_drew1) | exact HB.out)⟩⟩
  case round =>
    clear H'
    try clear p2
    try clear c3
    obtain ⟨x0_1, x2_1, rfl, HA, HK1, HO_0, HK, HB⟩ := hrel
    cases gk with
    | zero => exact absurd HA.out (by simp [tally_big.l0])
    | succ k1 =>
      have H := HA.out
      clear HA
      simp only [tally_big.l0] at H
      by_cases c4 : x2_1 ≥ 0
      · rw [if_pos c4] at H
        have c4b0 : decide (0 ≤ x2_1) = true := decide_eq_true c4
        clear c4
        obtain ⟨ji5, hji5⟩ : ∃ j_ : Int, (wrap64 (8 * x2_1)) = j_ := ⟨_, rfl⟩
        replace H : (if 0 ≤ (ji5) then (if x0_1.length < 140737488355328 then (tally_big.l0 k1 (x0_1 ++ [(shr .u64 a1 (ji5)) % 256]) a1 (wrap64 (x2_1 - 1))) else (none)) else (none)) = some r := by first | (rw [hji5] at H; exact H) | (simp only [hji5] at H ⊢; exact H)
        have hji5w : (IntKind.i64.wrap (8 * x2_1)) = ji5 := (i64_w _).trans hji5
        by_cases c6 : 0 ≤ (ji5)
        · rw [if_pos c6] at H
          have c6b0 := eq_true c6
          have c6b1 : decide (0 ≤ (ji5)) = true := decide_eq_true c6
          clear c6
          obtain ⟨ji7, hji7⟩ : ∃ j_ : Int, (shr .u64 a1 (ji5)) = j_ := ⟨_, rfl⟩
          replace H : (if x0_1.length < 140737488355328 then (tally_big.l0 k1 (x0_1 ++ [(ji7) % 256]) a1 (wrap64 (x2_1 - 1))) else (none)) = some r := by first | (rw [hji7] at H; exact H) | (simp only [hji7] at H ⊢; exact H)
          have hji7_ : (a1 / 2 ^ min (ji5).toNat 64) = ji7 := hji7
          have hji7z : (ji5) ≤ 64 → (a1 / 2 ^ (ji5).toNat) = ji7 := shr_small hji7
          by_cases c8 : x0_1.length < 140737488355328
          · rw [if_pos c8] at H
            have LMc8 := Aside0.mk c8
            clear c8
            obtain ⟨y101, hy101⟩ : ∃ y_ : List Int, y_ = (x0_1 ++ [(ji7) % 256]) := ⟨_, rfl⟩
            replace H : (tally_big.l0 k1 y101 a1 (wrap64 (x2_1 - 1))) = some r := by first | (rw [hy101]; with_reducible exact H) | (have H2_ := (Option.bind_some _ _).symm.trans H; rw [hy101]; with_reducible exact H2_) | (have H2_ := (Option.bind_some _ _).symm.trans H; with_reducible exact H2_) | with_reducible exact H | (rw [hy101]; exact H) | exact H
            have Ny101 := Aside0.mk hy101
            clear hy101
            have H' := Aside0.mk H
            clear H
            go_wp2_with (first | ((with_reducible refine gate_builtin (b := .append) (xs := #[.tmp 13, .tmp 19]) rfl ?_); at_builtin; refine Kd.R_append (Kd.int .u8) (w0 := w0) w0.heap.size rfl (.tmp 13) (.tmp 19) 24 5 (.int .u8 0) 1 rfl Try.underlying24 info5 rfl (by decide) (by omega) u0 x0_1 ((ji7) % 256) [.int .u8 ((ji7) % 256)] (fun k_ => (P0_ k_ ∨ w.heap.size ≤ k_)) (fun _ => False) rfl rfl ?aP (fun _ hk => hk.elim) ?aF ?aO ?aB ?aS ?aL ?_; (case aP => exact rfl); (case aB => exact (by repeat (first | (with_reducible first | exact HB.out | apply below_alloc | apply pw_below_drewN | apply below_drew1) | exact HB.out))); (case aF => exact (fun k_ hk => (.inr (Nat.le_trans (by first | exact HK.out.1 | exact (show Kept w _ (fun k_ => P0_ k_) from by repeat (first | (with_reducible first | exact HK.out | apply Kept.alloc | apply Kept.drewN | apply Kept.drew) | exact HK.out)).1) hk)))); (case aO => exact (by (with_reducible repeat (first | apply Kd.R_alloc | apply Kd.R_drewN | apply Kd.R_drew)); exact HO_0.out)); (case aS => exact (below_size (by repeat (first | (with_reducible first | exact HB.out | apply below_alloc | apply pw_below_drewN | apply below_drew1) | exact HB.out)))); (case aL => have := LMc8.out; omega); intro v102 w9 ho hb hg hat; rw [← Ny101.out] at ho; have n0_ := Aside0.mk (hb); have n1_ := Aside0.mk (Kept.of_grown (S := (fun k_ => P0_ k_)) hg (by repeat (first | (with_reducible first | exact HK.out | apply Kept.alloc | apply Kept.drewN | apply Kept.drew) | exact HK.out)) (fun k_ e_ => (HO_0.out.1 k_ e_))); have n2_ := Aside0.mk (ho); clear HB; clear HK; clear HO_0; have HB := n0_; have HK := n1_; have HO103 := n2_; clear n0_ n1_ n2_; clear ho hb hg hat))
            go_roundg k1
            case measure => have := HK1.out; omega
            case rel => exact ⟨(y101), (wrap64 (x2_1 - 1)), (by first | rfl | (simp; done) | (simp [*]; done)), H', ⟨by have := HK1.out; omega⟩, ⟨by (with_reducible repeat (first | apply Kd.R_alloc | apply Kd.R_drewN | apply Kd.R_drew)); exact HO103.out⟩, ⟨by repeat (first | (with_reducible first | exact HK.out | apply Kept.alloc | apply Kept.drewN | apply Kept.drew) | exact HK.out)⟩, ⟨by repeat (first | (with_reducible first | exact HB.out | apply below_alloc | apply pw_below_drewN | apply below_drew1) | exact HB.out)⟩⟩
          · rw [if_neg c8] at H
            exact absurd H (by simp)
        · rw [if_neg c6] at H
          exact absurd H (by simp)
      · rw [if_neg c4] at H
        have c4b0 : decide (0 ≤ x2_1) = false := decide_eq_false c4
        clear c4
        obtain rfl := Option.some.inj H
        go_wp2
        go_ret
        exact ⟨_, by first | rfl | (simp [errW_none, errW_some] <;> rfl) | (simp [*, errW_none, errW_some] <;> rfl), by (with_reducible repeat (first | apply Kd.R_alloc | apply Kd.R_drewN | apply Kd.R_drew)); exact HO_0.out, by repeat (first | (with_reducible first | exact HB.out | apply below_alloc | apply pw_below_drewN | apply below_drew1) | exact HB.out), by repeat (first | (with_reducible first | exact HK.out | apply Kept.alloc | apply Kept.drewN | apply Kept.drew) | exact HK.out)⟩

/-! ### tally_Uint: function 11 -/
def tally_Uint.f (k : Nat) (l0 : List Int) (a1 : Int) : Option (List Int) := if (a1 / 64) = 0 then (if l0.length < 140737488355328 then (some (l0 ++ [(a1) % 256])) else (none)) else (if (a1 / 16384) = 0 then ((tally_big.f k l0 (Go.bits .or .u64 a1 16384) 2).bind fun t107 => (some t107)) else (if (a1 / 1073741824) = 0 then ((tally_big.f k l0 (Go.bits .or .u64 a1 2147483648) 4).bind fun t110 => (some t110)) else (if l0.length < 140737488355328 then ((tally_big.f k (l0 ++ [192]) a1 8).bind fun t116 => (some t116)) else (none))))
theorem tally_Uint.mono : ∀ a0 a1 k, LeO (tally_Uint.f k a0 a1) (tally_Uint.f (k + 1) a0 a1) := by
  intro a0 a1 k
  unfold tally_Uint.f
  repeat' first
      | (with_reducible exact tally_big.mono _ _ _ _)
      | (with_reducible exact LeO.refl _)
      | (with_reducible exact LeO.none _)
      | (with_reducible refine LeO.ite ?_ ?_)
      | (with_reducible refine LeO.bind ?_ (fun _ => ?_))
      | exact tally_big.mono _ _ _ _
      | exact LeO.none _
      | refine LeO.ite ?_ ?_
      | refine LeO.bind ?_ (fun _ => ?_)
set_option maxHeartbeats 8000000 in
set_option maxRecDepth 100000 in
theorem tally_Uint.calls (k : Nat) (P0_ : Nat → Prop) (u9000_ : Value) (l0 : List Int) (a1 : Int) (r : List Int) (w0 w : World) (hB : Below w0.heap.size w0 w) (ho0 : Kd.R (Kd.int .u8) 5 w w0.heap.size P0_ u9000_ l0) (h : tally_Uint.f k l0 a1 = some r) :
    Calls Try.prog 11 #[u9000_, .int .u64 a1] w fun e w' => ∃ v0_ : Value, e = .returned (v0_) ∧ Kd.R (Kd.int .u8) 5 w' w0.heap.size (fun k_ => (P0_ k_ ∨ w.heap.size ≤ k_)) v0_ r ∧ Below w0.heap.size w0 w' ∧ Kept w w' (fun k_ => P0_ k_) := by
  have HO0 := Aside0.mk (show Kd.R (Kd.int .u8) 5 w w0.heap.size (fun k_ => (P0_ k_ ∨ w.heap.size ≤ k_)) u9000_ l0 from Kd.R_mono ho0 (fun k_ hk => (.inl hk)))
  have HK := Aside0.mk (Kept.refl w (fun k_ => P0_ k_))
  have HW0 := Aside0.mk hB.size
  have HB := Aside0.mk hB
  clear hB
  have H : (if (a1 / 64) = 0 then (if l0.length < 140737488355328 then (some (l0 ++ [(a1) % 256])) else (none)) else (if (a1 / 16384) = 0 then ((tally_big.f k l0 (Go.bits .or .u64 a1 16384) 2).bind fun t107 => (some t107)) else (if (a1 / 1073741824) = 0 then ((tally_big.f k l0 (Go.bits .or .u64 a1 2147483648) 4).bind fun t110 => (some t110)) else (if l0.length < 140737488355328 then ((tally_big.f k (l0 ++ [192]) a1 8).bind fun t116 => (some t116)) else (none))))) = some r := h
  clear h
  by_cases c3 : (a1 / 64) = 0
  · rw [if_pos c3] at H
    have c3b0 : ((a1 / 64) == 0) = true := beq_iff_eq.mpr c3
    have c3b1 : ((a1 / 64) != 0) = false := bne_eq_false_iff_eq.mpr c3
    clear c3
    by_cases c4 : l0.length < 140737488355328
    · rw [if_pos c4] at H
      have LMc4 := Aside0.mk c4
      clear c4
      obtain ⟨y104, hy104⟩ : ∃ y_ : List Int, y_ = (l0 ++ [(a1) % 256]) := ⟨_, rfl⟩
      replace H : (some y104) = some r := by first | (rw [hy104]; with_reducible exact H) | (have H2_ := (Option.bind_some _ _).symm.trans H; rw [hy104]; with_reducible exact H2_) | (have H2_ := (Option.bind_some _ _).symm.trans H; with_reducible exact H2_) | with_reducible exact H | (rw [hy104]; exact H) | exact H
      have Ny104 := Aside0.mk hy104
      clear hy104
      obtain rfl := Option.some.inj H
      go_enter Try.func11, Try.ntmps11
      go_wp2_with (first | ((with_reducible refine gate_builtin (b := .append) (xs := #[.tmp 9, .tmp 12]) rfl ?_); at_builtin; refine Kd.R_append (Kd.int .u8) (w0 := w0) w0.heap.size rfl (.tmp 9) (.tmp 12) 24 5 (.int .u8 0) 1 rfl Try.underlying24 info5 rfl (by decide) (by omega) u9000_ l0 ((a1) % 256) [.int .u8 ((a1) % 256)] (fun k_ => (P0_ k_ ∨ w.heap.size ≤ k_)) (fun _ => False) rfl rfl ?aP (fun _ hk => hk.elim) ?aF ?aO ?aB ?aS ?aL ?_; (case aP => exact rfl); (case aB => exact (by repeat (first | (with_reducible first | exact HB.out | apply below_alloc | apply pw_below_drewN | apply below_drew1) | exact HB.out))); (case aF => exact (fun k_ hk => (.inr (Nat.le_trans (by first | exact HK.out.1 | exact (show Kept w _ (fun k_ => P0_ k_) from by repeat (first | (with_reducible first | exact HK.out | apply Kept.alloc | apply Kept.drewN | apply Kept.drew) | exact HK.out)).1) hk)))); (case aO => exact (by (with_reducible repeat (first | apply Kd.R_alloc | apply Kd.R_drewN | apply Kd.R_drew)); exact HO0.out)); (case aS => exact (below_size (by repeat (first | (with_reducible first | exact HB.out | apply below_alloc | apply pw_below_drewN | apply below_drew1) | exact HB.out)))); (case aL => have := LMc4.out; omega); intro v105 w5 ho hb hg hat; rw [← Ny104.out] at ho; have n0_ := Aside0.mk (hb); have n1_ := Aside0.mk (Kept.of_grown (S := (fun k_ => P0_ k_)) hg (by repeat (first | (with_reducible first | exact HK.out | apply Kept.alloc | apply Kept.drewN | apply Kept.drew) | exact HK.out)) (fun k_ e_ => (HO0.out.1 k_ e_))); have n2_ := Aside0.mk (ho); clear HB; clear HK; clear HO0; have HB := n0_; have HK := n1_; have HO106 := n2_; clear n0_ n1_ n2_; clear ho hb hg hat))
      go_ret
      exact ⟨_, by first | rfl | (simp [errW_none, errW_some] <;> rfl) | (simp [*, errW_none, errW_some] <;> rfl), by (with_reducible repeat (first | apply Kd.R_alloc | apply Kd.R_drewN | apply Kd.R_drew)); exact HO106.out, by repeat (first | (with_reducible first | exact HB.out | apply below_alloc | apply pw_below_drewN | apply below_drew1) | exact HB.out), by repeat (first | (with_reducible first | exact HK.out | apply Kept.alloc | apply Kept.drewN | apply Kept.drew) | exact HK.out)⟩
    · rw [if_neg c4] at H
      exact absurd H (by simp)
  · rw [if_neg c3] at H
    have c3b0 : ((a1 / 64) == 0) = false := beq_eq_false_iff_ne.mpr c3
    have c3b1 : ((a1 / 64) != 0) = true := bne_iff_ne.mpr c3
    by_cases c6 : (a1 / 16384) = 0
    · rw [if_pos c6] at H
      have c6b0 : ((a1 / 16384) == 0) = true := beq_iff_eq.mpr c6
      have c6b1 : ((a1 / 16384) != 0) = false := bne_eq_false_iff_eq.mpr c6
      clear c6
      replace H := Option.bind_eq_some_iff.mp H
      obtain ⟨t107, A70, H⟩ := H
      replace H : (some t107) = some r := H
      have A7 := Aside0.mk A70
      clear A70
      obtain rfl := Option.some.inj H
      obtain ⟨Ao8, co8, eo8⟩ := Kd.R_slice HO0.out
      subst eo8
      go_enter Try.func11, Try.ntmps11
      go_wp2_with (first | ((with_reducible refine gate_callee (f := 32) rfl ?_); refine goesL_ (some 21) rfl rfl Try.func32 (by kernel_rfl) rfl #[.slice Ao8 l0.length co8, .int .u64 (Go.bits .or .u64 a1 16384), .int .i64 2] rfl (by (try simp only [List.map_toArray, List.map_cons, List.map_nil]); first | done | rfl | (simp only [List.length_drop, List.length_take]; rfl) | (go_simp; simp [IntKind.wrap, IntKind.bits, IntKind.signed]; omega)) ?_; (with_reducible refine (tally_big.calls k (fun k_ => some k_ = (.slice Ao8 l0.length co8 : Value).ownBlock) (.slice Ao8 l0.length co8) l0 (Go.bits .or .u64 a1 16384) 2 t107 w0 _ ?side1 ?side2 A7.out).mono ?_); (case side1 => repeat (first | (with_reducible first | exact HB.out | apply below_alloc | apply pw_below_drewN | apply below_drew1) | exact HB.out)); (case side2 => exact Kd.R_tight rfl HO0.out); rintro e w9 ⟨v108, rfl, ho0, hb, hkp⟩; refine ⟨_, rfl, ?_⟩; have n0_ := Aside0.mk (Kd.R_mono (ok' := fun k_ => (P0_ k_ ∨ w.heap.size ≤ k_)) ho0 (fun k_ hk_ => Or.elim hk_ (fun hs_ => (HO0.out.1 k_ (hs_).symm)) (fun hn_ => (.inr (Nat.le_trans (by first | exact HK.out.1 | exact (show Kept w _ (fun k_ => P0_ k_) from by repeat (first | (with_reducible first | exact HK.out | apply Kept.alloc | apply Kept.drewN | apply Kept.drew) | exact HK.out)).1) hn_))))); have n1_ := Aside0.mk (Kept.then_ (S := (fun k_ => P0_ k_)) (by repeat (first | (with_reducible first | exact HK.out | apply Kept.alloc | apply Kept.drewN | apply Kept.drew) | exact HK.out)) hkp (fun k_ hs_ => (fun e_ => (HO0.out.1 k_ e_.symm)) hs_)); have n2_ := Aside0.mk (hb); clear HK; clear HB; clear HO0; have HO109 := n0_; have HK := n1_; have HB := n2_; clear n0_ n1_ n2_; (try clear hb); (try clear hkp); (try clear ho0)))
      go_ret
      exact ⟨_, by first | rfl | (simp [errW_none, errW_some] <;> rfl) | (simp [*, errW_none, errW_some] <;> rfl), by (with_reducible repeat (first | apply Kd.R_alloc | apply Kd.R_drewN | apply Kd.R_drew)); exact HO109.out, by repeat (first | (with_reducible first | exact HB.out | apply below_alloc | apply pw_below_drewN | apply below_drew1) | exact HB.out), by repeat (first | (with_reducible first | exact HK.out | apply Kept.alloc | apply Kept.drewN | apply Kept.drew) | exact HK.out)⟩
    · rw [if_neg c6] at H
      have c6b0 : ((a1 / 16384) == 0) = false := beq_eq_false_iff_ne.mpr c6
      have c6b1 : ((a1 / 16384) != 0) = true := bne_iff_ne.mpr c6
      by_cases c10 : (a1 / 1073741824) = 0
      · rw [if_pos c10] at H
        have c10b0 : ((a1 / 1073741824) == 0) = true := beq_iff_eq.mpr c10
        have c10b1 : ((a1 / 1073741824) != 0) = false := bne_eq_false_iff_eq.mpr c10
        clear c10
        replace H := Option.bind_eq_some_iff.mp H
        obtain ⟨t110, A110, H⟩ := H
        replace H : (some t110) = some r := H
        have A11 := Aside0.mk A110
        clear A110
        obtain rfl := Option.some.inj H
        obtain ⟨Ao12, co12, eo12⟩ := Kd.R_slice HO0.out
        subst eo12
        go_enter Try.func11, Try.ntmps11
        go_wp2_with (first | ((with_reducible refine gate_callee (f := 32) rfl ?_); refine goesL_ (some 29) rfl rfl Try.func32 (by kernel_rfl) rfl #[.slice Ao12 l0.length co12, .int .u64 (Go.bits .or .u64 a1 2147483648), .int .i64 4] rfl (by (try simp only [List.map_toArray, List.map_cons, List.map_nil]); first | done | rfl | (simp only [List.length_drop, List.length_take]; rfl) | (go_simp; simp [IntKind.wrap, IntKind.bits, IntKind.signed]; omega)) ?_; (with_reducible refine (tally_big.calls k (fun k_ => some k_ = (.slice Ao12 l0.length co12 : Value).ownBlock) (.slice Ao12 l0.length co12) l0 (Go.bits .or .u64 a1 2147483648) 4 t110 w0 _ ?side1 ?side2 A11.out).mono ?_); (case side1 => repeat (first | (with_reducible first | exact HB.out | apply below_alloc | apply pw_below_drewN | apply below_drew1) | exact HB.out)); (case side2 => exact Kd.R_tight rfl HO0.out); rintro e w13 ⟨v111, rfl, ho0, hb, hkp⟩; refine ⟨_, rfl, ?_⟩; have n0_ := Aside0.mk (Kd.R_mono (ok' := fun k_ => (P0_ k_ ∨ w.heap.size ≤ k_)) ho0 (fun k_ hk_ => Or.elim hk_ (fun hs_ => (HO0.out.1 k_ (hs_).symm)) (fun hn_ => (.inr (Nat.le_trans (by first | exact HK.out.1 | exact (show Kept w _ (fun k_ => P0_ k_) from by repeat (first | (with_reducible first | exact HK.out | apply Kept.alloc | apply Kept.drewN | apply Kept.drew) | exact HK.out)).1) hn_))))); have n1_ := Aside0.mk (Kept.then_ (S := (fun k_ => P0_ k_)) (by repeat (first | (with_reducible first | exact HK.out | apply Kept.alloc | apply Kept.drewN | apply Kept.drew) | exact HK.out)) hkp (fun k_ hs_ => (fun e_ => (HO0.out.1 k_ e_.symm)) hs_)); have n2_ := Aside0.mk (hb); clear HK; clear HB; clear HO0; have HO112 := n0_; have HK := n1_; have HB := n2_; clear n0_ n1_ n2_; (try clear hb); (try clear hkp); (try clear ho0)))
        go_ret
        exact ⟨_, by first | rfl | (simp [errW_none, errW_some] <;> rfl) | (simp [*, errW_none, errW_some] <;> rfl), by (with_reducible repeat (first | apply Kd.R_alloc | apply Kd.R_drewN | apply Kd.R_drew)); exact HO112.out, by repeat (first | (with_reducible first | exact HB.out | apply below_alloc | apply pw_below_drewN | apply below_drew1) | exact HB.out), by repeat (first | (with_reducible first | exact HK.out | apply Kept.alloc | apply Kept.drewN | apply Kept.drew) | exact HK.out)⟩
      · rw [if_neg c10] at H
        have c10b0 : ((a1 / 1073741824) == 0) = false := beq_eq_false_iff_ne.mpr c10
        have c10b1 : ((a1 / 1073741824) != 0) = true := bne_iff_ne.mpr c10
        by_cases c14 : l0.length < 140737488355328
        · rw [if_pos c14] at H
          have LMc14 := Aside0.mk c14
          clear c14
          obtain ⟨y113, hy113⟩ : ∃ y_ : List Int, y_ = (l0 ++ [192]) := ⟨_, rfl⟩
          replace H : ((tally_big.f k y113 a1 8).bind fun t116 => (some t116)) = some r := by first | (rw [hy113]; with_reducible exact H) | (have H2_ := (Option.bind_some _ _).symm.trans H; rw [hy113]; with_reducible exact H2_) | (have H2_ := (Option.bind_some _ _).symm.trans H; with_reducible exact H2_) | with_reducible exact H | (rw [hy113]; exact H) | exact H
          have Ny113 := Aside0.mk hy113
          clear hy113
          replace H := Option.bind_eq_some_iff.mp H
          obtain ⟨t116, A150, H⟩ := H
          replace H : (some t116) = some r := H
          have A15 := Aside0.mk A150
          clear A150
          obtain rfl := Option.some.inj H
          go_enter Try.func11, Try.ntmps11
          go_wp2_with (first | ((with_reducible refine gate_builtin (b := .append) (xs := #[.tmp 30, .tmp 31]) rfl ?_); at_builtin; refine Kd.R_append (Kd.int .u8) (w0 := w0) w0.heap.size rfl (.tmp 30) (.tmp 31) 24 5 (.int .u8 0) 1 rfl Try.underlying24 info5 rfl (by decide) (by omega) u9000_ l0 192 [.int .u8 192] (fun k_ => (P0_ k_ ∨ w.heap.size ≤ k_)) (fun _ => False) rfl rfl ?aP (fun _ hk => hk.elim) ?aF ?aO ?aB ?aS ?aL ?_; (case aP => exact rfl); (case aB => exact (by repeat (first | (with_reducible first | exact HB.out | apply below_alloc | apply pw_below_drewN | apply below_drew1) | exact HB.out))); (case aF => exact (fun k_ hk => (.inr (Nat.le_trans (by first | exact HK.out.1 | exact (show Kept w _ (fun k_ => P0_ k_) from by repeat (first | (with_reducible first | exact HK.out | apply Kept.alloc | apply Kept.drewN | apply Kept.drew) | exact HK.out)).1) hk)))); (case aO => exact (by (with_reducible repeat (first | apply Kd.R_alloc | apply Kd.R_drewN | apply Kd.R_drew)); exact HO0.out)); (case aS => exact (below_size (by repeat (first | (with_reducible first | exact HB.out | apply below_alloc | apply pw_below_drewN | apply below_drew1) | exact HB.out)))); (case aL => have := LMc14.out; omega); intro v114 w16 ho hb hg hat; rw [← Ny113.out] at ho; have n0_ := Aside0.mk (hb); have n1_ := Aside0.mk (Kept.of_grown (S := (fun k_ => P0_ k_)) hg (by repeat (first | (with_reducible first | exact HK.out | apply Kept.alloc | apply Kept.drewN | apply Kept.drew) | exact HK.out)) (fun k_ e_ => (HO0.out.1 k_ e_))); have n2_ := Aside0.mk (ho); clear HB; clear HK; clear HO0; have HB := n0_; have HK := n1_; have HO115 := n2_; clear n0_ n1_ n2_; clear ho hb hg hat; obtain ⟨Ao17, co17, eo17⟩ := Kd.R_slice HO115.out; subst eo17) | ((with_reducible refine gate_callee (f := 32) rfl ?_); refine goesL_ (some 34) rfl rfl Try.func32 (by kernel_rfl) rfl #[.slice Ao17 y113.length co17, .int .u64 a1, .int .i64 8] rfl (by (try simp only [List.map_toArray, List.map_cons, List.map_nil]); first | done | rfl | (simp only [List.length_drop, List.length_take]; rfl) | (go_simp; simp [IntKind.wrap, IntKind.bits, IntKind.signed]; omega)) ?_; (with_reducible refine (tally_big.calls k (fun k_ => some k_ = (.slice Ao17 y113.length co17 : Value).ownBlock) (.slice Ao17 y113.length co17) y113 a1 8 t116 w0 _ ?side1 ?side2 A15.out).mono ?_); (case side1 => repeat (first | (with_reducible first | exact HB.out | apply below_alloc | apply pw_below_drewN | apply below_drew1) | exact HB.out)); (case side2 => exact Kd.R_tight rfl HO115.out); rintro e w18 ⟨v117, rfl, ho0, hb, hkp⟩; refine ⟨_, rfl, ?_⟩; have n0_ := Aside0.mk (Kd.R_mono (ok' := fun k_ => (P0_ k_ ∨ w.heap.size ≤ k_)) ho0 (fun k_ hk_ => Or.elim hk_ (fun hs_ => (HO115.out.1 k_ (hs_).symm)) (fun hn_ => (.inr (Nat.le_trans (by first | exact HK.out.1 | exact (show Kept w _ (fun k_ => P0_ k_) from by repeat (first | (with_reducible first | exact HK.out | apply Kept.alloc | apply Kept.drewN | apply Kept.drew) | exact HK.out)).1) hn_))))); have n1_ := Aside0.mk (Kept.then_ (S := (fun k_ => P0_ k_)) (by repeat (first | (with_reducible first | exact HK.out | apply Kept.alloc | apply Kept.drewN | apply Kept.drew) | exact HK.out)) hkp (fun k_ hs_ => (fun e_ => (HO115.out.1 k_ e_.symm)) hs_)); have n2_ := Aside0.mk (hb); clear HK; clear HB; clear HO115; have HO118 := n0_; have HK := n1_; have HB := n2_; clear n0_ n1_ n2_; (try clear hb); (try clear hkp); (try clear ho0)))
          go_ret
          exact ⟨_, by first | rfl | (simp [errW_none, errW_some] <;> rfl) | (simp [*, errW_none, errW_some] <;> rfl), by (with_reducible repeat (first | apply Kd.R_alloc | apply Kd.R_drewN | apply Kd.R_drew)); exact HO118.out, by repeat (first | (with_reducible first | exact HB.out | apply below_alloc | apply pw_below_drewN | apply below_drew1) | exact HB.out), by repeat (first | (with_reducible first | exact HK.out | apply Kept.alloc | apply Kept.drewN | apply Kept.drew) | exact HK.out)⟩
        · rw [if_neg c14] at H
          exact absurd H (by simp)

/-- A state of type 56 at block g of W; what its slices lead to came in by w0. -/
def IsS56 (w0 W : World) (g : Nat) (f0 : ByteArray) (f1 : Int) : Prop := W.heap[g]? = some (.cells #[.string f0, .int .i64 f1] 56 (0, 0)) ∧ w0.heap.size ≤ g
theorem IsS56.grown {w0 W : World} {g : Nat} {f0 : ByteArray} {f1 : Int} {W1 : World} {row : Option Nat} (h : IsS56 w0 W g f0 f1) (hw : W.grownBy W1 row) (hne : some g ≠ row) : IsS56 w0 W1 g f0 f1 := by
  obtain ⟨hb, hg⟩ := h
  exact ⟨blk_grown hb hw hne, hg⟩
theorem IsS56.own_neN {w0 W : World} {g : Nat} {f0 : ByteArray} {f1 : Int} {α : Type} {d : Kd α} {e : Nat} {base : Nat} {ok : Nat → Prop} {v : Value} {xs : List α} (h : IsS56 w0 W g f0 f1) (ho : Kd.N d e W base ok v xs) (ht : e ≠ 56) : some g ≠ v.ownBlock := by
  obtain ⟨hb, hg⟩ := h
  exact Kd.N_ne ho hb ht
theorem IsS56.fresh {w0 W : World} {g : Nat} {f0 : ByteArray} {f1 : Int} (h : IsS56 w0 W g f0 f1) : ∀ k, W.heap.size ≤ k → k ≠ g := by
  obtain ⟨hb, hg⟩ := h
  exact Kd.freshB hb
theorem IsS56.kept {w0 W : World} {g : Nat} {f0 : ByteArray} {f1 : Int} {W1 : World} {S : Nat → Prop} (h : IsS56 w0 W g f0 f1) (hk : Kept W W1 S) (hne : ¬ S g) : IsS56 w0 W1 g f0 f1 := by
  obtain ⟨hb, hg⟩ := h
  exact ⟨blk_kept hb hk hne, hg⟩
theorem IsS56.below {w0 W : World} {g : Nat} {f0 : ByteArray} {f1 : Int} {W1 : World} (h : IsS56 w0 W g f0 f1) (hw : Below W.heap.size W W1) : IsS56 w0 W1 g f0 f1 := h.grown (grown_of_below hw none) (by simp)
theorem IsS56.alloc {w0 W : World} {g : Nat} {f0 : ByteArray} {f1 : Int} (h : IsS56 w0 W g f0 f1) (o : Obj) : IsS56 w0 (W.alloc o) g f0 f1 := h.below (below_alloc (Below.refl _ _) o)
theorem IsS56.drewN {w0 W : World} {g : Nat} {f0 : ByteArray} {f1 : Int} (h : IsS56 w0 W g f0 f1) (m : Nat) : IsS56 w0 (W.drewN m) g f0 f1 := h
theorem IsS56.drew {w0 W : World} {g : Nat} {f0 : ByteArray} {f1 : Int} (h : IsS56 w0 W g f0 f1) : IsS56 w0 W.drew g f0 f1 := h
theorem IsS56.at_ {w0 W : World} {g : Nat} {f0 : ByteArray} {f1 : Int} {w' : World} {m : Nat} (hq : W.drewN m = w') (h : IsS56 w0 W g f0 f1) : IsS56 w0 w' g f0 f1 := by subst hq; exact IsS56.drewN h m
theorem IsS56.apart {w0 W : World} {g : Nat} {f0 : ByteArray} {f1 : Int} {α : Type} {d : Kd α} {e : Nat} {base : Nat} {ok : Nat → Prop} {v : Value} {xs : List α} (h : IsS56 w0 W g f0 f1) (ho : d.R e W base ok v xs) (ht : ∀ q, q ∈ e :: d.E → q ≠ 56) : d.R e W base (fun k => ok k ∧ k ≠ g) v xs := by
  obtain ⟨hb, hg⟩ := h
  exact Kd.R_types ho hb ht
theorem IsS56.own_ne {w0 W : World} {g : Nat} {f0 : ByteArray} {f1 : Int} {α : Type} {d : Kd α} {e : Nat} {base : Nat} {ok : Nat → Prop} {v : Value} {xs : List α} (h : IsS56 w0 W g f0 f1) (ho : d.R e W base ok v xs) (ht : e ≠ 56) : some g ≠ v.ownBlock := by
  obtain ⟨hb, hg⟩ := h
  exact Kd.R_ne ho hb ht
theorem IsS56.apartQ {w0 W : World} {g : Nat} {f0 : ByteArray} {f1 : Int} {α : Type} {d : Kd α} {e : Nat} {base : Nat} {ok : Nat → Prop} {v : Value} {xs : List α} (h : IsS56 w0 W g f0 f1) (ho : d.Q e W base ok v xs) (ht : ∀ q, q ∈ e :: d.E → q ≠ 56) : d.Q e W base (fun k => ok k ∧ k ≠ g) v xs := by
  obtain ⟨hb, hg⟩ := h
  exact Kd.Q_types ho hb ht
theorem IsS56.own_neQ {w0 W : World} {g : Nat} {f0 : ByteArray} {f1 : Int} {α : Type} {d : Kd α} {e : Nat} {base : Nat} {ok : Nat → Prop} {v : Value} {xs : List α} (h : IsS56 w0 W g f0 f1) (ho : d.Q e W base ok v xs) (ht : e ≠ 56) : some g ≠ v.ownBlock := by
  obtain ⟨hb, hg⟩ := h
  exact Kd.Q_ne ho hb ht
theorem IsS56.apartS {w0 W : World} {g : Nat} {f0 : ByteArray} {f1 : Int} {α : Type} {d : Kd α} {e : Nat} {base : Nat} {ok : Nat → Prop} {v : Value} {xs : List α} (h : IsS56 w0 W g f0 f1) (ho : d.S e W base ok v xs) (ht : ∀ q, q ∈ e :: d.E → q ≠ 56) : d.S e W base (fun k => ok k ∧ k ≠ g) v xs := by
  obtain ⟨hb, hg⟩ := h
  exact Kd.S_types ho hb ht
theorem IsS56.own_neS {w0 W : World} {g : Nat} {f0 : ByteArray} {f1 : Int} {α : Type} {d : Kd α} {e : Nat} {base : Nat} {ok : Nat → Prop} {v : Value} {xs : List α} (h : IsS56 w0 W g f0 f1) (ho : d.S e W base ok v xs) (ht : e ≠ 56) : some g ≠ v.ownBlock := by
  obtain ⟨hb, hg⟩ := h
  exact Kd.S_ne ho hb ht
theorem IsS56.lt {w0 W : World} {g : Nat} {f0 : ByteArray} {f1 : Int} (h : IsS56 w0 W g f0 f1) : g < W.heap.size := by
  obtain ⟨hb, hg⟩ := h
  exact blk_lt hb
theorem IsS56.ge {w0 W : World} {g : Nat} {f0 : ByteArray} {f1 : Int} (h : IsS56 w0 W g f0 f1) : w0.heap.size ≤ g := by
  obtain ⟨hb, hg⟩ := h
  exact hg
theorem IsS56.ne_blk {w0 W : World} {g : Nat} {f0 : ByteArray} {f1 : Int} {a : Nat} {cs : Array Value} {t : TypeId} {fr : Nat × Nat} (h : IsS56 w0 W g f0 f1) (hb2 : W.heap[a]? = some (.cells cs t fr)) (ht : t ≠ 56) : g ≠ a := by
  obtain ⟨hb, hg⟩ := h
  rintro rfl
  rw [hb] at hb2
  injection hb2 with hb2
  injection hb2 with _ ht2
  exact ht ht2.symm
theorem IsS56.far {w0 W : World} {g : Nat} {f0 : ByteArray} {f1 : Int} {p : Addr} (h : IsS56 w0 W g f0 f1) (hne : g ≠ p.block) (u : Value) : IsS56 w0 (W.setCell p u) g f0 f1 := by
  obtain ⟨hb, hg⟩ := h
  exact ⟨blk_far hb hne u, hg⟩
theorem cellS56_0 {W : World} {g : Nat} {f0 : ByteArray} {f1 : Int} (h : W.heap[g]? = some (.cells #[.string f0, .int .i64 f1] 56 (0, 0))) : W.cell? ⟨g, 0, none⟩ = some (.string f0) := (blk_cell h 0).trans rfl
theorem IsS56.set_0 {w0 W : World} {g : Nat} {f0 : ByteArray} {f1 : Int} (h : IsS56 w0 W g f0 f1) (x : ByteArray) : IsS56 w0 (W.setCell ⟨g, 0, none⟩ (.string x)) g x f1 := by
  obtain ⟨hb, hg⟩ := h
  exact ⟨by simpa using blk_set hb 0 (.string x), hg⟩
theorem cellS56_1 {W : World} {g : Nat} {f0 : ByteArray} {f1 : Int} (h : W.heap[g]? = some (.cells #[.string f0, .int .i64 f1] 56 (0, 0))) : W.cell? ⟨g, 1, none⟩ = some (.int .i64 f1) := (blk_cell h 1).trans rfl
theorem IsS56.set_1 {w0 W : World} {g : Nat} {f0 : ByteArray} {f1 : Int} (h : IsS56 w0 W g f0 f1) (x : Int) : IsS56 w0 (W.setCell ⟨g, 1, none⟩ (.int .i64 x)) g f0 x := by
  obtain ⟨hb, hg⟩ := h
  exact ⟨by simpa using blk_set hb 1 (.int .i64 x), hg⟩
theorem IsS56.new (w0 W : World) (f0 : ByteArray) (f1 : Int) (hB : Below w0.heap.size w0 W) : IsS56 w0 (W.alloc (.cells #[.string f0, .int .i64 f1] 56)) W.heap.size f0 f1 := ⟨by simpa using heap_alloc_new W _, hB.size⟩

/-! ### tally_From: function 17 -/
def tally_From.f (a0 : ByteArray) : Option (ByteArray × Int) := some (a0, 0)
set_option maxHeartbeats 8000000 in
set_option maxRecDepth 100000 in
theorem tally_From.calls (a0 : ByteArray) (r1 : ByteArray) (r2 : Int) (w0 w : World) (hB : Below w0.heap.size w0 w) (h : tally_From.f a0 = some (r1, r2)) :
    Calls Try.prog 17 #[.string a0] w fun e w' => ∃ g_ : Nat, e = .returned (.pointer (some ⟨g_, 0, none⟩)) ∧ IsS56 w0 w' g_ r1 r2 ∧ Below w0.heap.size w0 w' ∧ Below w.heap.size w w' := by
  have hu56 := Try.underlying56
  have HBW := Aside0.mk (Below.refl w.heap.size w)
  have HW0 := Aside0.mk hB.size
  have HB := Aside0.mk hB
  clear hB
  have H : (some (a0, 0)) = some (r1, r2) := h
  clear h
  simp only [Option.some.injEq, Prod.mk.injEq] at H
  obtain ⟨rfl, rfl⟩ := H
  go_enter Try.func17, Try.ntmps17
  go_wp2_with (first | ((with_reducible refine gate_dst (N := 5) rfl ?_); refine box_event ?hg (N := 5) ?hd (cs := #[.string a0, .int .i64 0]) (t := 56) ?hr ?_; (case hd => rfl); (case hg => rfl); (case hr => first | (go_simp; done) | (go_simp; rfl)); intro gb119 hg w2 hbox hb; have n0_ := Aside0.mk (below_step HBW.out hb); have n1_ := Aside0.mk (below_step (by repeat (first | (with_reducible first | exact HB.out | apply below_alloc | apply pw_below_drewN | apply below_drew1) | exact HB.out)) hb); have n2_ := Aside0.mk (hbox); have n3_ := Aside0.mk ((by rw [hg]; exact (below_size (by repeat (first | (with_reducible first | exact HBW.out | apply below_alloc | apply pw_below_drewN | apply below_drew1) | exact HBW.out))) : w.heap.size ≤ gb119)); have n4_ := Aside0.mk ((Nat.le_trans HW0.out (by rw [hg]; exact (below_size (by repeat (first | (with_reducible first | exact HBW.out | apply below_alloc | apply pw_below_drewN | apply below_drew1) | exact HBW.out))) : w.heap.size ≤ gb119) : w0.heap.size ≤ gb119)); clear HBW; clear HB; have HBW := n0_; have HB := n1_; have BK119 := n2_; have GW119 := n3_; have GE119 := n4_; clear n0_ n1_ n2_ n3_ n4_; clear hb hbox hg))
  go_ret
  exact ⟨_, rfl, (show IsS56 w0 _ gb119 a0 0 from ⟨by (with_reducible repeat (first | refine blk_drewN ?_ _ | refine blk_drew ?_ | refine blk_alloc ?_ _)); exact BK119.out, GE119.out⟩), by repeat (first | (with_reducible first | exact HB.out | apply below_alloc | apply pw_below_drewN | apply below_drew1 | refine below_set ?_ GE119.out) | exact HB.out), by repeat (first | (with_reducible first | exact HBW.out | apply below_alloc | apply pw_below_drewN | apply below_drew1 | refine below_set ?_ GW119.out) | exact HBW.out)⟩

/-! ### tally_Cursor_ok: function 34 -/
def tally_Cursor_ok.f (s0_0 : ByteArray) (s0_1 : Int) : Option (Bool × ByteArray × Int) := some ((s0_1 == 0), s0_0, s0_1)
set_option maxHeartbeats 8000000 in
set_option maxRecDepth 100000 in
theorem tally_Cursor_ok.calls (g : Nat) (s0_0 : ByteArray) (s0_1 : Int) (r1 : Bool) (r2 : ByteArray) (r3 : Int) (w0 w : World) (hI : IsS56 w0 w g s0_0 s0_1) (hB : Below w0.heap.size w0 w) (h : tally_Cursor_ok.f s0_0 s0_1 = some (r1, r2, r3)) :
    Calls Try.prog 34 #[.pointer (some ⟨g, 0, none⟩)] w fun e w' => e = .returned (.bool r1) ∧ IsS56 w0 w' g r2 r3 ∧ Below w0.heap.size w0 w' ∧ KeepBut w w' g none := by
  have HI0 := Aside0.mk hI
  have HK := Aside0.mk (KeepBut.refl w g none)
  have HL := Aside0.mk hB.size
  clear hI
  have HW0 := Aside0.mk hB.size
  have HB := Aside0.mk hB
  clear hB
  have H : (some ((s0_1 == 0), s0_0, s0_1)) = some (r1, r2, r3) := h
  clear h
  simp only [Option.some.injEq, Prod.mk.injEq] at H
  obtain ⟨rfl, rfl, rfl⟩ := H
  obtain ⟨HGz2, hgz2⟩ := HI0.out
  have hcz2_0 := cellS56_0 HGz2
  have hcz2_1 := cellS56_1 HGz2
  have hfz2_0 := blk_frozen HGz2 0
  have hfz2_1 := blk_frozen HGz2 1
  clear HGz2 hgz2
  go_enter Try.func34, Try.ntmps34
  go_wp2
  go_ret
  exact ⟨by first | rfl | (simp [errW_none, errW_some] <;> rfl) | (simp [*, errW_none, errW_some] <;> rfl), by repeat (first | (with_reducible first | exact HI0.out | apply IsS56.alloc | apply IsS56.drewN | apply IsS56.drew | apply IsS56.set_0 | apply IsS56.set_1) | exact HI0.out), by repeat (first | (with_reducible first | exact HB.out | apply below_alloc | apply pw_below_drewN | apply below_drew1 | refine below_set ?_ (IsS56.ge HI0.out)) | exact HB.out), by repeat (first | (with_reducible first | exact HK.out | apply KeepBut.set_ | apply keep_drewN | apply keep_drew | apply keep_alloc) | exact HK.out)⟩

/-! ### tally_next: function 35 -/
def tally_next.f (a0 : ByteArray) : Option (Int × ByteArray × Int) := some ((decU (bytesOf a0)).1, a0.extract (decU (bytesOf a0)).2.1 a0.size, (decU (bytesOf a0)).2.2)
theorem tally_next.bt0 (s : ByteArray) : ∀ h : 0 < s.size, (((s[0]'h).toNat : Nat) : Int) = bt s 0 := fun h => bt_at s 0 h
theorem tally_next.whole (s : ByteArray) : s.extract 0 s.size = s := bytesOf_inj (by rw [bytesOf_tail]; rfl)
theorem tally_next.tl (s : ByteArray) : (s.toList.isEmpty = true ↔ bytesOf s = []) := by
  rw [ByteArray.toList_eq]; unfold bytesOf; simp
theorem tally_next.or_ (x c : Int) (h0 : 0 ≤ x) (h1 : x * 256 < 18446744073709551616) (hc : 0 ≤ c) (hc2 : c < 256) : Go.bits .or .u64 (IntKind.u64.wrap (x * 256)) (IntKind.u64.wrap c) = x * 256 + c := by
  have e1 : IntKind.u64.wrap (x * 256) = x * 256 := by simp [IntKind.wrap, IntKind.bits, IntKind.signed]; omega
  have e2 : IntKind.u64.wrap c = c := by simp [IntKind.wrap, IntKind.bits, IntKind.signed]; omega
  rw [e1, e2, Go.u64_or _ _ (by omega) h1 hc (by omega), Go.nat_join 8 _ _ (by omega) (by omega)]
  omega
set_option maxHeartbeats 400000 in
set_option maxRecDepth 100000 in
theorem tally_next.empty (s : ByteArray) (w : World) (h0 : s.toList.isEmpty = true) :
    Calls Try.prog 35 #[.string s] w fun e w' => e = .returned (.tuple #[.int .u64 0, .string s, .int .i64 2]) ∧ Below w.heap.size w w' := by
  go_enter Try.func35, Try.ntmps35
  go_wp2
  go_ret3
  exact ⟨rfl, Below.refl _ _⟩
set_option maxHeartbeats 400000 in
set_option maxRecDepth 100000 in
theorem tally_next.big (s : ByteArray) (w : World) (h0 : s.toList.isEmpty = false) (h1 : 0 < s.size) (h2 : 192 < bt s 0) :
    Calls Try.prog 35 #[.string s] w fun e w' => e = .returned (.tuple #[.int .u64 0, .string s, .int .i64 5]) ∧ Below w.heap.size w w' := by
  have hb := tally_next.bt0 s
  have hr := bt_range s 0
  have q1 : 0 ≤ bt s 0 / 64 := by omega
  have q2 : bt s 0 / 64 ≤ 64 := by omega
  have q3 : decide (192 ≤ bt s 0) = true := by simp; omega
  have q4 : decide (192 < bt s 0) = true := by simp; omega
  go_enter Try.func35, Try.ntmps35
  go_wp2
  go_ret3
  exact ⟨rfl, Below.refl _ _⟩
set_option maxHeartbeats 400000 in
set_option maxRecDepth 100000 in
theorem tally_next.short (s : ByteArray) (w : World) (n : Nat) (h0 : s.toList.isEmpty = false) (h1 : 0 < s.size) (h2 : bt s 0 < 192) (hn : IntKind.i64.wrap (2 ^ (bt s 0 / 64).toNat) = (n : Int)) (h3 : s.size < n) :
    Calls Try.prog 35 #[.string s] w fun e w' => e = .returned (.tuple #[.int .u64 0, .string s, .int .i64 2]) ∧ Below w.heap.size w w' := by
  have hb := tally_next.bt0 s
  have hr := bt_range s 0
  have q1 : 0 ≤ bt s 0 / 64 := by omega
  have q2 : bt s 0 / 64 ≤ 64 := by omega
  have q3 : decide (192 ≤ bt s 0) = false := by simp; omega
  go_enter Try.func35, Try.ntmps35
  go_wp2
  go_ret3
  exact ⟨rfl, Below.refl _ _⟩
set_option maxHeartbeats 400000 in
set_option maxRecDepth 100000 in
theorem tally_next.short9 (s : ByteArray) (w : World) (h0 : s.toList.isEmpty = false) (h1 : 0 < s.size) (h2 : bt s 0 = 192) (h3 : s.size < 9) :
    Calls Try.prog 35 #[.string s] w fun e w' => e = .returned (.tuple #[.int .u64 0, .string s, .int .i64 2]) ∧ Below w.heap.size w w' := by
  have hb : ∀ h : 0 < s.size, (((s[0]'h).toNat : Nat) : Int) = 192 := fun h => (tally_next.bt0 s h).trans h2
  clear h2
  go_enter Try.func35, Try.ntmps35
  go_wp2
  go_ret3
  exact ⟨rfl, Below.refl _ _⟩
theorem tally_next.cells (s : ByteArray) (w : World) (n : Nat) (h3 : n ≤ s.size) (L : List Int) (hL : L = ((bytesOf s).take n).drop 1) : ∀ j, j < n - 1 → (Lib.bytesWorld w 5 (s.extract 1 n)).cell? ⟨w.heap.size, j, none⟩ = some (.int .u8 (rd L j)) := by
  intro j hj
  rw [Lib.bytesWorld_cell w 5 (s.extract 1 n) j (by simp; omega), hL, ← bytesOf_extract]
  unfold bytesOf rd
  have hs : j < (s.extract 1 n).data.toList.length := by simp; omega
  simp only [List.getD_eq_getElem?_getD, List.getElem?_map, Int.toNat_natCast, List.getElem?_eq_getElem hs, Option.map_some, Option.getD_some]
set_option maxHeartbeats 1000000 in
set_option maxRecDepth 100000 in
theorem tally_next.loop_lt_bad (s : ByteArray) (w : World) (n : Nat) (x0 least : Int) (h0 : s.toList.isEmpty = false) (h1 : 0 < s.size) (h2 : bt s 0 < 192) (hn : IntKind.i64.wrap (2 ^ (bt s 0 / 64).toNat) = (n : Int)) (h3 : n ≤ s.size) (hm : 1 ≤ n) (hm2 : n < 10)
    (hx : bt s 0 % 64 = x0) (L : List Int) (hL : L = ((bytesOf s).take n).drop 1) (hbd : ∀ k, k < n - 1 → 0 ≤ numI x0 (L.take k) ∧ numI x0 (L.take k) * 256 < 18446744073709551616)
    (hleast : ∀ w, (Instr.index 63 (.agg #[.int .u64 0, .int .u64 0, .int .u64 64, .int .u64 0, .int .u64 16384, .int .u64 0, .int .u64 0, .int .u64 0, .int .u64 0, .int .u64 1073741824]) (.int .i64 n)).run Try.prog w = .ok (.int .u64 least) w)
    (hd : decide (numI x0 L < least) = true) :
    Calls Try.prog 35 #[.string s] w fun e w' => e = .returned (.tuple #[.int .u64 0, .string s, .int .i64 5]) ∧ Below w.heap.size w w' := by
  have hb := tally_next.bt0 s
  have hr := bt_range s 0
  have q1 : 0 ≤ bt s 0 / 64 := by omega
  have q2 : bt s 0 / 64 ≤ 64 := by omega
  have q3 : decide (192 ≤ bt s 0) = false := by simp; omega
  have q4 : decide (s.size < n) = false := by simp; omega
  have q5 : (1 : Int) ≤ (n : Int) := by omega
  have q6 : (n : Int) ≤ (s.size : Int) := by omega
  have hcv := fun (W : World) (t : ByteArray) => Lib.run_convert_string_bytes (P := Try.prog) W 9 24 5 t Try.underlying9 Try.underlying24 Try.underlying5
  have HLB : Bs L := by rw [hL]; exact ((Bs.bytesOf s).take _).drop _
  have hLl : L.length = n - 1 := by rw [hL]; simp [bytesOf_size]; omega
  have hcell := tally_next.cells s w n h3 L hL
  have HL := Aside0.mk hLl; have HC := Aside0.mk hcell; have HB := Aside0.mk hbd; have HBL := Aside0.mk HLB
  have HBW := Aside0.mk (bytes_below (Below.refl w.heap.size w) (Nat.le_refl _) 5 (s.extract 1 n))
  have hlo : 0 ≤ numI x0 L ∨ True := .inr trivial
  clear hL hLl hcell hbd HLB
  go_enter Try.func35, Try.ntmps35
  go_wp2
  go_loop [7, 37] (fun x i => ∃ k : Nat, k ≤ n - 1 ∧ i = .int .i64 k ∧ x = .int .u64 (numI x0 (L.take k))) (fun _ i => (n - 1) - (intOf i).toNat)
  case atStart => exact ⟨0, Nat.zero_le _, rfl, by first | rfl | (simp [numI_nil, ← hx]; done) | (simp [numI_nil, hx])⟩
  case round =>
    obtain ⟨k, hk, rfl, rfl⟩ := hrel
    by_cases hlt : k < n - 1
    · have hc := HC.out k hlt
      have hs := numI_step x0 L k (by rw [HL.out]; exact hlt)
      have hrd : 0 ≤ rd L k ∧ rd L k < 256 := by
        have hk' : k < L.length := by rw [HL.out]; exact hlt
        have := HBL.out (rd L k) (by simp [rd, List.getD_eq_getElem?_getD, List.getElem?_eq_getElem hk'])
        exact this
      have ho := Aside0.mk ((tally_next.or_ (numI x0 (L.take k)) (rd L k) (HB.out k hlt).1 (HB.out k hlt).2 hrd.1 hrd.2).trans hs.symm)
      clear hs
      go_wp2
      go_round
      case rel => exact ⟨k + 1, by omega, by go_num, by first | (rw [← ho.out]; rfl) | (rw [← ho.out]; congr 2; simp [IntKind.wrap, IntKind.bits, IntKind.signed]; omega)⟩
      case measure => simp [intOf]; omega
    · have he : k = n - 1 := by omega
      have ht : L.take k = L := List.take_of_length_le (by rw [HL.out]; omega)
      rw [ht]
      clear hk
      go_wp2
      try go_quiet (fail)
      try go_wp2
      go_ret3
      exact ⟨by rfl, by first | exact HBW.out | exact pw_below_drewN HBW.out _⟩
set_option maxHeartbeats 1000000 in
set_option maxRecDepth 100000 in
theorem tally_next.loop_lt_ok (s : ByteArray) (w : World) (n : Nat) (x0 least : Int) (h0 : s.toList.isEmpty = false) (h1 : 0 < s.size) (h2 : bt s 0 < 192) (hn : IntKind.i64.wrap (2 ^ (bt s 0 / 64).toNat) = (n : Int)) (h3 : n ≤ s.size) (hm : 1 ≤ n) (hm2 : n < 10)
    (hx : bt s 0 % 64 = x0) (L : List Int) (hL : L = ((bytesOf s).take n).drop 1) (hbd : ∀ k, k < n - 1 → 0 ≤ numI x0 (L.take k) ∧ numI x0 (L.take k) * 256 < 18446744073709551616)
    (hleast : ∀ w, (Instr.index 63 (.agg #[.int .u64 0, .int .u64 0, .int .u64 64, .int .u64 0, .int .u64 16384, .int .u64 0, .int .u64 0, .int .u64 0, .int .u64 0, .int .u64 1073741824]) (.int .i64 n)).run Try.prog w = .ok (.int .u64 least) w)
    (hd : decide (numI x0 L < least) = false) :
    Calls Try.prog 35 #[.string s] w fun e w' => e = .returned (.tuple #[.int .u64 (numI x0 L), .string (s.extract n s.size), .int .i64 0]) ∧ Below w.heap.size w w' := by
  have hb := tally_next.bt0 s
  have hr := bt_range s 0
  have q1 : 0 ≤ bt s 0 / 64 := by omega
  have q2 : bt s 0 / 64 ≤ 64 := by omega
  have q3 : decide (192 ≤ bt s 0) = false := by simp; omega
  have q4 : decide (s.size < n) = false := by simp; omega
  have q5 : (1 : Int) ≤ (n : Int) := by omega
  have q6 : (n : Int) ≤ (s.size : Int) := by omega
  have hcv := fun (W : World) (t : ByteArray) => Lib.run_convert_string_bytes (P := Try.prog) W 9 24 5 t Try.underlying9 Try.underlying24 Try.underlying5
  have HLB : Bs L := by rw [hL]; exact ((Bs.bytesOf s).take _).drop _
  have hLl : L.length = n - 1 := by rw [hL]; simp [bytesOf_size]; omega
  have hcell := tally_next.cells s w n h3 L hL
  have HL := Aside0.mk hLl; have HC := Aside0.mk hcell; have HB := Aside0.mk hbd; have HBL := Aside0.mk HLB
  have HBW := Aside0.mk (bytes_below (Below.refl w.heap.size w) (Nat.le_refl _) 5 (s.extract 1 n))
  have hlo : 0 ≤ numI x0 L ∨ True := .inr trivial
  clear hL hLl hcell hbd HLB
  go_enter Try.func35, Try.ntmps35
  go_wp2
  go_loop [7, 37] (fun x i => ∃ k : Nat, k ≤ n - 1 ∧ i = .int .i64 k ∧ x = .int .u64 (numI x0 (L.take k))) (fun _ i => (n - 1) - (intOf i).toNat)
  case atStart => exact ⟨0, Nat.zero_le _, rfl, by first | rfl | (simp [numI_nil, ← hx]; done) | (simp [numI_nil, hx])⟩
  case round =>
    obtain ⟨k, hk, rfl, rfl⟩ := hrel
    by_cases hlt : k < n - 1
    · have hc := HC.out k hlt
      have hs := numI_step x0 L k (by rw [HL.out]; exact hlt)
      have hrd : 0 ≤ rd L k ∧ rd L k < 256 := by
        have hk' : k < L.length := by rw [HL.out]; exact hlt
        have := HBL.out (rd L k) (by simp [rd, List.getD_eq_getElem?_getD, List.getElem?_eq_getElem hk'])
        exact this
      have ho := Aside0.mk ((tally_next.or_ (numI x0 (L.take k)) (rd L k) (HB.out k hlt).1 (HB.out k hlt).2 hrd.1 hrd.2).trans hs.symm)
      clear hs
      go_wp2
      go_round
      case rel => exact ⟨k + 1, by omega, by go_num, by first | (rw [← ho.out]; rfl) | (rw [← ho.out]; congr 2; simp [IntKind.wrap, IntKind.bits, IntKind.signed]; omega)⟩
      case measure => simp [intOf]; omega
    · have he : k = n - 1 := by omega
      have ht : L.take k = L := List.take_of_length_le (by rw [HL.out]; omega)
      rw [ht]
      clear hk
      go_wp2
      try go_quiet (fail)
      try go_wp2
      go_ret3
      exact ⟨by rfl, by first | exact HBW.out | exact pw_below_drewN HBW.out _⟩
set_option maxHeartbeats 1000000 in
set_option maxRecDepth 100000 in
theorem tally_next.loop_eq_bad (s : ByteArray) (w : World) (least : Int) (h0 : s.toList.isEmpty = false) (h1 : 0 < s.size) (h2 : bt s 0 = 192) (h3 : 9 ≤ s.size)
    (L : List Int) (hL : L = ((bytesOf s).take 9).drop 1) (hbd : ∀ k, k < 9 - 1 → 0 ≤ numI 0 (L.take k) ∧ numI 0 (L.take k) * 256 < 18446744073709551616)
    (hleast : ∀ w, (Instr.index 63 (.agg #[.int .u64 0, .int .u64 0, .int .u64 64, .int .u64 0, .int .u64 16384, .int .u64 0, .int .u64 0, .int .u64 0, .int .u64 0, .int .u64 1073741824]) (.int .i64 9)).run Try.prog w = .ok (.int .u64 least) w)
    (hd : decide (numI 0 L < least) = true) :
    Calls Try.prog 35 #[.string s] w fun e w' => e = .returned (.tuple #[.int .u64 0, .string s, .int .i64 5]) ∧ Below w.heap.size w w' := by
  have hb : ∀ h : 0 < s.size, (((s[0]'h).toNat : Nat) : Int) = 192 := fun h => (tally_next.bt0 s h).trans h2
  clear h2
  have q4 : decide (s.size < 9) = false := by simp; omega
  have q5 : (1 : Int) ≤ (9 : Int) := by omega
  have q6 : (9 : Int) ≤ (s.size : Int) := by omega
  have hcv := fun (W : World) (t : ByteArray) => Lib.run_convert_string_bytes (P := Try.prog) W 9 24 5 t Try.underlying9 Try.underlying24 Try.underlying5
  have HLB : Bs L := by rw [hL]; exact ((Bs.bytesOf s).take _).drop _
  have hLl : L.length = 9 - 1 := by rw [hL]; simp [bytesOf_size]; omega
  have hcell := tally_next.cells s w 9 h3 L hL
  have HL := Aside0.mk hLl; have HC := Aside0.mk hcell; have HB := Aside0.mk hbd; have HBL := Aside0.mk HLB
  have HBW := Aside0.mk (bytes_below (Below.refl w.heap.size w) (Nat.le_refl _) 5 (s.extract 1 9))
  have hlo : 0 ≤ numI 0 L ∨ True := .inr trivial
  clear hL hLl hcell hbd HLB
  go_enter Try.func35, Try.ntmps35
  go_wp2
  go_loop [7, 37] (fun x i => ∃ k : Nat, k ≤ 9 - 1 ∧ i = .int .i64 k ∧ x = .int .u64 (numI 0 (L.take k))) (fun _ i => (9 - 1) - (intOf i).toNat)
  case atStart => exact ⟨0, Nat.zero_le _, rfl, by rfl⟩
  case round =>
    obtain ⟨k, hk, rfl, rfl⟩ := hrel
    by_cases hlt : k < 9 - 1
    · have hc := HC.out k hlt
      have hs := numI_step 0 L k (by rw [HL.out]; exact hlt)
      have hrd : 0 ≤ rd L k ∧ rd L k < 256 := by
        have hk' : k < L.length := by rw [HL.out]; exact hlt
        have := HBL.out (rd L k) (by simp [rd, List.getD_eq_getElem?_getD, List.getElem?_eq_getElem hk'])
        exact this
      have ho := Aside0.mk ((tally_next.or_ (numI 0 (L.take k)) (rd L k) (HB.out k hlt).1 (HB.out k hlt).2 hrd.1 hrd.2).trans hs.symm)
      clear hs
      go_wp2
      go_round
      case rel => exact ⟨k + 1, by omega, by go_num, by first | (rw [← ho.out]; rfl) | (rw [← ho.out]; congr 2; simp [IntKind.wrap, IntKind.bits, IntKind.signed]; omega)⟩
      case measure => simp [intOf]; omega
    · have he : k = 9 - 1 := by omega
      have ht : L.take k = L := List.take_of_length_le (by rw [HL.out]; omega)
      rw [ht]
      clear hk
      go_wp2
      try go_quiet (fail)
      try go_wp2
      go_ret3
      exact ⟨by rfl, by first | exact HBW.out | exact pw_below_drewN HBW.out _⟩
set_option maxHeartbeats 1000000 in
set_option maxRecDepth 100000 in
theorem tally_next.loop_eq_ok (s : ByteArray) (w : World) (least : Int) (h0 : s.toList.isEmpty = false) (h1 : 0 < s.size) (h2 : bt s 0 = 192) (h3 : 9 ≤ s.size)
    (L : List Int) (hL : L = ((bytesOf s).take 9).drop 1) (hbd : ∀ k, k < 9 - 1 → 0 ≤ numI 0 (L.take k) ∧ numI 0 (L.take k) * 256 < 18446744073709551616)
    (hleast : ∀ w, (Instr.index 63 (.agg #[.int .u64 0, .int .u64 0, .int .u64 64, .int .u64 0, .int .u64 16384, .int .u64 0, .int .u64 0, .int .u64 0, .int .u64 0, .int .u64 1073741824]) (.int .i64 9)).run Try.prog w = .ok (.int .u64 least) w)
    (hd : decide (numI 0 L < least) = false) :
    Calls Try.prog 35 #[.string s] w fun e w' => e = .returned (.tuple #[.int .u64 (numI 0 L), .string (s.extract 9 s.size), .int .i64 0]) ∧ Below w.heap.size w w' := by
  have hb : ∀ h : 0 < s.size, (((s[0]'h).toNat : Nat) : Int) = 192 := fun h => (tally_next.bt0 s h).trans h2
  clear h2
  have q4 : decide (s.size < 9) = false := by simp; omega
  have q5 : (1 : Int) ≤ (9 : Int) := by omega
  have q6 : (9 : Int) ≤ (s.size : Int) := by omega
  have hcv := fun (W : World) (t : ByteArray) => Lib.run_convert_string_bytes (P := Try.prog) W 9 24 5 t Try.underlying9 Try.underlying24 Try.underlying5
  have HLB : Bs L := by rw [hL]; exact ((Bs.bytesOf s).take _).drop _
  have hLl : L.length = 9 - 1 := by rw [hL]; simp [bytesOf_size]; omega
  have hcell := tally_next.cells s w 9 h3 L hL
  have HL := Aside0.mk hLl; have HC := Aside0.mk hcell; have HB := Aside0.mk hbd; have HBL := Aside0.mk HLB
  have HBW := Aside0.mk (bytes_below (Below.refl w.heap.size w) (Nat.le_refl _) 5 (s.extract 1 9))
  have hlo : 0 ≤ numI 0 L ∨ True := .inr trivial
  clear hL hLl hcell hbd HLB
  go_enter Try.func35, Try.ntmps35
  go_wp2
  go_loop [7, 37] (fun x i => ∃ k : Nat, k ≤ 9 - 1 ∧ i = .int .i64 k ∧ x = .int .u64 (numI 0 (L.take k))) (fun _ i => (9 - 1) - (intOf i).toNat)
  case atStart => exact ⟨0, Nat.zero_le _, rfl, by rfl⟩
  case round =>
    obtain ⟨k, hk, rfl, rfl⟩ := hrel
    by_cases hlt : k < 9 - 1
    · have hc := HC.out k hlt
      have hs := numI_step 0 L k (by rw [HL.out]; exact hlt)
      have hrd : 0 ≤ rd L k ∧ rd L k < 256 := by
        have hk' : k < L.length := by rw [HL.out]; exact hlt
        have := HBL.out (rd L k) (by simp [rd, List.getD_eq_getElem?_getD, List.getElem?_eq_getElem hk'])
        exact this
      have ho := Aside0.mk ((tally_next.or_ (numI 0 (L.take k)) (rd L k) (HB.out k hlt).1 (HB.out k hlt).2 hrd.1 hrd.2).trans hs.symm)
      clear hs
      go_wp2
      go_round
      case rel => exact ⟨k + 1, by omega, by go_num, by first | (rw [← ho.out]; rfl) | (rw [← ho.out]; congr 2; simp [IntKind.wrap, IntKind.bits, IntKind.signed]; omega)⟩
      case measure => simp [intOf]; omega
    · have he : k = 9 - 1 := by omega
      have ht : L.take k = L := List.take_of_length_le (by rw [HL.out]; omega)
      rw [ht]
      clear hk
      go_wp2
      try go_quiet (fail)
      try go_wp2
      go_ret3
      exact ⟨by rfl, by first | exact HBW.out | exact pw_below_drewN HBW.out _⟩
theorem tally_next.at_ (n : Nat) (v : Int) (h : [(0 : Int), 0, 64, 0, 16384, 0, 0, 0, 0, 1073741824][n]? = some v) : ∀ w, (Instr.index 63 (.agg #[.int .u64 0, .int .u64 0, .int .u64 64, .int .u64 0, .int .u64 16384, .int .u64 0, .int .u64 0, .int .u64 0, .int .u64 0, .int .u64 1073741824]) (.int .i64 n)).run Try.prog w = .ok (.int .u64 v) w := by
  match n, h with
  | 0, h => simp at h; subst h; exact fun _ => by kernel_rfl
  | 1, h => simp at h; subst h; exact fun _ => by kernel_rfl
  | 2, h => simp at h; subst h; exact fun _ => by kernel_rfl
  | 3, h => simp at h; subst h; exact fun _ => by kernel_rfl
  | 4, h => simp at h; subst h; exact fun _ => by kernel_rfl
  | 5, h => simp at h; subst h; exact fun _ => by kernel_rfl
  | 6, h => simp at h; subst h; exact fun _ => by kernel_rfl
  | 7, h => simp at h; subst h; exact fun _ => by kernel_rfl
  | 8, h => simp at h; subst h; exact fun _ => by kernel_rfl
  | 9, h => simp at h; subst h; exact fun _ => by kernel_rfl
  | n + 10, h => simp at h
theorem tally_next.bd (x : Int) (m : Nat) (h0 : 0 ≤ x) (hx : (x + 1) * 256 ^ m ≤ 18446744073709551616) (L : List Int) (hB : Bs L) (hl : L.length = m) : ∀ k, k < m → 0 ≤ numI x (L.take k) ∧ numI x (L.take k) * 256 < 18446744073709551616 := by
  intro k hk
  obtain ⟨a, b⟩ := numI_bd h0 (L.take k) (hB.take k)
  refine ⟨a, ?_⟩
  rw [List.length_take, Nat.min_eq_left (by omega)] at b
  have e : (256 : Int) ^ m = 256 ^ (k + 1) * 256 ^ (m - k - 1) := by rw [← Int.pow_add]; congr 1; omega
  have p1 : (1 : Int) ≤ 256 ^ (m - k - 1) := by have : (0 : Int) < 256 ^ (m - k - 1) := Int.pow_pos (by omega); omega
  have p2 : (0 : Int) ≤ (x + 1) * 256 ^ (k + 1) := Int.mul_nonneg (by omega) (Int.pow_nonneg (by omega))
  rw [e, ← Int.mul_assoc] at hx
  have p3 : (x + 1) * 256 ^ (k + 1) ≤ (x + 1) * 256 ^ (k + 1) * 256 ^ (m - k - 1) := by
    have := Int.mul_le_mul_of_nonneg_left p1 p2
    omega
  rw [Int.pow_succ, ← Int.mul_assoc] at p3 hx
  omega
theorem tally_next.calls (a0 : ByteArray) (r1 : Int) (r2 : ByteArray) (r3 : Int) (w : World) (h : tally_next.f a0 = some (r1, r2, r3)) :
    Calls Try.prog 35 #[.string a0] w fun e w' => e = .returned (.tuple #[.int .u64 r1, .string r2, .int .i64 r3]) ∧ Below w.heap.size w w' := by
  unfold tally_next.f at h
  simp only [Option.some.injEq, Prod.mk.injEq] at h
  obtain ⟨h1, h2, h3⟩ := h
  subst h1 h2 h3
  have hsz := bytesOf_size a0
  have hB := Bs.bytesOf a0
  rcases hl : bytesOf a0 with _ | ⟨b, r⟩
  · simp only [decU]
    rw [tally_next.whole]
    exact tally_next.empty a0 w ((tally_next.tl a0).2 hl)
  · have ne : a0.toList.isEmpty = false := by
      cases hE : a0.toList.isEmpty with
      | false => rfl
      | true => rw [(tally_next.tl a0).1 hE] at hl; cases hl
    have pos : 0 < a0.size := by rw [← hsz, hl]; simp
    have hb0 : bt a0 0 = b := by rw [bt_rd, hl]; rfl
    rw [hl] at hB hsz
    have hb := hB.head
    have hlen : r.length + 1 = a0.size := by simpa using hsz
    simp only [decU]
    by_cases c1 : 192 < b
    · rw [if_pos c1]
      simp only [tally_next.whole]
      exact tally_next.big a0 w ne pos (by rw [hb0]; exact c1)
    · rw [if_neg c1]
      have hL : r.take (szU b) = ((bytesOf a0).take (szU b + 1)).drop 1 := by rw [hl]; rfl
      have hLB : Bs (r.take (szU b)) := hB.tail.take _
      by_cases c2 : b = 192
      · subst c2
        have e1 : szU 192 = 8 := by decide
        rw [e1] at hL hLB ⊢
        by_cases c3 : r.length < 8
        · rw [if_pos c3]
          simp only [tally_next.whole]
          exact tally_next.short9 a0 w ne pos hb0 (by omega)
        · rw [if_neg c3]
          have hbd := tally_next.bd 0 8 (by omega) (by decide) (r.take 8) hLB (by simp; omega)
          have e2 : leastU 8 = 1073741824 := by decide
          have e3 : (192 : Int) % 64 = 0 := by decide
          rw [e2, e3]
          by_cases c4 : numI 0 (r.take 8) < 1073741824
          · rw [if_pos c4]
            simp only [tally_next.whole]
            exact tally_next.loop_eq_bad a0 w 1073741824 ne pos hb0 (by omega) (r.take 8) hL hbd (tally_next.at_ 9 _ rfl) (decide_eq_true c4)
          · rw [if_neg c4]
            exact tally_next.loop_eq_ok a0 w 1073741824 ne pos hb0 (by omega) (r.take 8) hL hbd (tally_next.at_ 9 _ rfl) (decide_eq_false c4)
      · have hlt : b < 192 := by omega
        have hn : IntKind.i64.wrap (2 ^ (bt a0 0 / 64).toNat) = ((szU b + 1 : Nat) : Int) ∧ (b % 64 + 1) * 256 ^ szU b ≤ 18446744073709551616 ∧ szU b + 1 < 10 ∧ [(0 : Int), 0, 64, 0, 16384, 0, 0, 0, 0, 1073741824][szU b + 1]? = some (leastU (szU b)) := by
          rw [hb0]
          have : b / 64 = 0 ∧ szU b = 0 ∨ b / 64 = 1 ∧ szU b = 1 ∨ b / 64 = 2 ∧ szU b = 3 := by
            unfold szU
            by_cases d1 : b < 64
            · rw [if_pos d1]; omega
            · rw [if_neg d1]
              by_cases d2 : b < 128
              · rw [if_pos d2]; omega
              · rw [if_neg d2, if_pos hlt]; omega
          rcases this with ⟨e, e'⟩ | ⟨e, e'⟩ | ⟨e, e'⟩ <;> rw [e, e'] <;> refine ⟨by decide, by simp; omega, by decide, by decide⟩
        obtain ⟨hn, hx, h10, hat⟩ := hn
        by_cases c3 : r.length < szU b
        · rw [if_pos c3]
          simp only [tally_next.whole]
          exact tally_next.short a0 w (szU b + 1) ne pos (by rw [hb0]; exact hlt) hn (by omega)
        · rw [if_neg c3]
          have hbd := tally_next.bd (b % 64) (szU b) (by omega) hx (r.take (szU b)) hLB (by simp; omega)
          by_cases c4 : numI (b % 64) (r.take (szU b)) < leastU (szU b)
          · rw [if_pos c4]
            simp only [tally_next.whole]
            exact tally_next.loop_lt_bad a0 w (szU b + 1) (b % 64) (leastU (szU b)) ne pos (by rw [hb0]; exact hlt) hn (by omega) (by omega) h10 (by rw [hb0]) (r.take (szU b)) hL hbd (tally_next.at_ _ _ hat) (decide_eq_true c4)
          · rw [if_neg c4]
            exact tally_next.loop_lt_ok a0 w (szU b + 1) (b % 64) (leastU (szU b)) ne pos (by rw [hb0]; exact hlt) hn (by omega) (by omega) h10 (by rw [hb0]) (r.take (szU b)) hL hbd (tally_next.at_ _ _ hat) (decide_eq_false c4)


/-! ### tally_Cursor_Uint: function 18 -/
def tally_Cursor_Uint.f (s0_0 : ByteArray) (s0_1 : Int) : Option (Int × ByteArray × Int) := (tally_Cursor_ok.f s0_0 s0_1).bind fun bt120 => (if bt120.1 = true then ((tally_next.f bt120.2.1).bind fun bt123 => (some (bt123.1, bt123.2.1, bt123.2.2))) else (some (0, bt120.2.1, bt120.2.2)))
set_option maxHeartbeats 8000000 in
set_option maxRecDepth 100000 in
theorem tally_Cursor_Uint.calls (g : Nat) (s0_0 : ByteArray) (s0_1 : Int) (r1 : Int) (r2 : ByteArray) (r3 : Int) (w0 w : World) (hI : IsS56 w0 w g s0_0 s0_1) (hB : Below w0.heap.size w0 w) (h : tally_Cursor_Uint.f s0_0 s0_1 = some (r1, r2, r3)) :
    Calls Try.prog 18 #[.pointer (some ⟨g, 0, none⟩)] w fun e w' => e = .returned (.int .u64 r1) ∧ IsS56 w0 w' g r2 r3 ∧ Below w0.heap.size w0 w' ∧ KeepBut w w' g none := by
  have HI0 := Aside0.mk hI
  have HK := Aside0.mk (KeepBut.refl w g none)
  have HL := Aside0.mk hB.size
  clear hI
  have HW0 := Aside0.mk hB.size
  have HB := Aside0.mk hB
  clear hB
  have H : ((tally_Cursor_ok.f s0_0 s0_1).bind fun bt120 => (if bt120.1 = true then ((tally_next.f bt120.2.1).bind fun bt123 => (some (bt123.1, bt123.2.1, bt123.2.2))) else (some (0, bt120.2.1, bt120.2.2)))) = some (r1, r2, r3) := h
  clear h
  replace H := Option.bind_eq_some_iff.mp H
  obtain ⟨⟨t120, t121, t122⟩, A20, H⟩ := H
  replace H : (if t120 = true then ((tally_next.f t121).bind fun bt123 => (some (bt123.1, bt123.2.1, bt123.2.2))) else (some (0, t121, t122))) = some (r1, r2, r3) := H
  have A2 := Aside0.mk A20
  clear A20
  by_cases c3 : t120 = true
  · subst c3
    have H1 : ((tally_next.f t121).bind fun bt123 => (some (bt123.1, bt123.2.1, bt123.2.2))) = some (r1, r2, r3) := by rw [if_pos rfl] at H; exact H
    clear H
    have H := H1
    clear H1
    replace H := Option.bind_eq_some_iff.mp H
    obtain ⟨⟨t123, t124, t125⟩, A40, H⟩ := H
    replace H : (some (t123, t124, t125)) = some (r1, r2, r3) := H
    have A4 := Aside0.mk A40
    clear A40
    simp only [Option.some.injEq, Prod.mk.injEq] at H
    obtain ⟨rfl, rfl, rfl⟩ := H
    go_enter Try.func18, Try.ntmps18
    go_wp2_with (first | ((with_reducible refine gate_callee (f := 34) rfl ?_); refine goesL_ (some 7) rfl rfl Try.func34 (by kernel_rfl) rfl #[.pointer (some ⟨g, 0, none⟩)] rfl (by (try simp only [List.map_toArray, List.map_cons, List.map_nil]); first | done | rfl | (simp only [List.length_drop, List.length_take]; rfl) | (go_simp; simp [IntKind.wrap, IntKind.bits, IntKind.signed]; omega)) ?_; (with_reducible refine (tally_Cursor_ok.calls g s0_0 s0_1 true t121 t122 w0 _ ?side1 ?side2 A2.out).mono ?_); (case side1 => repeat (first | (with_reducible first | exact HI0.out | apply IsS56.alloc | apply IsS56.drewN | apply IsS56.drew | apply IsS56.set_0 | apply IsS56.set_1) | exact HI0.out)); (case side2 => repeat (first | (with_reducible first | exact HB.out | apply below_alloc | apply pw_below_drewN | apply below_drew1 | refine below_set ?_ (IsS56.ge HI0.out)) | exact HB.out)); rintro e w5 ⟨rfl, hi, hb, hk⟩; refine ⟨_, rfl, ?_⟩; have n0_ := Aside0.mk (KeepBut.trans (by repeat (first | (with_reducible first | exact HK.out | apply KeepBut.set_ | apply keep_drewN | apply keep_drew | apply keep_alloc) | exact HK.out)) hk (.inl rfl)); have n1_ := Aside0.mk (hb); have n2_ := Aside0.mk (hi); clear HK; clear HB; clear HI0; have HK := n0_; have HB := n1_; have HI0 := n2_; clear n0_ n1_ n2_; (try clear hb); (try clear hb2); (try clear hk); (try clear hi); obtain ⟨HGz6, hgz6⟩ := HI0.out; have hcz6_0 := cellS56_0 HGz6; have hcz6_1 := cellS56_1 HGz6; have hfz6_0 := blk_frozen HGz6 0; have hfz6_1 := blk_frozen HGz6 1; clear HGz6 hgz6) | ((with_reducible refine gate_callee (f := 35) rfl ?_); refine goesL_ (some 14) rfl rfl Try.func35 (by kernel_rfl) rfl #[.string t121] rfl (by (try simp only [List.map_toArray, List.map_cons, List.map_nil]); first | done | rfl | (simp only [List.length_drop, List.length_take]; rfl) | (go_simp; simp [IntKind.wrap, IntKind.bits, IntKind.signed]; omega)) ?_; (with_reducible refine (tally_next.calls t121 t123 t124 t125 _ A4.out).mono ?_); rintro e w7 ⟨rfl, hb⟩; refine ⟨_, rfl, ?_⟩; have n0_ := Aside0.mk (IsS56.below (by repeat (first | (with_reducible first | exact HI0.out | apply IsS56.alloc | apply IsS56.drewN | apply IsS56.drew | apply IsS56.set_0 | apply IsS56.set_1) | exact HI0.out)) hb); have n1_ := Aside0.mk (KeepBut.trans (by repeat (first | (with_reducible first | exact HK.out | apply KeepBut.set_ | apply keep_drewN | apply keep_drew | apply keep_alloc) | exact HK.out)) (KeepBut.of_below hb g none) (.inl rfl)); have n2_ := Aside0.mk (below_step (by repeat (first | (with_reducible first | exact HB.out | apply below_alloc | apply pw_below_drewN | apply below_drew1 | refine below_set ?_ (IsS56.ge HI0.out)) | exact HB.out)) hb); clear HI0; clear HK; clear HB; have HI0 := n0_; have HK := n1_; have HB := n2_; clear n0_ n1_ n2_; (try clear hb); (try clear hb2); (try clear hk); (try clear hi); obtain ⟨HGz8, hgz8⟩ := HI0.out; have hcz8_0 := cellS56_0 HGz8; have hcz8_1 := cellS56_1 HGz8; have hfz8_0 := blk_frozen HGz8 0; have hfz8_1 := blk_frozen HGz8 1; clear HGz8 hgz8))
    go_ret
    exact ⟨by first | rfl | (simp [errW_none, errW_some] <;> rfl) | (simp [*, errW_none, errW_some] <;> rfl), by repeat (first | (with_reducible first | exact HI0.out | apply IsS56.alloc | apply IsS56.drewN | apply IsS56.drew | apply IsS56.set_0 | apply IsS56.set_1) | exact HI0.out), by repeat (first | (with_reducible first | exact HB.out | apply below_alloc | apply pw_below_drewN | apply below_drew1 | refine below_set ?_ (IsS56.ge HI0.out)) | exact HB.out), by repeat (first | (with_reducible first | exact HK.out | apply KeepBut.set_ | apply keep_drewN | apply keep_drew | apply keep_alloc) | exact HK.out)⟩
  · replace c3 := Bool.eq_false_iff.mpr c3
    subst c3
    have H1 : (some (0, t121, t122)) = some (r1, r2, r3) := by rw [if_neg (show ¬ (false = true) by decide)] at H; exact H
    clear H
    have H := H1
    clear H1
    simp only [Option.some.injEq, Prod.mk.injEq] at H
    obtain ⟨rfl, rfl, rfl⟩ := H
    go_enter Try.func18, Try.ntmps18
    go_wp2_with (first | ((with_reducible refine gate_callee (f := 34) rfl ?_); refine goesL_ (some 7) rfl rfl Try.func34 (by kernel_rfl) rfl #[.pointer (some ⟨g, 0, none⟩)] rfl (by (try simp only [List.map_toArray, List.map_cons, List.map_nil]); first | done | rfl | (simp only [List.length_drop, List.length_take]; rfl) | (go_simp; simp [IntKind.wrap, IntKind.bits, IntKind.signed]; omega)) ?_; (with_reducible refine (tally_Cursor_ok.calls g s0_0 s0_1 false t121 t122 w0 _ ?side1 ?side2 A2.out).mono ?_); (case side1 => repeat (first | (with_reducible first | exact HI0.out | apply IsS56.alloc | apply IsS56.drewN | apply IsS56.drew | apply IsS56.set_0 | apply IsS56.set_1) | exact HI0.out)); (case side2 => repeat (first | (with_reducible first | exact HB.out | apply below_alloc | apply pw_below_drewN | apply below_drew1 | refine below_set ?_ (IsS56.ge HI0.out)) | exact HB.out)); rintro e w9 ⟨rfl, hi, hb, hk⟩; refine ⟨_, rfl, ?_⟩; have n0_ := Aside0.mk (KeepBut.trans (by repeat (first | (with_reducible first | exact HK.out | apply KeepBut.set_ | apply keep_drewN | apply keep_drew | apply keep_alloc) | exact HK.out)) hk (.inl rfl)); have n1_ := Aside0.mk (hb); have n2_ := Aside0.mk (hi); clear HK; clear HB; clear HI0; have HK := n0_; have HB := n1_; have HI0 := n2_; clear n0_ n1_ n2_; (try clear hb); (try clear hb2); (try clear hk); (try clear hi)))
    go_ret
    exact ⟨by first | rfl | (simp [errW_none, errW_some] <;> rfl) | (simp [*, errW_none, errW_some] <;> rfl), by repeat (first | (with_reducible first | exact HI0.out | apply IsS56.alloc | apply IsS56.drewN | apply IsS56.drew | apply IsS56.set_0 | apply IsS56.set_1) | exact HI0.out), by repeat (first | (with_reducible first | exact HB.out | apply below_alloc | apply pw_below_drewN | apply below_drew1 | refine below_set ?_ (IsS56.ge HI0.out)) | exact HB.out), by repeat (first | (with_reducible first | exact HK.out | apply KeepBut.set_ | apply keep_drewN | apply keep_drew | apply keep_alloc) | exact HK.out)⟩

/-! ### tally_Cursor_Left: function 21 -/
def tally_Cursor_Left.f (s0_0 : ByteArray) (s0_1 : Int) : Option (Int × ByteArray × Int) := some ((s0_0.size : Int), s0_0, s0_1)
set_option maxHeartbeats 8000000 in
set_option maxRecDepth 100000 in
theorem tally_Cursor_Left.calls (g : Nat) (s0_0 : ByteArray) (s0_1 : Int) (r1 : Int) (r2 : ByteArray) (r3 : Int) (w0 w : World) (hI : IsS56 w0 w g s0_0 s0_1) (hB : Below w0.heap.size w0 w) (h : tally_Cursor_Left.f s0_0 s0_1 = some (r1, r2, r3)) :
    Calls Try.prog 21 #[.pointer (some ⟨g, 0, none⟩)] w fun e w' => e = .returned (.int .i64 r1) ∧ IsS56 w0 w' g r2 r3 ∧ Below w0.heap.size w0 w' ∧ KeepBut w w' g none := by
  have HI0 := Aside0.mk hI
  have HK := Aside0.mk (KeepBut.refl w g none)
  have HL := Aside0.mk hB.size
  clear hI
  have HW0 := Aside0.mk hB.size
  have HB := Aside0.mk hB
  clear hB
  have H : (some ((s0_0.size : Int), s0_0, s0_1)) = some (r1, r2, r3) := h
  clear h
  simp only [Option.some.injEq, Prod.mk.injEq] at H
  obtain ⟨rfl, rfl, rfl⟩ := H
  obtain ⟨HGz2, hgz2⟩ := HI0.out
  have hcz2_0 := cellS56_0 HGz2
  have hcz2_1 := cellS56_1 HGz2
  have hfz2_0 := blk_frozen HGz2 0
  have hfz2_1 := blk_frozen HGz2 1
  clear HGz2 hgz2
  go_enter Try.func21, Try.ntmps21
  go_wp2
  go_ret
  exact ⟨by first | rfl | (simp [errW_none, errW_some] <;> rfl) | (simp [*, errW_none, errW_some] <;> rfl), by repeat (first | (with_reducible first | exact HI0.out | apply IsS56.alloc | apply IsS56.drewN | apply IsS56.drew | apply IsS56.set_0 | apply IsS56.set_1) | exact HI0.out), by repeat (first | (with_reducible first | exact HB.out | apply below_alloc | apply pw_below_drewN | apply below_drew1 | refine below_set ?_ (IsS56.ge HI0.out)) | exact HB.out), by repeat (first | (with_reducible first | exact HK.out | apply KeepBut.set_ | apply keep_drewN | apply keep_drew | apply keep_alloc) | exact HK.out)⟩

/-! ### tally_Cursor_Err: function 20 -/
def tally_Cursor_Err.f (s0_0 : ByteArray) (s0_1 : Int) : Option (Int × ByteArray × Int) := some (s0_1, s0_0, s0_1)
set_option maxHeartbeats 8000000 in
set_option maxRecDepth 100000 in
theorem tally_Cursor_Err.calls (g : Nat) (s0_0 : ByteArray) (s0_1 : Int) (r1 : Int) (r2 : ByteArray) (r3 : Int) (w0 w : World) (hI : IsS56 w0 w g s0_0 s0_1) (hB : Below w0.heap.size w0 w) (h : tally_Cursor_Err.f s0_0 s0_1 = some (r1, r2, r3)) :
    Calls Try.prog 20 #[.pointer (some ⟨g, 0, none⟩)] w fun e w' => e = .returned (.int .i64 r1) ∧ IsS56 w0 w' g r2 r3 ∧ Below w0.heap.size w0 w' ∧ KeepBut w w' g none := by
  have HI0 := Aside0.mk hI
  have HK := Aside0.mk (KeepBut.refl w g none)
  have HL := Aside0.mk hB.size
  clear hI
  have HW0 := Aside0.mk hB.size
  have HB := Aside0.mk hB
  clear hB
  have H : (some (s0_1, s0_0, s0_1)) = some (r1, r2, r3) := h
  clear h
  simp only [Option.some.injEq, Prod.mk.injEq] at H
  obtain ⟨rfl, rfl, rfl⟩ := H
  obtain ⟨HGz2, hgz2⟩ := HI0.out
  have hcz2_0 := cellS56_0 HGz2
  have hcz2_1 := cellS56_1 HGz2
  have hfz2_0 := blk_frozen HGz2 0
  have hfz2_1 := blk_frozen HGz2 1
  clear HGz2 hgz2
  go_enter Try.func20, Try.ntmps20
  go_wp2
  go_ret
  exact ⟨by first | rfl | (simp [errW_none, errW_some] <;> rfl) | (simp [*, errW_none, errW_some] <;> rfl), by repeat (first | (with_reducible first | exact HI0.out | apply IsS56.alloc | apply IsS56.drewN | apply IsS56.drew | apply IsS56.set_0 | apply IsS56.set_1) | exact HI0.out), by repeat (first | (with_reducible first | exact HB.out | apply below_alloc | apply pw_below_drewN | apply below_drew1 | refine below_set ?_ (IsS56.ge HI0.out)) | exact HB.out), by repeat (first | (with_reducible first | exact HK.out | apply KeepBut.set_ | apply keep_drewN | apply keep_drew | apply keep_alloc) | exact HK.out)⟩

/-! ### tally_Cursor_Done: function 30 -/
def tally_Cursor_Done.f (s0_0 : ByteArray) (s0_1 : Int) : Option (Int × ByteArray × Int) := (tally_Cursor_ok.f s0_0 s0_1).bind fun bt126 => (if bt126.1 = true then (if bt126.2.1.toList = ([] : List UInt8) then ((tally_Cursor_Err.f bt126.2.1 bt126.2.2).bind fun bt129 => (some (bt129.1, bt129.2.1, bt129.2.2))) else (some (5, bt126.2.1, bt126.2.2))) else ((tally_Cursor_Err.f bt126.2.1 bt126.2.2).bind fun bt132 => (some (bt132.1, bt132.2.1, bt132.2.2))))
set_option maxHeartbeats 8000000 in
set_option maxRecDepth 100000 in
theorem tally_Cursor_Done.calls (g : Nat) (s0_0 : ByteArray) (s0_1 : Int) (r1 : Int) (r2 : ByteArray) (r3 : Int) (w0 w : World) (hI : IsS56 w0 w g s0_0 s0_1) (hB : Below w0.heap.size w0 w) (h : tally_Cursor_Done.f s0_0 s0_1 = some (r1, r2, r3)) :
    Calls Try.prog 30 #[.pointer (some ⟨g, 0, none⟩)] w fun e w' => e = .returned (.int .i64 r1) ∧ IsS56 w0 w' g r2 r3 ∧ Below w0.heap.size w0 w' ∧ KeepBut w w' g none := by
  have HI0 := Aside0.mk hI
  have HK := Aside0.mk (KeepBut.refl w g none)
  have HL := Aside0.mk hB.size
  clear hI
  have HW0 := Aside0.mk hB.size
  have HB := Aside0.mk hB
  clear hB
  have H : ((tally_Cursor_ok.f s0_0 s0_1).bind fun bt126 => (if bt126.1 = true then (if bt126.2.1.toList = ([] : List UInt8) then ((tally_Cursor_Err.f bt126.2.1 bt126.2.2).bind fun bt129 => (some (bt129.1, bt129.2.1, bt129.2.2))) else (some (5, bt126.2.1, bt126.2.2))) else ((tally_Cursor_Err.f bt126.2.1 bt126.2.2).bind fun bt132 => (some (bt132.1, bt132.2.1, bt132.2.2))))) = some (r1, r2, r3) := h
  clear h
  replace H := Option.bind_eq_some_iff.mp H
  obtain ⟨⟨t126, t127, t128⟩, A20, H⟩ := H
  replace H : (if t126 = true then (if t127.toList = ([] : List UInt8) then ((tally_Cursor_Err.f t127 t128).bind fun bt129 => (some (bt129.1, bt129.2.1, bt129.2.2))) else (some (5, t127, t128))) else ((tally_Cursor_Err.f t127 t128).bind fun bt132 => (some (bt132.1, bt132.2.1, bt132.2.2)))) = some (r1, r2, r3) := H
  have A2 := Aside0.mk A20
  clear A20
  by_cases c3 : t126 = true
  · subst c3
    have H1 : (if t127.toList = ([] : List UInt8) then ((tally_Cursor_Err.f t127 t128).bind fun bt129 => (some (bt129.1, bt129.2.1, bt129.2.2))) else (some (5, t127, t128))) = some (r1, r2, r3) := by rw [if_pos rfl] at H; exact H
    clear H
    have H := H1
    clear H1
    by_cases c4 : t127.toList = ([] : List UInt8)
    · rw [if_pos c4] at H
      have c4b0 : (t127.toList == ([] : List UInt8)) = true := beq_iff_eq.mpr c4
      have c4b1 : (t127.toList != ([] : List UInt8)) = false := bne_eq_false_iff_eq.mpr c4
      clear c4
      replace H := Option.bind_eq_some_iff.mp H
      obtain ⟨⟨t129, t130, t131⟩, A50, H⟩ := H
      replace H : (some (t129, t130, t131)) = some (r1, r2, r3) := H
      have A5 := Aside0.mk A50
      clear A50
      simp only [Option.some.injEq, Prod.mk.injEq] at H
      obtain ⟨rfl, rfl, rfl⟩ := H
      go_enter Try.func30, Try.ntmps30
      go_wp2_with (first | ((with_reducible refine gate_callee (f := 34) rfl ?_); refine goesL_ (some 4) rfl rfl Try.func34 (by kernel_rfl) rfl #[.pointer (some ⟨g, 0, none⟩)] rfl (by (try simp only [List.map_toArray, List.map_cons, List.map_nil]); first | done | rfl | (simp only [List.length_drop, List.length_take]; rfl) | (go_simp; simp [IntKind.wrap, IntKind.bits, IntKind.signed]; omega)) ?_; (with_reducible refine (tally_Cursor_ok.calls g s0_0 s0_1 true t127 t128 w0 _ ?side1 ?side2 A2.out).mono ?_); (case side1 => repeat (first | (with_reducible first | exact HI0.out | apply IsS56.alloc | apply IsS56.drewN | apply IsS56.drew | apply IsS56.set_0 | apply IsS56.set_1) | exact HI0.out)); (case side2 => repeat (first | (with_reducible first | exact HB.out | apply below_alloc | apply pw_below_drewN | apply below_drew1 | refine below_set ?_ (IsS56.ge HI0.out)) | exact HB.out)); rintro e w6 ⟨rfl, hi, hb, hk⟩; refine ⟨_, rfl, ?_⟩; have n0_ := Aside0.mk (KeepBut.trans (by repeat (first | (with_reducible first | exact HK.out | apply KeepBut.set_ | apply keep_drewN | apply keep_drew | apply keep_alloc) | exact HK.out)) hk (.inl rfl)); have n1_ := Aside0.mk (hb); have n2_ := Aside0.mk (hi); clear HK; clear HB; clear HI0; have HK := n0_; have HB := n1_; have HI0 := n2_; clear n0_ n1_ n2_; (try clear hb); (try clear hb2); (try clear hk); (try clear hi); obtain ⟨HGz7, hgz7⟩ := HI0.out; have hcz7_0 := cellS56_0 HGz7; have hcz7_1 := cellS56_1 HGz7; have hfz7_0 := blk_frozen HGz7 0; have hfz7_1 := blk_frozen HGz7 1; clear HGz7 hgz7) | ((with_reducible refine gate_callee (f := 20) rfl ?_); refine goesL_ (some 13) rfl rfl Try.func20 (by kernel_rfl) rfl #[.pointer (some ⟨g, 0, none⟩)] rfl (by (try simp only [List.map_toArray, List.map_cons, List.map_nil]); first | done | rfl | (simp only [List.length_drop, List.length_take]; rfl) | (go_simp; simp [IntKind.wrap, IntKind.bits, IntKind.signed]; omega)) ?_; (with_reducible refine (tally_Cursor_Err.calls g t127 t128 t129 t130 t131 w0 _ ?side1 ?side2 A5.out).mono ?_); (case side1 => repeat (first | (with_reducible first | exact HI0.out | apply IsS56.alloc | apply IsS56.drewN | apply IsS56.drew | apply IsS56.set_0 | apply IsS56.set_1) | exact HI0.out)); (case side2 => repeat (first | (with_reducible first | exact HB.out | apply below_alloc | apply pw_below_drewN | apply below_drew1 | refine below_set ?_ (IsS56.ge HI0.out)) | exact HB.out)); rintro e w8 ⟨rfl, hi, hb, hk⟩; refine ⟨_, rfl, ?_⟩; have n0_ := Aside0.mk (KeepBut.trans (by repeat (first | (with_reducible first | exact HK.out | apply KeepBut.set_ | apply keep_drewN | apply keep_drew | apply keep_alloc) | exact HK.out)) hk (.inl rfl)); have n1_ := Aside0.mk (hb); have n2_ := Aside0.mk (hi); clear HK; clear HB; clear HI0; have HK := n0_; have HB := n1_; have HI0 := n2_; clear n0_ n1_ n2_; (try clear hb); (try clear hb2); (try clear hk); (try clear hi)))
      go_ret
      exact ⟨by first | rfl | (simp [errW_none, errW_some] <;> rfl) | (simp [*, errW_none, errW_some] <;> rfl), by repeat (first | (with_reducible first | exact HI0.out | apply IsS56.alloc | apply IsS56.drewN | apply IsS56.drew | apply IsS56.set_0 | apply IsS56.set_1) | exact HI0.out), by repeat (first | (with_reducible first | exact HB.out | apply below_alloc | apply pw_below_drewN | apply below_drew1 | refine below_set ?_ (IsS56.ge HI0.out)) | exact HB.out), by repeat (first | (with_reducible first | exact HK.out | apply KeepBut.set_ | apply keep_drewN | apply keep_drew | apply keep_alloc) | exact HK.out)⟩
    · rw [if_neg c4] at H
      have c4b0 : (t127.toList == ([] : List UInt8)) = false := beq_eq_false_iff_ne.mpr c4
      have c4b1 : (t127.toList != ([] : List UInt8)) = true := bne_iff_ne.mpr c4
      simp only [Option.some.injEq, Prod.mk.injEq] at H
      obtain ⟨rfl, rfl, rfl⟩ := H
      go_enter Try.func30, Try.ntmps30
      go_wp2_with (first | ((with_reducible refine gate_callee (f := 34) rfl ?_); refine goesL_ (some 4) rfl rfl Try.func34 (by kernel_rfl) rfl #[.pointer (some ⟨g, 0, none⟩)] rfl (by (try simp only [List.map_toArray, List.map_cons, List.map_nil]); first | done | rfl | (simp only [List.length_drop, List.length_take]; rfl) | (go_simp; simp [IntKind.wrap, IntKind.bits, IntKind.signed]; omega)) ?_; (with_reducible refine (tally_Cursor_ok.calls g s0_0 s0_1 true t127 t128 w0 _ ?side1 ?side2 A2.out).mono ?_); (case side1 => repeat (first | (with_reducible first | exact HI0.out | apply IsS56.alloc | apply IsS56.drewN | apply IsS56.drew | apply IsS56.set_0 | apply IsS56.set_1) | exact HI0.out)); (case side2 => repeat (first | (with_reducible first | exact HB.out | apply below_alloc | apply pw_below_drewN | apply below_drew1 | refine below_set ?_ (IsS56.ge HI0.out)) | exact HB.out)); rintro e w9 ⟨rfl, hi, hb, hk⟩; refine ⟨_, rfl, ?_⟩; have n0_ := Aside0.mk (KeepBut.trans (by repeat (first | (with_reducible first | exact HK.out | apply KeepBut.set_ | apply keep_drewN | apply keep_drew | apply keep_alloc) | exact HK.out)) hk (.inl rfl)); have n1_ := Aside0.mk (hb); have n2_ := Aside0.mk (hi); clear HK; clear HB; clear HI0; have HK := n0_; have HB := n1_; have HI0 := n2_; clear n0_ n1_ n2_; (try clear hb); (try clear hb2); (try clear hk); (try clear hi); obtain ⟨HGz10, hgz10⟩ := HI0.out; have hcz10_0 := cellS56_0 HGz10; have hcz10_1 := cellS56_1 HGz10; have hfz10_0 := blk_frozen HGz10 0; have hfz10_1 := blk_frozen HGz10 1; clear HGz10 hgz10))
      go_ret
      exact ⟨by first | rfl | (simp [errW_none, errW_some] <;> rfl) | (simp [*, errW_none, errW_some] <;> rfl), by repeat (first | (with_reducible first | exact HI0.out | apply IsS56.alloc | apply IsS56.drewN | apply IsS56.drew | apply IsS56.set_0 | apply IsS56.set_1) | exact HI0.out), by repeat (first | (with_reducible first | exact HB.out | apply below_alloc | apply pw_below_drewN | apply below_drew1 | refine below_set ?_ (IsS56.ge HI0.out)) | exact HB.out), by repeat (first | (with_reducible first | exact HK.out | apply KeepBut.set_ | apply keep_drewN | apply keep_drew | apply keep_alloc) | exact HK.out)⟩
  · replace c3 := Bool.eq_false_iff.mpr c3
    subst c3
    have H1 : ((tally_Cursor_Err.f t127 t128).bind fun bt132 => (some (bt132.1, bt132.2.1, bt132.2.2))) = some (r1, r2, r3) := by rw [if_neg (show ¬ (false = true) by decide)] at H; exact H
    clear H
    have H := H1
    clear H1
    replace H := Option.bind_eq_some_iff.mp H
    obtain ⟨⟨t132, t133, t134⟩, A110, H⟩ := H
    replace H : (some (t132, t133, t134)) = some (r1, r2, r3) := H
    have A11 := Aside0.mk A110
    clear A110
    simp only [Option.some.injEq, Prod.mk.injEq] at H
    obtain ⟨rfl, rfl, rfl⟩ := H
    go_enter Try.func30, Try.ntmps30
    go_wp2_with (first | ((with_reducible refine gate_callee (f := 34) rfl ?_); refine goesL_ (some 4) rfl rfl Try.func34 (by kernel_rfl) rfl #[.pointer (some ⟨g, 0, none⟩)] rfl (by (try simp only [List.map_toArray, List.map_cons, List.map_nil]); first | done | rfl | (simp only [List.length_drop, List.length_take]; rfl) | (go_simp; simp [IntKind.wrap, IntKind.bits, IntKind.signed]; omega)) ?_; (with_reducible refine (tally_Cursor_ok.calls g s0_0 s0_1 false t127 t128 w0 _ ?side1 ?side2 A2.out).mono ?_); (case side1 => repeat (first | (with_reducible first | exact HI0.out | apply IsS56.alloc | apply IsS56.drewN | apply IsS56.drew | apply IsS56.set_0 | apply IsS56.set_1) | exact HI0.out)); (case side2 => repeat (first | (with_reducible first | exact HB.out | apply below_alloc | apply pw_below_drewN | apply below_drew1 | refine below_set ?_ (IsS56.ge HI0.out)) | exact HB.out)); rintro e w12 ⟨rfl, hi, hb, hk⟩; refine ⟨_, rfl, ?_⟩; have n0_ := Aside0.mk (KeepBut.trans (by repeat (first | (with_reducible first | exact HK.out | apply KeepBut.set_ | apply keep_drewN | apply keep_drew | apply keep_alloc) | exact HK.out)) hk (.inl rfl)); have n1_ := Aside0.mk (hb); have n2_ := Aside0.mk (hi); clear HK; clear HB; clear HI0; have HK := n0_; have HB := n1_; have HI0 := n2_; clear n0_ n1_ n2_; (try clear hb); (try clear hb2); (try clear hk); (try clear hi)) | ((with_reducible refine gate_callee (f := 20) rfl ?_); refine goesL_ (some 13) rfl rfl Try.func20 (by kernel_rfl) rfl #[.pointer (some ⟨g, 0, none⟩)] rfl (by (try simp only [List.map_toArray, List.map_cons, List.map_nil]); first | done | rfl | (simp only [List.length_drop, List.length_take]; rfl) | (go_simp; simp [IntKind.wrap, IntKind.bits, IntKind.signed]; omega)) ?_; (with_reducible refine (tally_Cursor_Err.calls g t127 t128 t132 t133 t134 w0 _ ?side1 ?side2 A11.out).mono ?_); (case side1 => repeat (first | (with_reducible first | exact HI0.out | apply IsS56.alloc | apply IsS56.drewN | apply IsS56.drew | apply IsS56.set_0 | apply IsS56.set_1) | exact HI0.out)); (case side2 => repeat (first | (with_reducible first | exact HB.out | apply below_alloc | apply pw_below_drewN | apply below_drew1 | refine below_set ?_ (IsS56.ge HI0.out)) | exact HB.out)); rintro e w13 ⟨rfl, hi, hb, hk⟩; refine ⟨_, rfl, ?_⟩; have n0_ := Aside0.mk (KeepBut.trans (by repeat (first | (with_reducible first | exact HK.out | apply KeepBut.set_ | apply keep_drewN | apply keep_drew | apply keep_alloc) | exact HK.out)) hk (.inl rfl)); have n1_ := Aside0.mk (hb); have n2_ := Aside0.mk (hi); clear HK; clear HB; clear HI0; have HK := n0_; have HB := n1_; have HI0 := n2_; clear n0_ n1_ n2_; (try clear hb); (try clear hb2); (try clear hk); (try clear hi)))
    go_ret
    exact ⟨by first | rfl | (simp [errW_none, errW_some] <;> rfl) | (simp [*, errW_none, errW_some] <;> rfl), by repeat (first | (with_reducible first | exact HI0.out | apply IsS56.alloc | apply IsS56.drewN | apply IsS56.drew | apply IsS56.set_0 | apply IsS56.set_1) | exact HI0.out), by repeat (first | (with_reducible first | exact HB.out | apply below_alloc | apply pw_below_drewN | apply below_drew1 | refine below_set ?_ (IsS56.ge HI0.out)) | exact HB.out), by repeat (first | (with_reducible first | exact HK.out | apply KeepBut.set_ | apply keep_drewN | apply keep_drew | apply keep_alloc) | exact HK.out)⟩

end Go.Proofs.Ytofjpagpjkdapaa.G
