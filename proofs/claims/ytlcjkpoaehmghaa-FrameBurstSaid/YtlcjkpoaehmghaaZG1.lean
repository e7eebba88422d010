import Derived.Test.YtlcjkpoaehmghaaZG0
namespace Go.Proofs.Ytlcjkpoaehmghaa.G
open Go.RowKit Go.Proofs.YtlcjkpoaehmghaaQ Go.Proofs.YtlcjkpoaehmghaaW.PrintWords Go.Proofs.YtlcjkpoaehmghaaW.PrintLast Go.Proofs.YtlcjkpoaehmghaaW.PrintMore
attribute [local go_sem] max2_int min2_int max_two min_two max_three min_three max_four min_four   -- for this text's walks alone
set_option linter.unusedVariables false
set_option linter.unusedSimpArgs false
def frame_Sum.f (a0 : ByteArray) : Option Int := if a0.size ≤ 4611686018427387904 then some ((crc (bytesOf a0) : Nat) : Int) else none
theorem frame_Sum.calls (a0 : ByteArray) (r : Int) (w : World) (h : frame_Sum.f a0 = some r) :
    Calls Try.prog 10 #[.string a0] w fun e w' => e = .returned (.int .u32 r) ∧ Below w.heap.size w w' := by
  unfold frame_Sum.f at h
  split at h
  · rename_i hs
    obtain rfl := Option.some.inj h
    exact Sum_calls a0 w hs
  · exact absurd h (by simp)
def frame_put.l0 : Nat → List Int → Int → Int → Option (List Int)
  | 0, _, _, _ => none
  | k + 1, x0, x1, x5 => if x5 < 4 then (if x0.length < 140737488355328 then (frame_put.l0 k (x0 ++ [(x1) % 256]) (x1 / 256) (wrap64 (x5 + 1))) else (none)) else (some x0)
def frame_put.f (k : Nat) (l0 : List Int) (a1 : Int) : Option (List Int) := frame_put.l0 k l0 a1 0
theorem frame_put.mono_l : ∀ k, (∀ y0 y1 y2, LeO (frame_put.l0 k y0 y1 y2) (frame_put.l0 (k + 1) y0 y1 y2))
  | 0 => fun _ _ _ r h => by simp [frame_put.l0] at h
  | k + 1 => by
    have ih0 := frame_put.mono_l k
    · intro y0 y1 y2
      unfold frame_put.l0
      repeat' first
      | (with_reducible exact ih0 _ _ _)
      | (with_reducible exact LeO.refl _)
      | (with_reducible exact LeO.none _)
      | (with_reducible refine LeO.ite ?_ ?_)
      | (with_reducible refine LeO.bind ?_ (fun _ => ?_))
      | exact ih0 _ _ _
      | exact LeO.none _
      | refine LeO.ite ?_ ?_
      | refine LeO.bind ?_ (fun _ => ?_)
theorem frame_put.mono : ∀ a0 a1 k, LeO (frame_put.f k a0 a1) (frame_put.f (k + 1) a0 a1) := by
  intro a0 a1 k
  have ih0 := frame_put.mono_l k
  unfold frame_put.f
  repeat' first
      | (with_reducible exact ih0 _ _ _)
      | (with_reducible exact LeO.refl _)
      | (with_reducible exact LeO.none _)
      | (with_reducible refine LeO.ite ?_ ?_)
      | (with_reducible refine LeO.bind ?_ (fun _ => ?_))
      | exact ih0 _ _ _
      | exact LeO.none _
      | refine LeO.ite ?_ ?_
      | refine LeO.bind ?_ (fun _ => ?_)
set_option maxHeartbeats 8000000 in
set_option maxRecDepth 100000 in
theorem frame_put.calls (k : Nat) (P0_ : Nat → Prop) (u9000_ : Value) (l0 : List Int) (a1 : Int) (r : List Int) (w0 w : World) (hB : Below w0.heap.size w0 w) (ho0 : Kd.R (Kd.int .u8) 5 w w0.heap.size P0_ u9000_ l0) (h : frame_put.f k l0 a1 = some r) :
    Calls Try.prog 21 #[u9000_, .int .u32 a1] w fun e w' => ∃ v0_ : Value, e = .returned (v0_) ∧ Kd.R (Kd.int .u8) 5 w' w0.heap.size (fun k_ => (P0_ k_ ∨ w.heap.size ≤ k_)) v0_ r ∧ Below w0.heap.size w0 w' ∧ Kept w w' (fun k_ => P0_ k_) := by
  have HO0 := Aside0.mk (show Kd.R (Kd.int .u8) 5 w w0.heap.size (fun k_ => (P0_ k_ ∨ w.heap.size ≤ k_)) u9000_ l0 from Kd.R_mono ho0 (fun k_ hk => (.inl hk)))
  have HK := Aside0.mk (Kept.refl w (fun k_ => P0_ k_))
  have HW0 := Aside0.mk hB.size
  have HB := Aside0.mk hB
  clear hB
  have H : (frame_put.l0 k l0 a1 0) = some r := h
  clear h
  have H' := Aside0.mk H
  clear H
  go_enter Try.func21, Try.ntmps21
  go_wp2
  go_loopg [0, 1, 5] k (fun kq v0 v1 v5 w' => ∃ (x0_1 : List Int) (x1_1 : Int) (x5_1 : Int), v1 = .int .u32 x1_1 ∧ v5 = .int .i64 x5_1 ∧ Aside0 (frame_put.l0 kq x0_1 x1_1 x5_1 = some r) ∧ Aside0 (kq ≤ k) ∧ Aside0 (Kd.R (Kd.int .u8) 5 w' w0.heap.size (fun k_ => (P0_ k_ ∨ w.heap.size ≤ k_)) v0 x0_1) ∧ Aside0 (Kept w w' (fun k_ => P0_ k_)) ∧ Aside0 (Below w0.heap.size w0 w'))
  case atStart => exact ⟨(l0), (a1), (0), (by first | rfl | (simp; done) | (simp [*]; done)), (by first | rfl | (simp; done) | (simp [*]; done)), H', ⟨Nat.le_refl _⟩, ⟨by (with_reducible repeat (first | apply Kd.R_alloc | apply Kd.R_drewN | apply Kd.R_drew)); exact HO0.out⟩, ⟨by repeat (first | (with_reducible first | exact HK.out | apply Kept.alloc | apply Kept.drewN | apply Kept.drew) | exact HK.out)⟩, ⟨by repeat (first | (with_reducible first | exact HB.out | apply below_alloc | apply pw_below_drewN | apply below_drew1) | exact HB.out)⟩⟩
  case round =>
    clear H'
    try clear c2
    try clear p2
    obtain ⟨x0_1, x1_1, x5_1, rfl, rfl, HA, HK1, HO_0, HK, HB⟩ := hrel
    cases gk with
    | zero => exact absurd HA.out (by simp [frame_put.l0])
    | succ k1 =>
      have H := HA.out
      clear HA
      simp only [frame_put.l0] at H
      by_cases c3 : x5_1 < 4
      · rw [if_pos c3] at H
        have c3b0 : decide (x5_1 < 4) = true := decide_eq_true c3
        clear c3
        by_cases c4 : x0_1.length < 140737488355328
        · rw [if_pos c4] at H
          have LMc4 := Aside0.mk c4
          clear c4
          obtain ⟨y101, hy101⟩ : ∃ y_ : List Int, y_ = (x0_1 ++ [(x1_1) % 256]) := ⟨_, rfl⟩
          replace H : (frame_put.l0 k1 y101 (x1_1 / 256) (wrap64 (x5_1 + 1))) = some r := by first | (rw [hy101]; with_reducible exact H) | (have H2_ := (Option.bind_some _ _).symm.trans H; rw [hy101]; with_reducible exact H2_) | (have H2_ := (Option.bind_some _ _).symm.trans H; with_reducible exact H2_) | with_reducible exact H | (rw [hy101]; exact H) | exact H
          have Ny101 := Aside0.mk hy101
          clear hy101
          have H' := Aside0.mk H
          clear H
          go_wp2_with (first | ((with_reducible refine gate_builtin (b := .append) (xs := #[.tmp 7, .tmp 10]) rfl ?_); at_builtin; refine Kd.R_append (Kd.int .u8) (w0 := w0) w0.heap.size rfl (.tmp 7) (.tmp 10) 38 5 (.int .u8 0) 1 rfl Try.underlying38 info5 rfl (by decide) (by omega) u0 x0_1 ((x1_1) % 256) [.int .u8 ((x1_1) % 256)] (fun k_ => (P0_ k_ ∨ w.heap.size ≤ k_)) (fun _ => False) rfl rfl ?aP (fun _ hk => hk.elim) ?aF ?aO ?aB ?aS ?aL ?_; (case aP => exact rfl); (case aB => exact (by repeat (first | (with_reducible first | exact HB.out | apply below_alloc | apply pw_below_drewN | apply below_drew1) | exact HB.out))); (case aF => exact (fun k_ hk => (.inr (Nat.le_trans (by first | exact HK.out.1 | exact (show Kept w _ (fun k_ => P0_ k_) from by repeat (first | (with_reducible first | exact HK.out | apply Kept.alloc | apply Kept.drewN | apply Kept.drew) | exact HK.out)).1) hk)))); (case aO => exact (by (with_reducible repeat (first | apply Kd.R_alloc | apply Kd.R_drewN | apply Kd.R_drew)); exact HO_0.out)); (case aS => exact (below_size (by repeat (first | (with_reducible first | exact HB.out | apply below_alloc | apply pw_below_drewN | apply below_drew1) | exact HB.out)))); (case aL => have := LMc4.out; omega); intro v102 w5 ho hb hg hat; rw [← Ny101.out] at ho; have n0_ := Aside0.mk (hb); have n1_ := Aside0.mk (Kept.of_grown (S := (fun k_ => P0_ k_)) hg (by repeat (first | (with_reducible first | exact HK.out | apply Kept.alloc | apply Kept.drewN | apply Kept.drew) | exact HK.out)) (fun k_ e_ => (HO_0.out.1 k_ e_))); have n2_ := Aside0.mk (ho); clear HB; clear HK; clear HO_0; have HB := n0_; have HK := n1_; have HO103 := n2_; clear n0_ n1_ n2_; clear ho hb hg hat))
          go_roundg k1
          case measure => have := HK1.out; omega
          case rel => exact ⟨(y101), (x1_1 / 256), (wrap64 (x5_1 + 1)), (by first | rfl | (simp; done) | (simp [*]; done)), (by first | rfl | (simp; done) | (simp [*]; done)), H', ⟨by have := HK1.out; omega⟩, ⟨by (with_reducible repeat (first | apply Kd.R_alloc | apply Kd.R_drewN | apply Kd.R_drew)); exact HO103.out⟩, ⟨by repeat (first | (with_reducible first | exact HK.out | apply Kept.alloc | apply Kept.drewN | apply Kept.drew) | exact HK.out)⟩, ⟨by repeat (first | (with_reducible first | exact HB.out | apply below_alloc | apply pw_below_drewN | apply below_drew1) | exact HB.out)⟩⟩
        · rw [if_neg c4] at H
          exact absurd H (by simp)
      · rw [if_neg c3] at H
        have c3b0 : decide (x5_1 < 4) = false := decide_eq_false c3
        clear c3
        obtain rfl := Option.some.inj H
        go_wp2
        go_ret
        exact ⟨_, by first | rfl | (simp [errW_none, errW_some] <;> rfl) | (simp [*, errW_none, errW_some] <;> rfl), by (with_reducible repeat (first | apply Kd.R_alloc | apply Kd.R_drewN | apply Kd.R_drew)); exact HO_0.out, by repeat (first | (with_reducible first | exact HB.out | apply below_alloc | apply pw_below_drewN | apply below_drew1) | exact HB.out), by repeat (first | (with_reducible first | exact HK.out | apply Kept.alloc | apply Kept.drewN | apply Kept.drew) | exact HK.out)⟩
def frame_Write.f (k : Nat) (a0 : ByteArray) : Option (ByteArray) := (frame_put.f k ([] : List Int) (((a0.size : Int)) % 4294967296)).bind fun t104 => (if t104.length + a0.size < 140737488355328 then ((frame_Sum.f a0).bind fun t110 => ((frame_put.f k (t104 ++ bytesOf a0) t110).bind fun t111 => (some (strOfNums t111)))) else (none))
theorem frame_Write.mono : ∀ a0 k, LeO (frame_Write.f k a0) (frame_Write.f (k + 1) a0) := by
  intro a0 k
  unfold frame_Write.f
  repeat' first
      | (with_reducible exact frame_put.mono _ _ _)
      | (with_reducible exact LeO.refl _)
      | (with_reducible exact LeO.none _)
      | (with_reducible refine LeO.ite ?_ ?_)
      | (with_reducible refine LeO.bind ?_ (fun _ => ?_))
      | exact frame_put.mono _ _ _
      | exact LeO.none _
      | refine LeO.ite ?_ ?_
      | refine LeO.bind ?_ (fun _ => ?_)
set_option maxHeartbeats 8000000 in
set_option maxRecDepth 100000 in
theorem frame_Write.calls (k : Nat) (a0 : ByteArray) (r : ByteArray) (w : World) (h : frame_Write.f k a0 = some r) :
    Calls Try.prog 12 #[.string a0] w fun e w' => e = .returned (.string r) ∧ Below w.heap.size w w' := by
  have HB := Aside0.mk (Below.refl w.heap.size w)
  have H : ((frame_put.f k ([] : List Int) (((a0.size : Int)) % 4294967296)).bind fun t104 => (if t104.length + a0.size < 140737488355328 then ((frame_Sum.f a0).bind fun t110 => ((frame_put.f k (t104 ++ bytesOf a0) t110).bind fun t111 => (some (strOfNums t111)))) else (none))) = some r := h
  clear h
  replace H := Option.bind_eq_some_iff.mp H
  obtain ⟨t104, A20, H⟩ := H
  replace H : (if t104.length + a0.size < 140737488355328 then ((frame_Sum.f a0).bind fun t110 => ((frame_put.f k (t104 ++ bytesOf a0) t110).bind fun t111 => (some (strOfNums t111)))) else (none)) = some r := H
  have A2 := Aside0.mk A20
  clear A20
  by_cases c3 : t104.length + a0.size < 140737488355328
  · rw [if_pos c3] at H
    have LMc3 := Aside0.mk c3
    clear c3
    obtain ⟨y107, hy107⟩ : ∃ y_ : List Int, y_ = (t104 ++ bytesOf a0) := ⟨_, rfl⟩
    replace H : ((frame_Sum.f a0).bind fun t110 => ((frame_put.f k y107 t110).bind fun t111 => (some (strOfNums t111)))) = some r := by first | (rw [hy107]; with_reducible exact H) | (have H2_ := (Option.bind_some _ _).symm.trans H; rw [hy107]; with_reducible exact H2_) | (have H2_ := (Option.bind_some _ _).symm.trans H; with_reducible exact H2_) | with_reducible exact H | (rw [hy107]; exact H) | exact H
    have Ny107 := Aside0.mk hy107
    clear hy107
    replace H := Option.bind_eq_some_iff.mp H
    obtain ⟨t110, A40, H⟩ := H
    replace H : ((frame_put.f k y107 t110).bind fun t111 => (some (strOfNums t111))) = some r := H
    have A4 := Aside0.mk A40
    clear A40
    replace H := Option.bind_eq_some_iff.mp H
    obtain ⟨t111, A50, H⟩ := H
    replace H : (some (strOfNums t111)) = some r := H
    have A5 := Aside0.mk A50
    clear A50
    obtain rfl := Option.some.inj H
    go_enter Try.func12, Try.ntmps12
    go_wp2_with (first | ((with_reducible refine gate_callee (f := 21) rfl ?_); refine goesL_ (some 7) rfl rfl Try.func21 (by kernel_rfl) rfl #[.slice none 0 0, .int .u32 (((a0.size : Int)) % 4294967296)] rfl (by (try simp only [List.map_toArray, List.map_cons, List.map_nil]); first | done | rfl | (simp only [List.length_drop, List.length_take]; rfl) | (go_simp; simp [IntKind.wrap, IntKind.bits, IntKind.signed]; omega)) ?_; (refine (frame_put.calls k (fun k_ => some k_ = (.slice none 0 0 : Value).ownBlock) (.slice none 0 0) ([] : List Int) (((a0.size : Int)) % 4294967296) t104 w _ ?side1 ?side2 A2.out).mono ?_); (case side1 => repeat (first | (with_reducible first | exact HB.out | apply below_alloc | apply pw_below_drewN | apply below_drew1) | exact HB.out)); (case side2 => exact Kd.R_nil _ _ _ _ _); rintro e w6 ⟨v105, rfl, ho0, hb, hkp⟩; refine ⟨_, rfl, ?_⟩; have n0_ := Aside0.mk (Kd.R_mono (ok' := fun k_ => True) ho0 (fun k_ hk_ => trivial)); have n1_ := Aside0.mk (hb); clear HB; have HO106 := n0_; have HB := n1_; clear n0_ n1_; (try clear hb); (try clear hkp); (try clear ho0)) | (at_builtin; refine R_append_str (w0 := w) w.heap.size rfl (.tmp 7) _ 38 9 5 rfl Try.underlying38 Try.underlying9 info5 v105 t104 a0 (fun _ => True) rfl rfl ?aF ?aO ?aB ?aS ?aL ?_; (case aB => exact (by repeat (first | (with_reducible first | exact HB.out | apply below_alloc | apply pw_below_drewN | apply below_drew1) | exact HB.out))); (case aF => exact (fun _ _ => trivial)); (case aO => exact (by (with_reducible repeat (first | apply Kd.R_alloc | apply Kd.R_drewN | apply Kd.R_drew)); exact HO106.out)); (case aS => exact (below_size (by repeat (first | (with_reducible first | exact HB.out | apply below_alloc | apply pw_below_drewN | apply below_drew1) | exact HB.out)))); (case aL => have := LMc3.out; omega); intro v108 w7 ho hb hg hat; rw [← Ny107.out] at ho; have n0_ := Aside0.mk (hb); have n1_ := Aside0.mk (ho); clear HB; clear HO106; have HB := n0_; have HO109 := n1_; clear n0_ n1_; clear ho hb hg hat) | ((with_reducible refine gate_callee (f := 10) rfl ?_); refine goesL_ (some 12) rfl rfl Try.func10 (by kernel_rfl) rfl #[.string a0] rfl (by (try simp only [List.map_toArray, List.map_cons, List.map_nil]); first | done | rfl | (simp only [List.length_drop, List.length_take]; rfl) | (go_simp; simp [IntKind.wrap, IntKind.bits, IntKind.signed]; omega)) ?_; (with_reducible refine (frame_Sum.calls a0 t110 _ A4.out).mono ?_); rintro e w8 ⟨rfl, hb⟩; refine ⟨_, rfl, ?_⟩; have n0_ := Aside0.mk (Kd.R_below (by (with_reducible repeat (first | apply Kd.R_alloc | apply Kd.R_drewN | apply Kd.R_drew)); exact HO109.out) hb); have n1_ := Aside0.mk (below_step (by repeat (first | (with_reducible first | exact HB.out | apply below_alloc | apply pw_below_drewN | apply below_drew1) | exact HB.out)) hb); clear HO109; clear HB; have HO109 := n0_; have HB := n1_; clear n0_ n1_; (try clear hb); (try clear hb2); (try clear hk); (try clear hi); obtain ⟨Ao9, co9, eo9⟩ := Kd.R_slice HO109.out; subst eo9) | ((with_reducible refine gate_callee (f := 21) rfl ?_); refine goesL_ (some 13) rfl rfl Try.func21 (by kernel_rfl) rfl #[.slice Ao9 y107.length co9, .int .u32 t110] rfl (by (try simp only [List.map_toArray, List.map_cons, List.map_nil]); first | done | rfl | (simp only [List.length_drop, List.length_take]; rfl) | (go_simp; simp [IntKind.wrap, IntKind.bits, IntKind.signed]; omega)) ?_; (with_reducible refine (frame_put.calls k (fun k_ => some k_ = (.slice Ao9 y107.length co9 : Value).ownBlock) (.slice Ao9 y107.length co9) y107 t110 t111 w _ ?side1 ?side2 A5.out).mono ?_); (case side1 => repeat (first | (with_reducible first | exact HB.out | apply below_alloc | apply pw_below_drewN | apply below_drew1) | exact HB.out)); (case side2 => exact Kd.R_tight rfl HO109.out); rintro e w10 ⟨v112, rfl, ho0, hb, hkp⟩; refine ⟨_, rfl, ?_⟩; have n0_ := Aside0.mk (Kd.R_mono (ok' := fun k_ => True) ho0 (fun k_ hk_ => trivial)); have n1_ := Aside0.mk (hb); clear HB; clear HO109; have HO113 := n0_; have HB := n1_; clear n0_ n1_; (try clear hb); (try clear hkp); (try clear ho0); have hcv11 := own_string (P := Try.prog) Try.underlying38 Try.underlying5 Try.underlying9 (Kd.own_of_R HO113.out)))
    go_ret
    exact ⟨by first | rfl | (simp [errW_none, errW_some] <;> rfl) | (simp [*, errW_none, errW_some] <;> rfl), by repeat (first | (with_reducible first | exact HB.out | apply below_alloc | apply pw_below_drewN | apply below_drew1) | exact HB.out)⟩
  · rw [if_neg c3] at H
    exact absurd H (by simp)
def frame_get.l0 : Nat → ByteArray → Int → Int → Option (Int)
  | 0, _, _, _ => none
  | k + 1, x0, x3, x4 => if x4 ≥ 0 then (if 0 ≤ x4 then (if x4 < (x0.size : Int) then (frame_get.l0 k x0 (Go.bits .or .u32 ((x3 * 256) % 4294967296) ((bt x0 x4) % 4294967296)) (wrap64 (x4 - 1))) else (none)) else (none)) else (some x3)
def frame_get.f (k : Nat) (a0 : ByteArray) : Option (Int) := frame_get.l0 k a0 0 3
theorem frame_get.mono_l : ∀ k, (∀ y0 y1 y2, LeO (frame_get.l0 k y0 y1 y2) (frame_get.l0 (k + 1) y0 y1 y2))
  | 0 => fun _ _ _ r h => by simp [frame_get.l0] at h
  | k + 1 => by
    have ih0 := frame_get.mono_l k
    · intro y0 y1 y2
      unfold frame_get.l0
      repeat' first
      | (with_reducible exact ih0 _ _ _)
      | (with_reducible exact LeO.refl _)
      | (with_reducible exact LeO.none _)
      | (with_reducible refine LeO.ite ?_ ?_)
      | (with_reducible refine LeO.bind ?_ (fun _ => ?_))
      | exact ih0 _ _ _
      | exact LeO.none _
      | refine LeO.ite ?_ ?_
      | refine LeO.bind ?_ (fun _ => ?_)
theorem frame_get.mono : ∀ a0 k, LeO (frame_get.f k a0) (frame_get.f (k + 1) a0) := by
  intro a0 k
  have ih0 := frame_get.mono_l k
  unfold frame_get.f
  repeat' first
      | (with_reducible exact ih0 _ _ _)
      | (with_reducible exact LeO.refl _)
      | (with_reducible exact LeO.none _)
      | (with_reducible refine LeO.ite ?_ ?_)
      | (with_reducible refine LeO.bind ?_ (fun _ => ?_))
      | exact ih0 _ _ _
      | exact LeO.none _
      | refine LeO.ite ?_ ?_
      | refine LeO.bind ?_ (fun _ => ?_)
set_option maxHeartbeats 8000000 in
set_option maxRecDepth 100000 in
theorem frame_get.calls (k : Nat) (a0 : ByteArray) (r : Int) (w : World) (h : frame_get.f k a0 = some r) :
    Calls Try.prog 25 #[.string a0] w fun e w' => e = .returned (.int .u32 r) ∧ Drawn0 w w' := by
  have H : (frame_get.l0 k a0 0 3) = some r := h
  clear h
  have H' := Aside0.mk H
  clear H
  go_enter Try.func25, Try.ntmps25
  go_wp2
  go_loopg [3, 4] k (fun kq v3 v4 w' => ∃ (x3_1 : Int) (x4_1 : Int), v3 = .int .u32 x3_1 ∧ v4 = .int .i64 x4_1 ∧ Aside0 (frame_get.l0 kq a0 x3_1 x4_1 = some r) ∧ Aside0 (kq ≤ k) ∧ Drawn0 w w')
  case atStart => exact ⟨(0), (3), (by first | rfl | (simp; done) | (simp [*]; done)), (by first | rfl | (simp; done) | (simp [*]; done)), H', ⟨Nat.le_refl _⟩, by repeat (first | exact Drawn0.refl _ | apply Drawn0.step)⟩
  case round =>
    clear H'
    obtain ⟨x3_1, x4_1, rfl, rfl, HA, HK1, ⟨m1, rfl⟩⟩ := hrel
    cases gk with
    | zero => exact absurd HA.out (by simp [frame_get.l0])
    | succ k1 =>
      have H := HA.out
      clear HA
      simp only [frame_get.l0] at H
      by_cases c2 : x4_1 ≥ 0
      · rw [if_pos c2] at H
        have c2b0 : decide (0 ≤ x4_1) = true := decide_eq_true c2
        clear c2
        by_cases c3 : 0 ≤ x4_1
        · rw [if_pos c3] at H
          have c3b0 : decide (0 ≤ x4_1) = true := decide_eq_true c3
          clear c3
          by_cases c4 : x4_1 < (a0.size : Int)
          · rw [if_pos c4] at H
            have c4b0 : decide (x4_1 < (a0.size : Int)) = true := decide_eq_true c4
            clear c4
            have H' := Aside0.mk H
            clear H
            have p5 : 0 ≤ (x4_1 : Int) := of_decide_eq_true (by first | (with_reducible assumption) | assumption)
            have q5 : x4_1 < (a0.size : Int) := of_decide_eq_true (by first | (with_reducible assumption) | assumption)
            have hx5 := bt_at a0 x4_1
            replace p5 := eq_true p5
            replace q5 := eq_true q5
            go_wp2
            go_roundg k1
            case measure => have := HK1.out; omega
            case rel => exact ⟨(Go.bits .or .u32 ((x3_1 * 256) % 4294967296) ((bt a0 x4_1) % 4294967296)), (wrap64 (x4_1 - 1)), (by first | rfl | (simp; done) | (simp [*]; done)), (by first | rfl | (simp; done) | (simp [*]; done)), H', ⟨by have := HK1.out; omega⟩, by repeat (first | exact Drawn0.refl _ | apply Drawn0.step)⟩
          · rw [if_neg c4] at H
            exact absurd H (by simp)
        · rw [if_neg c3] at H
          exact absurd H (by simp)
      · rw [if_neg c2] at H
        have c2b0 : decide (0 ≤ x4_1) = false := decide_eq_false c2
        clear c2
        obtain rfl := Option.some.inj H
        go_wp2
        go_ret
        exact ⟨by first | rfl | (simp; done) | (simp [*]; done), by repeat (first | exact Drawn0.refl _ | apply Drawn0.step)⟩
theorem frame_next.get_f {k : Nat} (hk : 5 ≤ k) {s : ByteArray} (hs : 4 ≤ s.size) : frame_get.f k s = some (num4 (bytesOf s)) := by
  obtain ⟨k, rfl⟩ : ∃ m, k = m + 5 := ⟨k - 5, by omega⟩
  unfold frame_get.f
  simp only [frame_get.l0]
  have e1 : wrap64 (3 - 1) = 2 := by unfold wrap64; decide
  have e2 : wrap64 (2 - 1) = 1 := by unfold wrap64; decide
  have e3 : wrap64 (1 - 1) = 0 := by unfold wrap64; decide
  have e4 : wrap64 (0 - 1) = -1 := by unfold wrap64; decide
  simp only [e1, e2, e3, e4, bt_rd]
  have hB := Bs.bytesOf s
  have h0 := rd_Bs hB 0; have h1 := rd_Bs hB 1; have h2 := rd_Bs hB 2; have h3 := rd_Bs hB 3
  rw [or_u32 0 (rd (bytesOf s) 3) (by omega) (by omega) h3.1 h3.2, or_u32 _ (rd (bytesOf s) 2) (by omega) (by omega) h2.1 h2.2, or_u32 _ (rd (bytesOf s) 1) (by omega) (by omega) h1.1 h1.2, or_u32 _ (rd (bytesOf s) 0) (by omega) (by omega) h0.1 h0.2]
  rw [if_pos (by omega), if_pos (by omega), if_pos (by omega), if_pos (by omega), if_pos (by omega), if_pos (by omega), if_pos (by omega), if_pos (by omega), if_pos (by omega), if_pos (by omega), if_pos (by omega), if_pos (by omega), if_neg (by omega)]
  unfold num4
  congr 1; omega
theorem frame_next.get_same (s : ByteArray) (w : World) (n : Int) (hs : 4 ≤ s.size) (hn : num4 (bytesOf s) = n) : Calls Try.prog 25 #[.string s] w fun e w' => e = .returned (.int .u32 n) ∧ Below w.heap.size w w' := by
  refine (frame_get.calls 5 s _ w (frame_next.get_f (Nat.le_refl _) hs)).mono ?_
  rintro e w' ⟨rfl, nd, rfl⟩
  exact ⟨by rw [hn], pw_below_drewN (Below.refl _ _) _⟩
set_option maxHeartbeats 400000 in
set_option maxRecDepth 100000 in
theorem frame_next.w1 (s : ByteArray) (w : World) (h : s.size < 4) : Calls Try.prog 23 #[.string s] w fun e w' => e = .returned (.tuple #[.string ⟨#[]⟩, .string s, .bool false, .int .i64 0]) ∧ Below w.heap.size w w' := by
  have d1 : decide ((s.size : Int) < 4) = true := decide_eq_true (by omega)
  have d2 : decide (s.size < 4) = true := decide_eq_true h
  go_enter Try.func23, Try.ntmps23
  go_wp2
  refine bodyPost_ret (results_list (rs := [.tmp 2, .tmp 3, .tmp 4, .tmp 5]) rfl (by simp) (.tmp (.tmp (.tmp (.tmp .nil))))) rfl ?_
  exact ⟨rfl, Below.refl _ _⟩
set_option maxHeartbeats 400000 in
set_option maxRecDepth 100000 in
theorem frame_next.w2 (s : ByteArray) (w : World) (n : Nat) (h : 4 ≤ s.size) (hn : num4 (bytesOf s) = n) (h2 : 1048576 < n) : Calls Try.prog 23 #[.string s] w fun e w' => e = .returned (.tuple #[.string ⟨#[]⟩, .string s, .bool false, .int .i64 8]) ∧ Below w.heap.size w w' := by
  have d1 : decide ((s.size : Int) < 4) = false := decide_eq_false (by omega)
  have d2 : decide (s.size < 4) = false := decide_eq_false (by omega)
  have d3 : decide ((1048576 : Int) < (n : Int)) = true := decide_eq_true (by omega)
  have d4 : decide (1048576 < n) = true := decide_eq_true h2
  have HN := Aside0.mk hn; clear hn
  go_enter Try.func23, Try.ntmps23
  go_wp2_with fail
  refine (frame_next.get_same s w n h HN.out).mono ?_; rintro e w1 ⟨rfl, hb⟩
  go_wp2
  refine bodyPost_ret (results_list (rs := [.tmp 2, .tmp 3, .tmp 4, .tmp 5]) rfl (by simp) (.tmp (.tmp (.tmp (.tmp .nil))))) rfl ?_
  exact ⟨rfl, hb⟩
set_option maxHeartbeats 400000 in
set_option maxRecDepth 100000 in
theorem frame_next.w3 (s : ByteArray) (w : World) (n : Nat) (h : 4 ≤ s.size) (hn : num4 (bytesOf s) = n) (h2 : n ≤ 1048576) (h3 : s.size < 8 + n) : Calls Try.prog 23 #[.string s] w fun e w' => e = .returned (.tuple #[.string ⟨#[]⟩, .string s, .bool false, .int .i64 0]) ∧ Below w.heap.size w w' := by
  have d1 : decide ((s.size : Int) < 4) = false := decide_eq_false (by omega)
  have d2 : decide (s.size < 4) = false := decide_eq_false (by omega)
  have d3 : decide ((1048576 : Int) < (n : Int)) = false := decide_eq_false (by omega)
  have d4 : decide (1048576 < n) = false := decide_eq_false (by omega)
  have d5 : decide ((s.size : Int) < 8 + (n : Int)) = true := decide_eq_true (by omega)
  have d6 : decide (s.size < 8 + n) = true := decide_eq_true h3
  have e1 : wrap64 (n : Int) = (n : Int) := by unfold wrap64; omega
  have e2 : wrap64 (8 + (n : Int)) = 8 + (n : Int) := by unfold wrap64; omega
  have HN := Aside0.mk hn; clear hn
  go_enter Try.func23, Try.ntmps23
  go_wp2_with fail
  refine (frame_next.get_same s w n h HN.out).mono ?_; rintro e w1 ⟨rfl, hb⟩
  go_wp2
  refine bodyPost_ret (results_list (rs := [.tmp 2, .tmp 3, .tmp 4, .tmp 5]) rfl (by simp) (.tmp (.tmp (.tmp (.tmp .nil))))) rfl ?_
  exact ⟨rfl, hb⟩
set_option maxHeartbeats 1000000 in
set_option maxRecDepth 100000 in
theorem frame_next.w4 (s : ByteArray) (w : World) (n m : Nat) (hs : s.size ≤ 4611686018427387904) (h : 4 ≤ s.size) (hn : num4 (bytesOf s) = n) (h2 : n ≤ 1048576) (h3 : 8 + n ≤ s.size) (hm : m = 4 + n) (x : Int) (hx : num4 (bytesOf (s.extract m s.size)) = x) (y : Nat) (hy : crc (bytesOf (s.extract 4 m)) = y) (hxy : (x == (y : Int)) = false) :
    Calls Try.prog 23 #[.string s] w fun e w' => e = .returned (.tuple #[.string ⟨#[]⟩, .string s, .bool false, .int .i64 8]) ∧ Below w.heap.size w w' := by
  have d1 : decide ((s.size : Int) < 4) = false := decide_eq_false (by omega)
  have d2 : decide (s.size < 4) = false := decide_eq_false (by omega)
  have d3 : decide ((1048576 : Int) < (n : Int)) = false := decide_eq_false (by omega)
  have d4 : decide (1048576 < n) = false := decide_eq_false (by omega)
  have d5 : decide ((s.size : Int) < 8 + (n : Int)) = false := decide_eq_false (by omega)
  have d6 : decide (s.size < 8 + n) = false := decide_eq_false (by omega)
  have e1 : wrap64 (n : Int) = (n : Int) := by unfold wrap64; omega
  have e2 : wrap64 (8 + (n : Int)) = 8 + (n : Int) := by unfold wrap64; omega
  have e3 : ((4 : Int) + (n : Int)) % 4294967296 = (m : Int) := by omega
  have e3' : IntKind.u32.wrap ((4 : Int) + (n : Int)) = (m : Int) := by simp [IntKind.wrap, IntKind.bits, IntKind.signed]; omega
  have e4 : ((4 : Int) ≤ (m : Int)) = True := eq_true (by omega)
  have e5 : ((m : Int) ≤ (s.size : Int)) = True := eq_true (by omega)
  have e6 : (4 ≤ m) = True := eq_true (by omega)
  have e7 : (m ≤ s.size) = True := eq_true (by omega)
  have g1 : 4 ≤ (s.extract m s.size).size := by simp; omega
  have g2 : (s.extract 4 m).size ≤ 4611686018427387904 := by simp; omega
  have G1 := Aside0.mk g1; have G2 := Aside0.mk g2; clear g1 g2
  have HN := Aside0.mk hn; have HX := Aside0.mk hx; have HY := Aside0.mk hy; clear hn hx hy hm
  go_enter Try.func23, Try.ntmps23
  go_wp2_with fail
  refine (frame_next.get_same s w n h HN.out).mono ?_; rintro e w1 ⟨rfl, hb⟩
  go_wp2_with fail
  go_quiet (fail)
  go_wp2_with fail
  refine (frame_next.get_same (s.extract m s.size) _ x G1.out HX.out).mono ?_; rintro e w2 ⟨rfl, hb2⟩
  have hb2' := below_then (pw_below_drewN hb _) (pw_below_drewN hb _).size hb2
  go_wp2_with fail
  refine (Sum_calls (s.extract 4 m) _ G2.out).mono ?_; rintro e w3 ⟨rfl, hb3⟩
  have hb3' := below_then hb2' hb2'.size hb3
  rw [HY.out]
  go_wp2
  refine bodyPost_ret (results_list (rs := [.tmp 2, .tmp 3, .tmp 4, .tmp 5]) rfl (by simp) (.tmp (.tmp (.tmp (.tmp .nil))))) rfl ?_
  exact ⟨rfl, hb3'⟩
set_option maxHeartbeats 1000000 in
set_option maxRecDepth 100000 in
theorem frame_next.w5 (s : ByteArray) (w : World) (n m : Nat) (hs : s.size ≤ 4611686018427387904) (h : 4 ≤ s.size) (hn : num4 (bytesOf s) = n) (h2 : n ≤ 1048576) (h3 : 8 + n ≤ s.size) (hm : m = 4 + n) (y : Nat) (hx : num4 (bytesOf (s.extract m s.size)) = y) (hy : crc (bytesOf (s.extract 4 m)) = y) :
    Calls Try.prog 23 #[.string s] w fun e w' => e = .returned (.tuple #[.string (s.extract 4 m), .string ((s.extract m s.size).extract 4 (s.size - m)), .bool true, .int .i64 0]) ∧ Below w.heap.size w w' := by
  have d1 : decide ((s.size : Int) < 4) = false := decide_eq_false (by omega)
  have d2 : decide (s.size < 4) = false := decide_eq_false (by omega)
  have d3 : decide ((1048576 : Int) < (n : Int)) = false := decide_eq_false (by omega)
  have d4 : decide (1048576 < n) = false := decide_eq_false (by omega)
  have d5 : decide ((s.size : Int) < 8 + (n : Int)) = false := decide_eq_false (by omega)
  have d6 : decide (s.size < 8 + n) = false := decide_eq_false (by omega)
  have e1 : wrap64 (n : Int) = (n : Int) := by unfold wrap64; omega
  have e2 : wrap64 (8 + (n : Int)) = 8 + (n : Int) := by unfold wrap64; omega
  have e3 : ((4 : Int) + (n : Int)) % 4294967296 = (m : Int) := by omega
  have e3' : IntKind.u32.wrap ((4 : Int) + (n : Int)) = (m : Int) := by simp [IntKind.wrap, IntKind.bits, IntKind.signed]; omega
  have e4 : ((4 : Int) ≤ (m : Int)) = True := eq_true (by omega)
  have e5 : ((m : Int) ≤ (s.size : Int)) = True := eq_true (by omega)
  have e6 : (4 ≤ m) = True := eq_true (by omega)
  have e7 : (m ≤ s.size) = True := eq_true (by omega)
  have e8 : ((4 : Int) ≤ ((s.size - m : Nat) : Int)) = True := eq_true (by omega)
  have e9 : (4 ≤ s.size - m) = True := eq_true (by omega)
  have e10 : ((4 : Int) ≤ (((s.extract m s.size).size : Nat) : Int)) = True := eq_true (by simp; omega)
  have g1 : 4 ≤ (s.extract m s.size).size := by simp; omega
  have g2 : (s.extract 4 m).size ≤ 4611686018427387904 := by simp; omega
  have G1 := Aside0.mk g1; have G2 := Aside0.mk g2; clear g1 g2
  have HN := Aside0.mk hn; have HX := Aside0.mk hx; have HY := Aside0.mk hy; clear hn hx hy hm
  go_enter Try.func23, Try.ntmps23
  go_wp2_with fail
  refine (frame_next.get_same s w n h HN.out).mono ?_; rintro e w1 ⟨rfl, hb⟩
  go_wp2_with fail
  go_quiet (fail)
  go_wp2_with fail
  refine (frame_next.get_same (s.extract m s.size) _ y G1.out HX.out).mono ?_; rintro e w2 ⟨rfl, hb2⟩
  have hb2' := below_then (pw_below_drewN hb _) (pw_below_drewN hb _).size hb2
  go_wp2_with fail
  refine (Sum_calls (s.extract 4 m) _ G2.out).mono ?_; rintro e w3 ⟨rfl, hb3⟩
  have hb3' := below_then hb2' hb2'.size hb3
  rw [HY.out]
  go_wp2_with fail
  go_quiet (fail)
  go_wp2
  refine bodyPost_ret (results_list (rs := [.tmp 2, .tmp 3, .tmp 4, .tmp 5]) rfl (by simp) (.tmp (.tmp (.tmp (.tmp .nil))))) rfl ?_
  exact ⟨rfl, pw_below_drewN hb3' _⟩
def frame_next.f (a0 : ByteArray) : Option (ByteArray × ByteArray × Bool × Int) := if a0.size ≤ 4611686018427387904 then some (match frI (bytesOf a0) with | .part => (⟨#[]⟩, a0, false, 0) | .bad => (⟨#[]⟩, a0, false, 8) | .whole t r => (strOfNums t, strOfNums r, true, 0)) else none
theorem frame_next.calls (a0 : ByteArray) (r1 r2 : ByteArray) (r3 : Bool) (r4 : Int) (w : World) (h : frame_next.f a0 = some (r1, r2, r3, r4)) :
    Calls Try.prog 23 #[.string a0] w fun e w' => e = .returned (.tuple #[.string r1, .string r2, .bool r3, .int .i64 r4]) ∧ Below w.heap.size w w' := by
  unfold frame_next.f at h
  have hsz := bytesOf_size a0
  have hB := Bs.bytesOf a0
  have hb := num4_bd hB
  split at h
  · rename_i hs
    unfold frI at h
    split at h
    · rename_i heq
      split at heq
      · simp at h; obtain ⟨rfl, rfl, rfl, rfl⟩ := h; exact frame_next.w1 a0 w (by omega)
      · split at heq
        · cases heq
        · split at heq
          · simp at h; obtain ⟨rfl, rfl, rfl, rfl⟩ := h
            exact frame_next.w3 a0 w (num4 (bytesOf a0)).toNat (by omega) (by omega) (by omega) (by omega)
          · split at heq <;> cases heq
    · rename_i heq
      split at heq
      · cases heq
      · split at heq
        · simp at h; obtain ⟨rfl, rfl, rfl, rfl⟩ := h
          exact frame_next.w2 a0 w (num4 (bytesOf a0)).toNat (by omega) (by omega) (by omega)
        · split at heq
          · cases heq
          · split at heq
            · cases heq
            · rename_i hne
              simp at h; obtain ⟨rfl, rfl, rfl, rfl⟩ := h
              refine frame_next.w4 a0 w (num4 (bytesOf a0)).toNat _ hs (by omega) (by omega) (by omega) (by omega) rfl _ rfl _ rfl ?_
              rw [beq_eq_false_iff_ne, bytesOf_tail, bytesOf_extract, List.drop_take]
              have e : 4 + (num4 (bytesOf a0)).toNat - 4 = (num4 (bytesOf a0)).toNat := by omega
              rw [e]; exact hne
    · rename_i t r heq
      split at heq
      · cases heq
      · split at heq
        · cases heq
        · split at heq
          · cases heq
          · split at heq
            · rename_i heqs
              injection heq with h1 h2
              simp at h; obtain ⟨rfl, rfl, rfl, rfl⟩ := h
              have e : 4 + (num4 (bytesOf a0)).toNat - 4 = (num4 (bytesOf a0)).toNat := by omega
              have E1 : a0.extract 4 (4 + (num4 (bytesOf a0)).toNat) = strOfNums t := by
                apply bytesOf_inj
                rw [← h1, bytesOf_strOfNums ((hB.drop _).take _), bytesOf_extract, List.drop_take, e]
              have E2 : (a0.extract (4 + (num4 (bytesOf a0)).toNat) a0.size).extract 4 (a0.extract (4 + (num4 (bytesOf a0)).toNat) a0.size).size = strOfNums r := by
                apply bytesOf_inj
                rw [← h2, bytesOf_strOfNums (hB.drop _), bytesOf_tail, bytesOf_tail, List.drop_drop]
                congr 1; omega
              have hw := frame_next.w5 a0 w (num4 (bytesOf a0)).toNat (4 + (num4 (bytesOf a0)).toNat) hs (by omega) (by omega) (by omega) (by omega) rfl (crc (bytesOf (a0.extract 4 (4 + (num4 (bytesOf a0)).toNat)))) (by rw [bytesOf_tail, heqs, bytesOf_extract, List.drop_take, e]) rfl
              have E3 : a0.size - (4 + (num4 (bytesOf a0)).toNat) = (a0.extract (4 + (num4 (bytesOf a0)).toNat) a0.size).size := by simp
              rw [E3, E1, E2] at hw
              exact hw
            · cases heq
  · exact absurd h (by simp)
def frame_Scan.l0 : Nat → ByteArray → List ByteArray → ByteArray → Option (List ByteArray × Int × Int)
  | 0, _, _, _ => none
  | k + 1, x0, x5, x6 => (frame_next.f x6).bind fun bt114 => (if bt114.2.2.2 = 0 then (if bt114.2.2.1 = true then (if x5.length < 8796093022208 then (frame_Scan.l0 k x0 (x5 ++ [bt114.1]) bt114.2.1) else (none)) else (some (x5, wrap64 ((x0.size : Int) - (x6.size : Int)), 0))) else (some (([] : List ByteArray), 0, bt114.2.2.2)))
def frame_Scan.f (k : Nat) (a0 : ByteArray) : Option (List ByteArray × Int × Int) := frame_Scan.l0 k a0 ([] : List ByteArray) a0
theorem frame_Scan.mono_l : ∀ k, (∀ y0 y1 y2, LeO (frame_Scan.l0 k y0 y1 y2) (frame_Scan.l0 (k + 1) y0 y1 y2))
  | 0 => fun _ _ _ r h => by simp [frame_Scan.l0] at h
  | k + 1 => by
    have ih0 := frame_Scan.mono_l k
    · intro y0 y1 y2
      unfold frame_Scan.l0
      repeat' first
      | (with_reducible exact ih0 _ _ _)
      | (with_reducible exact LeO.refl _)
      | (with_reducible exact LeO.none _)
      | (with_reducible refine LeO.ite ?_ ?_)
      | (with_reducible refine LeO.bind ?_ (fun _ => ?_))
      | exact ih0 _ _ _
      | exact LeO.none _
      | refine LeO.ite ?_ ?_
      | refine LeO.bind ?_ (fun _ => ?_)
theorem frame_Scan.mono : ∀ a0 k, LeO (frame_Scan.f k a0) (frame_Scan.f (k + 1) a0) := by
  intro a0 k
  have ih0 := frame_Scan.mono_l k
  unfold frame_Scan.f
  repeat' first
      | (with_reducible exact ih0 _ _ _)
      | (with_reducible exact LeO.refl _)
      | (with_reducible exact LeO.none _)
      | (with_reducible refine LeO.ite ?_ ?_)
      | (with_reducible refine LeO.bind ?_ (fun _ => ?_))
      | exact ih0 _ _ _
      | exact LeO.none _
      | refine LeO.ite ?_ ?_
      | refine LeO.bind ?_ (fun _ => ?_)
set_option maxHeartbeats 8000000 in
set_option maxRecDepth 100000 in
theorem frame_Scan.calls (k : Nat) (a0 : ByteArray) (r1 : List ByteArray) (r2 : Int) (r3 : Int) (w : World) (h : frame_Scan.f k a0 = some (r1, r2, r3)) :
    Calls Try.prog 15 #[.string a0] w fun e w' => ∃ v0_ : Value, e = .returned (.tuple #[v0_, .int .i64 r2, .int .i64 r3]) ∧ Kd.R Kd.string 9 w' w.heap.size (fun _ => True) v0_ r1 ∧ Below w.heap.size w w' := by
  have HB := Aside0.mk (Below.refl w.heap.size w)
  have H : (frame_Scan.l0 k a0 ([] : List ByteArray) a0) = some (r1, r2, r3) := h
  clear h
  have H' := Aside0.mk H
  clear H
  go_enter Try.func15, Try.ntmps15
  go_wp2
  go_loopg [5, 6] k (fun kq v5 v6 w' => ∃ (x5_1 : List ByteArray) (x6_1 : ByteArray), v6 = .string x6_1 ∧ Aside0 (frame_Scan.l0 kq a0 x5_1 x6_1 = some (r1, r2, r3)) ∧ Aside0 (kq ≤ k) ∧ Aside0 (Kd.R Kd.string 9 w' w.heap.size (fun _ => True) v5 x5_1) ∧ Aside0 (Below w.heap.size w w'))
  case atStart => exact ⟨(([] : List ByteArray)), (a0), (by first | rfl | (simp; done) | (simp [*]; done)), H', ⟨Nat.le_refl _⟩, ⟨by first | exact Kd.R_nil _ _ _ _ _ | exact Kd.N_nil _ _ _ _ _ | exact Kd.V_nil _ _ _ _ _ | exact Kd.Q_nil _ _ _ _ _ | exact Kd.S_nil _ _ _ _ _⟩, ⟨by repeat (first | (with_reducible first | exact HB.out | apply below_alloc | apply pw_below_drewN | apply below_drew1) | exact HB.out)⟩⟩
  case round =>
    clear H'
    try clear c1
    obtain ⟨x5_1, x6_1, rfl, HA, HK1, HO_5, HB⟩ := hrel
    cases gk with
    | zero => exact absurd HA.out (by simp [frame_Scan.l0])
    | succ k1 =>
      have H := HA.out
      clear HA
      simp only [frame_Scan.l0] at H
      replace H := Option.bind_eq_some_iff.mp H
      obtain ⟨⟨t114, t115, t116, t117⟩, A20, H⟩ := H
      replace H : (if t117 = 0 then (if t116 = true then (if x5_1.length < 8796093022208 then (frame_Scan.l0 k1 a0 (x5_1 ++ [t114]) t115) else (none)) else (some (x5_1, wrap64 ((a0.size : Int) - (x6_1.size : Int)), 0))) else (some (([] : List ByteArray), 0, t117))) = some (r1, r2, r3) := H
      have A2 := Aside0.mk A20
      clear A20
      by_cases c3 : t117 = 0
      · rw [if_pos c3] at H
        have c3b0 : (t117 == 0) = true := beq_iff_eq.mpr c3
        have c3b1 : (t117 != 0) = false := bne_eq_false_iff_eq.mpr c3
        clear c3
        by_cases c4 : t116 = true
        · subst c4
          have H1 : (if x5_1.length < 8796093022208 then (frame_Scan.l0 k1 a0 (x5_1 ++ [t114]) t115) else (none)) = some (r1, r2, r3) := by rw [if_pos rfl] at H; exact H
          clear H
          have H := H1
          clear H1
          by_cases c5 : x5_1.length < 8796093022208
          · rw [if_pos c5] at H
            have LMc5 := Aside0.mk c5
            clear c5
            obtain ⟨y118, hy118⟩ : ∃ y_ : List ByteArray, y_ = (x5_1 ++ [t114]) := ⟨_, rfl⟩
            replace H : (frame_Scan.l0 k1 a0 y118 t115) = some (r1, r2, r3) := by first | (rw [hy118]; with_reducible exact H) | (have H2_ := (Option.bind_some _ _).symm.trans H; rw [hy118]; with_reducible exact H2_) | (have H2_ := (Option.bind_some _ _).symm.trans H; with_reducible exact H2_) | with_reducible exact H | (rw [hy118]; exact H) | exact H
            have Ny118 := Aside0.mk hy118
            clear hy118
            have H' := Aside0.mk H
            clear H
            go_wp2_with (first | ((with_reducible refine gate_callee (f := 23) rfl ?_); refine goesL_ (some 14) rfl rfl Try.func23 (by kernel_rfl) rfl #[.string x6_1] rfl (by (try simp only [List.map_toArray, List.map_cons, List.map_nil]); first | done | rfl | (simp only [List.length_drop, List.length_take]; rfl) | (go_simp; simp [IntKind.wrap, IntKind.bits, IntKind.signed]; omega)) ?_; (with_reducible refine (frame_next.calls x6_1 t114 t115 true t117 _ A2.out).mono ?_); rintro e w6 ⟨rfl, hb⟩; refine ⟨_, rfl, ?_⟩; have n0_ := Aside0.mk (Kd.R_below (by (with_reducible repeat (first | apply Kd.R_alloc | apply Kd.R_drewN | apply Kd.R_drew)); exact HO_5.out) hb); have n1_ := Aside0.mk (below_step (by repeat (first | (with_reducible first | exact HB.out | apply below_alloc | apply pw_below_drewN | apply below_drew1) | exact HB.out)) hb); clear HO_5; clear HB; have HO_5 := n0_; have HB := n1_; clear n0_ n1_; (try clear hb); (try clear hb2); (try clear hk); (try clear hi)) | ((with_reducible refine gate_builtin (b := .append) (xs := #[.tmp 32, .tmp 34]) rfl ?_); at_builtin; refine Kd.R_append Kd.string (w0 := w) w.heap.size rfl (.tmp 32) (.tmp 34) 27 9 (.string ⟨#[]⟩) 16 rfl Try.underlying27 info9 rfl (by decide) (by omega) u5 x5_1 t114 [.string t114] (fun _ => True) (fun _ => False) rfl rfl ?aP (fun _ hk => hk.elim) ?aF ?aO ?aB ?aS ?aL ?_; (case aP => exact rfl); (case aB => exact (by repeat (first | (with_reducible first | exact HB.out | apply below_alloc | apply pw_below_drewN | apply below_drew1) | exact HB.out))); (case aF => exact (fun _ _ => trivial)); (case aO => exact (by (with_reducible repeat (first | apply Kd.R_alloc | apply Kd.R_drewN | apply Kd.R_drew)); exact HO_5.out)); (case aS => exact (below_size (by repeat (first | (with_reducible first | exact HB.out | apply below_alloc | apply pw_below_drewN | apply below_drew1) | exact HB.out)))); (case aL => have := LMc5.out; omega); intro v119 w7 ho hb hg hat; rw [← Ny118.out] at ho; have n0_ := Aside0.mk (hb); have n1_ := Aside0.mk (ho); clear HB; clear HO_5; have HB := n0_; have HO120 := n1_; clear n0_ n1_; clear ho hb hg hat))
            go_roundg k1
            case measure => have := HK1.out; omega
            case rel => exact ⟨(y118), (t115), (by first | rfl | (simp; done) | (simp [*]; done)), H', ⟨by have := HK1.out; omega⟩, ⟨by (with_reducible repeat (first | apply Kd.R_alloc | apply Kd.R_drewN | apply Kd.R_drew)); exact HO120.out⟩, ⟨by repeat (first | (with_reducible first | exact HB.out | apply below_alloc | apply pw_below_drewN | apply below_drew1) | exact HB.out)⟩⟩
          · rw [if_neg c5] at H
            exact absurd H (by simp)
        · replace c4 := Bool.eq_false_iff.mpr c4
          subst c4
          have H1 : (some (x5_1, wrap64 ((a0.size : Int) - (x6_1.size : Int)), 0)) = some (r1, r2, r3) := by rw [if_neg (show ¬ (false = true) by decide)] at H; exact H
          clear H
          have H := H1
          clear H1
          simp only [Option.some.injEq, Prod.mk.injEq] at H
          obtain ⟨rfl, rfl, rfl⟩ := H
          go_wp2_with (first | ((with_reducible refine gate_callee (f := 23) rfl ?_); refine goesL_ (some 14) rfl rfl Try.func23 (by kernel_rfl) rfl #[.string x6_1] rfl (by (try simp only [List.map_toArray, List.map_cons, List.map_nil]); first | done | rfl | (simp only [List.length_drop, List.length_take]; rfl) | (go_simp; simp [IntKind.wrap, IntKind.bits, IntKind.signed]; omega)) ?_; (with_reducible refine (frame_next.calls x6_1 t114 t115 false t117 _ A2.out).mono ?_); rintro e w8 ⟨rfl, hb⟩; refine ⟨_, rfl, ?_⟩; have n0_ := Aside0.mk (Kd.R_below (by (with_reducible repeat (first | apply Kd.R_alloc | apply Kd.R_drewN | apply Kd.R_drew)); exact HO_5.out) hb); have n1_ := Aside0.mk (below_step (by repeat (first | (with_reducible first | exact HB.out | apply below_alloc | apply pw_below_drewN | apply below_drew1) | exact HB.out)) hb); clear HO_5; clear HB; have HO_5 := n0_; have HB := n1_; clear n0_ n1_; (try clear hb); (try clear hb2); (try clear hk); (try clear hi)))
          go_ret3
          exact ⟨_, by first | rfl | (simp [errW_none, errW_some] <;> rfl) | (simp [*, errW_none, errW_some] <;> rfl), by (with_reducible repeat (first | apply Kd.R_alloc | apply Kd.R_drewN | apply Kd.R_drew)); exact HO_5.out, by repeat (first | (with_reducible first | exact HB.out | apply below_alloc | apply pw_below_drewN | apply below_drew1) | exact HB.out)⟩
      · rw [if_neg c3] at H
        have c3b0 : (t117 == 0) = false := beq_eq_false_iff_ne.mpr c3
        have c3b1 : (t117 != 0) = true := bne_iff_ne.mpr c3
        simp only [Option.some.injEq, Prod.mk.injEq] at H
        obtain ⟨rfl, rfl, rfl⟩ := H
        go_wp2_with (first | ((with_reducible refine gate_callee (f := 23) rfl ?_); refine goesL_ (some 14) rfl rfl Try.func23 (by kernel_rfl) rfl #[.string x6_1] rfl (by (try simp only [List.map_toArray, List.map_cons, List.map_nil]); first | done | rfl | (simp only [List.length_drop, List.length_take]; rfl) | (go_simp; simp [IntKind.wrap, IntKind.bits, IntKind.signed]; omega)) ?_; (with_reducible refine (frame_next.calls x6_1 t114 t115 t116 t117 _ A2.out).mono ?_); rintro e w9 ⟨rfl, hb⟩; refine ⟨_, rfl, ?_⟩; have n0_ := Aside0.mk (Kd.R_below (by (with_reducible repeat (first | apply Kd.R_alloc | apply Kd.R_drewN | apply Kd.R_drew)); exact HO_5.out) hb); have n1_ := Aside0.mk (below_step (by repeat (first | (with_reducible first | exact HB.out | apply below_alloc | apply pw_below_drewN | apply below_drew1) | exact HB.out)) hb); clear HO_5; clear HB; have HO_5 := n0_; have HB := n1_; clear n0_ n1_; (try clear hb); (try clear hb2); (try clear hk); (try clear hi)))
        go_ret3
        exact ⟨_, by first | rfl | (simp [errW_none, errW_some] <;> rfl) | (simp [*, errW_none, errW_some] <;> rfl), by first | exact Kd.R_nil _ _ _ _ _ | exact Kd.N_nil _ _ _ _ _ | exact Kd.V_nil _ _ _ _ _ | exact Kd.Q_nil _ _ _ _ _ | exact Kd.S_nil _ _ _ _ _, by repeat (first | (with_reducible first | exact HB.out | apply below_alloc | apply pw_below_drewN | apply below_drew1) | exact HB.out)⟩
def tithebarnlaw08_lives.f : Option Bool := some true
theorem tithebarnlaw08_lives.e1 : frame_Write.f 10 (⟨#[97]⟩ : ByteArray) = some (⟨#[1, 0, 0, 0, 97, 48, 67, 208, 193]⟩ : ByteArray) := by kernel_rfl
theorem tithebarnlaw08_lives.e2 : frame_Scan.f 10 (⟨#[1, 0, 0, 0, 97, 48, 67, 208, 193, 1]⟩ : ByteArray) = some ([(⟨#[97]⟩ : ByteArray)], 9, 0) := by kernel_rfl
theorem tithebarnlaw08_lives.e3 : crc (bytesOf (⟨#[49, 50, 51, 52, 53, 54, 55, 56, 57]⟩ : ByteArray)) = 3808858755 := by kernel_rfl
theorem tithebarnlaw08_lives.e4 : (⟨#[1, 0, 0, 0, 97, 48, 67, 208, 193]⟩ : ByteArray) ++ (⟨#[1]⟩ : ByteArray) = ⟨#[1, 0, 0, 0, 97, 48, 67, 208, 193, 1]⟩ := by kernel_rfl
set_option maxHeartbeats 1000000 in
set_option maxRecDepth 100000 in
theorem tithebarnlaw08_lives.calls (r : Bool) (w : World) (h : tithebarnlaw08_lives.f = some r) : Calls Try.prog 9 #[] w fun e w' => e = .returned (.bool r) ∧ Below w.heap.size w w' := by
  obtain rfl := Option.some.inj h
  go_enter Try.func9, Try.ntmps9
  go_wp2_with fail
  refine (frame_Write.calls 10 _ _ w tithebarnlaw08_lives.e1).mono ?_; rintro e w1 ⟨rfl, hb1⟩
  have e4 := tithebarnlaw08_lives.e4
  generalize hS : (⟨#[1, 0, 0, 0, 97, 48, 67, 208, 193]⟩ : ByteArray) = S at *
  have hz : (9223372036854775807 < S.size + 1) = False := by rw [← hS]; exact eq_false (by decide)
  have hz2 : (S.size + 1 ≤ 9223372036854775807) = True := by rw [← hS]; exact eq_true (by decide)
  have hz3 : decide (S.size + 1 ≤ 9223372036854775807) = true := by rw [← hS]; decide
  go_wp2_with fail
  refine (frame_Scan.calls 10 _ _ _ _ _ tithebarnlaw08_lives.e2).mono ?_; rintro e w2 ⟨v, rfl, hR, hb2⟩
  obtain ⟨ad, c, rfl⟩ := Kd.R_slice1 hR (by decide)
  have hB2 := below_then hb1 hb1.size hb2
  have HR := Aside0.mk hR; clear hR
  go_wp2_with fail
  refine (Sum_calls _ _ (by decide)).mono ?_; rintro e w3 ⟨rfl, hb3⟩
  have hB3 := below_then hB2 hB2.size hb3
  rw [tithebarnlaw08_lives.e3]
  obtain ⟨ad', cs, hA, _, hK, hcc⟩ := Kd.C_get (Kd.R_reads' (Kd.R_below HR.out hb3)).2.2 (⟨#[]⟩ : ByteArray) 0 (by decide) (by decide)
  cases hA
  have hK' : cs = [.string ⟨#[97]⟩] := hK
  have hcell : w3.cell? (ad.add 0) = some (.string ⟨#[97]⟩) := hcc 0 _ (by rw [hK']; rfl)
  have hcell' : w3.cell? ad = some (.string ⟨#[97]⟩) := hcell
  clear hK hK' hcc hcell
  go_wp2
  go_ret
  exact ⟨rfl, hB3⟩
def tithebarnref08_Sum.f (a0 : ByteArray) : Option Int := if a0.size ≤ 4611686018427387904 then some ((crc (bytesOf a0) : Nat) : Int) else none
theorem tithebarnref08_Sum.calls (a0 : ByteArray) (r : Int) (w : World) (h : tithebarnref08_Sum.f a0 = some r) :
    Calls Try.prog 11 #[.string a0] w fun e w' => e = .returned (.int .u32 r) ∧ Drawn0 w w' := by
  unfold tithebarnref08_Sum.f at h
  split at h
  · rename_i hs
    obtain rfl := Option.some.inj h
    refine (RSum_calls a0 w hs).mono ?_
    rintro e w' ⟨rfl, rfl⟩
    exact ⟨rfl, Drawn0.refl _⟩
  · exact absurd h (by simp)
def tithebarnref08_four.f (a0 : Int) : Option (ByteArray) := some (strOfNums (([(a0) % 256, (a0 / 256) % 256, (a0 / 65536) % 256, (a0 / 16777216) % 256] : List Int)))
set_option maxHeartbeats 8000000 in
set_option maxRecDepth 100000 in
theorem tithebarnref08_four.calls (a0 : Int) (r : ByteArray) (w : World) (h : tithebarnref08_four.f a0 = some r) :
    Calls Try.prog 22 #[.int .u32 a0] w fun e w' => e = .returned (.string r) ∧ Below w.heap.size w w' := by
  have HB := Aside0.mk (Below.refl w.heap.size w)
  have H : (some (strOfNums (([(a0) % 256, (a0 / 256) % 256, (a0 / 65536) % 256, (a0 / 16777216) % 256] : List Int)))) = some r := h
  clear h
  obtain ⟨y121, hy121⟩ : ∃ y_ : List Int, y_ = (([(a0) % 256, (a0 / 256) % 256, (a0 / 65536) % 256, (a0 / 16777216) % 256] : List Int)) := ⟨_, rfl⟩
  replace H : (some (strOfNums y121)) = some r := by first | (rw [hy121]; with_reducible exact H) | (have H2_ := (Option.bind_some _ _).symm.trans H; rw [hy121]; with_reducible exact H2_) | (have H2_ := (Option.bind_some _ _).symm.trans H; with_reducible exact H2_) | with_reducible exact H | (rw [hy121]; exact H) | exact H
  have Ny121 := Aside0.mk hy121
  clear hy121
  obtain rfl := Option.some.inj H
  go_enter Try.func22, Try.ntmps22
  go_wp2_with (first | ((with_reducible refine gate_dst (N := 14) rfl ?_); refine Kd.R_lit (Kd.int .u8) _ 5 ?hg (N := 14) ?hd (xs := ([(a0) % 256, (a0 / 256) % 256, (a0 / 65536) % 256, (a0 / 16777216) % 256] : List Int)) (inner := [.int .u8 ((a0) % 256), .int .u8 ((a0 / 256) % 256), .int .u8 ((a0 / 65536) % 256), .int .u8 ((a0 / 16777216) % 256)]) (ok := fun _ => True) (okp := fun _ => True) ?hr ?hp (fun _ hk => hk) trivial (Below.refl _ _) (Nat.le_refl _) (by simp) ?_; (case hd => rfl); (case hg => rfl); (case hr => first | (go_simp; done) | (go_simp; rfl)); (case hp => exact (Reps.one (show Kd.M (Kd.int .u8) _ _ _ ((a0) % 256) [.int .u8 ((a0) % 256)] from rfl) (Reps.one (show Kd.M (Kd.int .u8) _ _ _ ((a0 / 256) % 256) [.int .u8 ((a0 / 256) % 256)] from rfl) (Reps.one (show Kd.M (Kd.int .u8) _ _ _ ((a0 / 65536) % 256) [.int .u8 ((a0 / 65536) % 256)] from rfl) (Reps.one (show Kd.M (Kd.int .u8) _ _ _ ((a0 / 16777216) % 256) [.int .u8 ((a0 / 16777216) % 256)] from rfl) (Reps.none _ _)))))); intro v122 w2 ho3 hb hg_ hnew_; clear hg_ hnew_; (first | rw [← Ny121.out] at ho3 | (simp only [Int.reduceToNat] at ho3; rw [← Ny121.out] at ho3)); have n0_ := Aside0.mk (Kd.R_lower ho3 (below_size (by repeat (first | (with_reducible first | exact HB.out | apply below_alloc | apply pw_below_drewN | apply below_drew1) | exact HB.out)))); have n1_ := Aside0.mk (below_step (by repeat (first | (with_reducible first | exact HB.out | apply below_alloc | apply pw_below_drewN | apply below_drew1) | exact HB.out)) hb); clear HB; have HO123 := n0_; have HB := n1_; clear n0_ n1_; clear hb ho3; have hcv4 := own_string (P := Try.prog) Try.underlying38 Try.underlying5 Try.underlying9 (Kd.own_of_R HO123.out)))
  go_ret
  exact ⟨by first | rfl | (simp [errW_none, errW_some] <;> rfl) | (simp [*, errW_none, errW_some] <;> rfl), by repeat (first | (with_reducible first | exact HB.out | apply below_alloc | apply pw_below_drewN | apply below_drew1) | exact HB.out)⟩
def tithebarnref08_Write.f (a0 : ByteArray) : Option (ByteArray) := (tithebarnref08_four.f (((a0.size : Int)) % 4294967296)).bind fun t124 => (if t124.size + a0.size ≤ 9223372036854775807 then ((tithebarnref08_Sum.f a0).bind fun t125 => ((tithebarnref08_four.f t125).bind fun t126 => (if (t124 ++ a0).size + t126.size ≤ 9223372036854775807 then (some ((t124 ++ a0) ++ t126)) else (none)))) else (none))
set_option maxHeartbeats 8000000 in
set_option maxRecDepth 100000 in
theorem tithebarnref08_Write.calls (a0 : ByteArray) (r : ByteArray) (w : World) (h : tithebarnref08_Write.f a0 = some r) :
    Calls Try.prog 13 #[.string a0] w fun e w' => e = .returned (.string r) ∧ Below w.heap.size w w' := by
  have HB := Aside0.mk (Below.refl w.heap.size w)
  have H : ((tithebarnref08_four.f (((a0.size : Int)) % 4294967296)).bind fun t124 => (if t124.size + a0.size ≤ 9223372036854775807 then ((tithebarnref08_Sum.f a0).bind fun t125 => ((tithebarnref08_four.f t125).bind fun t126 => (if (t124 ++ a0).size + t126.size ≤ 9223372036854775807 then (some ((t124 ++ a0) ++ t126)) else (none)))) else (none))) = some r := h
  clear h
  replace H := Option.bind_eq_some_iff.mp H
  obtain ⟨t124, A20, H⟩ := H
  replace H : (if t124.size + a0.size ≤ 9223372036854775807 then ((tithebarnref08_Sum.f a0).bind fun t125 => ((tithebarnref08_four.f t125).bind fun t126 => (if (t124 ++ a0).size + t126.size ≤ 9223372036854775807 then (some ((t124 ++ a0) ++ t126)) else (none)))) else (none)) = some r := H
  have A2 := Aside0.mk A20
  clear A20
  by_cases c3 : t124.size + a0.size ≤ 9223372036854775807
  · rw [if_pos c3] at H
    have c3b0 := eq_true c3
    have c3b1 : decide (t124.size + a0.size ≤ 9223372036854775807) = true := decide_eq_true c3
    try have c3b2 : (9223372036854775807 < t124.size + a0.size) = False := eq_false (Nat.not_lt.2 c3)
    try (have c3b3 := c3b2; simp only [ByteArray.size_append] at c3b3)
    try (have c3b4 := c3b0; simp only [ByteArray.size_append] at c3b4)
    try (have c3b5 := c3b1; simp only [ByteArray.size_append] at c3b5)
    replace H := Option.bind_eq_some_iff.mp H
    obtain ⟨t125, A40, H⟩ := H
    replace H : ((tithebarnref08_four.f t125).bind fun t126 => (if (t124 ++ a0).size + t126.size ≤ 9223372036854775807 then (some ((t124 ++ a0) ++ t126)) else (none))) = some r := H
    have A4 := Aside0.mk A40
    clear A40
    replace H := Option.bind_eq_some_iff.mp H
    obtain ⟨t126, A50, H⟩ := H
    replace H : (if (t124 ++ a0).size + t126.size ≤ 9223372036854775807 then (some ((t124 ++ a0) ++ t126)) else (none)) = some r := H
    have A5 := Aside0.mk A50
    clear A50
    by_cases c6 : (t124 ++ a0).size + t126.size ≤ 9223372036854775807
    · rw [if_pos c6] at H
      have c6b0 := eq_true c6
      have c6b1 : decide ((t124 ++ a0).size + t126.size ≤ 9223372036854775807) = true := decide_eq_true c6
      try have c6b2 : (9223372036854775807 < (t124 ++ a0).size + t126.size) = False := eq_false (Nat.not_lt.2 c6)
      try (have c6b3 := c6b2; simp only [ByteArray.size_append] at c6b3)
      try (have c6b4 := c6b0; simp only [ByteArray.size_append] at c6b4)
      try (have c6b5 := c6b1; simp only [ByteArray.size_append] at c6b5)
      obtain rfl := Option.some.inj H
      go_enter Try.func13, Try.ntmps13
      go_wp2_with (first | ((with_reducible refine gate_callee (f := 22) rfl ?_); refine goesL_ (some 6) rfl rfl Try.func22 (by kernel_rfl) rfl #[.int .u32 (((a0.size : Int)) % 4294967296)] rfl (by (try simp only [List.map_toArray, List.map_cons, List.map_nil]); first | done | rfl | (simp only [List.length_drop, List.length_take]; rfl) | (go_simp; simp [IntKind.wrap, IntKind.bits, IntKind.signed]; omega)) ?_; (with_reducible refine (tithebarnref08_four.calls (((a0.size : Int)) % 4294967296) t124 _ A2.out).mono ?_); rintro e w7 ⟨rfl, hb⟩; refine ⟨_, rfl, ?_⟩; have n0_ := Aside0.mk (below_step (by repeat (first | (with_reducible first | exact HB.out | apply below_alloc | apply pw_below_drewN | apply below_drew1) | exact HB.out)) hb); clear HB; have HB := n0_; clear n0_; (try clear hb); (try clear hb2); (try clear hk); (try clear hi)) | ((with_reducible refine gate_callee (f := 11) rfl ?_); refine goesL_ (some 10) rfl rfl Try.func11 (by kernel_rfl) rfl #[.string a0] rfl (by (try simp only [List.map_toArray, List.map_cons, List.map_nil]); first | done | rfl | (simp only [List.length_drop, List.length_take]; rfl) | (go_simp; simp [IntKind.wrap, IntKind.bits, IntKind.signed]; omega)) ?_; (with_reducible refine (tithebarnref08_Sum.calls a0 t125 _ A4.out).mono ?_); rintro e w' ⟨rfl, ⟨nd, rfl⟩⟩; refine ⟨_, rfl, ?_⟩) | ((with_reducible refine gate_callee (f := 22) rfl ?_); refine goesL_ (some 11) rfl rfl Try.func22 (by kernel_rfl) rfl #[.int .u32 t125] rfl (by (try simp only [List.map_toArray, List.map_cons, List.map_nil]); first | done | rfl | (simp only [List.length_drop, List.length_take]; rfl) | (go_simp; simp [IntKind.wrap, IntKind.bits, IntKind.signed]; omega)) ?_; (with_reducible refine (tithebarnref08_four.calls t125 t126 _ A5.out).mono ?_); rintro e w8 ⟨rfl, hb⟩; refine ⟨_, rfl, ?_⟩; have n0_ := Aside0.mk (below_step (by repeat (first | (with_reducible first | exact HB.out | apply below_alloc | apply pw_below_drewN | apply below_drew1) | exact HB.out)) hb); clear HB; have HB := n0_; clear n0_; (try clear hb); (try clear hb2); (try clear hk); (try clear hi)))
      go_ret
      exact ⟨by first | rfl | (simp [errW_none, errW_some] <;> rfl) | (simp [*, errW_none, errW_some] <;> rfl), by repeat (first | (with_reducible first | exact HB.out | apply below_alloc | apply pw_below_drewN | apply below_drew1) | exact HB.out)⟩
    · rw [if_neg c6] at H
      exact absurd H (by simp)
  · rw [if_neg c3] at H
    exact absurd H (by simp)
def tithebarnlaw08_FrameSums.f (k : Nat) (a0 : ByteArray) : Option (Bool) := (tithebarnlaw08_lives.f).bind fun t127 => (if t127 = true then ((frame_Sum.f a0).bind fun t128 => ((tithebarnref08_Sum.f a0).bind fun t129 => (if t128 = t129 then ((frame_Write.f k a0).bind fun t130 => ((tithebarnref08_Write.f a0).bind fun t131 => (some (t130.toList == t131.toList)))) else (some false)))) else (some false))
theorem tithebarnlaw08_FrameSums.mono : ∀ a0 k, LeO (tithebarnlaw08_FrameSums.f k a0) (tithebarnlaw08_FrameSums.f (k + 1) a0) := by
  intro a0 k
  unfold tithebarnlaw08_FrameSums.f
  repeat' first
      | (with_reducible exact frame_Write.mono _ _)
      | (with_reducible exact LeO.refl _)
      | (with_reducible exact LeO.none _)
      | (with_reducible refine LeO.ite ?_ ?_)
      | (with_reducible refine LeO.bind ?_ (fun _ => ?_))
      | exact frame_Write.mono _ _
      | exact LeO.none _
      | refine LeO.ite ?_ ?_
      | refine LeO.bind ?_ (fun _ => ?_)
set_option maxHeartbeats 8000000 in
set_option maxRecDepth 100000 in
theorem tithebarnlaw08_FrameSums.calls (k : Nat) (a0 : ByteArray) (r : Bool) (w : World) (h : tithebarnlaw08_FrameSums.f k a0 = some r) :
    Calls Try.prog 3 #[.string a0] w fun e w' => e = .returned (.bool r) ∧ Below w.heap.size w w' := by
  have HB := Aside0.mk (Below.refl w.heap.size w)
  have H : ((tithebarnlaw08_lives.f).bind fun t127 => (if t127 = true then ((frame_Sum.f a0).bind fun t128 => ((tithebarnref08_Sum.f a0).bind fun t129 => (if t128 = t129 then ((frame_Write.f k a0).bind fun t130 => ((tithebarnref08_Write.f a0).bind fun t131 => (some (t130.toList == t131.toList)))) else (some false)))) else (some false))) = some r := h
  clear h
  replace H := Option.bind_eq_some_iff.mp H
  obtain ⟨t127, A20, H⟩ := H
  replace H : (if t127 = true then ((frame_Sum.f a0).bind fun t128 => ((tithebarnref08_Sum.f a0).bind fun t129 => (if t128 = t129 then ((frame_Write.f k a0).bind fun t130 => ((tithebarnref08_Write.f a0).bind fun t131 => (some (t130.toList == t131.toList)))) else (some false)))) else (some false)) = some r := H
  have A2 := Aside0.mk A20
  clear A20
  by_cases c3 : t127 = true
  · subst c3
    have H1 : ((frame_Sum.f a0).bind fun t128 => ((tithebarnref08_Sum.f a0).bind fun t129 => (if t128 = t129 then ((frame_Write.f k a0).bind fun t130 => ((tithebarnref08_Write.f a0).bind fun t131 => (some (t130.toList == t131.toList)))) else (some false)))) = some r := by rw [if_pos rfl] at H; exact H
    clear H
    have H := H1
    clear H1
    replace H := Option.bind_eq_some_iff.mp H
    obtain ⟨t128, A40, H⟩ := H
    replace H : ((tithebarnref08_Sum.f a0).bind fun t129 => (if t128 = t129 then ((frame_Write.f k a0).bind fun t130 => ((tithebarnref08_Write.f a0).bind fun t131 => (some (t130.toList == t131.toList)))) else (some false))) = some r := H
    have A4 := Aside0.mk A40
    clear A40
    replace H := Option.bind_eq_some_iff.mp H
    obtain ⟨t129, A50, H⟩ := H
    replace H : (if t128 = t129 then ((frame_Write.f k a0).bind fun t130 => ((tithebarnref08_Write.f a0).bind fun t131 => (some (t130.toList == t131.toList)))) else (some false)) = some r := H
    have A5 := Aside0.mk A50
    clear A50
    by_cases c6 : t128 = t129
    · rw [if_pos c6] at H
      have c6b0 : (t128 == t129) = true := beq_iff_eq.mpr c6
      have c6b1 : (t128 != t129) = false := bne_eq_false_iff_eq.mpr c6
      clear c6
      replace H := Option.bind_eq_some_iff.mp H
      obtain ⟨t130, A70, H⟩ := H
      replace H : ((tithebarnref08_Write.f a0).bind fun t131 => (some (t130.toList == t131.toList))) = some r := H
      have A7 := Aside0.mk A70
      clear A70
      replace H := Option.bind_eq_some_iff.mp H
      obtain ⟨t131, A80, H⟩ := H
      replace H : (some (t130.toList == t131.toList)) = some r := H
      have A8 := Aside0.mk A80
      clear A80
      obtain rfl := Option.some.inj H
      go_enter Try.func3, Try.ntmps3
      go_wp2_with (first | ((with_reducible refine gate_callee (f := 9) rfl ?_); refine goesL_ (some 3) rfl rfl Try.func9 (by kernel_rfl) rfl #[] rfl (by (try simp only [List.map_toArray, List.map_cons, List.map_nil]); first | done | rfl | (simp only [List.length_drop, List.length_take]; rfl) | (go_simp; simp [IntKind.wrap, IntKind.bits, IntKind.signed]; omega)) ?_; (with_reducible refine (tithebarnlaw08_lives.calls  true _ A2.out).mono ?_); rintro e w9 ⟨rfl, hb⟩; refine ⟨_, rfl, ?_⟩; have n0_ := Aside0.mk (below_step (by repeat (first | (with_reducible first | exact HB.out | apply below_alloc | apply pw_below_drewN | apply below_drew1) | exact HB.out)) hb); clear HB; have HB := n0_; clear n0_; (try clear hb); (try clear hb2); (try clear hk); (try clear hi)) | (go_at_call 10; (with_reducible refine (frame_Sum.calls a0 t128 _ A4.out).mono ?_); rintro e w10 ⟨rfl, hb⟩; have n0_ := Aside0.mk (below_step (by repeat (first | (with_reducible first | exact HB.out | apply below_alloc | apply pw_below_drewN | apply below_drew1) | exact HB.out)) hb); clear HB; have HB := n0_; clear n0_; (try clear hb); (try clear hb2); (try clear hk); (try clear hi)) | (go_at_call 11; (with_reducible refine (tithebarnref08_Sum.calls a0 t129 _ A5.out).mono ?_); rintro e w' ⟨rfl, ⟨nd, rfl⟩⟩) | (go_at_call 12; (with_reducible refine (frame_Write.calls k a0 t130 _ A7.out).mono ?_); rintro e w11 ⟨rfl, hb⟩; have n0_ := Aside0.mk (below_step (by repeat (first | (with_reducible first | exact HB.out | apply below_alloc | apply pw_below_drewN | apply below_drew1) | exact HB.out)) hb); clear HB; have HB := n0_; clear n0_; (try clear hb); (try clear hb2); (try clear hk); (try clear hi)) | (go_at_call 13; (with_reducible refine (tithebarnref08_Write.calls a0 t131 _ A8.out).mono ?_); rintro e w12 ⟨rfl, hb⟩; have n0_ := Aside0.mk (below_step (by repeat (first | (with_reducible first | exact HB.out | apply below_alloc | apply pw_below_drewN | apply below_drew1) | exact HB.out)) hb); clear HB; have HB := n0_; clear n0_; (try clear hb); (try clear hb2); (try clear hk); (try clear hi)))
      go_ret
      exact ⟨by first | rfl | (simp [errW_none, errW_some] <;> rfl) | (simp [*, errW_none, errW_some] <;> rfl), by repeat (first | (with_reducible first | exact HB.out | apply below_alloc | apply pw_below_drewN | apply below_drew1) | exact HB.out)⟩
    · rw [if_neg c6] at H
      have c6b0 : (t128 == t129) = false := beq_eq_false_iff_ne.mpr c6
      have c6b1 : (t128 != t129) = true := bne_iff_ne.mpr c6
      obtain rfl := Option.some.inj H
      go_enter Try.func3, Try.ntmps3
      go_wp2_with (first | ((with_reducible refine gate_callee (f := 9) rfl ?_); refine goesL_ (some 3) rfl rfl Try.func9 (by kernel_rfl) rfl #[] rfl (by (try simp only [List.map_toArray, List.map_cons, List.map_nil]); first | done | rfl | (simp only [List.length_drop, List.length_take]; rfl) | (go_simp; simp [IntKind.wrap, IntKind.bits, IntKind.signed]; omega)) ?_; (with_reducible refine (tithebarnlaw08_lives.calls  true _ A2.out).mono ?_); rintro e w13 ⟨rfl, hb⟩; refine ⟨_, rfl, ?_⟩; have n0_ := Aside0.mk (below_step (by repeat (first | (with_reducible first | exact HB.out | apply below_alloc | apply pw_below_drewN | apply below_drew1) | exact HB.out)) hb); clear HB; have HB := n0_; clear n0_; (try clear hb); (try clear hb2); (try clear hk); (try clear hi)) | (go_at_call 10; (with_reducible refine (frame_Sum.calls a0 t128 _ A4.out).mono ?_); rintro e w14 ⟨rfl, hb⟩; have n0_ := Aside0.mk (below_step (by repeat (first | (with_reducible first | exact HB.out | apply below_alloc | apply pw_below_drewN | apply below_drew1) | exact HB.out)) hb); clear HB; have HB := n0_; clear n0_; (try clear hb); (try clear hb2); (try clear hk); (try clear hi)) | (go_at_call 11; (with_reducible refine (tithebarnref08_Sum.calls a0 t129 _ A5.out).mono ?_); rintro e w' ⟨rfl, ⟨nd, rfl⟩⟩))
      go_ret
      exact ⟨by first | rfl | (simp [errW_none, errW_some] <;> rfl) | (simp [*, errW_none, errW_some] <;> rfl), by repeat (first | (with_reducible first | exact HB.out | apply below_alloc | apply pw_below_drewN | apply below_drew1) | exact HB.out)⟩
  · replace c3 := Bool.eq_false_iff.mpr c3
    subst c3
    have H1 : (some false) = some r := by rw [if_neg (show ¬ (false = true) by decide)] at H; exact H
    clear H
    have H := H1
    clear H1
    obtain rfl := Option.some.inj H
    go_enter Try.func3, Try.ntmps3
    go_wp2_with (first | ((with_reducible refine gate_callee (f := 9) rfl ?_); refine goesL_ (some 3) rfl rfl Try.func9 (by kernel_rfl) rfl #[] rfl (by (try simp only [List.map_toArray, List.map_cons, List.map_nil]); first | done | rfl | (simp only [List.length_drop, List.length_take]; rfl) | (go_simp; simp [IntKind.wrap, IntKind.bits, IntKind.signed]; omega)) ?_; (with_reducible refine (tithebarnlaw08_lives.calls  false _ A2.out).mono ?_); rintro e w15 ⟨rfl, hb⟩; refine ⟨_, rfl, ?_⟩; have n0_ := Aside0.mk (below_step (by repeat (first | (with_reducible first | exact HB.out | apply below_alloc | apply pw_below_drewN | apply below_drew1) | exact HB.out)) hb); clear HB; have HB := n0_; clear n0_; (try clear hb); (try clear hb2); (try clear hk); (try clear hi)))
    go_ret
    exact ⟨by first | rfl | (simp [errW_none, errW_some] <;> rfl) | (simp [*, errW_none, errW_some] <;> rfl), by repeat (first | (with_reducible first | exact HB.out | apply below_alloc | apply pw_below_drewN | apply below_drew1) | exact HB.out)⟩
def tithebarnlaw08_FrameSums.Pure : Prop := ∀ (a0 : ByteArray), a0.size ≤ 140737488351232 → ∃ k, tithebarnlaw08_FrameSums.f k a0 = some true
theorem tithebarnlaw08_FrameSums.walk (P : tithebarnlaw08_FrameSums.Pure) (a0 : ByteArray) (w : World) (w0 : a0.size ≤ 140737488351232) :
    Calls Try.prog 3 #[.string a0] w fun e w' => e = .returned (.bool true) ∧ Below w.heap.size w w' := by
  obtain ⟨k, h⟩ := P a0 w0
  refine (tithebarnlaw08_FrameSums.calls k a0 true w h).mono ?_
  rintro e w' ⟨rfl, hd⟩
  exact ⟨rfl, hd⟩
end Go.Proofs.Ytlcjkpoaehmghaa.G
