import Derived.Test.YtgeddoklmcjdcaaZQA
namespace Go.Proofs.Ytgeddoklmcjdcaa.G
open Go.RowKit Go.Proofs.YtgeddoklmcjdcaaQ Go.Proofs.YtgeddoklmcjdcaaW.PrintWords Go.Proofs.YtgeddoklmcjdcaaW.PrintLast Go.Proofs.YtgeddoklmcjdcaaW.PrintMore
attribute [local go_sem] max2_int min2_int max_two min_two max_three min_three max_four min_four   -- for this text's walks alone
set_option linter.unusedVariables false
set_option linter.unusedSimpArgs false
mutual
def ints_writeRuns.l0 : Nat → List Int → List Int → Option (List Int)
 | 0, _, _ => none
 | k + 1, x0, x1 => if (x1.length : Int) > 0 then (ints_writeRuns.l1 k x0 x1 1) else (some x0)
def ints_writeRuns.l1 : Nat → List Int → List Int → Int → Option (List Int)
 | 0, _, _, _ => none
 | k + 1, x0, x1, x5 => if x5 < (x1.length : Int) then (if 0 ≤ x5 then (if 0 < (x1.length : Int) then (if (rd x1 x5) = (rd x1 0) then (ints_writeRuns.l1 k x0 x1 (wrap64 (x5 + 1))) else ((tally_Uint.f k x0 (IntKind.u64.wrap (x5))).bind fun t165 => ((tally_Int.f k t165 (rd x1 0)).bind fun t169 => (if x5 ≤ (x1.length : Int) then (ints_writeRuns.l0 k t169 (x1.drop (x5 : Int).toNat)) else (none))))) else (none)) else (none)) else ((tally_Uint.f k x0 (IntKind.u64.wrap (x5))).bind fun t177 => (if 0 < (x1.length : Int) then ((tally_Int.f k t177 (rd x1 0)).bind fun t181 => (if 0 ≤ x5 then (if x5 ≤ (x1.length : Int) then (ints_writeRuns.l0 k t181 (x1.drop (x5 : Int).toNat)) else (none)) else (none))) else (none)))
end
def ints_writeRuns.f (k : Nat) (l0 : List Int) (l1 : List Int) : Option (List Int) := ints_writeRuns.l0 k l0 l1
theorem ints_writeRuns.mono_l : ∀ k, (∀ y0 y1, LeO (ints_writeRuns.l0 k y0 y1) (ints_writeRuns.l0 (k + 1) y0 y1)) ∧ (∀ y0 y1 y2, LeO (ints_writeRuns.l1 k y0 y1 y2) (ints_writeRuns.l1 (k + 1) y0 y1 y2))
 | 0 => ⟨fun _ _ r h => by simp [ints_writeRuns.l0] at h, fun _ _ _ r h => by simp [ints_writeRuns.l1] at h⟩
 | k + 1 => by
  obtain ⟨ih0, ih1⟩ := ints_writeRuns.mono_l k
  refine ⟨?_, ?_⟩
  ·intro y0 y1
   unfold ints_writeRuns.l0
   repeat' first
   | (with_reducible exact ih0 _ _)
   | (with_reducible exact ih1 _ _ _)
   | (with_reducible exact tally_Int.mono _ _ _)
   | (with_reducible exact tally_Uint.mono _ _ _)
   | (with_reducible exact LeO.refl _)
   | (with_reducible exact LeO.none _)
   | (with_reducible refine LeO.ite ?_ ?_)
   | (with_reducible refine LeO.bind ?_ (fun _ => ?_))
   | exact ih0 _ _
   | exact ih1 _ _ _
   | exact tally_Int.mono _ _ _
   | exact tally_Uint.mono _ _ _
   | exact LeO.none _
   | refine LeO.ite ?_ ?_
   | refine LeO.bind ?_ (fun _ => ?_)
  ·intro y0 y1 y2
   unfold ints_writeRuns.l1
   repeat' first
   | (with_reducible exact ih0 _ _)
   | (with_reducible exact ih1 _ _ _)
   | (with_reducible exact tally_Int.mono _ _ _)
   | (with_reducible exact tally_Uint.mono _ _ _)
   | (with_reducible exact LeO.refl _)
   | (with_reducible exact LeO.none _)
   | (with_reducible refine LeO.ite ?_ ?_)
   | (with_reducible refine LeO.bind ?_ (fun _ => ?_))
   | exact ih0 _ _
   | exact ih1 _ _ _
   | exact tally_Int.mono _ _ _
   | exact tally_Uint.mono _ _ _
   | exact LeO.none _
   | refine LeO.ite ?_ ?_
   | refine LeO.bind ?_ (fun _ => ?_)
theorem ints_writeRuns.mono : ∀ a0 a1 k, LeO (ints_writeRuns.f k a0 a1) (ints_writeRuns.f (k + 1) a0 a1) := by
 intro a0 a1 k
 obtain ⟨ih0, ih1⟩ := ints_writeRuns.mono_l k
 unfold ints_writeRuns.f
 repeat' first
   | (with_reducible exact ih0 _ _)
   | (with_reducible exact ih1 _ _ _)
   | (with_reducible exact tally_Int.mono _ _ _)
   | (with_reducible exact tally_Uint.mono _ _ _)
   | (with_reducible exact LeO.refl _)
   | (with_reducible exact LeO.none _)
   | (with_reducible refine LeO.ite ?_ ?_)
   | (with_reducible refine LeO.bind ?_ (fun _ => ?_))
   | exact ih0 _ _
   | exact ih1 _ _ _
   | exact tally_Int.mono _ _ _
   | exact tally_Uint.mono _ _ _
   | exact LeO.none _
   | refine LeO.ite ?_ ?_
   | refine LeO.bind ?_ (fun _ => ?_)
def ints_writeRuns.T3 : Bool × List (List Nat × List Nat) := (true, [([], []), ([], []), ([1], [1]), ([0, 2], [0, 2]), ([3], [3]), ([4], [4]), ([4], [4]), ([5, 6, 4], [4, 5, 6]), ([7, 4], [4, 7]), ([4], [4]), ([9, 4], [4, 9]), ([10, 4], [4, 10]), ([8, 11, 4], [4, 8, 11]), ([4, 12], [4, 12])])
def ints_writeRuns.B3 : List Nat := [0, 0, 2, 7, 15, 31, 31, 127, 255, 31, 543, 1567, 4095, 8191]
theorem ints_writeRuns.tab3 : rtab .any (opsOf Try.f38 3) = ints_writeRuns.T3 := by kernel_rfl
theorem ints_writeRuns.bits3 : waitsOk ints_writeRuns.T3.2 ints_writeRuns.B3 = true := by kernel_rfl
def ints_writeRuns.T5 : Bool × List (List Nat × List Nat) := (true, [([], []), ([], []), ([1], [1]), ([0, 2], [0, 2]), ([], []), ([4], [4]), ([5], [5]), ([3, 6, 3], [3, 6]), ([7, 7, 0, 1, 2, 3, 4, 5, 6, 7], [0, 7])])
def ints_writeRuns.B5 : List Nat := [0, 0, 2, 7, 0, 16, 48, 127, 255]
theorem ints_writeRuns.tab5 : rtab .any (opsOf Try.f38 5) = ints_writeRuns.T5 := by kernel_rfl
theorem ints_writeRuns.bits5 : waitsOk ints_writeRuns.T5.2 ints_writeRuns.B5 = true := by kernel_rfl
set_option maxHeartbeats 8000000 in
set_option maxRecDepth 100000 in
theorem ints_writeRuns.calls (k : Nat) (P0_ : Nat → Prop) (u9000_ : Value) (l0 : List Int) (P1_ : Nat → Prop) (A1 : Option Addr) (c1 : Nat) (l1 : List Int) (r : List Int) (w0 w : World) (hB : Below w0.heap.size w0 w) (ho0 : Kd.R (Kd.int .u8) 5 w w0.heap.size P0_ u9000_ l0) (hs1 : Kd.V (Kd.int .i64) 2 w w0.heap.size (fun k_ => P1_ k_ ∧ some k_ ≠ (u9000_ : Value).ownBlock) (.slice A1 l1.length c1) l1) (h : ints_writeRuns.f k l0 l1 = some r) :
  Calls Try.prog 38 #[u9000_, .slice A1 l1.length c1] w fun e w' => ∃ v0_ : Value, e = .returned (v0_) ∧ Kd.R (Kd.int .u8) 5 w' w0.heap.size (fun k_ => (P0_ k_ ∨ w.heap.size ≤ k_)) v0_ r ∧ Below w0.heap.size w0 w' ∧ Kept w w' (fun k_ => P0_ k_) := by
 have HO0 := Aside0.mk (show Kd.R (Kd.int .u8) 5 w w0.heap.size (fun k_ => (P0_ k_ ∨ w.heap.size ≤ k_)) u9000_ l0 from Kd.R_mono ho0 (fun k_ hk => (.inl hk)))
 have HO1 := Aside0.mk (show Kd.V (Kd.int .i64) 2 w w0.heap.size (fun k_ => ((P0_ k_ ∨ P1_ k_) ∨ w.heap.size ≤ k_) ∧ some k_ ≠ (u9000_ : Value).ownBlock) (.slice A1 l1.length c1) l1 from Kd.V_mono hs1 (fun k_ hk => ⟨.inl (.inr hk.1), hk.2⟩))
 have HK := Aside0.mk (Kept.refl w (fun k_ => P0_ k_))
 have HW0 := Aside0.mk hB.size
 have HB := Aside0.mk hB
 clear hB
 have H : (ints_writeRuns.l0 k l0 l1) = some r := h
 clear h
 have H' := Aside0.mk H
 clear H
 go_enter Try.func38, Try.ntmps38
 go_wp2
 go_loopg [0, 1] k (fun kq v0 v1 w' => ∃ (x0_1 : List Int) (x1_1 : List Int), Aside0 (ints_writeRuns.l0 kq x0_1 x1_1 = some r) ∧ Aside0 (kq ≤ k) ∧ Aside0 (Kd.R (Kd.int .u8) 5 w' w0.heap.size (fun k_ => (P0_ k_ ∨ w.heap.size ≤ k_)) v0 x0_1) ∧ Aside0 (Kd.V (Kd.int .i64) 2 w' w0.heap.size (fun k_ => ((P0_ k_ ∨ P1_ k_) ∨ w.heap.size ≤ k_) ∧ some k_ ≠ (v0 : Value).ownBlock) v1 x1_1) ∧ Aside0 (Kept w w' (fun k_ => P0_ k_)) ∧ Aside0 (Below w0.heap.size w0 w'))
 case atStart => exact ⟨(l0), (l1), H', ⟨Nat.le_refl _⟩, ⟨by (with_reducible repeat (first | apply Kd.R_alloc | apply Kd.R_drewN | apply Kd.R_drew)); exact HO0.out⟩, ⟨by (with_reducible repeat (first | apply Kd.V_alloc | apply Kd.V_drewN | apply Kd.V_drew)); exact HO1.out⟩, ⟨z4_⟩, ⟨z0_⟩⟩
 case round =>
  clear H'
  try clear c1
  try clear p2
  obtain ⟨x0_1, x1_1, HA, HK1, HO_0, HO_1, HK, HB⟩ := hrel
  cases gk with
  | zero => exact absurd HA.out (by simp [ints_writeRuns.l0])
  | succ k1 =>
   have H := HA.out
   clear HA
   simp only [ints_writeRuns.l0] at H
   by_cases c3 : (x1_1.length : Int) > 0
   ·rw [if_pos c3] at H
    have c3b0 : decide (0 < (x1_1.length : Int)) = true := decide_eq_true c3
    have c3b1 : decide (0 < x1_1.length) = true := decide_eq_true (by omega)
    clear c3
    have H' := Aside0.mk H
    clear H
    obtain ⟨Ao4, co4, eo4⟩ := Kd.V_slice HO_1.out
    subst eo4
    go_wp2
    go_loopg [5] k1 (fun kq v5 w' => ∃ (x5_2 : Int), v5 = .int .i64 x5_2 ∧ Aside0 (ints_writeRuns.l1 kq x0_1 x1_1 x5_2 = some r) ∧ Aside0 (kq ≤ k1) ∧ Aside0 (Kd.R (Kd.int .u8) 5 w' w0.heap.size (fun k_ => (P0_ k_ ∨ w.heap.size ≤ k_)) u0 x0_1) ∧ Aside0 (Kd.V (Kd.int .i64) 2 w' w0.heap.size (fun k_ => ((P0_ k_ ∨ P1_ k_) ∨ w.heap.size ≤ k_) ∧ some k_ ≠ (u0 : Value).ownBlock) (.slice Ao4 x1_1.length co4) x1_1) ∧ Aside0 (Kept w w' (fun k_ => P0_ k_)) ∧ Aside0 (Below w0.heap.size w0 w'))
    case atStart => exact ⟨(1), z6_, H', ⟨Nat.le_refl _⟩, ⟨by (with_reducible repeat (first | apply Kd.R_alloc | apply Kd.R_drewN | apply Kd.R_drew)); exact HO_0.out⟩, ⟨by (with_reducible repeat (first | apply Kd.V_alloc | apply Kd.V_drewN | apply Kd.V_drew)); exact HO_1.out⟩, ⟨z4_⟩, ⟨z0_⟩⟩
    case round =>
     clear H'
     try clear c1
     try clear p2
     try clear c3
     try clear c3b0
     try clear c3b1
     try clear p2
     obtain ⟨x5_2, rfl, HA, HK2, HO_0, HO_1, HK, HB⟩ := hrel
     cases gk with
     | zero => exact absurd HA.out (by simp [ints_writeRuns.l1])
     | succ k2 =>
      have H := HA.out
      clear HA
      simp only [ints_writeRuns.l1] at H
      by_cases c5 : x5_2 < (x1_1.length : Int)
      ·rw [if_pos c5] at H
       have c5b0 : decide (x5_2 < (x1_1.length : Int)) = true := decide_eq_true c5
       clear c5
       by_cases c6 : 0 ≤ x5_2
       ·rw [if_pos c6] at H
        have c6b0 : decide (0 ≤ x5_2) = true := decide_eq_true c6
        clear c6
        by_cases c7 : 0 < (x1_1.length : Int)
        ·rw [if_pos c7] at H
         have c7b0 : decide (0 < (x1_1.length : Int)) = true := decide_eq_true c7
         have c7b1 : decide (0 < x1_1.length) = true := decide_eq_true (by omega)
         clear c7
         by_cases c8 : (rd x1_1 x5_2) = (rd x1_1 0)
         ·rw [if_pos c8] at H
          have c8b0 : ((rd x1_1 x5_2) == (rd x1_1 0)) = true := beq_iff_eq.mpr c8
          have c8b1 : ((rd x1_1 x5_2) != (rd x1_1 0)) = false := bne_eq_false_iff_eq.mpr c8
          clear c8
          have H' := Aside0.mk H
          clear H
          try go_wp2
          have n0_ := Aside0.mk (Kd.R_drew HO_0.out)
          have n1_ := Aside0.mk (Kd.V_drew HO_1.out)
          have n2_ := Aside0.mk (Kept.drew HK.out)
          have n3_ := Aside0.mk (below_drew1 HB.out)
          clear HO_0
          clear HO_1
          clear HK
          clear HB
          have HO_0 := n0_
          have HO_1 := n1_
          have HK := n2_
          have HB := n3_
          clear n0_ n1_ n2_ n3_
          have p163 : 0 ≤ (x5_2 : Int) := of_decide_eq_true z7_
          have q163 : x5_2 < (x1_1.length : Int) := of_decide_eq_true z7_
          obtain ⟨ad163, e163, hx163_0⟩ := Kd.at_int (Kd.V_reads' HO_1.out).2.2 x5_2 p163 q163
          cases e163
          replace p163 := eq_true p163
          replace q163 := eq_true q163
          have p164 : 0 ≤ (0 : Int) := (by omega)
          have q164 : 0 < (x1_1.length : Int) := of_decide_eq_true z7_
          obtain ⟨ad164, e164, hx164_0⟩ := Kd.at_int (Kd.V_reads' HO_1.out).2.2 0 p164 q164
          obtain rfl : ad163 = ad164 := (by injection e164)
          have qi164 : (0 < x1_1.length) = True := eq_true (by omega)
          (try rw [show ((0 : Int)).toNat = 0 from rfl] at hx164_0)
          (try rw [Addr.add_zero'] at hx164_0)
          replace p164 := eq_true p164
          replace q164 := eq_true q164
          refine start_ (n := 14) (S := fun w' => w'.cell? (ad163.add (x5_2).toNat) = some (.int .i64 (rd x1_1 x5_2)) ∧ w'.cell? ad163 = some (.int .i64 (rd x1_1 0))) (ds := []) (bs_ 14 0) (by kernel_rfl) rfl rfl ⟨hx163_0, hx164_0⟩ (fun hHeld => ?_); refine with_tabW ints_writeRuns.tab3 ints_writeRuns.bits3 (fun HT_ HW_ => ?_)
          generalize wr.drew = w9 at HO_0 HO_1 HK HB hx163_0 hx164_0 hHeld ⊢
          refine pA_ 0 (some 9) (bs_ 14 1) HT_ ?_ ?_ ?_ ?_ ?_
          rotate_left; (intro w'; go_simp; with_reducible rfl); rotate_left; (simp only [PT_]; rfl)
          refine pA_ 1 (some 10) (bs_ 14 3) HT_ ?_ ?_ ?_ ?_ ?_
          rotate_left; (intro w'; go_simp; with_reducible rfl); rotate_left; (simp only [PT_]; rfl)
          refine pA_ 2 (some 11) (bs_ 14 7) HT_ ?_ ?_ ?_ ?_ ?_
          rotate_left; (intro w'; go_simp; with_reducible rfl); rotate_left; (simp only [PT_]; rfl)
          refine pA_ 3 (some 12) (bs_ 14 15) HT_ ?_ ?_ ?_ ?_ ?_
          rotate_left; (intro w'; go_simp; with_reducible rfl); rotate_left; (simp only [PT_]; rfl)
          refine pA_ 4 (some 13) (bs_ 14 31) HT_ ?_ ?_ ?_ ?_ ?_
          rotate_left; (intro w'; go_simp; with_reducible rfl); rotate_left; (simp only [PT_]; rfl)
          refine pA_ 5 (some 14) (bs_ 14 63) HT_ ?_ ?_ ?_ ?_ ?_
          rotate_left; (intro w'; go_simp; with_reducible rfl); rotate_left; (simp only [PT_]; rfl)
          refine pA_ 6 (some 15) (bs_ 14 127) HT_ ?_ ?_ ?_ ?_ ?_
          rotate_left; (intro w'; go_simp; with_reducible rfl); rotate_left; (simp only [PT_]; rfl)
          refine pA_ 7 (some 16) (bs_ 14 255) HT_ ?_ ?_ ?_ ?_ ?_
          rotate_left; (intro w'; go_simp; with_reducible rfl); rotate_left; (simp only [PT_]; rfl)
          refine pA_ 9 (some 18) (bs_ 14 767) HT_ ?_ ?_ ?_ ?_ ?_
          rotate_left; (intro w'; go_simp; with_reducible rfl); rotate_left; (simp only [PT_]; rfl)
          refine pA_ 10 (some 19) (bs_ 14 1791) HT_ ?_ ?_ ?_ ?_ ?_
          rotate_left; (intro w'; go_simp; with_reducible rfl); rotate_left; (simp only [PT_]; rfl)
          refine take_ (i := 8) (N := some 17) (v := ?_) (a' := ?_) (bs_ 14 2047) rfl rfl (take_ofW HT_.out HW_.out (by kernel_rfl)) (fun _ _ _ h => h) (Or.inl ⟨by rfl, ?_⟩) hHeld ?_ ?_
          rotate_left
          ·rintro w' ⟨s0, s1⟩
           go_simp
           with_reducible rfl
          rotate_left
          ·simp only [PT_]
           rfl
          refine take_ (i := 11) (N := some 20) (v := ?_) (a' := ?_) (bs_ 14 4095) rfl rfl (take_ofW HT_.out HW_.out (by kernel_rfl)) (fun _ _ _ h => h) (Or.inl ⟨by rfl, ?_⟩) hHeld ?_ ?_
          rotate_left
          ·rintro w' ⟨s0, s1⟩
           go_simp
           with_reducible rfl
          rotate_left
          ·simp only [PT_]
           rfl
          refine pA_ 12 (some 21) (bs_ 14 8191) HT_ ?_ ?_ ?_ ?_ ?_
          rotate_left; (intro w'; go_simp; with_reducible rfl); rotate_left; (simp only [PT_]; rfl)
          refine pA_ 13 (some 22) (bs_ 14 16383) HT_ ?_ ?_ ?_ ?_ ?_
          rotate_left; (intro w'; go_simp; with_reducible rfl); rotate_left; (simp only [PT_]; rfl)
          refine done_ (done_of HT_.out (by kernel_rfl)) ?_
          try go_wp2
          go_roundg k2
          case measure => have := HK1.out; have := HK2.out; omega
          case rel => exact ⟨(wrap64 (x5_2 + 1)), z6_, H', ⟨by have := HK1.out; have := HK2.out; omega⟩, ⟨by (with_reducible repeat (first | apply Kd.R_alloc | apply Kd.R_drewN | apply Kd.R_drew)); exact HO_0.out⟩, ⟨by (with_reducible repeat (first | apply Kd.V_alloc | apply Kd.V_drewN | apply Kd.V_drew)); exact HO_1.out⟩, ⟨z4_⟩, ⟨z0_⟩⟩
         ·rw [if_neg c8] at H
          have c8b0 : ((rd x1_1 x5_2) == (rd x1_1 0)) = false := beq_eq_false_iff_ne.mpr c8
          have c8b1 : ((rd x1_1 x5_2) != (rd x1_1 0)) = true := bne_iff_ne.mpr c8
          replace H := Option.bind_eq_some_iff.mp H
          obtain ⟨t165, A100, H⟩ := H
          replace H : ((tally_Int.f k2 t165 (rd x1_1 0)).bind fun t169 => (if x5_2 ≤ (x1_1.length : Int) then (ints_writeRuns.l0 k2 t169 (x1_1.drop (x5_2 : Int).toNat)) else (none))) = some r := H
          have A10 := Aside0.mk A100
          clear A100
          replace H := Option.bind_eq_some_iff.mp H
          obtain ⟨t169, A110, H⟩ := H
          replace H : (if x5_2 ≤ (x1_1.length : Int) then (ints_writeRuns.l0 k2 t169 (x1_1.drop (x5_2 : Int).toNat)) else (none)) = some r := H
          have A11 := Aside0.mk A110
          clear A110
          have c12b0 := eq_true (of_decide_eq_true z7_ : 0 ≤ x5_2)
          by_cases c13 : x5_2 ≤ (x1_1.length : Int)
          ·rw [if_pos c13] at H
           have c13b0 := eq_true c13
           have c13b1 : decide (x5_2 ≤ (x1_1.length : Int)) = true := decide_eq_true c13
           clear c13
           obtain ⟨y172, hy172⟩ : ∃ y_ : List Int, y_ = (x1_1.drop (x5_2 : Int).toNat) := ⟨_, rfl⟩
           replace H : (ints_writeRuns.l0 k2 t169 y172) = some r := by first | (rw [hy172]; with_reducible exact H) | (have H2_ := (Option.bind_some _ _).symm.trans H; rw [hy172]; with_reducible exact H2_) | (have H2_ := (Option.bind_some _ _).symm.trans H; with_reducible exact H2_) | with_reducible exact H | (rw [hy172]; exact H) | exact H
           have Ny172 := Aside0.mk hy172
           clear hy172
           have H' := Aside0.mk H
           clear H
           try go_wp2
           have n0_ := Aside0.mk (Kd.R_drew HO_0.out)
           have n1_ := Aside0.mk (Kd.V_drew HO_1.out)
           have n2_ := Aside0.mk (Kept.drew HK.out)
           have n3_ := Aside0.mk (below_drew1 HB.out)
           clear HO_0
           clear HO_1
           clear HK
           clear HB
           have HO_0 := n0_
           have HO_1 := n1_
           have HK := n2_
           have HB := n3_
           clear n0_ n1_ n2_ n3_
           have p163 : 0 ≤ (x5_2 : Int) := of_decide_eq_true z7_
           have q163 : x5_2 < (x1_1.length : Int) := of_decide_eq_true z7_
           obtain ⟨ad163, e163, hx163_0⟩ := Kd.at_int (Kd.V_reads' HO_1.out).2.2 x5_2 p163 q163
           cases e163
           replace p163 := eq_true p163
           replace q163 := eq_true q163
           have p164 : 0 ≤ (0 : Int) := (by omega)
           have q164 : 0 < (x1_1.length : Int) := of_decide_eq_true z7_
           obtain ⟨ad164, e164, hx164_0⟩ := Kd.at_int (Kd.V_reads' HO_1.out).2.2 0 p164 q164
           obtain rfl : ad163 = ad164 := (by injection e164)
           have qi164 : (0 < x1_1.length) = True := eq_true (by omega)
           (try rw [show ((0 : Int)).toNat = 0 from rfl] at hx164_0)
           (try rw [Addr.add_zero'] at hx164_0)
           replace p164 := eq_true p164
           replace q164 := eq_true q164
           refine start_ (n := 14) (S := fun w' => w'.cell? (ad163.add (x5_2).toNat) = some (.int .i64 (rd x1_1 x5_2)) ∧ w'.cell? ad163 = some (.int .i64 (rd x1_1 0))) (ds := []) (bs_ 14 0) (by kernel_rfl) rfl rfl ⟨hx163_0, hx164_0⟩ (fun hHeld => ?_); refine with_tabW ints_writeRuns.tab3 ints_writeRuns.bits3 (fun HT_ HW_ => ?_)
           generalize wr.drew = w14 at HO_0 HO_1 HK HB hx163_0 hx164_0 hHeld ⊢
           refine pA_ 0 (some 9) (bs_ 14 1) HT_ ?_ ?_ ?_ ?_ ?_
           rotate_left; (intro w'; go_simp; with_reducible rfl); rotate_left; (simp only [PT_]; rfl)
           refine pA_ 1 (some 10) (bs_ 14 3) HT_ ?_ ?_ ?_ ?_ ?_
           rotate_left; (intro w'; go_simp; with_reducible rfl); rotate_left; (simp only [PT_]; rfl)
           refine pA_ 2 (some 11) (bs_ 14 7) HT_ ?_ ?_ ?_ ?_ ?_
           rotate_left; (intro w'; go_simp; with_reducible rfl); rotate_left; (simp only [PT_]; rfl)
           refine pA_ 3 (some 12) (bs_ 14 15) HT_ ?_ ?_ ?_ ?_ ?_
           rotate_left; (intro w'; go_simp; with_reducible rfl); rotate_left; (simp only [PT_]; rfl)
           refine pA_ 4 (some 13) (bs_ 14 31) HT_ ?_ ?_ ?_ ?_ ?_
           rotate_left; (intro w'; go_simp; with_reducible rfl); rotate_left; (simp only [PT_]; rfl)
           refine pA_ 5 (some 14) (bs_ 14 63) HT_ ?_ ?_ ?_ ?_ ?_
           rotate_left; (intro w'; go_simp; with_reducible rfl); rotate_left; (simp only [PT_]; rfl)
           refine pA_ 6 (some 15) (bs_ 14 127) HT_ ?_ ?_ ?_ ?_ ?_
           rotate_left; (intro w'; go_simp; with_reducible rfl); rotate_left; (simp only [PT_]; rfl)
           refine pA_ 7 (some 16) (bs_ 14 255) HT_ ?_ ?_ ?_ ?_ ?_
           rotate_left; (intro w'; go_simp; with_reducible rfl); rotate_left; (simp only [PT_]; rfl)
           refine pA_ 9 (some 18) (bs_ 14 767) HT_ ?_ ?_ ?_ ?_ ?_
           rotate_left; (intro w'; go_simp; with_reducible rfl); rotate_left; (simp only [PT_]; rfl)
           refine pA_ 10 (some 19) (bs_ 14 1791) HT_ ?_ ?_ ?_ ?_ ?_
           rotate_left; (intro w'; go_simp; with_reducible rfl); rotate_left; (simp only [PT_]; rfl)
           refine take_ (i := 8) (N := some 17) (v := ?_) (a' := ?_) (bs_ 14 2047) rfl rfl (take_ofW HT_.out HW_.out (by kernel_rfl)) (fun _ _ _ h => h) (Or.inl ⟨by rfl, ?_⟩) hHeld ?_ ?_
           rotate_left
           ·rintro w' ⟨s0, s1⟩
            go_simp
            with_reducible rfl
           rotate_left
           ·simp only [PT_]
            rfl
           refine take_ (i := 11) (N := some 20) (v := ?_) (a' := ?_) (bs_ 14 4095) rfl rfl (take_ofW HT_.out HW_.out (by kernel_rfl)) (fun _ _ _ h => h) (Or.inl ⟨by rfl, ?_⟩) hHeld ?_ ?_
           rotate_left
           ·rintro w' ⟨s0, s1⟩
            go_simp
            with_reducible rfl
           rotate_left
           ·simp only [PT_]
            rfl
           refine pA_ 12 (some 21) (bs_ 14 8191) HT_ ?_ ?_ ?_ ?_ ?_
           rotate_left; (intro w'; go_simp; with_reducible rfl); rotate_left; (simp only [PT_]; rfl)
           refine pA_ 13 (some 22) (bs_ 14 16383) HT_ ?_ ?_ ?_ ?_ ?_
           rotate_left; (intro w'; go_simp; with_reducible rfl); rotate_left; (simp only [PT_]; rfl)
           refine done_ (done_of HT_.out (by kernel_rfl)) ?_
           try go_wp2
           have n0_ := Aside0.mk (Kd.R_drew HO_0.out)
           have n1_ := Aside0.mk (Kd.V_drew HO_1.out)
           have n2_ := Aside0.mk (Kept.drew HK.out)
           have n3_ := Aside0.mk (below_drew1 HB.out)
           clear HO_0
           clear HO_1
           clear HK
           clear HB
           have HO_0 := n0_
           have HO_1 := n1_
           have HK := n2_
           have HB := n3_
           clear n0_ n1_ n2_ n3_
           have p168 : 0 ≤ (0 : Int) := (by omega)
           have q168 : 0 < (x1_1.length : Int) := of_decide_eq_true z7_
           obtain ⟨ad168, e168, hx168_0⟩ := Kd.at_int (Kd.V_reads' HO_1.out).2.2 0 p168 q168
           obtain rfl : ad163 = ad168 := (by injection e168)
           have qi168 : (0 < x1_1.length) = True := eq_true (by omega)
           (try rw [show ((0 : Int)).toNat = 0 from rfl] at hx168_0)
           (try rw [Addr.add_zero'] at hx168_0)
           replace p168 := eq_true p168
           replace q168 := eq_true q168
           obtain ⟨Ao16, co16, eo16⟩ := Kd.R_slice HO_0.out
           (first | subst eo16 | (injection eo16 with f1_ f2_ f3_; have f4_ := f1_.symm; have f5_ := f3_.symm; clear f1_ f2_ f3_; subst f4_; subst f5_))
           refine start_ (n := 9) (S := fun w' => w'.cell? ad163 = some (.int .i64 (rd x1_1 0))) (ds := []) (bs_ 9 0) (by kernel_rfl) rfl rfl (hx168_0) (fun hHeld => ?_); refine with_tabW ints_writeRuns.tab5 ints_writeRuns.bits5 (fun HT_ HW_ => ?_)
           generalize w14.drew = w15 at HO_0 HO_1 HK HB hx168_0 hHeld ⊢
           refine pA_ 0 (some 25) (bs_ 9 1) HT_ ?_ ?_ ?_ ?_ ?_
           rotate_left; (intro w'; go_simp; with_reducible rfl); rotate_left; (simp only [PT_]; rfl)
           refine pA_ 1 (some 26) (bs_ 9 3) HT_ ?_ ?_ ?_ ?_ ?_
           rotate_left; (intro w'; go_simp; with_reducible rfl); rotate_left; (simp only [PT_]; rfl)
           refine pA_ 2 (some 27) (bs_ 9 7) HT_ ?_ ?_ ?_ ?_ ?_
           rotate_left; (intro w'; go_simp; with_reducible rfl); rotate_left; (simp only [PT_]; rfl)
           refine pA_ 4 (some 29) (bs_ 9 23) HT_ ?_ ?_ ?_ ?_ ?_
           rotate_left; (intro w'; go_simp; with_reducible rfl); rotate_left; (simp only [PT_]; rfl)
           refine pA_ 5 (some 30) (bs_ 9 55) HT_ ?_ ?_ ?_ ?_ ?_
           rotate_left; (intro w'; go_simp; with_reducible rfl); rotate_left; (simp only [PT_]; rfl)
           refine take_ (i := 6) (N := some 31) (v := ?_) (a' := ?_) (bs_ 9 119) rfl rfl (take_ofW HT_.out HW_.out (by kernel_rfl)) (fun _ _ _ h => h) (Or.inl ⟨by rfl, ?_⟩) hHeld ?_ ?_
           rotate_left
           ·intro w' s0
            go_simp
            with_reducible rfl
           rotate_left
           ·simp only [PT_]
            rfl
           refine oA_ 3 (some 28) (bs_ 9 127) HT_ (fun K hK => ?_)
           refine goes_ Try.func18 (by kernel_rfl) rfl #[.slice Ao16 x0_1.length co16, .int .u64 (IntKind.u64.wrap (x5_2))] (by rfl) rfl rfl (by (try simp only [List.map_toArray, List.map_cons, List.map_nil]); first | done | rfl | (simp only [List.length_drop, List.length_take]; rfl)) ?_
           with_reducible refine (tally_Uint.calls k2 (fun k_ => some k_ = (.slice Ao16 x0_1.length co16 : Value).ownBlock) (.slice Ao16 x0_1.length co16) x0_1 (IntKind.u64.wrap (x5_2)) t165 w0 _ ?side1 ?side2 A10.out).mono ?_
           (case side1 => repeat (first | (with_reducible first | exact HB.out | apply below_alloc | apply pw_below_drewN | apply below_drew1) | exact HB.out))
           (case side2 => exact Kd.R_tight rfl HO_0.out)
           rintro e w17 ⟨v166, rfl, ho0, hb, hkp⟩
           have HS0_ := cell_kept (hHeld) hkp (by first | (rw [add_block]; exact (fun hs_ => ((Kd.F_in (Kd.V_F (HO_1.out)) rfl (by first | exact of_eq_true (by assumption) | exact of_decide_eq_true (by assumption) | omega) (by decide)).2) hs_)) | (show ¬ _; simp only [add_block]; exact (fun hs_ => ((Kd.F_in (Kd.V_F (HO_1.out)) rfl (by first | exact of_eq_true (by assumption) | exact of_decide_eq_true (by assumption) | omega) (by decide)).2) hs_)) | exact (fun hs_ => ((Kd.F_in (Kd.V_F (HO_1.out)) rfl (by first | exact of_eq_true (by assumption) | exact of_decide_eq_true (by assumption) | omega) (by decide)).2) hs_))
           refine ⟨_, rfl, ?_⟩
           have n0_ := Aside0.mk (Kd.V_mono (ok' := fun k_ => ((P0_ k_ ∨ P1_ k_) ∨ w.heap.size ≤ k_) ∧ some k_ ≠ (v166 : Value).ownBlock) (Kd.V_keptB (HO_1.out) hkp (fun k_ hk_ hs_ => (hk_.2) hs_)) (fun k_ hk_ => ⟨hk_.1.1, fun e_ => Or.elim (ho0.1 k_ e_.symm) (fun hs_ => hk_.2.1 hs_) (fun hn_ => Nat.not_le.2 hk_.2.2 hn_)⟩))
           have n1_ := Aside0.mk (Kd.R_mono (ok' := fun k_ => (P0_ k_ ∨ w.heap.size ≤ k_)) ho0 (fun k_ hk_ => Or.elim hk_ (fun hs_ => (HO_0.out.1 k_ (hs_).symm)) (fun hn_ => (.inr (Nat.le_trans (by first | exact HK.out.1 | exact (show Kept w _ (fun k_ => P0_ k_) from z4_).1) hn_)))))
           have n2_ := Aside0.mk (Kept.then_ (S := (fun k_ => P0_ k_)) z4_ hkp (fun k_ hs_ => (fun e_ => (HO_0.out.1 k_ e_.symm)) hs_))
           have n3_ := Aside0.mk (hb)
           clear HO_1
           clear HK
           clear HB
           clear HO_0
           have HO_1 := n0_
           have HO167 := n1_
           have HK := n2_
           have HB := n3_
           clear n0_ n1_ n2_ n3_
           (try clear hb)
           (try clear hkp)
           (try clear ho0)
           obtain ⟨Ao18, co18, eo18⟩ := Kd.R_slice HO167.out
           (first | subst eo18 | (injection eo18 with f1_ f2_ f3_; have f4_ := f1_.symm; have f5_ := f3_.symm; clear f1_ f2_ f3_; subst f4_; subst f5_))
           refine hK.out _ _ (HS0_) (fun hHeld => ?_)
           clear hK K
           refine norm_ (a' := ?_) ?_ ?_; rotate_left; (show Act.put _ (some 28) _ = _; simp only [PT_]; rfl)
           refine oA_ 7 (some 32) (bs_ 9 255) HT_ (fun K hK => ?_)
           refine goes_ Try.func55 (by kernel_rfl) rfl #[.slice Ao18 t165.length co18, .int .i64 (rd x1_1 0)] (by rfl) rfl rfl (by (try simp only [List.map_toArray, List.map_cons, List.map_nil]); first | done | rfl | (simp only [List.length_drop, List.length_take]; rfl)) ?_
           with_reducible refine (tally_Int.calls k2 (fun k_ => some k_ = (.slice Ao18 t165.length co18 : Value).ownBlock) (.slice Ao18 t165.length co18) t165 (rd x1_1 0) t169 w0 _ ?side1 ?side2 A11.out).mono ?_
           (case side1 => repeat (first | (with_reducible first | exact HB.out | apply below_alloc | apply pw_below_drewN | apply below_drew1) | exact HB.out))
           (case side2 => exact Kd.R_tight rfl HO167.out)
           rintro e w19 ⟨v170, rfl, ho0, hb, hkp⟩
           have HS0_ := cell_kept (hHeld) hkp (by first | (rw [add_block]; exact (fun hs_ => ((Kd.F_in (Kd.V_F (HO_1.out)) rfl (by first | exact of_eq_true (by assumption) | exact of_decide_eq_true (by assumption) | omega) (by decide)).2) hs_)) | (show ¬ _; simp only [add_block]; exact (fun hs_ => ((Kd.F_in (Kd.V_F (HO_1.out)) rfl (by first | exact of_eq_true (by assumption) | exact of_decide_eq_true (by assumption) | omega) (by decide)).2) hs_)) | exact (fun hs_ => ((Kd.F_in (Kd.V_F (HO_1.out)) rfl (by first | exact of_eq_true (by assumption) | exact of_decide_eq_true (by assumption) | omega) (by decide)).2) hs_))
           refine ⟨_, rfl, ?_⟩
           have n0_ := Aside0.mk (Kd.V_mono (ok' := fun k_ => ((P0_ k_ ∨ P1_ k_) ∨ w.heap.size ≤ k_) ∧ some k_ ≠ (v170 : Value).ownBlock) (Kd.V_keptB (HO_1.out) hkp (fun k_ hk_ hs_ => (hk_.2) hs_)) (fun k_ hk_ => ⟨hk_.1.1, fun e_ => Or.elim (ho0.1 k_ e_.symm) (fun hs_ => hk_.2.1 hs_) (fun hn_ => Nat.not_le.2 hk_.2.2 hn_)⟩))
           have n1_ := Aside0.mk (Kd.R_mono (ok' := fun k_ => (P0_ k_ ∨ w.heap.size ≤ k_)) ho0 (fun k_ hk_ => Or.elim hk_ (fun hs_ => (HO167.out.1 k_ (hs_).symm)) (fun hn_ => (.inr (Nat.le_trans (by first | exact HK.out.1 | exact (show Kept w _ (fun k_ => P0_ k_) from z4_).1) hn_)))))
           have n2_ := Aside0.mk (Kept.then_ (S := (fun k_ => P0_ k_)) z4_ hkp (fun k_ hs_ => (fun e_ => (HO167.out.1 k_ e_.symm)) hs_))
           have n3_ := Aside0.mk (hb)
           clear HO_1
           clear HK
           clear HB
           clear HO167
           have HO_1 := n0_
           have HO171 := n1_
           have HK := n2_
           have HB := n3_
           clear n0_ n1_ n2_ n3_
           (try clear hb)
           (try clear hkp)
           (try clear ho0)
           refine hK.out _ _ (HS0_) (fun hHeld => ?_)
           clear hK K
           refine norm_ (a' := ?_) ?_ ?_; rotate_left; (show Act.put _ (some 32) _ = _; simp only [PT_]; rfl)
           refine pA_ 8 (some 0) (bs_ 9 511) HT_ ?_ ?_ ?_ ?_ ?_
           rotate_left; (intro w'; go_simp; with_reducible rfl); rotate_left; (simp only [PT_]; rfl)
           refine done_ (done_of HT_.out (by kernel_rfl)) ?_
           have q20 : (x5_2 : Int) ≤ ((x1_1.length : Int) : Int) := of_decide_eq_true z7_
           obtain ⟨i020, hi020, _, hsz20, _⟩ := info_parts info2
           have hroom20 : x1_1.length ≤ co4 := (Kd.V_reads' HO_1.out).2.1
           have hC20 : Kd.F (Kd.int .i64) _ _ (some ad163) x1_1.length x1_1 := (Kd.V_at (base := w0.heap.size) HO_1.out).2.2
           have q020 : (0 : Int) ≤ (x5_2 : Int) := of_decide_eq_true z7_
           have hcut20 := cut_from (P := Try.prog) 22 2 .i64 Try.underlying22 hi020 1 hsz20 (some ad163) x1_1.length co4 x5_2 q020 q20
           have hr20 := Kd.F_cut (m := (x5_2 : Int).toNat) (c := co4) hC20 (by omega) hroom20
           obtain ⟨A20, hA20⟩ : ∃ A1, A1 = (if co4 = (x5_2 : Int).toNat then (some ad163) else ((some ad163) : Option Addr).map (·.add ((x5_2 : Int).toNat * 1))) := ⟨_, rfl⟩
           obtain ⟨c20, hc20⟩ : ∃ c1, c1 = co4 - (x5_2 : Int).toNat := ⟨_, rfl⟩
           have hy20 : y172.length = x1_1.length - (x5_2 : Int).toNat := (by rw [Ny172.out, List.length_drop] <;> omega)
           rw [show (x1_1).drop (x5_2 : Int).toNat = y172 from Ny172.out.symm] at hr20
           replace hr20 : Kd.F (Kd.int .i64) _ _ A20 y172.length y172 := (by rw [hA20]; exact hr20)
           rw [← hy20, ← hA20, ← hc20] at hcut20
           have HO176 := Aside0.mk (show Kd.V (Kd.int .i64) 2 _ w0.heap.size _ (.slice A20 y172.length c20) y172 from Kd.V_mk (by rw [hy20, hc20]; exact Nat.sub_le_sub_right hroom20 _) hr20)
           have HC176 := Aside0.mk (show y172.length ≤ c20 from by rw [hy20, hc20]; exact Nat.sub_le_sub_right hroom20 _)
           clear hr20 hC20 hroom20 hi020 hsz20 hc20
           have KY20 := Aside0.mk hy20
           have KA20 := Aside0.mk hA20
           clear hy20 hA20
           replace q20 := eq_true q20
           try go_wp2
           go_roundg k2
           case measure => have := HK1.out; have := HK2.out; omega
           case rel => exact ⟨(t169), (y172), H', ⟨by have := HK1.out; have := HK2.out; omega⟩, ⟨by (with_reducible repeat (first | apply Kd.R_alloc | apply Kd.R_drewN | apply Kd.R_drew)); exact HO171.out⟩, ⟨by (with_reducible repeat (first | apply Kd.V_alloc | apply Kd.V_drewN | apply Kd.V_drew)); exact HO176.out⟩, ⟨z4_⟩, ⟨z0_⟩⟩
          ·rw [if_neg c13] at H
           exact absurd H (by simp)
        ·rw [if_neg c7] at H
         exact absurd H (by simp)
       ·rw [if_neg c6] at H
        exact absurd H (by simp)
      ·rw [if_neg c5] at H
       have c5b0 : decide (x5_2 < (x1_1.length : Int)) = false := decide_eq_false c5
       clear c5
       replace H := Option.bind_eq_some_iff.mp H
       obtain ⟨t177, A210, H⟩ := H
       replace H : (if 0 < (x1_1.length : Int) then ((tally_Int.f k2 t177 (rd x1_1 0)).bind fun t181 => (if 0 ≤ x5_2 then (if x5_2 ≤ (x1_1.length : Int) then (ints_writeRuns.l0 k2 t181 (x1_1.drop (x5_2 : Int).toNat)) else (none)) else (none))) else (none)) = some r := H
       have A21 := Aside0.mk A210
       clear A210
       by_cases c22 : 0 < (x1_1.length : Int)
       ·rw [if_pos c22] at H
        have c22b0 : decide (0 < (x1_1.length : Int)) = true := decide_eq_true c22
        have c22b1 : decide (0 < x1_1.length) = true := decide_eq_true (by omega)
        clear c22
        replace H := Option.bind_eq_some_iff.mp H
        obtain ⟨t181, A230, H⟩ := H
        replace H : (if 0 ≤ x5_2 then (if x5_2 ≤ (x1_1.length : Int) then (ints_writeRuns.l0 k2 t181 (x1_1.drop (x5_2 : Int).toNat)) else (none)) else (none)) = some r := H
        have A23 := Aside0.mk A230
        clear A230
        by_cases c24 : 0 ≤ x5_2
        ·rw [if_pos c24] at H
         have c24b0 := eq_true c24
         have c24b1 : decide (0 ≤ x5_2) = true := decide_eq_true c24
         clear c24
         by_cases c25 : x5_2 ≤ (x1_1.length : Int)
         ·rw [if_pos c25] at H
          have c25b0 := eq_true c25
          have c25b1 : decide (x5_2 ≤ (x1_1.length : Int)) = true := decide_eq_true c25
          clear c25
          obtain ⟨y184, hy184⟩ : ∃ y_ : List Int, y_ = (x1_1.drop (x5_2 : Int).toNat) := ⟨_, rfl⟩
          replace H : (ints_writeRuns.l0 k2 t181 y184) = some r := by first | (rw [hy184]; with_reducible exact H) | (have H2_ := (Option.bind_some _ _).symm.trans H; rw [hy184]; with_reducible exact H2_) | (have H2_ := (Option.bind_some _ _).symm.trans H; with_reducible exact H2_) | with_reducible exact H | (rw [hy184]; exact H) | exact H
          have Ny184 := Aside0.mk hy184
          clear hy184
          have H' := Aside0.mk H
          clear H
          try go_wp2
          have n0_ := Aside0.mk (Kd.R_drew HO_0.out)
          have n1_ := Aside0.mk (Kd.V_drew HO_1.out)
          have n2_ := Aside0.mk (Kept.drew HK.out)
          have n3_ := Aside0.mk (below_drew1 HB.out)
          clear HO_0
          clear HO_1
          clear HK
          clear HB
          have HO_0 := n0_
          have HO_1 := n1_
          have HK := n2_
          have HB := n3_
          clear n0_ n1_ n2_ n3_
          refine start_ (n := 14) (S := fun w' => True) (ds := []) (bs_ 14 0) (by kernel_rfl) rfl rfl trivial (fun hHeld => ?_); refine with_tabW ints_writeRuns.tab3 ints_writeRuns.bits3 (fun HT_ HW_ => ?_)
          generalize wr.drew = w26 at HO_0 HO_1 HK HB hHeld ⊢
          refine pA_ 0 (some 9) (bs_ 14 1) HT_ ?_ ?_ ?_ ?_ ?_
          rotate_left; (intro w'; go_simp; with_reducible rfl); rotate_left; (simp only [PT_]; rfl)
          refine pA_ 1 (some 10) (bs_ 14 3) HT_ ?_ ?_ ?_ ?_ ?_
          rotate_left; (intro w'; go_simp; with_reducible rfl); rotate_left; (simp only [PT_]; rfl)
          refine pA_ 2 (some 11) (bs_ 14 7) HT_ ?_ ?_ ?_ ?_ ?_
          rotate_left; (intro w'; go_simp; with_reducible rfl); rotate_left; (simp only [PT_]; rfl)
          refine pA_ 3 (some 12) (bs_ 14 15) HT_ ?_ ?_ ?_ ?_ ?_
          rotate_left; (intro w'; go_simp; with_reducible rfl); rotate_left; (simp only [PT_]; rfl)
          refine pA_ 4 (some 13) (bs_ 14 31) HT_ ?_ ?_ ?_ ?_ ?_
          rotate_left; (intro w'; go_simp; with_reducible rfl); rotate_left; (simp only [PT_]; rfl)
          refine pB_ 5 (some 14) (bs_ 14 63) HT_ ?_ ?_ ?_
          rotate_left
          ·simp only [PT_]
           rfl
          refine pB_ 6 (some 15) (bs_ 14 127) HT_ ?_ ?_ ?_
          rotate_left
          ·simp only [PT_]
           rfl
          refine pB_ 7 (some 16) (bs_ 14 255) HT_ ?_ ?_ ?_
          rotate_left
          ·simp only [PT_]
           rfl
          refine pB_ 8 (some 17) (bs_ 14 511) HT_ ?_ ?_ ?_
          rotate_left
          ·simp only [PT_]
           rfl
          refine pB_ 9 (some 18) (bs_ 14 1023) HT_ ?_ ?_ ?_
          rotate_left
          ·simp only [PT_]
           rfl
          refine pB_ 10 (some 19) (bs_ 14 2047) HT_ ?_ ?_ ?_
          rotate_left
          ·simp only [PT_]
           rfl
          refine pB_ 11 (some 20) (bs_ 14 4095) HT_ ?_ ?_ ?_
          rotate_left
          ·simp only [PT_]
           rfl
          refine pB_ 12 (some 21) (bs_ 14 8191) HT_ ?_ ?_ ?_
          rotate_left
          ·simp only [PT_]
           rfl
          refine pA_ 13 (some 22) (bs_ 14 16383) HT_ ?_ ?_ ?_ ?_ ?_
          rotate_left; (intro w'; go_simp; with_reducible rfl); rotate_left; (simp only [PT_]; rfl)
          refine done_ (done_of HT_.out (by kernel_rfl)) ?_
          try go_wp2
          have n0_ := Aside0.mk (Kd.R_drew HO_0.out)
          have n1_ := Aside0.mk (Kd.V_drew HO_1.out)
          have n2_ := Aside0.mk (Kept.drew HK.out)
          have n3_ := Aside0.mk (below_drew1 HB.out)
          clear HO_0
          clear HO_1
          clear HK
          clear HB
          have HO_0 := n0_
          have HO_1 := n1_
          have HK := n2_
          have HB := n3_
          clear n0_ n1_ n2_ n3_
          have p180 : 0 ≤ (0 : Int) := (by omega)
          have q180 : 0 < (x1_1.length : Int) := of_decide_eq_true z7_
          obtain ⟨ad180, e180, hx180_0⟩ := Kd.at_int (Kd.V_reads' HO_1.out).2.2 0 p180 q180
          cases e180
          have qi180 : (0 < x1_1.length) = True := eq_true (by omega)
          (try rw [show ((0 : Int)).toNat = 0 from rfl] at hx180_0)
          (try rw [Addr.add_zero'] at hx180_0)
          replace p180 := eq_true p180
          replace q180 := eq_true q180
          obtain ⟨Ao28, co28, eo28⟩ := Kd.R_slice HO_0.out
          (first | subst eo28 | (injection eo28 with f1_ f2_ f3_; have f4_ := f1_.symm; have f5_ := f3_.symm; clear f1_ f2_ f3_; subst f4_; subst f5_))
          refine start_ (n := 9) (S := fun w' => w'.cell? ad180 = some (.int .i64 (rd x1_1 0))) (ds := []) (bs_ 9 0) (by kernel_rfl) rfl rfl (hx180_0) (fun hHeld => ?_); refine with_tabW ints_writeRuns.tab5 ints_writeRuns.bits5 (fun HT_ HW_ => ?_)
          generalize w26.drew = w27 at HO_0 HO_1 HK HB hx180_0 hHeld ⊢
          refine pA_ 0 (some 25) (bs_ 9 1) HT_ ?_ ?_ ?_ ?_ ?_
          rotate_left; (intro w'; go_simp; with_reducible rfl); rotate_left; (simp only [PT_]; rfl)
          refine pA_ 1 (some 26) (bs_ 9 3) HT_ ?_ ?_ ?_ ?_ ?_
          rotate_left; (intro w'; go_simp; with_reducible rfl); rotate_left; (simp only [PT_]; rfl)
          refine pA_ 2 (some 27) (bs_ 9 7) HT_ ?_ ?_ ?_ ?_ ?_
          rotate_left; (intro w'; go_simp; with_reducible rfl); rotate_left; (simp only [PT_]; rfl)
          refine pA_ 4 (some 29) (bs_ 9 23) HT_ ?_ ?_ ?_ ?_ ?_
          rotate_left; (intro w'; go_simp; with_reducible rfl); rotate_left; (simp only [PT_]; rfl)
          refine pA_ 5 (some 30) (bs_ 9 55) HT_ ?_ ?_ ?_ ?_ ?_
          rotate_left; (intro w'; go_simp; with_reducible rfl); rotate_left; (simp only [PT_]; rfl)
          refine take_ (i := 6) (N := some 31) (v := ?_) (a' := ?_) (bs_ 9 119) rfl rfl (take_ofW HT_.out HW_.out (by kernel_rfl)) (fun _ _ _ h => h) (Or.inl ⟨by rfl, ?_⟩) hHeld ?_ ?_
          rotate_left
          ·intro w' s0
           go_simp
           with_reducible rfl
          rotate_left
          ·simp only [PT_]
           rfl
          refine oA_ 3 (some 28) (bs_ 9 127) HT_ (fun K hK => ?_)
          refine goes_ Try.func18 (by kernel_rfl) rfl #[.slice Ao28 x0_1.length co28, .int .u64 (IntKind.u64.wrap (x5_2))] (by rfl) rfl rfl (by (try simp only [List.map_toArray, List.map_cons, List.map_nil]); first | done | rfl | (simp only [List.length_drop, List.length_take]; rfl)) ?_
          with_reducible refine (tally_Uint.calls k2 (fun k_ => some k_ = (.slice Ao28 x0_1.length co28 : Value).ownBlock) (.slice Ao28 x0_1.length co28) x0_1 (IntKind.u64.wrap (x5_2)) t177 w0 _ ?side1 ?side2 A21.out).mono ?_
          (case side1 => repeat (first | (with_reducible first | exact HB.out | apply below_alloc | apply pw_below_drewN | apply below_drew1) | exact HB.out))
          (case side2 => exact Kd.R_tight rfl HO_0.out)
          rintro e w29 ⟨v178, rfl, ho0, hb, hkp⟩
          have HS0_ := cell_kept (hHeld) hkp (by first | (rw [add_block]; exact (fun hs_ => ((Kd.F_in (Kd.V_F (HO_1.out)) rfl (by first | exact of_eq_true (by assumption) | exact of_decide_eq_true (by assumption) | omega) (by decide)).2) hs_)) | (show ¬ _; simp only [add_block]; exact (fun hs_ => ((Kd.F_in (Kd.V_F (HO_1.out)) rfl (by first | exact of_eq_true (by assumption) | exact of_decide_eq_true (by assumption) | omega) (by decide)).2) hs_)) | exact (fun hs_ => ((Kd.F_in (Kd.V_F (HO_1.out)) rfl (by first | exact of_eq_true (by assumption) | exact of_decide_eq_true (by assumption) | omega) (by decide)).2) hs_))
          refine ⟨_, rfl, ?_⟩
          have n0_ := Aside0.mk (Kd.V_mono (ok' := fun k_ => ((P0_ k_ ∨ P1_ k_) ∨ w.heap.size ≤ k_) ∧ some k_ ≠ (v178 : Value).ownBlock) (Kd.V_keptB (HO_1.out) hkp (fun k_ hk_ hs_ => (hk_.2) hs_)) (fun k_ hk_ => ⟨hk_.1.1, fun e_ => Or.elim (ho0.1 k_ e_.symm) (fun hs_ => hk_.2.1 hs_) (fun hn_ => Nat.not_le.2 hk_.2.2 hn_)⟩))
          have n1_ := Aside0.mk (Kd.R_mono (ok' := fun k_ => (P0_ k_ ∨ w.heap.size ≤ k_)) ho0 (fun k_ hk_ => Or.elim hk_ (fun hs_ => (HO_0.out.1 k_ (hs_).symm)) (fun hn_ => (.inr (Nat.le_trans (by first | exact HK.out.1 | exact (show Kept w _ (fun k_ => P0_ k_) from z4_).1) hn_)))))
          have n2_ := Aside0.mk (Kept.then_ (S := (fun k_ => P0_ k_)) z4_ hkp (fun k_ hs_ => (fun e_ => (HO_0.out.1 k_ e_.symm)) hs_))
          have n3_ := Aside0.mk (hb)
          clear HO_1
          clear HK
          clear HB
          clear HO_0
          have HO_1 := n0_
          have HO179 := n1_
          have HK := n2_
          have HB := n3_
          clear n0_ n1_ n2_ n3_
          (try clear hb)
          (try clear hkp)
          (try clear ho0)
          obtain ⟨Ao30, co30, eo30⟩ := Kd.R_slice HO179.out
          (first | subst eo30 | (injection eo30 with f1_ f2_ f3_; have f4_ := f1_.symm; have f5_ := f3_.symm; clear f1_ f2_ f3_; subst f4_; subst f5_))
          refine hK.out _ _ (HS0_) (fun hHeld => ?_)
          clear hK K
          refine norm_ (a' := ?_) ?_ ?_; rotate_left; (show Act.put _ (some 28) _ = _; simp only [PT_]; rfl)
          refine oA_ 7 (some 32) (bs_ 9 255) HT_ (fun K hK => ?_)
          refine goes_ Try.func55 (by kernel_rfl) rfl #[.slice Ao30 t177.length co30, .int .i64 (rd x1_1 0)] (by rfl) rfl rfl (by (try simp only [List.map_toArray, List.map_cons, List.map_nil]); first | done | rfl | (simp only [List.length_drop, List.length_take]; rfl)) ?_
          with_reducible refine (tally_Int.calls k2 (fun k_ => some k_ = (.slice Ao30 t177.length co30 : Value).ownBlock) (.slice Ao30 t177.length co30) t177 (rd x1_1 0) t181 w0 _ ?side1 ?side2 A23.out).mono ?_
          (case side1 => repeat (first | (with_reducible first | exact HB.out | apply below_alloc | apply pw_below_drewN | apply below_drew1) | exact HB.out))
          (case side2 => exact Kd.R_tight rfl HO179.out)
          rintro e w31 ⟨v182, rfl, ho0, hb, hkp⟩
          have HS0_ := cell_kept (hHeld) hkp (by first | (rw [add_block]; exact (fun hs_ => ((Kd.F_in (Kd.V_F (HO_1.out)) rfl (by first | exact of_eq_true (by assumption) | exact of_decide_eq_true (by assumption) | omega) (by decide)).2) hs_)) | (show ¬ _; simp only [add_block]; exact (fun hs_ => ((Kd.F_in (Kd.V_F (HO_1.out)) rfl (by first | exact of_eq_true (by assumption) | exact of_decide_eq_true (by assumption) | omega) (by decide)).2) hs_)) | exact (fun hs_ => ((Kd.F_in (Kd.V_F (HO_1.out)) rfl (by first | exact of_eq_true (by assumption) | exact of_decide_eq_true (by assumption) | omega) (by decide)).2) hs_))
          refine ⟨_, rfl, ?_⟩
          have n0_ := Aside0.mk (Kd.V_mono (ok' := fun k_ => ((P0_ k_ ∨ P1_ k_) ∨ w.heap.size ≤ k_) ∧ some k_ ≠ (v182 : Value).ownBlock) (Kd.V_keptB (HO_1.out) hkp (fun k_ hk_ hs_ => (hk_.2) hs_)) (fun k_ hk_ => ⟨hk_.1.1, fun e_ => Or.elim (ho0.1 k_ e_.symm) (fun hs_ => hk_.2.1 hs_) (fun hn_ => Nat.not_le.2 hk_.2.2 hn_)⟩))
          have n1_ := Aside0.mk (Kd.R_mono (ok' := fun k_ => (P0_ k_ ∨ w.heap.size ≤ k_)) ho0 (fun k_ hk_ => Or.elim hk_ (fun hs_ => (HO179.out.1 k_ (hs_).symm)) (fun hn_ => (.inr (Nat.le_trans (by first | exact HK.out.1 | exact (show Kept w _ (fun k_ => P0_ k_) from z4_).1) hn_)))))
          have n2_ := Aside0.mk (Kept.then_ (S := (fun k_ => P0_ k_)) z4_ hkp (fun k_ hs_ => (fun e_ => (HO179.out.1 k_ e_.symm)) hs_))
          have n3_ := Aside0.mk (hb)
          clear HO_1
          clear HK
          clear HB
          clear HO179
          have HO_1 := n0_
          have HO183 := n1_
          have HK := n2_
          have HB := n3_
          clear n0_ n1_ n2_ n3_
          (try clear hb)
          (try clear hkp)
          (try clear ho0)
          refine hK.out _ _ (HS0_) (fun hHeld => ?_)
          clear hK K
          refine norm_ (a' := ?_) ?_ ?_; rotate_left; (show Act.put _ (some 32) _ = _; simp only [PT_]; rfl)
          refine pA_ 8 (some 0) (bs_ 9 511) HT_ ?_ ?_ ?_ ?_ ?_
          rotate_left; (intro w'; go_simp; with_reducible rfl); rotate_left; (simp only [PT_]; rfl)
          refine done_ (done_of HT_.out (by kernel_rfl)) ?_
          have q32 : (x5_2 : Int) ≤ ((x1_1.length : Int) : Int) := of_decide_eq_true z7_
          obtain ⟨i032, hi032, _, hsz32, _⟩ := info_parts info2
          have hroom32 : x1_1.length ≤ co4 := (Kd.V_reads' HO_1.out).2.1
          have hC32 : Kd.F (Kd.int .i64) _ _ (some ad180) x1_1.length x1_1 := (Kd.V_at (base := w0.heap.size) HO_1.out).2.2
          have q032 : (0 : Int) ≤ (x5_2 : Int) := of_decide_eq_true z7_
          have hcut32 := cut_from (P := Try.prog) 22 2 .i64 Try.underlying22 hi032 1 hsz32 (some ad180) x1_1.length co4 x5_2 q032 q32
          have hr32 := Kd.F_cut (m := (x5_2 : Int).toNat) (c := co4) hC32 (by omega) hroom32
          obtain ⟨A32, hA32⟩ : ∃ A1, A1 = (if co4 = (x5_2 : Int).toNat then (some ad180) else ((some ad180) : Option Addr).map (·.add ((x5_2 : Int).toNat * 1))) := ⟨_, rfl⟩
          obtain ⟨c32, hc32⟩ : ∃ c1, c1 = co4 - (x5_2 : Int).toNat := ⟨_, rfl⟩
          have hy32 : y184.length = x1_1.length - (x5_2 : Int).toNat := (by rw [Ny184.out, List.length_drop] <;> omega)
          rw [show (x1_1).drop (x5_2 : Int).toNat = y184 from Ny184.out.symm] at hr32
          replace hr32 : Kd.F (Kd.int .i64) _ _ A32 y184.length y184 := (by rw [hA32]; exact hr32)
          rw [← hy32, ← hA32, ← hc32] at hcut32
          have HO188 := Aside0.mk (show Kd.V (Kd.int .i64) 2 _ w0.heap.size _ (.slice A32 y184.length c32) y184 from Kd.V_mk (by rw [hy32, hc32]; exact Nat.sub_le_sub_right hroom32 _) hr32)
          have HC188 := Aside0.mk (show y184.length ≤ c32 from by rw [hy32, hc32]; exact Nat.sub_le_sub_right hroom32 _)
          clear hr32 hC32 hroom32 hi032 hsz32 hc32
          have KY32 := Aside0.mk hy32
          have KA32 := Aside0.mk hA32
          clear hy32 hA32
          replace q32 := eq_true q32
          try go_wp2
          go_roundg k2
          case measure => have := HK1.out; have := HK2.out; omega
          case rel => exact ⟨(t181), (y184), H', ⟨by have := HK1.out; have := HK2.out; omega⟩, ⟨by (with_reducible repeat (first | apply Kd.R_alloc | apply Kd.R_drewN | apply Kd.R_drew)); exact HO183.out⟩, ⟨by (with_reducible repeat (first | apply Kd.V_alloc | apply Kd.V_drewN | apply Kd.V_drew)); exact HO188.out⟩, ⟨z4_⟩, ⟨z0_⟩⟩
         ·rw [if_neg c25] at H
          exact absurd H (by simp)
        ·rw [if_neg c24] at H
         exact absurd H (by simp)
       ·rw [if_neg c22] at H
        exact absurd H (by simp)
   ·rw [if_neg c3] at H
    have c3b0 : decide (0 < (x1_1.length : Int)) = false := decide_eq_false c3
    have c3b1 : decide (0 < x1_1.length) = false := decide_eq_false (by omega)
    clear c3
    obtain rfl := Option.some.inj H
    obtain ⟨Ao33, co33, eo33⟩ := Kd.V_slice HO_1.out
    subst eo33
    go_wp2
    go_ret
    exact ⟨_, z5_, by (with_reducible repeat (first | apply Kd.R_alloc | apply Kd.R_drewN | apply Kd.R_drew)); exact HO_0.out, z0_, z4_⟩
end Go.Proofs.Ytgeddoklmcjdcaa.G
namespace Go.Proofs.Ytgeddoklmcjdcaa.G
open Go.RowKit Go.Proofs.YtgeddoklmcjdcaaQ Go.Proofs.YtgeddoklmcjdcaaW.PrintWords Go.Proofs.YtgeddoklmcjdcaaW.PrintLast Go.Proofs.YtgeddoklmcjdcaaW.PrintMore
attribute [local go_sem] max2_int min2_int max_two min_two max_three min_three max_four min_four   -- for this text's walks alone
set_option linter.unusedVariables false
set_option linter.unusedSimpArgs false
def slices_Min_int64_int64.l0 : Nat → List Int → Int → Int → Option (Int)
 | 0, _, _, _ => none
 | k + 1, x0, x3, x4 => if x4 < (x0.length : Int) then (if 0 ≤ x4 then (slices_Min_int64_int64.l0 k x0 (mn x3 (rd x0 x4)) (wrap64 (x4 + 1))) else (none)) else (some x3)
def slices_Min_int64_int64.f (k : Nat) (l0 : List Int) : Option (Int) := if (l0.length : Int) < 1 then (none) else (if 0 < (l0.length : Int) then (slices_Min_int64_int64.l0 k l0 (rd l0 0) 1) else (none))
theorem slices_Min_int64_int64.mono_l : ∀ k, (∀ y0 y1 y2, LeO (slices_Min_int64_int64.l0 k y0 y1 y2) (slices_Min_int64_int64.l0 (k + 1) y0 y1 y2))
 | 0 => fun _ _ _ r h => by simp [slices_Min_int64_int64.l0] at h
 | k + 1 => by
  have ih0 := slices_Min_int64_int64.mono_l k
  ·intro y0 y1 y2
   unfold slices_Min_int64_int64.l0
   repeat' first
   | (with_reducible exact ih0 _ _ _)
   | (with_reducible exact LeO.refl _)
   | (with_reducible exact LeO.none _)
   | (with_reducible refine LeO.ite ?_ ?_)
   | (with_reducible refine LeO.bind ?_ (fun _ => ?_))
   | exact ih0 _ _ _
   | exact LeO.none _
   | refine LeO.ite ?_ ?_
   | refine LeO.bind ?_ (fun _ => ?_)
theorem slices_Min_int64_int64.mono : ∀ a0 k, LeO (slices_Min_int64_int64.f k a0) (slices_Min_int64_int64.f (k + 1) a0) := by
 intro a0 k
 have ih0 := slices_Min_int64_int64.mono_l k
 unfold slices_Min_int64_int64.f
 repeat' first
   | (with_reducible exact ih0 _ _ _)
   | (with_reducible exact LeO.refl _)
   | (with_reducible exact LeO.none _)
   | (with_reducible refine LeO.ite ?_ ?_)
   | (with_reducible refine LeO.bind ?_ (fun _ => ?_))
   | exact ih0 _ _ _
   | exact LeO.none _
   | refine LeO.ite ?_ ?_
   | refine LeO.bind ?_ (fun _ => ?_)
set_option maxHeartbeats 8000000 in
set_option maxRecDepth 100000 in
theorem slices_Min_int64_int64.calls (k : Nat) (A0 : Option Addr) (c0 : Nat) (l0 : List Int) (r : Int) (w : World) (hr0 : Kd.C (Kd.int .i64) w A0 l0.length l0) (hc0 : l0.length ≤ c0) (h : slices_Min_int64_int64.f k l0 = some r) :
  Calls Try.prog 58 #[.slice A0 l0.length c0] w fun e w' => e = .returned (.int .i64 r) ∧ Below w.heap.size w w' := by
 have HR0 := Aside0.mk hr0
 have HC0 := Aside0.mk hc0
 clear hr0 hc0
 have HB := Aside0.mk (Below.refl w.heap.size w)
 have H : (if (l0.length : Int) < 1 then (none) else (if 0 < (l0.length : Int) then (slices_Min_int64_int64.l0 k l0 (rd l0 0) 1) else (none))) = some r := h
 clear h
 by_cases c2 : (l0.length : Int) < 1
 ·rw [if_pos c2] at H
  exact absurd H (by simp)
 ·rw [if_neg c2] at H
  have c2b0 : decide ((l0.length : Int) < 1) = false := decide_eq_false c2
  have c2b1 : decide (l0.length < 1) = false := decide_eq_false (by omega)
  clear c2
  by_cases c3 : 0 < (l0.length : Int)
  ·rw [if_pos c3] at H
   have c3b0 : decide (0 < (l0.length : Int)) = true := decide_eq_true c3
   have c3b1 : decide (0 < l0.length) = true := decide_eq_true (by omega)
   clear c3
   have H' := Aside0.mk H
   clear H
   have p225 : 0 ≤ (0 : Int) := (by omega)
   have q225 : 0 < (l0.length : Int) := of_decide_eq_true z7_
   obtain ⟨ad225, e225, hx225_0⟩ := Kd.at_int HR0.out 0 p225 q225
   cases e225
   have qi225 : (0 < l0.length) = True := eq_true (by omega)
   (try rw [show ((0 : Int)).toNat = 0 from rfl] at hx225_0)
   (try rw [Addr.add_zero'] at hx225_0)
   replace p225 := eq_true p225
   replace q225 := eq_true q225
   go_enter Try.func58, Try.ntmps58
   go_wp2
   go_loopg [3, 4] k (fun kq v3 v4 w' => ∃ (x3_1 : Int) (x4_1 : Int), v3 = .int .i64 x3_1 ∧ v4 = .int .i64 x4_1 ∧ Aside0 (slices_Min_int64_int64.l0 kq l0 x3_1 x4_1 = some r) ∧ Aside0 (kq ≤ k) ∧ Aside0 (Below w.heap.size w w'))
   case atStart => exact ⟨(rd l0 0), (1), z6_, z6_, H', ⟨Nat.le_refl _⟩, ⟨z0_⟩⟩
   case round =>
    clear H'
    try clear c2
    try clear c2b0
    try clear c2b1
    try clear p2
    try clear q2
    try clear hx2
    try clear qi2
    try clear c3
    try clear c3b0
    try clear c3b1
    try clear hx225_0
    try clear p225
    try clear q225
    obtain ⟨x3_1, x4_1, rfl, rfl, HA, HK1, HB⟩ := hrel
    cases gk with
    | zero => exact absurd HA.out (by simp [slices_Min_int64_int64.l0])
    | succ k1 =>
     have H := HA.out
     clear HA
     simp only [slices_Min_int64_int64.l0] at H
     by_cases c4 : x4_1 < (l0.length : Int)
     ·rw [if_pos c4] at H
      have c4b0 : decide (x4_1 < (l0.length : Int)) = true := decide_eq_true c4
      clear c4
      by_cases c5 : 0 ≤ x4_1
      ·rw [if_pos c5] at H
       have c5b0 : decide (0 ≤ x4_1) = true := decide_eq_true c5
       clear c5
       obtain ⟨ji6, hji6⟩ : ∃ j_ : Int, (mn x3_1 (rd l0 x4_1)) = j_ := ⟨_, rfl⟩
       replace H : (slices_Min_int64_int64.l0 k1 l0 ji6 (wrap64 (x4_1 + 1))) = some r := by first | (rw [hji6] at H; exact H) | (simp only [hji6] at H ⊢; exact H)
       have hji6_ : (if (rd l0 x4_1) < x3_1 then (rd l0 x4_1) else x3_1) = ji6 := hji6
       have H' := Aside0.mk H
       clear H
       have p226 : 0 ≤ (x4_1 : Int) := of_decide_eq_true z7_
       have q226 : x4_1 < (l0.length : Int) := of_decide_eq_true z7_
       obtain ⟨ad226, e226, hx226_0⟩ := Kd.at_int HR0.out x4_1 p226 q226
       obtain rfl : ad225 = ad226 := (by injection e226)
       replace hx226_0 := (HB.out.cell (World.block_lt_of_cell? w _ hx226_0)).trans hx226_0
       replace p226 := eq_true p226
       replace q226 := eq_true q226
       go_wp2
       go_roundg k1
       case measure => have := HK1.out; omega
       case rel => exact ⟨(ji6), (wrap64 (x4_1 + 1)), (by first | rfl | (simp; done) | (simp only [← hji6] <;> (first | rfl | simp)) | (simp [*]; done)), z6_, H', ⟨by have := HK1.out; omega⟩, ⟨z0_⟩⟩
      ·rw [if_neg c5] at H
       exact absurd H (by simp)
     ·rw [if_neg c4] at H
      have c4b0 : decide (x4_1 < (l0.length : Int)) = false := decide_eq_false c4
      clear c4
      obtain rfl := Option.some.inj H
      go_wp2
      go_ret
      exact ⟨z5_, z0_⟩
  ·rw [if_neg c3] at H
   exact absurd H (by simp)
def ints_above.l0 : Nat → Int → List Int → List Int → Int → Int → Option (List Int)
 | 0, _, _, _, _, _ => none
 | k + 1, x1, x5, x8, x9, x10 => if x10 < x9 then (if 0 ≤ x10 then (if x10 < (x8.length : Int) then (if x5.length < 17592186044416 then (ints_above.l0 k x1 (x5 ++ [IntKind.u64.wrap (wrap64 ((rd x8 x10) - x1))]) x8 x9 (wrap64 (x10 + 1))) else (none)) else (none)) else (none)) else (some x5)
def ints_above.f (k : Nat) (l0 : List Int) (a1 : Int) : Option (List Int) := ints_above.l0 k a1 ([] : List Int) l0 (l0.length : Int) 0
theorem ints_above.mono_l : ∀ k, (∀ y0 y1 y2 y3 y4, LeO (ints_above.l0 k y0 y1 y2 y3 y4) (ints_above.l0 (k + 1) y0 y1 y2 y3 y4))
 | 0 => fun _ _ _ _ _ r h => by simp [ints_above.l0] at h
 | k + 1 => by
  have ih0 := ints_above.mono_l k
  ·intro y0 y1 y2 y3 y4
   unfold ints_above.l0
   repeat' first
   | (with_reducible exact ih0 _ _ _ _ _)
   | (with_reducible exact LeO.refl _)
   | (with_reducible exact LeO.none _)
   | (with_reducible refine LeO.ite ?_ ?_)
   | (with_reducible refine LeO.bind ?_ (fun _ => ?_))
   | exact ih0 _ _ _ _ _
   | exact LeO.none _
   | refine LeO.ite ?_ ?_
   | refine LeO.bind ?_ (fun _ => ?_)
theorem ints_above.mono : ∀ a0 a1 k, LeO (ints_above.f k a0 a1) (ints_above.f (k + 1) a0 a1) := by
 intro a0 a1 k
 have ih0 := ints_above.mono_l k
 unfold ints_above.f
 repeat' first
   | (with_reducible exact ih0 _ _ _ _ _)
   | (with_reducible exact LeO.refl _)
   | (with_reducible exact LeO.none _)
   | (with_reducible refine LeO.ite ?_ ?_)
   | (with_reducible refine LeO.bind ?_ (fun _ => ?_))
   | exact ih0 _ _ _ _ _
   | exact LeO.none _
   | refine LeO.ite ?_ ?_
   | refine LeO.bind ?_ (fun _ => ?_)
set_option maxHeartbeats 8000000 in
set_option maxRecDepth 100000 in
theorem ints_above.calls (k : Nat) (A0 : Option Addr) (c0 : Nat) (l0 : List Int) (a1 : Int) (r : List Int) (w : World) (hr0 : Kd.C (Kd.int .i64) w A0 l0.length l0) (hc0 : l0.length ≤ c0) (h : ints_above.f k l0 a1 = some r) :
  Calls Try.prog 59 #[.slice A0 l0.length c0, .int .i64 a1] w fun e w' => ∃ v0_ : Value, e = .returned (v0_) ∧ Kd.R (Kd.int .u64) 44 w' w.heap.size (fun _ => True) v0_ r ∧ Below w.heap.size w w' := by
 have HR0 := Aside0.mk hr0
 have HC0 := Aside0.mk hc0
 clear hr0 hc0
 have HB := Aside0.mk (Below.refl w.heap.size w)
 have H : (ints_above.l0 k a1 ([] : List Int) l0 (l0.length : Int) 0) = some r := h
 clear h
 have H' := Aside0.mk H
 clear H
 go_enter Try.func59, Try.ntmps59
 go_wp2
 go_loopg [5, 10] k (fun kq v5 v10 w' => ∃ (x5_1 : List Int) (x10_1 : Int), v10 = .int .i64 x10_1 ∧ Aside0 (ints_above.l0 kq a1 x5_1 l0 (l0.length : Int) x10_1 = some r) ∧ Aside0 (kq ≤ k) ∧ Aside0 (Kd.R (Kd.int .u64) 44 w' w.heap.size (fun _ => True) v5 x5_1) ∧ Aside0 (Below w.heap.size w w'))
 case atStart => exact ⟨(([] : List Int)), (0), z6_, H', ⟨Nat.le_refl _⟩, ⟨z8_⟩, ⟨z0_⟩⟩
 case round =>
  clear H'
  try clear p2
  obtain ⟨x5_1, x10_1, rfl, HA, HK1, HO_5, HB⟩ := hrel
  cases gk with
  | zero => exact absurd HA.out (by simp [ints_above.l0])
  | succ k1 =>
   have H := HA.out
   clear HA
   simp only [ints_above.l0] at H
   by_cases c3 : x10_1 < (l0.length : Int)
   ·rw [if_pos c3] at H
    have c3b0 : decide (x10_1 < (l0.length : Int)) = true := decide_eq_true c3
    clear c3
    by_cases c4 : 0 ≤ x10_1
    ·rw [if_pos c4] at H
     have c4b0 : decide (0 ≤ x10_1) = true := decide_eq_true c4
     clear c4
     by_cases c5 : x10_1 < (l0.length : Int)
     ·rw [if_pos c5] at H
      have c5b0 : decide (x10_1 < (l0.length : Int)) = true := decide_eq_true c5
      clear c5
      by_cases c6 : x5_1.length < 17592186044416
      ·rw [if_pos c6] at H
       have LMc6 := Aside0.mk c6
       clear c6
       obtain ⟨y228, hy228⟩ : ∃ y_ : List Int, y_ = (x5_1 ++ [IntKind.u64.wrap (wrap64 ((rd l0 x10_1) - a1))]) := ⟨_, rfl⟩
       replace H : (ints_above.l0 k1 a1 y228 l0 (l0.length : Int) (wrap64 (x10_1 + 1))) = some r := by first | (rw [hy228]; with_reducible exact H) | (have H2_ := (Option.bind_some _ _).symm.trans H; rw [hy228]; with_reducible exact H2_) | (have H2_ := (Option.bind_some _ _).symm.trans H; with_reducible exact H2_) | with_reducible exact H | (rw [hy228]; exact H) | exact H
       have Ny228 := Aside0.mk hy228
       clear hy228
       have H' := Aside0.mk H
       clear H
       have p227 : 0 ≤ (x10_1 : Int) := of_decide_eq_true z7_
       have q227 : x10_1 < (l0.length : Int) := of_decide_eq_true z7_
       obtain ⟨ad227, e227, hx227_0⟩ := Kd.at_int HR0.out x10_1 p227 q227
       cases e227
       replace hx227_0 := (HB.out.cell (World.block_lt_of_cell? w _ hx227_0)).trans hx227_0
       replace p227 := eq_true p227
       replace q227 := eq_true q227
       go_wp2_with (first | ((with_reducible refine gate_builtin (b := .append) (xs := #[.tmp 14, .tmp 19]) rfl ?_); at_builtin; refine Kd.R_append (Kd.int .u64) (w0 := w) w.heap.size rfl (.tmp 14) (.tmp 19) 59 44 (.int .u64 0) 8 rfl Try.underlying59 info44 rfl (by decide) (by omega) u5 x5_1 (IntKind.u64.wrap (wrap64 ((rd l0 x10_1) - a1))) [.int .u64 (IntKind.u64.wrap (wrap64 ((rd l0 x10_1) - a1)))] (fun _ => True) (fun _ => False) rfl rfl ?aP (fun _ hk => hk.elim) ?aF ?aO ?aB ?aS ?aL ?_; (case aP => exact rfl); (case aB => exact z0_); (case aF => exact (fun _ _ => trivial)); (case aO => exact (by (with_reducible repeat (first | apply Kd.R_alloc | apply Kd.R_drewN | apply Kd.R_drew)); exact HO_5.out)); (case aS => exact (below_size z0_)); (case aL => have := LMc6.out; omega); intro v229 w7 ho hb hg hat; rw [← Ny228.out] at ho; have n0_ := Aside0.mk (hb); have n1_ := Aside0.mk (ho); clear HB; clear HO_5; have HB := n0_; have HO230 := n1_; clear n0_ n1_; clear ho hb hg hat))
       go_roundg k1
       case measure => have := HK1.out; omega
       case rel => exact ⟨(y228), (wrap64 (x10_1 + 1)), z6_, H', ⟨by have := HK1.out; omega⟩, ⟨by (with_reducible repeat (first | apply Kd.R_alloc | apply Kd.R_drewN | apply Kd.R_drew)); exact HO230.out⟩, ⟨z0_⟩⟩
      ·rw [if_neg c6] at H
       exact absurd H (by simp)
     ·rw [if_neg c5] at H
      exact absurd H (by simp)
    ·rw [if_neg c4] at H
     exact absurd H (by simp)
   ·rw [if_neg c3] at H
    have c3b0 : decide (x10_1 < (l0.length : Int)) = false := decide_eq_false c3
    clear c3
    obtain rfl := Option.some.inj H
    go_wp2
    go_ret
    exact ⟨_, z5_, by (with_reducible repeat (first | apply Kd.R_alloc | apply Kd.R_drewN | apply Kd.R_drew)); exact HO_5.out, z0_⟩
end Go.Proofs.Ytgeddoklmcjdcaa.G
namespace Go.Proofs.Ytgeddoklmcjdcaa.G
open Go.RowKit Go.Proofs.YtgeddoklmcjdcaaQ Go.Proofs.YtgeddoklmcjdcaaW.PrintWords Go.Proofs.YtgeddoklmcjdcaaW.PrintLast Go.Proofs.YtgeddoklmcjdcaaW.PrintMore
attribute [local go_sem] max2_int min2_int max_two min_two max_three min_three max_four min_four   -- for this text's walks alone
set_option linter.unusedVariables false
set_option linter.unusedSimpArgs false
def bits_Len64.j0 : Nat → Int → Int → Option (Int)
 | 0, _, _ => none
 | k + 1, x0, x2 => if x0 ≥ 65536 then (if (x0 / 65536) ≥ 256 then (if 0 ≤ (((x0 / 65536) / 256) % 256) then (if (((x0 / 65536) / 256) % 256) < 256 then (some (wrap64 ((wrap64 ((wrap64 (x2 + 16)) + 8)) + (wrap64 (bt (⟨#[0, 1, 2, 2, 3, 3, 3, 3, 4, 4, 4, 4, 4, 4, 4, 4, 5, 5, 5, 5, 5, 5, 5, 5, 5, 5, 5, 5, 5, 5, 5, 5, 6, 6, 6, 6, 6, 6, 6, 6, 6, 6, 6, 6, 6, 6, 6, 6, 6, 6, 6, 6, 6, 6, 6, 6, 6, 6, 6, 6, 6, 6, 6, 6, 7, 7, 7, 7, 7, 7, 7, 7, 7, 7, 7, 7, 7, 7, 7, 7, 7, 7, 7, 7, 7, 7, 7, 7, 7, 7, 7, 7, 7, 7, 7, 7, 7, 7, 7, 7, 7, 7, 7, 7, 7, 7, 7, 7, 7, 7, 7, 7, 7, 7, 7, 7, 7, 7, 7, 7, 7, 7, 7, 7, 7, 7, 7, 7, 8, 8, 8, 8, 8, 8, 8, 8, 8, 8, 8, 8, 8, 8, 8, 8, 8, 8, 8, 8, 8, 8, 8, 8, 8, 8, 8, 8, 8, 8, 8, 8, 8, 8, 8, 8, 8, 8, 8, 8, 8, 8, 8, 8, 8, 8, 8, 8, 8, 8, 8, 8, 8, 8, 8, 8, 8, 8, 8, 8, 8, 8, 8, 8, 8, 8, 8, 8, 8, 8, 8, 8, 8, 8, 8, 8, 8, 8, 8, 8, 8, 8, 8, 8, 8, 8, 8, 8, 8, 8, 8, 8, 8, 8, 8, 8, 8, 8, 8, 8, 8, 8, 8, 8, 8, 8, 8, 8, 8, 8, 8, 8, 8, 8, 8, 8, 8, 8, 8, 8, 8, 8, 8, 8, 8, 8, 8, 8]⟩ : ByteArray) (((x0 / 65536) / 256) % 256)))))) else (none)) else (none)) else (if 0 ≤ ((x0 / 65536) % 256) then (if ((x0 / 65536) % 256) < 256 then (some (wrap64 ((wrap64 (x2 + 16)) + (wrap64 (bt (⟨#[0, 1, 2, 2, 3, 3, 3, 3, 4, 4, 4, 4, 4, 4, 4, 4, 5, 5, 5, 5, 5, 5, 5, 5, 5, 5, 5, 5, 5, 5, 5, 5, 6, 6, 6, 6, 6, 6, 6, 6, 6, 6, 6, 6, 6, 6, 6, 6, 6, 6, 6, 6, 6, 6, 6, 6, 6, 6, 6, 6, 6, 6, 6, 6, 7, 7, 7, 7, 7, 7, 7, 7, 7, 7, 7, 7, 7, 7, 7, 7, 7, 7, 7, 7, 7, 7, 7, 7, 7, 7, 7, 7, 7, 7, 7, 7, 7, 7, 7, 7, 7, 7, 7, 7, 7, 7, 7, 7, 7, 7, 7, 7, 7, 7, 7, 7, 7, 7, 7, 7, 7, 7, 7, 7, 7, 7, 7, 7, 8, 8, 8, 8, 8, 8, 8, 8, 8, 8, 8, 8, 8, 8, 8, 8, 8, 8, 8, 8, 8, 8, 8, 8, 8, 8, 8, 8, 8, 8, 8, 8, 8, 8, 8, 8, 8, 8, 8, 8, 8, 8, 8, 8, 8, 8, 8, 8, 8, 8, 8, 8, 8, 8, 8, 8, 8, 8, 8, 8, 8, 8, 8, 8, 8, 8, 8, 8, 8, 8, 8, 8, 8, 8, 8, 8, 8, 8, 8, 8, 8, 8, 8, 8, 8, 8, 8, 8, 8, 8, 8, 8, 8, 8, 8, 8, 8, 8, 8, 8, 8, 8, 8, 8, 8, 8, 8, 8, 8, 8, 8, 8, 8, 8, 8, 8, 8, 8, 8, 8, 8, 8, 8, 8, 8, 8, 8, 8]⟩ : ByteArray) ((x0 / 65536) % 256)))))) else (none)) else (none))) else (if x0 ≥ 256 then (if 0 ≤ ((x0 / 256) % 256) then (if ((x0 / 256) % 256) < 256 then (some (wrap64 ((wrap64 (x2 + 8)) + (wrap64 (bt (⟨#[0, 1, 2, 2, 3, 3, 3, 3, 4, 4, 4, 4, 4, 4, 4, 4, 5, 5, 5, 5, 5, 5, 5, 5, 5, 5, 5, 5, 5, 5, 5, 5, 6, 6, 6, 6, 6, 6, 6, 6, 6, 6, 6, 6, 6, 6, 6, 6, 6, 6, 6, 6, 6, 6, 6, 6, 6, 6, 6, 6, 6, 6, 6, 6, 7, 7, 7, 7, 7, 7, 7, 7, 7, 7, 7, 7, 7, 7, 7, 7, 7, 7, 7, 7, 7, 7, 7, 7, 7, 7, 7, 7, 7, 7, 7, 7, 7, 7, 7, 7, 7, 7, 7, 7, 7, 7, 7, 7, 7, 7, 7, 7, 7, 7, 7, 7, 7, 7, 7, 7, 7, 7, 7, 7, 7, 7, 7, 7, 8, 8, 8, 8, 8, 8, 8, 8, 8, 8, 8, 8, 8, 8, 8, 8, 8, 8, 8, 8, 8, 8, 8, 8, 8, 8, 8, 8, 8, 8, 8, 8, 8, 8, 8, 8, 8, 8, 8, 8, 8, 8, 8, 8, 8, 8, 8, 8, 8, 8, 8, 8, 8, 8, 8, 8, 8, 8, 8, 8, 8, 8, 8, 8, 8, 8, 8, 8, 8, 8, 8, 8, 8, 8, 8, 8, 8, 8, 8, 8, 8, 8, 8, 8, 8, 8, 8, 8, 8, 8, 8, 8, 8, 8, 8, 8, 8, 8, 8, 8, 8, 8, 8, 8, 8, 8, 8, 8, 8, 8, 8, 8, 8, 8, 8, 8, 8, 8, 8, 8, 8, 8, 8, 8, 8, 8, 8, 8]⟩ : ByteArray) ((x0 / 256) % 256)))))) else (none)) else (none)) else (if 0 ≤ ((x0) % 256) then (if ((x0) % 256) < 256 then (some (wrap64 (x2 + (wrap64 (bt (⟨#[0, 1, 2, 2, 3, 3, 3, 3, 4, 4, 4, 4, 4, 4, 4, 4, 5, 5, 5, 5, 5, 5, 5, 5, 5, 5, 5, 5, 5, 5, 5, 5, 6, 6, 6, 6, 6, 6, 6, 6, 6, 6, 6, 6, 6, 6, 6, 6, 6, 6, 6, 6, 6, 6, 6, 6, 6, 6, 6, 6, 6, 6, 6, 6, 7, 7, 7, 7, 7, 7, 7, 7, 7, 7, 7, 7, 7, 7, 7, 7, 7, 7, 7, 7, 7, 7, 7, 7, 7, 7, 7, 7, 7, 7, 7, 7, 7, 7, 7, 7, 7, 7, 7, 7, 7, 7, 7, 7, 7, 7, 7, 7, 7, 7, 7, 7, 7, 7, 7, 7, 7, 7, 7, 7, 7, 7, 7, 7, 8, 8, 8, 8, 8, 8, 8, 8, 8, 8, 8, 8, 8, 8, 8, 8, 8, 8, 8, 8, 8, 8, 8, 8, 8, 8, 8, 8, 8, 8, 8, 8, 8, 8, 8, 8, 8, 8, 8, 8, 8, 8, 8, 8, 8, 8, 8, 8, 8, 8, 8, 8, 8, 8, 8, 8, 8, 8, 8, 8, 8, 8, 8, 8, 8, 8, 8, 8, 8, 8, 8, 8, 8, 8, 8, 8, 8, 8, 8, 8, 8, 8, 8, 8, 8, 8, 8, 8, 8, 8, 8, 8, 8, 8, 8, 8, 8, 8, 8, 8, 8, 8, 8, 8, 8, 8, 8, 8, 8, 8, 8, 8, 8, 8, 8, 8, 8, 8, 8, 8, 8, 8, 8, 8, 8, 8, 8, 8]⟩ : ByteArray) ((x0) % 256)))))) else (none)) else (none)))
def bits_Len64.f (k : Nat) (a0 : Int) : Option (Int) := if a0 ≥ 4294967296 then (bits_Len64.j0 k (a0 / 4294967296) 32) else (bits_Len64.j0 k a0 0)
theorem bits_Len64.mono_l : ∀ k, (∀ y0 y1, LeO (bits_Len64.j0 k y0 y1) (bits_Len64.j0 (k + 1) y0 y1))
 | 0 => fun _ _ r h => by simp [bits_Len64.j0] at h
 | k + 1 => by
  have ih0 := bits_Len64.mono_l k
  ·intro y0 y1
   unfold bits_Len64.j0
   repeat' first
   | (with_reducible exact ih0 _ _)
   | (with_reducible exact LeO.refl _)
   | (with_reducible exact LeO.none _)
   | (with_reducible refine LeO.ite ?_ ?_)
   | (with_reducible refine LeO.bind ?_ (fun _ => ?_))
   | exact ih0 _ _
   | exact LeO.none _
   | refine LeO.ite ?_ ?_
   | refine LeO.bind ?_ (fun _ => ?_)
theorem bits_Len64.mono : ∀ a0 k, LeO (bits_Len64.f k a0) (bits_Len64.f (k + 1) a0) := by
 intro a0 k
 have ih0 := bits_Len64.mono_l k
 unfold bits_Len64.f
 repeat' first
   | (with_reducible exact ih0 _ _)
   | (with_reducible exact LeO.refl _)
   | (with_reducible exact LeO.none _)
   | (with_reducible refine LeO.ite ?_ ?_)
   | (with_reducible refine LeO.bind ?_ (fun _ => ?_))
   | exact ih0 _ _
   | exact LeO.none _
   | refine LeO.ite ?_ ?_
   | refine LeO.bind ?_ (fun _ => ?_)
set_option maxHeartbeats 8000000 in
set_option maxRecDepth 100000 in
theorem bits_Len64.calls (k : Nat) (a0 : Int) (r : Int) (w : World) (h : bits_Len64.f k a0 = some r) :
  Calls Try.prog 69 #[.int .u64 a0] w fun e w' => e = .returned (.int .i64 r) ∧ Drawn0 w w' := by
 have H : (if a0 ≥ 4294967296 then (bits_Len64.j0 k (a0 / 4294967296) 32) else (bits_Len64.j0 k a0 0)) = some r := h
 clear h
 have HC2 := Aside0.mk H
 clear H
 go_enter Try.func69, Try.ntmps69
 go_upto_if 4 with (fail)
 go_cut [0, 2] (fun v0 v2 wc => ∃ (kq : Nat) (x0_1 : Int) (x2_1 : Int), v0 = .int .u64 x0_1 ∧ v2 = .int .i64 x2_1 ∧ Aside0 (bits_Len64.j0 kq x0_1 x2_1 = some r) ∧ Aside0 (kq ≤ k) ∧ Drawn0 w wc)
 case first =>
  have H := HC2.out
  clear HC2
  by_cases c3 : a0 ≥ 4294967296
  ·rw [if_pos c3] at H
   have c3b0 : decide (4294967296 ≤ a0) = true := decide_eq_true c3
   clear c3
   (first | rw [c3b0] | (simp only [i64_w, i32_w]; rw [c3b0]) | skip)
   have H' := Aside0.mk H
   clear H
   go_wp2
   go_meet
   case rel => exact ⟨_, (a0 / 4294967296), (32), z6_, z6_, H', ⟨by first | omega | exact Nat.le_refl _⟩, z9_⟩
  ·rw [if_neg c3] at H
   have c3b0 : decide (4294967296 ≤ a0) = false := decide_eq_false c3
   clear c3
   (first | rw [c3b0] | (simp only [i64_w, i32_w]; rw [c3b0]) | skip)
   have H' := Aside0.mk H
   clear H
   go_wp2
   go_meet
   case rel => exact ⟨_, (a0), (0), z6_, z6_, H', ⟨by first | omega | exact Nat.le_refl _⟩, z9_⟩
 case rest =>
  clear HC2
  try clear p2
  try clear c3
  try clear c3b0
  obtain ⟨kq, x0_1, x2_1, rfl, rfl, HA, HJ1, ⟨mc1, rfl⟩⟩ := hcut
  cases kq with
  | zero => exact absurd HA.out (by simp [bits_Len64.j0])
  | succ kj1 =>
   have H := HA.out
   clear HA
   simp only [bits_Len64.j0] at H
   by_cases c4 : x0_1 ≥ 65536
   ·rw [if_pos c4] at H
    have c4b0 : decide (65536 ≤ x0_1) = true := decide_eq_true c4
    clear c4
    by_cases c5 : (x0_1 / 65536) ≥ 256
    ·rw [if_pos c5] at H
     have c5b0 : decide (256 ≤ (x0_1 / 65536)) = true := decide_eq_true c5
     clear c5
     obtain ⟨ji6, hji6⟩ : ∃ j_ : Int, (((x0_1 / 65536) / 256) % 256) = j_ := ⟨_, rfl⟩
     replace H : (if 0 ≤ (ji6) then (if (ji6) < 256 then (some (wrap64 ((wrap64 ((wrap64 (x2_1 + 16)) + 8)) + (wrap64 (bt (⟨#[0, 1, 2, 2, 3, 3, 3, 3, 4, 4, 4, 4, 4, 4, 4, 4, 5, 5, 5, 5, 5, 5, 5, 5, 5, 5, 5, 5, 5, 5, 5, 5, 6, 6, 6, 6, 6, 6, 6, 6, 6, 6, 6, 6, 6, 6, 6, 6, 6, 6, 6, 6, 6, 6, 6, 6, 6, 6, 6, 6, 6, 6, 6, 6, 7, 7, 7, 7, 7, 7, 7, 7, 7, 7, 7, 7, 7, 7, 7, 7, 7, 7, 7, 7, 7, 7, 7, 7, 7, 7, 7, 7, 7, 7, 7, 7, 7, 7, 7, 7, 7, 7, 7, 7, 7, 7, 7, 7, 7, 7, 7, 7, 7, 7, 7, 7, 7, 7, 7, 7, 7, 7, 7, 7, 7, 7, 7, 7, 8, 8, 8, 8, 8, 8, 8, 8, 8, 8, 8, 8, 8, 8, 8, 8, 8, 8, 8, 8, 8, 8, 8, 8, 8, 8, 8, 8, 8, 8, 8, 8, 8, 8, 8, 8, 8, 8, 8, 8, 8, 8, 8, 8, 8, 8, 8, 8, 8, 8, 8, 8, 8, 8, 8, 8, 8, 8, 8, 8, 8, 8, 8, 8, 8, 8, 8, 8, 8, 8, 8, 8, 8, 8, 8, 8, 8, 8, 8, 8, 8, 8, 8, 8, 8, 8, 8, 8, 8, 8, 8, 8, 8, 8, 8, 8, 8, 8, 8, 8, 8, 8, 8, 8, 8, 8, 8, 8, 8, 8, 8, 8, 8, 8, 8, 8, 8, 8, 8, 8, 8, 8, 8, 8, 8, 8, 8, 8]⟩ : ByteArray) (ji6)))))) else (none)) else (none)) = some r := by first | (rw [hji6] at H; exact H) | (simp only [hji6] at H ⊢; exact H)
     by_cases c7 : 0 ≤ (ji6)
     ·rw [if_pos c7] at H
      have c7b0 : decide (0 ≤ (ji6)) = true := decide_eq_true c7
      clear c7
      by_cases c8 : (ji6) < 256
      ·rw [if_pos c8] at H
       have c8b0 : decide ((ji6) < 256) = true := decide_eq_true c8
       clear c8
       obtain rfl := Option.some.inj H
       have p9 : 0 ≤ ((ji6) : Int) := of_decide_eq_true z7_
       have q9 : (ji6) < (256 : Int) := of_decide_eq_true z7_
       have hx9 := bt_at (⟨#[0, 1, 2, 2, 3, 3, 3, 3, 4, 4, 4, 4, 4, 4, 4, 4, 5, 5, 5, 5, 5, 5, 5, 5, 5, 5, 5, 5, 5, 5, 5, 5, 6, 6, 6, 6, 6, 6, 6, 6, 6, 6, 6, 6, 6, 6, 6, 6, 6, 6, 6, 6, 6, 6, 6, 6, 6, 6, 6, 6, 6, 6, 6, 6, 7, 7, 7, 7, 7, 7, 7, 7, 7, 7, 7, 7, 7, 7, 7, 7, 7, 7, 7, 7, 7, 7, 7, 7, 7, 7, 7, 7, 7, 7, 7, 7, 7, 7, 7, 7, 7, 7, 7, 7, 7, 7, 7, 7, 7, 7, 7, 7, 7, 7, 7, 7, 7, 7, 7, 7, 7, 7, 7, 7, 7, 7, 7, 7, 8, 8, 8, 8, 8, 8, 8, 8, 8, 8, 8, 8, 8, 8, 8, 8, 8, 8, 8, 8, 8, 8, 8, 8, 8, 8, 8, 8, 8, 8, 8, 8, 8, 8, 8, 8, 8, 8, 8, 8, 8, 8, 8, 8, 8, 8, 8, 8, 8, 8, 8, 8, 8, 8, 8, 8, 8, 8, 8, 8, 8, 8, 8, 8, 8, 8, 8, 8, 8, 8, 8, 8, 8, 8, 8, 8, 8, 8, 8, 8, 8, 8, 8, 8, 8, 8, 8, 8, 8, 8, 8, 8, 8, 8, 8, 8, 8, 8, 8, 8, 8, 8, 8, 8, 8, 8, 8, 8, 8, 8, 8, 8, 8, 8, 8, 8, 8, 8, 8, 8, 8, 8, 8, 8, 8, 8, 8, 8]⟩ : ByteArray) (ji6)
       replace p9 := eq_true p9
       replace q9 := eq_true q9
       go_wp2
       go_ret
       exact ⟨by first | rfl | (simp; done) | (simp only [← hji6] <;> (first | rfl | simp)) | (simp [*]; done), z9_⟩
      ·rw [if_neg c8] at H
       exact absurd H (by simp)
     ·rw [if_neg c7] at H
      exact absurd H (by simp)
    ·rw [if_neg c5] at H
     have c5b0 : decide (256 ≤ (x0_1 / 65536)) = false := decide_eq_false c5
     clear c5
     obtain ⟨ji10, hji10⟩ : ∃ j_ : Int, ((x0_1 / 65536) % 256) = j_ := ⟨_, rfl⟩
     replace H : (if 0 ≤ (ji10) then (if (ji10) < 256 then (some (wrap64 ((wrap64 (x2_1 + 16)) + (wrap64 (bt (⟨#[0, 1, 2, 2, 3, 3, 3, 3, 4, 4, 4, 4, 4, 4, 4, 4, 5, 5, 5, 5, 5, 5, 5, 5, 5, 5, 5, 5, 5, 5, 5, 5, 6, 6, 6, 6, 6, 6, 6, 6, 6, 6, 6, 6, 6, 6, 6, 6, 6, 6, 6, 6, 6, 6, 6, 6, 6, 6, 6, 6, 6, 6, 6, 6, 7, 7, 7, 7, 7, 7, 7, 7, 7, 7, 7, 7, 7, 7, 7, 7, 7, 7, 7, 7, 7, 7, 7, 7, 7, 7, 7, 7, 7, 7, 7, 7, 7, 7, 7, 7, 7, 7, 7, 7, 7, 7, 7, 7, 7, 7, 7, 7, 7, 7, 7, 7, 7, 7, 7, 7, 7, 7, 7, 7, 7, 7, 7, 7, 8, 8, 8, 8, 8, 8, 8, 8, 8, 8, 8, 8, 8, 8, 8, 8, 8, 8, 8, 8, 8, 8, 8, 8, 8, 8, 8, 8, 8, 8, 8, 8, 8, 8, 8, 8, 8, 8, 8, 8, 8, 8, 8, 8, 8, 8, 8, 8, 8, 8, 8, 8, 8, 8, 8, 8, 8, 8, 8, 8, 8, 8, 8, 8, 8, 8, 8, 8, 8, 8, 8, 8, 8, 8, 8, 8, 8, 8, 8, 8, 8, 8, 8, 8, 8, 8, 8, 8, 8, 8, 8, 8, 8, 8, 8, 8, 8, 8, 8, 8, 8, 8, 8, 8, 8, 8, 8, 8, 8, 8, 8, 8, 8, 8, 8, 8, 8, 8, 8, 8, 8, 8, 8, 8, 8, 8, 8, 8]⟩ : ByteArray) (ji10)))))) else (none)) else (none)) = some r := by first | (rw [hji10] at H; exact H) | (simp only [hji10] at H ⊢; exact H)
     by_cases c11 : 0 ≤ (ji10)
     ·rw [if_pos c11] at H
      have c11b0 : decide (0 ≤ (ji10)) = true := decide_eq_true c11
      clear c11
      by_cases c12 : (ji10) < 256
      ·rw [if_pos c12] at H
       have c12b0 : decide ((ji10) < 256) = true := decide_eq_true c12
       clear c12
       obtain rfl := Option.some.inj H
       have p13 : 0 ≤ ((ji10) : Int) := of_decide_eq_true z7_
       have q13 : (ji10) < (256 : Int) := of_decide_eq_true z7_
       have hx13 := bt_at (⟨#[0, 1, 2, 2, 3, 3, 3, 3, 4, 4, 4, 4, 4, 4, 4, 4, 5, 5, 5, 5, 5, 5, 5, 5, 5, 5, 5, 5, 5, 5, 5, 5, 6, 6, 6, 6, 6, 6, 6, 6, 6, 6, 6, 6, 6, 6, 6, 6, 6, 6, 6, 6, 6, 6, 6, 6, 6, 6, 6, 6, 6, 6, 6, 6, 7, 7, 7, 7, 7, 7, 7, 7, 7, 7, 7, 7, 7, 7, 7, 7, 7, 7, 7, 7, 7, 7, 7, 7, 7, 7, 7, 7, 7, 7, 7, 7, 7, 7, 7, 7, 7, 7, 7, 7, 7, 7, 7, 7, 7, 7, 7, 7, 7, 7, 7, 7, 7, 7, 7, 7, 7, 7, 7, 7, 7, 7, 7, 7, 8, 8, 8, 8, 8, 8, 8, 8, 8, 8, 8, 8, 8, 8, 8, 8, 8, 8, 8, 8, 8, 8, 8, 8, 8, 8, 8, 8, 8, 8, 8, 8, 8, 8, 8, 8, 8, 8, 8, 8, 8, 8, 8, 8, 8, 8, 8, 8, 8, 8, 8, 8, 8, 8, 8, 8, 8, 8, 8, 8, 8, 8, 8, 8, 8, 8, 8, 8, 8, 8, 8, 8, 8, 8, 8, 8, 8, 8, 8, 8, 8, 8, 8, 8, 8, 8, 8, 8, 8, 8, 8, 8, 8, 8, 8, 8, 8, 8, 8, 8, 8, 8, 8, 8, 8, 8, 8, 8, 8, 8, 8, 8, 8, 8, 8, 8, 8, 8, 8, 8, 8, 8, 8, 8, 8, 8, 8, 8]⟩ : ByteArray) (ji10)
       replace p13 := eq_true p13
       replace q13 := eq_true q13
       go_wp2
       go_ret
       exact ⟨by first | rfl | (simp; done) | (simp only [← hji10] <;> (first | rfl | simp)) | (simp [*]; done), z9_⟩
      ·rw [if_neg c12] at H
       exact absurd H (by simp)
     ·rw [if_neg c11] at H
      exact absurd H (by simp)
   ·rw [if_neg c4] at H
    have c4b0 : decide (65536 ≤ x0_1) = false := decide_eq_false c4
    clear c4
    by_cases c14 : x0_1 ≥ 256
    ·rw [if_pos c14] at H
     have c14b0 : decide (256 ≤ x0_1) = true := decide_eq_true c14
     clear c14
     obtain ⟨ji15, hji15⟩ : ∃ j_ : Int, ((x0_1 / 256) % 256) = j_ := ⟨_, rfl⟩
     replace H : (if 0 ≤ (ji15) then (if (ji15) < 256 then (some (wrap64 ((wrap64 (x2_1 + 8)) + (wrap64 (bt (⟨#[0, 1, 2, 2, 3, 3, 3, 3, 4, 4, 4, 4, 4, 4, 4, 4, 5, 5, 5, 5, 5, 5, 5, 5, 5, 5, 5, 5, 5, 5, 5, 5, 6, 6, 6, 6, 6, 6, 6, 6, 6, 6, 6, 6, 6, 6, 6, 6, 6, 6, 6, 6, 6, 6, 6, 6, 6, 6, 6, 6, 6, 6, 6, 6, 7, 7, 7, 7, 7, 7, 7, 7, 7, 7, 7, 7, 7, 7, 7, 7, 7, 7, 7, 7, 7, 7, 7, 7, 7, 7, 7, 7, 7, 7, 7, 7, 7, 7, 7, 7, 7, 7, 7, 7, 7, 7, 7, 7, 7, 7, 7, 7, 7, 7, 7, 7, 7, 7, 7, 7, 7, 7, 7, 7, 7, 7, 7, 7, 8, 8, 8, 8, 8, 8, 8, 8, 8, 8, 8, 8, 8, 8, 8, 8, 8, 8, 8, 8, 8, 8, 8, 8, 8, 8, 8, 8, 8, 8, 8, 8, 8, 8, 8, 8, 8, 8, 8, 8, 8, 8, 8, 8, 8, 8, 8, 8, 8, 8, 8, 8, 8, 8, 8, 8, 8, 8, 8, 8, 8, 8, 8, 8, 8, 8, 8, 8, 8, 8, 8, 8, 8, 8, 8, 8, 8, 8, 8, 8, 8, 8, 8, 8, 8, 8, 8, 8, 8, 8, 8, 8, 8, 8, 8, 8, 8, 8, 8, 8, 8, 8, 8, 8, 8, 8, 8, 8, 8, 8, 8, 8, 8, 8, 8, 8, 8, 8, 8, 8, 8, 8, 8, 8, 8, 8, 8, 8]⟩ : ByteArray) (ji15)))))) else (none)) else (none)) = some r := by first | (rw [hji15] at H; exact H) | (simp only [hji15] at H ⊢; exact H)
     by_cases c16 : 0 ≤ (ji15)
     ·rw [if_pos c16] at H
      have c16b0 : decide (0 ≤ (ji15)) = true := decide_eq_true c16
      clear c16
      by_cases c17 : (ji15) < 256
      ·rw [if_pos c17] at H
       have c17b0 : decide ((ji15) < 256) = true := decide_eq_true c17
       clear c17
       obtain rfl := Option.some.inj H
       have p18 : 0 ≤ ((ji15) : Int) := of_decide_eq_true z7_
       have q18 : (ji15) < (256 : Int) := of_decide_eq_true z7_
       have hx18 := bt_at (⟨#[0, 1, 2, 2, 3, 3, 3, 3, 4, 4, 4, 4, 4, 4, 4, 4, 5, 5, 5, 5, 5, 5, 5, 5, 5, 5, 5, 5, 5, 5, 5, 5, 6, 6, 6, 6, 6, 6, 6, 6, 6, 6, 6, 6, 6, 6, 6, 6, 6, 6, 6, 6, 6, 6, 6, 6, 6, 6, 6, 6, 6, 6, 6, 6, 7, 7, 7, 7, 7, 7, 7, 7, 7, 7, 7, 7, 7, 7, 7, 7, 7, 7, 7, 7, 7, 7, 7, 7, 7, 7, 7, 7, 7, 7, 7, 7, 7, 7, 7, 7, 7, 7, 7, 7, 7, 7, 7, 7, 7, 7, 7, 7, 7, 7, 7, 7, 7, 7, 7, 7, 7, 7, 7, 7, 7, 7, 7, 7, 8, 8, 8, 8, 8, 8, 8, 8, 8, 8, 8, 8, 8, 8, 8, 8, 8, 8, 8, 8, 8, 8, 8, 8, 8, 8, 8, 8, 8, 8, 8, 8, 8, 8, 8, 8, 8, 8, 8, 8, 8, 8, 8, 8, 8, 8, 8, 8, 8, 8, 8, 8, 8, 8, 8, 8, 8, 8, 8, 8, 8, 8, 8, 8, 8, 8, 8, 8, 8, 8, 8, 8, 8, 8, 8, 8, 8, 8, 8, 8, 8, 8, 8, 8, 8, 8, 8, 8, 8, 8, 8, 8, 8, 8, 8, 8, 8, 8, 8, 8, 8, 8, 8, 8, 8, 8, 8, 8, 8, 8, 8, 8, 8, 8, 8, 8, 8, 8, 8, 8, 8, 8, 8, 8, 8, 8, 8, 8]⟩ : ByteArray) (ji15)
       replace p18 := eq_true p18
       replace q18 := eq_true q18
       go_wp2
       go_ret
       exact ⟨by first | rfl | (simp; done) | (simp only [← hji15] <;> (first | rfl | simp)) | (simp [*]; done), z9_⟩
      ·rw [if_neg c17] at H
       exact absurd H (by simp)
     ·rw [if_neg c16] at H
      exact absurd H (by simp)
    ·rw [if_neg c14] at H
     have c14b0 : decide (256 ≤ x0_1) = false := decide_eq_false c14
     clear c14
     obtain ⟨ji19, hji19⟩ : ∃ j_ : Int, ((x0_1) % 256) = j_ := ⟨_, rfl⟩
     replace H : (if 0 ≤ (ji19) then (if (ji19) < 256 then (some (wrap64 (x2_1 + (wrap64 (bt (⟨#[0, 1, 2, 2, 3, 3, 3, 3, 4, 4, 4, 4, 4, 4, 4, 4, 5, 5, 5, 5, 5, 5, 5, 5, 5, 5, 5, 5, 5, 5, 5, 5, 6, 6, 6, 6, 6, 6, 6, 6, 6, 6, 6, 6, 6, 6, 6, 6, 6, 6, 6, 6, 6, 6, 6, 6, 6, 6, 6, 6, 6, 6, 6, 6, 7, 7, 7, 7, 7, 7, 7, 7, 7, 7, 7, 7, 7, 7, 7, 7, 7, 7, 7, 7, 7, 7, 7, 7, 7, 7, 7, 7, 7, 7, 7, 7, 7, 7, 7, 7, 7, 7, 7, 7, 7, 7, 7, 7, 7, 7, 7, 7, 7, 7, 7, 7, 7, 7, 7, 7, 7, 7, 7, 7, 7, 7, 7, 7, 8, 8, 8, 8, 8, 8, 8, 8, 8, 8, 8, 8, 8, 8, 8, 8, 8, 8, 8, 8, 8, 8, 8, 8, 8, 8, 8, 8, 8, 8, 8, 8, 8, 8, 8, 8, 8, 8, 8, 8, 8, 8, 8, 8, 8, 8, 8, 8, 8, 8, 8, 8, 8, 8, 8, 8, 8, 8, 8, 8, 8, 8, 8, 8, 8, 8, 8, 8, 8, 8, 8, 8, 8, 8, 8, 8, 8, 8, 8, 8, 8, 8, 8, 8, 8, 8, 8, 8, 8, 8, 8, 8, 8, 8, 8, 8, 8, 8, 8, 8, 8, 8, 8, 8, 8, 8, 8, 8, 8, 8, 8, 8, 8, 8, 8, 8, 8, 8, 8, 8, 8, 8, 8, 8, 8, 8, 8, 8]⟩ : ByteArray) (ji19)))))) else (none)) else (none)) = some r := by first | (rw [hji19] at H; exact H) | (simp only [hji19] at H ⊢; exact H)
     by_cases c20 : 0 ≤ (ji19)
     ·rw [if_pos c20] at H
      have c20b0 : decide (0 ≤ (ji19)) = true := decide_eq_true c20
      clear c20
      by_cases c21 : (ji19) < 256
      ·rw [if_pos c21] at H
       have c21b0 : decide ((ji19) < 256) = true := decide_eq_true c21
       clear c21
       obtain rfl := Option.some.inj H
       have p22 : 0 ≤ ((ji19) : Int) := of_decide_eq_true z7_
       have q22 : (ji19) < (256 : Int) := of_decide_eq_true z7_
       have hx22 := bt_at (⟨#[0, 1, 2, 2, 3, 3, 3, 3, 4, 4, 4, 4, 4, 4, 4, 4, 5, 5, 5, 5, 5, 5, 5, 5, 5, 5, 5, 5, 5, 5, 5, 5, 6, 6, 6, 6, 6, 6, 6, 6, 6, 6, 6, 6, 6, 6, 6, 6, 6, 6, 6, 6, 6, 6, 6, 6, 6, 6, 6, 6, 6, 6, 6, 6, 7, 7, 7, 7, 7, 7, 7, 7, 7, 7, 7, 7, 7, 7, 7, 7, 7, 7, 7, 7, 7, 7, 7, 7, 7, 7, 7, 7, 7, 7, 7, 7, 7, 7, 7, 7, 7, 7, 7, 7, 7, 7, 7, 7, 7, 7, 7, 7, 7, 7, 7, 7, 7, 7, 7, 7, 7, 7, 7, 7, 7, 7, 7, 7, 8, 8, 8, 8, 8, 8, 8, 8, 8, 8, 8, 8, 8, 8, 8, 8, 8, 8, 8, 8, 8, 8, 8, 8, 8, 8, 8, 8, 8, 8, 8, 8, 8, 8, 8, 8, 8, 8, 8, 8, 8, 8, 8, 8, 8, 8, 8, 8, 8, 8, 8, 8, 8, 8, 8, 8, 8, 8, 8, 8, 8, 8, 8, 8, 8, 8, 8, 8, 8, 8, 8, 8, 8, 8, 8, 8, 8, 8, 8, 8, 8, 8, 8, 8, 8, 8, 8, 8, 8, 8, 8, 8, 8, 8, 8, 8, 8, 8, 8, 8, 8, 8, 8, 8, 8, 8, 8, 8, 8, 8, 8, 8, 8, 8, 8, 8, 8, 8, 8, 8, 8, 8, 8, 8, 8, 8, 8, 8]⟩ : ByteArray) (ji19)
       replace p22 := eq_true p22
       replace q22 := eq_true q22
       go_wp2
       go_ret
       exact ⟨by first | rfl | (simp; done) | (simp only [← hji19] <;> (first | rfl | simp)) | (simp [*]; done), z9_⟩
      ·rw [if_neg c21] at H
       exact absurd H (by simp)
     ·rw [if_neg c20] at H
      exact absurd H (by simp)
def bits_Width.l0 : Nat → Int → List Int → Int → Int → Option (Int)
 | 0, _, _, _, _ => none
 | k + 1, x3, x6, x7, x8 => if x8 < x7 then (if 0 ≤ x8 then (if x8 < (x6.length : Int) then (bits_Width.l0 k (Go.bits .or .u64 x3 (rd x6 x8)) x6 x7 (wrap64 (x8 + 1))) else (none)) else (none)) else ((bits_Len64.f k x3).bind fun t232 => (some t232))
def bits_Width.f (k : Nat) (l0 : List Int) : Option (Int) := bits_Width.l0 k 0 l0 (l0.length : Int) 0
theorem bits_Width.mono_l : ∀ k, (∀ y0 y1 y2 y3, LeO (bits_Width.l0 k y0 y1 y2 y3) (bits_Width.l0 (k + 1) y0 y1 y2 y3))
 | 0 => fun _ _ _ _ r h => by simp [bits_Width.l0] at h
 | k + 1 => by
  have ih0 := bits_Width.mono_l k
  ·intro y0 y1 y2 y3
   unfold bits_Width.l0
   repeat' first
   | (with_reducible exact ih0 _ _ _ _)
   | (with_reducible exact bits_Len64.mono _ _)
   | (with_reducible exact LeO.refl _)
   | (with_reducible exact LeO.none _)
   | (with_reducible refine LeO.ite ?_ ?_)
   | (with_reducible refine LeO.bind ?_ (fun _ => ?_))
   | exact ih0 _ _ _ _
   | exact bits_Len64.mono _ _
   | exact LeO.none _
   | refine LeO.ite ?_ ?_
   | refine LeO.bind ?_ (fun _ => ?_)
theorem bits_Width.mono : ∀ a0 k, LeO (bits_Width.f k a0) (bits_Width.f (k + 1) a0) := by
 intro a0 k
 have ih0 := bits_Width.mono_l k
 unfold bits_Width.f
 repeat' first
   | (with_reducible exact ih0 _ _ _ _)
   | (with_reducible exact bits_Len64.mono _ _)
   | (with_reducible exact LeO.refl _)
   | (with_reducible exact LeO.none _)
   | (with_reducible refine LeO.ite ?_ ?_)
   | (with_reducible refine LeO.bind ?_ (fun _ => ?_))
   | exact ih0 _ _ _ _
   | exact bits_Len64.mono _ _
   | exact LeO.none _
   | refine LeO.ite ?_ ?_
   | refine LeO.bind ?_ (fun _ => ?_)
set_option maxHeartbeats 8000000 in
set_option maxRecDepth 100000 in
theorem bits_Width.calls (k : Nat) (A0 : Option Addr) (c0 : Nat) (l0 : List Int) (r : Int) (w : World) (hr0 : Kd.C (Kd.int .u64) w A0 l0.length l0) (hc0 : l0.length ≤ c0) (h : bits_Width.f k l0 = some r) :
  Calls Try.prog 60 #[.slice A0 l0.length c0] w fun e w' => e = .returned (.int .i64 r) ∧ Drawn0 w w' := by
 have HR0 := Aside0.mk hr0
 have HC0 := Aside0.mk hc0
 clear hr0 hc0
 have H : (bits_Width.l0 k 0 l0 (l0.length : Int) 0) = some r := h
 clear h
 have H' := Aside0.mk H
 clear H
 go_enter Try.func60, Try.ntmps60
 go_wp2
 go_loopg [3, 8] k (fun kq v3 v8 w' => ∃ (x3_1 : Int) (x8_1 : Int), v3 = .int .u64 x3_1 ∧ v8 = .int .i64 x8_1 ∧ Aside0 (bits_Width.l0 kq x3_1 l0 (l0.length : Int) x8_1 = some r) ∧ Aside0 (kq ≤ k) ∧ Drawn0 w w')
 case atStart => exact ⟨(0), (0), z6_, z6_, H', ⟨Nat.le_refl _⟩, z9_⟩
 case round =>
  clear H'
  obtain ⟨x3_1, x8_1, rfl, rfl, HA, HK1, ⟨m1, rfl⟩⟩ := hrel
  cases gk with
  | zero => exact absurd HA.out (by simp [bits_Width.l0])
  | succ k1 =>
   have H := HA.out
   clear HA
   simp only [bits_Width.l0] at H
   by_cases c2 : x8_1 < (l0.length : Int)
   ·rw [if_pos c2] at H
    have c2b0 : decide (x8_1 < (l0.length : Int)) = true := decide_eq_true c2
    clear c2
    by_cases c3 : 0 ≤ x8_1
    ·rw [if_pos c3] at H
     have c3b0 : decide (0 ≤ x8_1) = true := decide_eq_true c3
     clear c3
     by_cases c4 : x8_1 < (l0.length : Int)
     ·rw [if_pos c4] at H
      have c4b0 : decide (x8_1 < (l0.length : Int)) = true := decide_eq_true c4
      clear c4
      have H' := Aside0.mk H
      clear H
      have p231 : 0 ≤ (x8_1 : Int) := of_decide_eq_true z7_
      have q231 : x8_1 < (l0.length : Int) := of_decide_eq_true z7_
      obtain ⟨ad231, e231, hx231_0⟩ := Kd.at_int HR0.out x8_1 p231 q231
      cases e231
      replace p231 := eq_true p231
      replace q231 := eq_true q231
      go_wp2
      go_roundg k1
      case measure => have := HK1.out; omega
      case rel => exact ⟨(Go.bits .or .u64 x3_1 (rd l0 x8_1)), (wrap64 (x8_1 + 1)), z6_, z6_, H', ⟨by have := HK1.out; omega⟩, z9_⟩
     ·rw [if_neg c4] at H
      exact absurd H (by simp)
    ·rw [if_neg c3] at H
     exact absurd H (by simp)
   ·rw [if_neg c2] at H
    have c2b0 : decide (x8_1 < (l0.length : Int)) = false := decide_eq_false c2
    clear c2
    replace H := Option.bind_eq_some_iff.mp H
    obtain ⟨t232, A50, H⟩ := H
    replace H : (some t232) = some r := H
    have A5 := Aside0.mk A50
    clear A50
    obtain rfl := Option.some.inj H
    go_wp2_with (first | ((with_reducible refine gate_callee (f := 69) rfl ?_); refine goesL_ (some 17) rfl rfl Try.func69 (by kernel_rfl) rfl #[.int .u64 x3_1] rfl (by (try simp only [List.map_toArray, List.map_cons, List.map_nil]); first | done | rfl | (simp only [List.length_drop, List.length_take]; rfl) | (go_simp; simp [IntKind.wrap, IntKind.bits, IntKind.signed]; omega)) ?_; (with_reducible refine (bits_Len64.calls k1 x3_1 t232 _ A5.out).mono ?_); rintro e w' ⟨rfl, ⟨nd, rfl⟩⟩; refine ⟨_, rfl, ?_⟩))
    go_ret
    exact ⟨z6_, z9_⟩
theorem bits_Pack.tab : ∀ i : Nat, i < 256 → bt (⟨#[0, 1, 2, 2, 3, 3, 3, 3, 4, 4, 4, 4, 4, 4, 4, 4, 5, 5, 5, 5, 5, 5, 5, 5, 5, 5, 5, 5, 5, 5, 5, 5, 6, 6, 6, 6, 6, 6, 6, 6, 6, 6, 6, 6, 6, 6, 6, 6, 6, 6, 6, 6, 6, 6, 6, 6, 6, 6, 6, 6, 6, 6, 6, 6, 7, 7, 7, 7, 7, 7, 7, 7, 7, 7, 7, 7, 7, 7, 7, 7, 7, 7, 7, 7, 7, 7, 7, 7, 7, 7, 7, 7, 7, 7, 7, 7, 7, 7, 7, 7, 7, 7, 7, 7, 7, 7, 7, 7, 7, 7, 7, 7, 7, 7, 7, 7, 7, 7, 7, 7, 7, 7, 7, 7, 7, 7, 7, 7, 8, 8, 8, 8, 8, 8, 8, 8, 8, 8, 8, 8, 8, 8, 8, 8, 8, 8, 8, 8, 8, 8, 8, 8, 8, 8, 8, 8, 8, 8, 8, 8, 8, 8, 8, 8, 8, 8, 8, 8, 8, 8, 8, 8, 8, 8, 8, 8, 8, 8, 8, 8, 8, 8, 8, 8, 8, 8, 8, 8, 8, 8, 8, 8, 8, 8, 8, 8, 8, 8, 8, 8, 8, 8, 8, 8, 8, 8, 8, 8, 8, 8, 8, 8, 8, 8, 8, 8, 8, 8, 8, 8, 8, 8, 8, 8, 8, 8, 8, 8, 8, 8, 8, 8, 8, 8, 8, 8, 8, 8, 8, 8, 8, 8, 8, 8, 8, 8, 8, 8, 8, 8, 8, 8, 8, 8, 8, 8]⟩ : ByteArray) (i : Int) = ((blen i : Nat) : Int) := by decide +kernel
theorem bits_Pack.len0 {k x : Nat} {n : Int} (hx : x < 4294967296) (h0 : 0 ≤ n) (h1 : n ≤ 32) : bits_Len64.j0 (k + 1) (x : Int) n = some (((blen x : Nat) : Int) + n) := by
 have T := bits_Pack.tab
 unfold bits_Len64.j0
 generalize (⟨#[0, 1, 2, 2, 3, 3, 3, 3, 4, 4, 4, 4, 4, 4, 4, 4, 5, 5, 5, 5, 5, 5, 5, 5, 5, 5, 5, 5, 5, 5, 5, 5, 6, 6, 6, 6, 6, 6, 6, 6, 6, 6, 6, 6, 6, 6, 6, 6, 6, 6, 6, 6, 6, 6, 6, 6, 6, 6, 6, 6, 6, 6, 6, 6, 7, 7, 7, 7, 7, 7, 7, 7, 7, 7, 7, 7, 7, 7, 7, 7, 7, 7, 7, 7, 7, 7, 7, 7, 7, 7, 7, 7, 7, 7, 7, 7, 7, 7, 7, 7, 7, 7, 7, 7, 7, 7, 7, 7, 7, 7, 7, 7, 7, 7, 7, 7, 7, 7, 7, 7, 7, 7, 7, 7, 7, 7, 7, 7, 8, 8, 8, 8, 8, 8, 8, 8, 8, 8, 8, 8, 8, 8, 8, 8, 8, 8, 8, 8, 8, 8, 8, 8, 8, 8, 8, 8, 8, 8, 8, 8, 8, 8, 8, 8, 8, 8, 8, 8, 8, 8, 8, 8, 8, 8, 8, 8, 8, 8, 8, 8, 8, 8, 8, 8, 8, 8, 8, 8, 8, 8, 8, 8, 8, 8, 8, 8, 8, 8, 8, 8, 8, 8, 8, 8, 8, 8, 8, 8, 8, 8, 8, 8, 8, 8, 8, 8, 8, 8, 8, 8, 8, 8, 8, 8, 8, 8, 8, 8, 8, 8, 8, 8, 8, 8, 8, 8, 8, 8, 8, 8, 8, 8, 8, 8, 8, 8, 8, 8, 8, 8, 8, 8, 8, 8, 8, 8]⟩ : ByteArray) = tb at *
 dsimp only
 have b8 : ∀ y : Nat, y < 65536 → 256 ≤ y → blen y = blen (y / 256) + 8 := fun y _ h => blen_div (k := 8) h
 have w0 : ∀ y : Nat, y < 256 → wrap64 (bt tb (y : Int)) = ((blen y : Nat) : Int) := fun y hy => by
  have h := blen_le (n := y) (w := 8); have : blen y ≤ 8 := h.2 (by omega)
  rw [T y hy, w64 (by omega) (by omega)]
 have w1 : ∀ y : Nat, y < 256 → ((blen y : Nat) : Int) ≤ 8 := fun y hy => by
  have h := blen_le (n := y) (w := 8); have : blen y ≤ 8 := h.2 (by omega)
  omega
 by_cases c1 : 65536 ≤ x
 ·have e1 : ((x : Int) / 65536) = ((x / 65536 : Nat) : Int) := by omega
  have b16 : blen x = blen (x / 65536) + 16 := blen_div (k := 16) c1
  rw [if_pos (by omega), e1]
  obtain ⟨y, hy⟩ : ∃ y, x / 65536 = y := ⟨_, rfl⟩
  rw [hy] at b16 ⊢
  have hyl : y < 65536 := by omega
  by_cases c2 : 256 ≤ y
  ·have e2 : (((y : Nat) : Int) / 256) % 256 = ((y / 256 : Nat) : Int) := by omega
   have h := w1 (y / 256) (by omega)
   rw [if_pos (by omega), e2, if_pos (by omega), if_pos (by omega), w0 _ (by omega), w64 (x := n + 16) (by omega) (by omega), w64 (x := n + 16 + 8) (by omega) (by omega), w64 (by omega) (by omega), b16, b8 y hyl c2]
   congr 1 <;> omega
  ·have e2 : (((y : Nat) : Int)) % 256 = ((y : Nat) : Int) := by omega
   have h := w1 y (by omega)
   rw [if_neg (by omega), e2, if_pos (by omega), if_pos (by omega), w0 _ (by omega), w64 (x := n + 16) (by omega) (by omega), w64 (by omega) (by omega), b16]
   congr 1 <;> omega
 ·rw [if_neg (by omega)]
  by_cases c2 : 256 ≤ x
  ·have e2 : (((x : Nat) : Int) / 256) % 256 = ((x / 256 : Nat) : Int) := by omega
   have h := w1 (x / 256) (by omega)
   rw [if_pos (by omega), e2, if_pos (by omega), if_pos (by omega), w0 _ (by omega), w64 (x := n + 8) (by omega) (by omega), w64 (by omega) (by omega), b8 x (by omega) c2]
   congr 1 <;> omega
  ·have e2 : (((x : Nat) : Int)) % 256 = ((x : Nat) : Int) := by omega
   have h := w1 x (by omega)
   rw [if_neg (by omega), e2, if_pos (by omega), if_pos (by omega), w0 _ (by omega), w64 (by omega) (by omega)]
   congr 1 <;> omega
theorem bits_Pack.len {k x : Nat} (hk : 1 ≤ k) (hx : x < 18446744073709551616) : bits_Len64.f k (x : Int) = some ((blen x : Nat) : Int) := by
 obtain ⟨k, rfl⟩ : ∃ m, k = m + 1 := ⟨k - 1, by omega⟩
 unfold bits_Len64.f
 by_cases c : 4294967296 ≤ x
 ·have e : ((x : Int) / 4294967296) = ((x / 4294967296 : Nat) : Int) := by omega
  have b : blen x = blen (x / 4294967296) + 32 := blen_div (k := 32) c
  rw [if_pos (by omega), e, bits_Pack.len0 (by omega) (by omega) (by omega), b]
  congr 1
 ·rw [if_neg (by omega), bits_Pack.len0 (by omega) (by omega) (by omega)]
  congr 1 <;> omega
theorem bits_Pack.wid0 {l : List Int} (hl : l.length ≤ 17592186044416) (h : U64 l) : ∀ (d k i a : Nat), i + d = l.length → d + 1 < k → a < 18446744073709551616 → bits_Width.l0 k (a : Int) l (l.length : Int) (i : Int) = some ((blen (((unats l).drop i).foldl (· ||| ·) a) : Nat) : Int) := by
 intro d
 induction d with
 | zero =>
  intro k i a hi hk ha
  obtain ⟨k, rfl⟩ : ∃ m, k = m + 1 := ⟨k - 1, by omega⟩
  simp only [bits_Width.l0]
  rw [if_neg (by omega), bits_Pack.len (by omega) ha, List.drop_eq_nil_of_le (by rw [unats_len]; omega)]
  rfl
 | succ d ih =>
  intro k i a hi hk ha
  obtain ⟨k, rfl⟩ : ∃ m, k = m + 1 := ⟨k - 1, by omega⟩
  obtain ⟨e, hx⟩ := rd_unats h (show i < l.length by omega)
  simp only [bits_Width.l0]
  have e2 : wrap64 ((i : Int) + 1) = ((i + 1 : Nat) : Int) := by rw [w64 (by omega) (by omega)]; omega
  have hil : i < (unats l).length := by rw [unats_len]; omega
  have e3 : (unats l).drop i = (unats l).getD i 0 :: (unats l).drop (i + 1) := by
   rw [List.drop_eq_getElem_cons hil, List.getD_eq_getElem?_getD, List.getElem?_eq_getElem hil]; rfl
  rw [if_pos (by omega), if_pos (by omega), if_pos (by omega), e, e2, Go.u64_or_nat _ _ ha hx, ih k (i + 1) _ (by omega) (by omega) (or_lt (w := 64) |>.2 ⟨ha, hx⟩), e3]
  rfl
theorem bits_Pack.wid {l : List Int} {k : Nat} (hl : l.length ≤ 17592186044416) (h : U64 l) (hk : l.length + 1 < k) : bits_Width.f k l = some ((wd (unats l) : Nat) : Int) := by
 unfold bits_Width.f
 exact bits_Pack.wid0 hl h l.length k 0 0 (by omega) (by omega) (by omega)
set_option maxHeartbeats 1000000 in
set_option maxRecDepth 100000 in
theorem bits_Pack.w1 (A0 : Option Addr) (c0 : Nat) (l0 : List Int) (a1 : Int) (w : World) (h : a1 < 0 ∨ 64 < a1) :
  Calls Try.prog 61 #[.slice A0 l0.length c0, .int .i64 a1] w fun e w' => e = .returned (.tuple #[.string ⟨#[]⟩, .int .i64 1]) ∧ Below w.heap.size w w' := by
 by_cases c : a1 < 0
 ·have d1 : decide (a1 < 0) = true := decide_eq_true c
  clear h c
  go_enter Try.func61, Try.ntmps61
  go_wp2
  go_ret2
  exact ⟨rfl, Below.refl _ _⟩
 ·have d1 : decide (a1 < 0) = false := decide_eq_false c
  have d2 : decide (64 < a1) = true := decide_eq_true (by omega)
  clear h c
  go_enter Try.func61, Try.ntmps61
  go_wp2
  go_ret2
  exact ⟨rfl, Below.refl _ _⟩
set_option maxHeartbeats 1000000 in
set_option maxRecDepth 100000 in
theorem bits_Pack.w2 (A0 : Option Addr) (c0 : Nat) (l0 : List Int) (a1 : Int) (w : World) (hr0 : Kd.C (Kd.int .u64) w A0 l0.length l0) (hc0 : l0.length ≤ c0) (h1 : ¬ a1 < 0) (h2 : ¬ 64 < a1) (k : Nat) (W : Int) (hW : bits_Width.f k l0 = some W) (h3 : a1 < W) :
  Calls Try.prog 61 #[.slice A0 l0.length c0, .int .i64 a1] w fun e w' => e = .returned (.tuple #[.string ⟨#[]⟩, .int .i64 4]) ∧ Below w.heap.size w w' := by
 have d1 : decide (a1 < 0) = false := decide_eq_false h1
 have d2 : decide (64 < a1) = false := decide_eq_false h2
 have d3 : decide (a1 < W) = true := decide_eq_true h3
 have HR := Aside0.mk hr0; have HC := Aside0.mk hc0; have HW := Aside0.mk hW
 clear h1 h2 h3 hr0 hc0 hW
 go_enter Try.func61, Try.ntmps61
 go_wp2_with fail
 refine (bits_Width.calls k A0 c0 l0 W _ HR.out HC.out HW.out).mono ?_; rintro e w1 ⟨rfl, ⟨nd, rfl⟩⟩
 go_wp2
 go_ret2
 exact ⟨rfl, pw_below_drewN (Below.refl _ _) _⟩
set_option maxHeartbeats 4000000 in
set_option maxRecDepth 100000 in
theorem bits_Pack.w3 (A0 : Option Addr) (c0 : Nat) (l0 : List Int) (q : Nat) (w : World) (hr0 : Kd.C (Kd.int .u64) w A0 l0.length l0) (hc0 : l0.length ≤ c0) (hq : q ≤ 64) (hU : U64 l0) (hl : l0.length ≤ 17592186043904) (hwd : wd (unats l0) ≤ q) :
  Calls Try.prog 61 #[.slice A0 l0.length c0, .int .i64 (q : Int)] w fun e w' => e = .returned (.tuple #[.string (strOfNums (ints (pk q (unats l0)))), .int .i64 0]) ∧ Below w.heap.size w w' := by
 have hW := bits_Pack.wid (k := l0.length + 2) (by omega) hU (by omega)
 obtain ⟨W, hWW⟩ : ∃ W, wd (unats l0) = W := ⟨_, rfl⟩
 have hlt : ∀ x ∈ unats l0, x < 2 ^ q := wd_le.1 hwd
 rw [hWW] at hW hwd
 have d1 : decide ((q : Int) < 0) = false := decide_eq_false (by omega)
 have d2 : decide (64 < (q : Int)) = false := decide_eq_false (by omega)
 have d3 : decide ((q : Int) < (W : Int)) = false := decide_eq_false (by omega)
 have d4 : decide (q < W) = false := decide_eq_false (by omega)
 have d5 : decide (64 < q) = false := decide_eq_false (by omega)
 have HR := Aside0.mk hr0; have HC := Aside0.mk hc0; have HW := Aside0.mk hW; have HU := Aside0.mk hU; have HLT := Aside0.mk hlt
 clear hWW hr0 hc0 hW hU hlt hwd
 go_enter Try.func61, Try.ntmps61
 go_wp2_with fail
 refine (bits_Width.calls (l0.length + 2) A0 c0 l0 _ _ HR.out HC.out HW.out).mono ?_; rintro e w1 ⟨rfl, ⟨nd, rfl⟩⟩
 go_wp2_with fail
 have hnew : WR w ((w.drewN nd).alloc (.cells #[.slice none 0 0, .int .i64 0] 92)) w.heap.size (ints (wb (val (2 ^ q) ((unats l0).take 0)) (0 * q))) (0 * q) := by
  refine ⟨.slice none 0 0, ?_, Nat.le_refl _, ?_⟩
  ·rw [Nat.zero_mul]; exact heap_alloc_new (w.drewN nd) _
  ·rw [Nat.zero_mul]; exact Kd.R_nil _ _ _ _ _
 have hbw : Below w.heap.size w ((w.drewN nd).alloc (.cells #[.slice none 0 0, .int .i64 0] 92)) := below_alloc (pw_below_drewN (Below.refl _ _) _) _
 have HN := Aside0.mk hnew; have HB := Aside0.mk hbw
 clear hnew hbw
 go_loopg [25] l0.length (fun gq s25 wx => ∃ i : Nat, i ≤ l0.length ∧ gq = l0.length - i ∧ s25 = .int .i64 (i : Int) ∧ Aside0 (WR w wx w.heap.size (ints (wb (val (2 ^ q) ((unats l0).take i)) (i * q))) (i * q)) ∧ Aside0 (Below w.heap.size w wx))
 case atStart => exact ⟨0, by omega, by omega, rfl, HN, HB⟩
 case round =>
  clear HN HB
  obtain ⟨i, hi, rfl, rfl, HN, HB⟩ := hrel
  by_cases hlt : i < l0.length
  ·obtain ⟨g1, hg1⟩ : ∃ g1, l0.length - i = g1 + 1 := ⟨l0.length - i - 1, by omega⟩
   have k2 : decide ((i : Int) < (l0.length : Int)) = true := decide_eq_true (by omega)
   have k2' : decide (i < l0.length) = true := decide_eq_true hlt
   obtain ⟨ad, hA, hcell⟩ := Kd.at_int HR.out (i : Int) (by omega) (by omega)
   obtain ⟨hx1, hx2⟩ := rd_unats HU.out hlt
   have htk := take_unats (l := l0) hlt
   have hxq : (unats l0).getD i 0 < 2 ^ q := by
    have hil : i < (unats l0).length := by rw [unats_len]; exact hlt
    rw [List.getD_eq_getElem?_getD, List.getElem?_eq_getElem hil]; exact HLT.out _ (List.getElem_mem hil)
   have hvn := val_next (l := unats l0) (i := i) (by rw [unats_len]; omega) hxq
   have hsm := val_take_lt (l := unats l0) (i := i) HLT.out (by rw [unats_len]; omega)
   rw [hx1, Int.toNat_natCast] at hcell
   rw [← htk] at hvn
   cases hA
   replace hcell := (HB.out.cell (World.block_lt_of_cell? w _ hcell)).trans hcell
   obtain ⟨x, hxx⟩ : ∃ x, (unats l0).getD i 0 = x := ⟨_, rfl⟩
   rw [hxx] at hcell hx2 hvn
   have i1 : (0 : Int) ≤ (i : Int) := by omega
   have i2 : (i : Int) < (l0.length : Int) := by omega
   replace i1 := eq_true i1; replace i2 := eq_true i2
   have hmul : i * q + q = (i + 1) * q := by rw [Nat.succ_mul]
   have hbnd : i * q + q ≤ 1125899906842560 := by
    have : (i + 1) * q ≤ 17592186043904 * 64 := Nat.mul_le_mul (by omega) hq
    omega
   have HV := Aside0.mk hvn; have HS := Aside0.mk hsm; have HM := Aside0.mk hmul; have HBN := Aside0.mk hbnd; have HX := Aside0.mk hx2
   clear hvn hsm hmul hbnd hx1 hxx hxq htk hx2
   have HLT2 := Aside0.mk hlt; clear hlt
   go_wp2_with fail
   refine (put_calls (w0 := w) x q HS.out HX.out hq HBN.out HN.out HB.out).mono ?_; rintro e w2 ⟨rfl, hw2, hb2⟩
   rw [HV.out, HM.out] at hw2
   have HN2 := Aside0.mk hw2; have HB2 := Aside0.mk hb2
   clear hw2 hb2 HN HB
   go_wp2
   go_roundg g1
   case measure => omega
   case rel => exact ⟨i + 1, by have := HLT2.out; omega, by omega, by go_num, HN2, HB2⟩
  ·have e : i = l0.length := by omega
   have k2 : decide ((i : Int) < (l0.length : Int)) = false := decide_eq_false (by omega)
   have k2' : decide (i < l0.length) = false := decide_eq_false hlt
   obtain ⟨v, h1, h2, ho⟩ := HN.out
   have hcv := own_string (P := Try.prog) Try.underlying38 Try.underlying5 Try.underlying9 (Kd.own_of_R ho)
   have c0 : wr.cell? ⟨w.heap.size, 0, none⟩ = some v := (blk_cell h1 0).trans rfl
   have HE := Aside0.mk e
   clear hlt e h1 h2 ho hi
   go_wp2
   go_ret2
   refine ⟨?_, HB.out⟩
   have e := HE.out
   subst e
   rw [pk_wb, unats_len, List.take_of_length_le (by rw [unats_len]; exact Nat.le_refl _)]
   rfl
def bits_Pack.f (l0 : List Int) (a1 : Int) : Option (ByteArray × Int) :=
 if l0.length ≤ 17592186043904 ∧ U64 l0 then some (if a1 < 0 ∨ 64 < a1 then (⟨#[]⟩, 1) else if ((wd (unats l0) : Nat) : Int) ≤ a1 then (strOfNums (ints (pk a1.toNat (unats l0))), 0) else (⟨#[]⟩, 4)) else none
theorem bits_Pack.calls (A0 : Option Addr) (c0 : Nat) (l0 : List Int) (a1 : Int) (r1 : ByteArray) (r2 : Int) (w : World) (hr0 : Kd.C (Kd.int .u64) w A0 l0.length l0) (hc0 : l0.length ≤ c0) (h : bits_Pack.f l0 a1 = some (r1, r2)) :
  Calls Try.prog 61 #[.slice A0 l0.length c0, .int .i64 a1] w fun e w' => e = .returned (.tuple #[.string r1, .int .i64 r2]) ∧ Below w.heap.size w w' := by
 unfold bits_Pack.f at h
 split at h
 ·rename_i hU
  obtain ⟨hl, hU⟩ := hU
  have h := Option.some.inj h
  by_cases c : a1 < 0 ∨ 64 < a1
  ·rw [if_pos c] at h
   injection h with h1 h2
   subst h1 h2
   exact bits_Pack.w1 A0 c0 l0 a1 w c
  ·rw [if_neg c] at h
   obtain ⟨q, rfl⟩ : ∃ q : Nat, a1 = (q : Int) := ⟨a1.toNat, by omega⟩
   by_cases c2 : ((wd (unats l0) : Nat) : Int) ≤ (q : Int)
   ·rw [if_pos c2, Int.toNat_natCast] at h
    injection h with h1 h2
    subst h1 h2
    exact bits_Pack.w3 A0 c0 l0 q w hr0 hc0 (by omega) hU hl (by omega)
   ·rw [if_neg c2] at h
    injection h with h1 h2
    subst h1 h2
    exact bits_Pack.w2 A0 c0 l0 q w hr0 hc0 (by omega) (by omega) (l0.length + 2) _ (bits_Pack.wid (by omega) hU (by omega)) (by omega)
 ·exact absurd h (by simp)
end Go.Proofs.Ytgeddoklmcjdcaa.G
namespace Go.Proofs.Ytgeddoklmcjdcaa.G
open Go.RowKit Go.Proofs.YtgeddoklmcjdcaaQ Go.Proofs.YtgeddoklmcjdcaaW.PrintWords Go.Proofs.YtgeddoklmcjdcaaW.PrintLast Go.Proofs.YtgeddoklmcjdcaaW.PrintMore
attribute [local go_sem] max2_int min2_int max_two min_two max_three min_three max_four min_four   -- for this text's walks alone
set_option linter.unusedVariables false
set_option linter.unusedSimpArgs false
def ints_writePacked.f (k : Nat) (l0 : List Int) (l1 : List Int) : Option (List Int) := if (l1.length : Int) = 0 then (some l0) else ((slices_Min_int64_int64.f k l1).bind fun t233 => ((ints_above.f k l1 t233).bind fun t234 => ((bits_Width.f k t234).bind fun t237 => ((bits_Pack.f t234 t237).bind fun bt238 => ((tally_Int.f k l0 t233).bind fun t240 => (if t240.length < 140737488355328 then ((some (t240 ++ [(t237) % 256] : List Int)).bind fun y243 => (if y243.length + bt238.1.size < 140737488355328 then (some (y243 ++ bytesOf bt238.1)) else (none))) else (none)))))))
theorem ints_writePacked.mono : ∀ a0 a1 k, LeO (ints_writePacked.f k a0 a1) (ints_writePacked.f (k + 1) a0 a1) := by
 intro a0 a1 k
 unfold ints_writePacked.f
 repeat' first
   | (with_reducible exact bits_Width.mono _ _)
   | (with_reducible exact ints_above.mono _ _ _)
   | (with_reducible exact slices_Min_int64_int64.mono _ _)
   | (with_reducible exact tally_Int.mono _ _ _)
   | (with_reducible exact LeO.refl _)
   | (with_reducible exact LeO.none _)
   | (with_reducible refine LeO.ite ?_ ?_)
   | (with_reducible refine LeO.bind ?_ (fun _ => ?_))
   | exact bits_Width.mono _ _
   | exact ints_above.mono _ _ _
   | exact slices_Min_int64_int64.mono _ _
   | exact tally_Int.mono _ _ _
   | exact LeO.none _
   | refine LeO.ite ?_ ?_
   | refine LeO.bind ?_ (fun _ => ?_)
set_option maxHeartbeats 8000000 in
set_option maxRecDepth 100000 in
theorem ints_writePacked.calls (k : Nat) (P0_ : Nat → Prop) (u9000_ : Value) (l0 : List Int) (A1 : Option Addr) (c1 : Nat) (l1 : List Int) (r : List Int) (w0 w : World) (hB : Below w0.heap.size w0 w) (ho0 : Kd.R (Kd.int .u8) 5 w w0.heap.size P0_ u9000_ l0) (hr1 : ∀ W_, Kept w W_ (fun k_ => P0_ k_) → Kd.C (Kd.int .i64) W_ A1 l1.length l1) (hc1 : l1.length ≤ c1) (h : ints_writePacked.f k l0 l1 = some r) :
  Calls Try.prog 40 #[u9000_, .slice A1 l1.length c1] w fun e w' => ∃ v0_ : Value, e = .returned (v0_) ∧ Kd.R (Kd.int .u8) 5 w' w0.heap.size (fun k_ => (P0_ k_ ∨ w.heap.size ≤ k_)) v0_ r ∧ Below w0.heap.size w0 w' ∧ Kept w w' (fun k_ => P0_ k_) := by
 have HO0 := Aside0.mk (show Kd.R (Kd.int .u8) 5 w w0.heap.size (fun k_ => (P0_ k_ ∨ w.heap.size ≤ k_)) u9000_ l0 from Kd.R_mono ho0 (fun k_ hk => (.inl hk)))
 have HR1 := Aside0.mk hr1
 have HC1 := Aside0.mk hc1
 clear hr1 hc1
 have HK := Aside0.mk (Kept.refl w (fun k_ => P0_ k_))
 have HW0 := Aside0.mk hB.size
 have HB := Aside0.mk hB
 clear hB
 have H : (if (l1.length : Int) = 0 then (some l0) else ((slices_Min_int64_int64.f k l1).bind fun t233 => ((ints_above.f k l1 t233).bind fun t234 => ((bits_Width.f k t234).bind fun t237 => ((bits_Pack.f t234 t237).bind fun bt238 => ((tally_Int.f k l0 t233).bind fun t240 => (if t240.length < 140737488355328 then ((some (t240 ++ [(t237) % 256] : List Int)).bind fun y243 => (if y243.length + bt238.1.size < 140737488355328 then (some (y243 ++ bytesOf bt238.1)) else (none))) else (none)))))))) = some r := h
 clear h
 by_cases c3 : (l1.length : Int) = 0
 ·rw [if_pos c3] at H
  have c3b0 : ((l1.length : Int) == 0) = true := beq_iff_eq.mpr c3
  have c3b1 : ((l1.length : Int) != 0) = false := bne_eq_false_iff_eq.mpr c3
  clear c3
  obtain rfl := Option.some.inj H
  go_enter Try.func40, Try.ntmps40
  go_wp2
  go_ret
  exact ⟨_, z5_, by (with_reducible repeat (first | apply Kd.R_alloc | apply Kd.R_drewN | apply Kd.R_drew)); exact HO0.out, z0_, z4_⟩
 ·rw [if_neg c3] at H
  have c3b0 : ((l1.length : Int) == 0) = false := beq_eq_false_iff_ne.mpr c3
  have c3b1 : ((l1.length : Int) != 0) = true := bne_iff_ne.mpr c3
  have c3b2 : ¬ (l1 = []) := fun h_ => c3 (by rw [h_]; rfl)
  replace H := Option.bind_eq_some_iff.mp H
  obtain ⟨t233, A40, H⟩ := H
  replace H : ((ints_above.f k l1 t233).bind fun t234 => ((bits_Width.f k t234).bind fun t237 => ((bits_Pack.f t234 t237).bind fun bt238 => ((tally_Int.f k l0 t233).bind fun t240 => (if t240.length < 140737488355328 then ((some (t240 ++ [(t237) % 256] : List Int)).bind fun y243 => (if y243.length + bt238.1.size < 140737488355328 then (some (y243 ++ bytesOf bt238.1)) else (none))) else (none)))))) = some r := H
  have A4 := Aside0.mk A40
  clear A40
  replace H := Option.bind_eq_some_iff.mp H
  obtain ⟨t234, A50, H⟩ := H
  replace H : ((bits_Width.f k t234).bind fun t237 => ((bits_Pack.f t234 t237).bind fun bt238 => ((tally_Int.f k l0 t233).bind fun t240 => (if t240.length < 140737488355328 then ((some (t240 ++ [(t237) % 256] : List Int)).bind fun y243 => (if y243.length + bt238.1.size < 140737488355328 then (some (y243 ++ bytesOf bt238.1)) else (none))) else (none))))) = some r := H
  have A5 := Aside0.mk A50
  clear A50
  replace H := Option.bind_eq_some_iff.mp H
  obtain ⟨t237, A60, H⟩ := H
  replace H : ((bits_Pack.f t234 t237).bind fun bt238 => ((tally_Int.f k l0 t233).bind fun t240 => (if t240.length < 140737488355328 then ((some (t240 ++ [(t237) % 256] : List Int)).bind fun y243 => (if y243.length + bt238.1.size < 140737488355328 then (some (y243 ++ bytesOf bt238.1)) else (none))) else (none)))) = some r := H
  have A6 := Aside0.mk A60
  clear A60
  replace H := Option.bind_eq_some_iff.mp H
  obtain ⟨⟨t238, t239⟩, A70, H⟩ := H
  replace H : ((tally_Int.f k l0 t233).bind fun t240 => (if t240.length < 140737488355328 then ((some (t240 ++ [(t237) % 256] : List Int)).bind fun y243 => (if y243.length + t238.size < 140737488355328 then (some (y243 ++ bytesOf t238)) else (none))) else (none))) = some r := H
  have A7 := Aside0.mk A70
  clear A70
  replace H := Option.bind_eq_some_iff.mp H
  obtain ⟨t240, A80, H⟩ := H
  replace H : (if t240.length < 140737488355328 then ((some (t240 ++ [(t237) % 256] : List Int)).bind fun y243 => (if y243.length + t238.size < 140737488355328 then (some (y243 ++ bytesOf t238)) else (none))) else (none)) = some r := H
  have A8 := Aside0.mk A80
  clear A80
  by_cases c9 : t240.length < 140737488355328
  ·rw [if_pos c9] at H
   have LMc9 := Aside0.mk c9
   clear c9
   obtain ⟨y243, hy243⟩ : ∃ y_ : List Int, y_ = (t240 ++ [(t237) % 256]) := ⟨_, rfl⟩
   replace H : (if y243.length + t238.size < 140737488355328 then (some (y243 ++ bytesOf t238)) else (none)) = some r := by first | (rw [hy243]; with_reducible exact H) | (have H2_ := (Option.bind_some _ _).symm.trans H; rw [hy243]; with_reducible exact H2_) | (have H2_ := (Option.bind_some _ _).symm.trans H; with_reducible exact H2_) | with_reducible exact H | (rw [hy243]; exact H) | exact H
   have Ny243 := Aside0.mk hy243
   clear hy243
   by_cases c10 : y243.length + t238.size < 140737488355328
   ·rw [if_pos c10] at H
    have LMc10 := Aside0.mk c10
    clear c10
    obtain ⟨y246, hy246⟩ : ∃ y_ : List Int, y_ = (y243 ++ bytesOf t238) := ⟨_, rfl⟩
    replace H : (some y246) = some r := by first | (rw [hy246]; with_reducible exact H) | (have H2_ := (Option.bind_some _ _).symm.trans H; rw [hy246]; with_reducible exact H2_) | (have H2_ := (Option.bind_some _ _).symm.trans H; with_reducible exact H2_) | with_reducible exact H | (rw [hy246]; exact H) | exact H
    have Ny246 := Aside0.mk hy246
    clear hy246
    obtain rfl := Option.some.inj H
    go_enter Try.func40, Try.ntmps40
    go_wp2_with (first | ((with_reducible refine gate_callee (f := 58) rfl ?_); refine goesL_ (some 15) rfl rfl Try.func58 (by kernel_rfl) rfl #[.slice A1 l1.length c1] rfl (by (try simp only [List.map_toArray, List.map_cons, List.map_nil]); first | done | rfl | (simp only [List.length_drop, List.length_take]; rfl) | (go_simp; simp [IntKind.wrap, IntKind.bits, IntKind.signed]; omega)) ?_; (with_reducible refine (slices_Min_int64_int64.calls k _ _ l1 t233 _ ?side1 ?side2 A4.out).mono ?_); (case side1 => exact Kd.C_kept_now HR1.out z4_); (case side2 => exact HC1.out); rintro e w11 ⟨rfl, hb⟩; refine ⟨_, rfl, ?_⟩; have n0_ := Aside0.mk (Kd.R_below (by (with_reducible repeat (first | apply Kd.R_alloc | apply Kd.R_drewN | apply Kd.R_drew)); exact HO0.out) hb); have n1_ := Aside0.mk (Kept.below (S := (fun k_ => P0_ k_)) z4_ hb); have n2_ := Aside0.mk (below_step z0_ hb); clear HO0; clear HK; clear HB; have HO0 := n0_; have HK := n1_; have HB := n2_; clear n0_ n1_ n2_; (try clear hb); (try clear hb2); (try clear hk); (try clear hi)) | ((with_reducible refine gate_callee (f := 59) rfl ?_); refine goesL_ (some 18) rfl rfl Try.func59 (by kernel_rfl) rfl #[.slice A1 l1.length c1, .int .i64 t233] rfl (by (try simp only [List.map_toArray, List.map_cons, List.map_nil]); first | done | rfl | (simp only [List.length_drop, List.length_take]; rfl) | (go_simp; simp [IntKind.wrap, IntKind.bits, IntKind.signed]; omega)) ?_; (with_reducible refine (ints_above.calls k _ _ l1 t233 t234 _ ?side1 ?side2 A5.out).mono ?_); (case side1 => exact Kd.C_kept_now HR1.out z4_); (case side2 => exact HC1.out); rintro e w12 ⟨v235, rfl, ho0, hb⟩; refine ⟨_, rfl, ?_⟩; have n0_ := Aside0.mk (Kd.R_below (by (with_reducible repeat (first | apply Kd.R_alloc | apply Kd.R_drewN | apply Kd.R_drew)); exact HO0.out) hb); have n1_ := Aside0.mk (Kd.R_lower (Kd.R_newM (M := fun k_ => (P0_ k_ ∨ w.heap.size ≤ k_)) ho0 (by first | exact HK.out.1 | exact (show Kept w _ (fun k_ => P0_ k_) from z4_).1) (fun k_ h_ => .inr h_)) (below_size z0_)); have n2_ := Aside0.mk (Kept.below (S := (fun k_ => P0_ k_)) z4_ hb); have n3_ := Aside0.mk (below_step z0_ hb); clear HO0; clear HK; clear HB; have HO0 := n0_; have HO236 := n1_; have HK := n2_; have HB := n3_; clear n0_ n1_ n2_ n3_; (try clear hb); (try clear hb2); (try clear hk); (try clear hi); (try clear ho0); obtain ⟨Ao13, co13, eo13⟩ := Kd.R_slice HO236.out; subst eo13) | ((with_reducible refine gate_callee (f := 60) rfl ?_); refine goesL_ (some 20) rfl rfl Try.func60 (by kernel_rfl) rfl #[.slice Ao13 t234.length co13] rfl (by (try simp only [List.map_toArray, List.map_cons, List.map_nil]); first | done | rfl | (simp only [List.length_drop, List.length_take]; rfl) | (go_simp; simp [IntKind.wrap, IntKind.bits, IntKind.signed]; omega)) ?_; (with_reducible refine (bits_Width.calls k _ _ t234 t237 _ ?side1 ?side2 A6.out).mono ?_); (case side1 => repeat (first | exact (Kd.R_reads' HO236.out).2.2 | (with_reducible refine Kd.C_alloc ?_ _) | (with_reducible refine Kd.C_drewN ?_ _) | (with_reducible refine Kd.C_drew ?_))); (case side2 => exact (Kd.R_reads' HO236.out).2.1); rintro e w' ⟨rfl, ⟨nd, rfl⟩⟩; refine ⟨_, rfl, ?_⟩) | ((with_reducible refine gate_callee (f := 61) rfl ?_); refine goesL_ (some 24) rfl rfl Try.func61 (by kernel_rfl) rfl #[.slice Ao13 t234.length co13, .int .i64 t237] rfl (by (try simp only [List.map_toArray, List.map_cons, List.map_nil]); first | done | rfl | (simp only [List.length_drop, List.length_take]; rfl) | (go_simp; simp [IntKind.wrap, IntKind.bits, IntKind.signed]; omega)) ?_; (with_reducible refine (bits_Pack.calls _ _ t234 t237 t238 t239 _ ?side1 ?side2 A7.out).mono ?_); (case side1 => repeat (first | exact (Kd.R_reads' HO236.out).2.2 | (with_reducible refine Kd.C_alloc ?_ _) | (with_reducible refine Kd.C_drewN ?_ _) | (with_reducible refine Kd.C_drew ?_))); (case side2 => exact (Kd.R_reads' HO236.out).2.1); rintro e w14 ⟨rfl, hb⟩; refine ⟨_, rfl, ?_⟩; have n0_ := Aside0.mk (Kd.R_below (by (with_reducible repeat (first | apply Kd.R_alloc | apply Kd.R_drewN | apply Kd.R_drew)); exact HO0.out) hb); have n1_ := Aside0.mk (Kd.R_below (by (with_reducible repeat (first | apply Kd.R_alloc | apply Kd.R_drewN | apply Kd.R_drew)); exact HO236.out) hb); have n2_ := Aside0.mk (Kept.below (S := (fun k_ => P0_ k_)) z4_ hb); have n3_ := Aside0.mk (below_step z0_ hb); clear HO0; clear HO236; clear HK; clear HB; have HO0 := n0_; have HO236 := n1_; have HK := n2_; have HB := n3_; clear n0_ n1_ n2_ n3_; (try clear hb); (try clear hb2); (try clear hk); (try clear hi); obtain ⟨Ao15, co15, eo15⟩ := Kd.R_slice HO0.out; subst eo15) | ((with_reducible refine gate_callee (f := 55) rfl ?_); refine goesL_ (some 29) rfl rfl Try.func55 (by kernel_rfl) rfl #[.slice Ao15 l0.length co15, .int .i64 t233] rfl (by (try simp only [List.map_toArray, List.map_cons, List.map_nil]); first | done | rfl | (simp only [List.length_drop, List.length_take]; rfl) | (go_simp; simp [IntKind.wrap, IntKind.bits, IntKind.signed]; omega)) ?_; (with_reducible refine (tally_Int.calls k (fun k_ => some k_ = (.slice Ao15 l0.length co15 : Value).ownBlock) (.slice Ao15 l0.length co15) l0 t233 t240 w0 _ ?side1 ?side2 A8.out).mono ?_); (case side1 => repeat (first | (with_reducible first | exact HB.out | apply below_alloc | apply pw_below_drewN | apply below_drew1) | exact HB.out)); (case side2 => exact Kd.R_tight rfl HO0.out); rintro e w16 ⟨v241, rfl, ho0, hb, hkp⟩; refine ⟨_, rfl, ?_⟩; have n0_ := Aside0.mk (Kd.R_mono (ok' := fun k_ => (P0_ k_ ∨ w.heap.size ≤ k_)) (Kd.R_keptB ((Kd.R_apart' HO236.out (Kd.R_typed HO0.out) (by decide))) hkp (fun k_ hk_ hs_ => (hk_.2) hs_)) (fun k_ hk_ => hk_.1.1.1)); have n1_ := Aside0.mk (Kd.R_mono (ok' := fun k_ => (P0_ k_ ∨ w.heap.size ≤ k_)) ho0 (fun k_ hk_ => Or.elim hk_ (fun hs_ => (HO0.out.1 k_ (hs_).symm)) (fun hn_ => (.inr (Nat.le_trans (by first | exact HK.out.1 | exact (show Kept w _ (fun k_ => P0_ k_) from z4_).1) hn_))))); have n2_ := Aside0.mk (Kept.then_ (S := (fun k_ => P0_ k_)) z4_ hkp (fun k_ hs_ => (fun e_ => (HO0.out.1 k_ e_.symm)) hs_)); have n3_ := Aside0.mk (hb); clear HO236; clear HK; clear HB; clear HO0; have HO236 := n0_; have HO242 := n1_; have HK := n2_; have HB := n3_; clear n0_ n1_ n2_ n3_; (try clear hb); (try clear hkp); (try clear ho0)) | ((with_reducible refine gate_builtin (b := .append) (xs := #[.tmp 29, .tmp 32]) rfl ?_); at_builtin; refine Kd.R_append (Kd.int .u8) (w0 := w0) w0.heap.size rfl (.tmp 29) (.tmp 32) 38 5 (.int .u8 0) 1 rfl Try.underlying38 info5 rfl (by decide) (by omega) v241 t240 ((t237) % 256) [.int .u8 ((t237) % 256)] (fun k_ => (P0_ k_ ∨ w.heap.size ≤ k_)) (fun _ => False) rfl rfl ?aP (fun _ hk => hk.elim) ?aF ?aO ?aB ?aS ?aL ?_; (case aP => exact rfl); (case aB => exact z0_); (case aF => exact (fun k_ hk => (.inr (Nat.le_trans (by first | exact HK.out.1 | exact (show Kept w _ (fun k_ => P0_ k_) from z4_).1) hk)))); (case aO => exact (by (with_reducible repeat (first | apply Kd.R_alloc | apply Kd.R_drewN | apply Kd.R_drew)); exact HO242.out)); (case aS => exact (below_size z0_)); (case aL => have := LMc9.out; omega); intro v244 w17 ho hb hg hat; rw [← Ny243.out] at ho; have n0_ := Aside0.mk (Kd.R_over' (by (with_reducible repeat (first | apply Kd.R_alloc | apply Kd.R_drewN | apply Kd.R_drew)); exact HO236.out) (Kd.R_typed (by (with_reducible repeat (first | apply Kd.R_alloc | apply Kd.R_drewN | apply Kd.R_drew)); exact HO242.out)) (by decide) hg); have n1_ := Aside0.mk (hb); have n2_ := Aside0.mk (Kept.of_grown (S := (fun k_ => P0_ k_)) hg z4_ (fun k_ e_ => (HO242.out.1 k_ e_))); have n3_ := Aside0.mk (ho); clear HO236; clear HB; clear HK; clear HO242; have HO236 := n0_; have HB := n1_; have HK := n2_; have HO245 := n3_; clear n0_ n1_ n2_ n3_; clear ho hb hg hat) | (at_builtin; refine R_append_str (w0 := w0) w0.heap.size rfl (.tmp 33) _ 38 9 5 rfl Try.underlying38 Try.underlying9 info5 v244 y243 t238 (fun k_ => (P0_ k_ ∨ w.heap.size ≤ k_)) rfl rfl ?aF ?aO ?aB ?aS ?aL ?_; (case aB => exact z0_); (case aF => exact (fun k_ hk => (.inr (Nat.le_trans (by first | exact HK.out.1 | exact (show Kept w _ (fun k_ => P0_ k_) from z4_).1) hk)))); (case aO => exact (by (with_reducible repeat (first | apply Kd.R_alloc | apply Kd.R_drewN | apply Kd.R_drew)); exact HO245.out)); (case aS => exact (below_size z0_)); (case aL => have := LMc10.out; omega); intro v247 w18 ho hb hg hat; rw [← Ny246.out] at ho; have n0_ := Aside0.mk (Kd.R_over' (by (with_reducible repeat (first | apply Kd.R_alloc | apply Kd.R_drewN | apply Kd.R_drew)); exact HO236.out) (Kd.R_typed (by (with_reducible repeat (first | apply Kd.R_alloc | apply Kd.R_drewN | apply Kd.R_drew)); exact HO245.out)) (by decide) hg); have n1_ := Aside0.mk (hb); have n2_ := Aside0.mk (Kept.of_grown (S := (fun k_ => P0_ k_)) hg z4_ (fun k_ e_ => (HO245.out.1 k_ e_))); have n3_ := Aside0.mk (ho); clear HO236; clear HB; clear HK; clear HO245; have HO236 := n0_; have HB := n1_; have HK := n2_; have HO248 := n3_; clear n0_ n1_ n2_ n3_; clear ho hb hg hat))
    go_ret
    exact ⟨_, z5_, by (with_reducible repeat (first | apply Kd.R_alloc | apply Kd.R_drewN | apply Kd.R_drew)); exact HO248.out, z0_, z4_⟩
   ·rw [if_neg c10] at H
    exact absurd H (by simp)
  ·rw [if_neg c9] at H
   exact absurd H (by simp)
end Go.Proofs.Ytgeddoklmcjdcaa.G
namespace Go.Proofs.Ytgeddoklmcjdcaa.G
open Go.RowKit Go.Proofs.YtgeddoklmcjdcaaQ Go.Proofs.YtgeddoklmcjdcaaW.PrintWords Go.Proofs.YtgeddoklmcjdcaaW.PrintLast Go.Proofs.YtgeddoklmcjdcaaW.PrintMore
attribute [local go_sem] max2_int min2_int max_two min_two max_three min_three max_four min_four   -- for this text's walks alone
set_option linter.unusedVariables false
set_option linter.unusedSimpArgs false
section
variable {P : Program} {ops : Array Oper} {Q : Exit → Act → World → Prop}
theorem goesV_ {oi : Oper} {N : Option Tmp} {a : Act} {w : World} {K : Act → World → Prop} {f : FuncId} {fn : Func} {o : Operand} {ao : Array Operand} {ts : Array TypeId} (hf : P.funcs[f]? = some fn) (hname : (fn.name == "runtime.NumGoroutine") = false) (hb : fn.body.isSome = true) (args : Array Value)
  (hw : Region.wanted oi (yielded ops a.tmps) = true) (hN : oi.dst = N) (hop : oi.op = .call { callee := .value o, args := ao, argTypes := ts }) (ho : a.eval o = .func (.func f) #[] #[]) (hargs : ao.map a.eval = args)
  (h : Calls P f args w fun e w' => ∃ v, e = .returned v ∧ K (a.put N v) w') : if Region.wanted oi (yielded ops a.tmps) = true then Oper.wp P oi a w K Q else K (a.put N undef) w := by
 refine call_ f args hw hN ?_ h
 have he := enters_ hf hname hb args w
 unfold execOp
 simp [hop, resolve, Deferred.ofValue, invoke, ho, hargs, he]
end
def ints_With.tab : Array Value := #[.func (.func 34) #[] #[], .func (.func 35) #[] #[], .func (.func 36) #[] #[], .func (.func 37) #[] #[], .func (.func 38) #[] #[], .func (.func 39) #[] #[], .func (.func 40) #[] #[], .func (.func 41) #[] #[]]
def ints_With.Tab (W : World) (b : Nat) : Prop := W.heap[b]? = some (.cells ints_With.tab 42 (0, 0))
theorem ints_With.codecs (w : World) : Calls Try.prog 17 #[] w fun e w' => ∃ b, e = .returned (.slice (some ⟨b, 0, none⟩) 4 4) ∧ ints_With.Tab w' b ∧ w.heap.size ≤ b ∧ Below w.heap.size w w' := by
 go_enter Try.func17, Try.ntmps17
 go_wp2
 go_ret
 exact ⟨w.heap.size, rfl, heap_alloc_new w _, Nat.le_refl _, below_alloc (Below.refl _ _) _⟩
def ints_With.wr (k : Nat) (a1 : Int) (b l : List Int) : Option (List Int) := if a1 = 0 then ints_writePlain.f k b l else if a1 = 1 then ints_writeDelta.f k b l else if a1 = 2 then ints_writeRuns.f k b l else ints_writePacked.f k b l
def ints_With.f (k : Nat) (l0 : List Int) (a1 : Int) : Option (ByteArray × Int) := if a1 < 0 ∨ 4 ≤ a1 then some (⟨#[]⟩, 1) else if 65536 < l0.length then some (⟨#[]⟩, 3) else (tally_Uint.f k [a1] (l0.length : Int)).bind fun b => (ints_With.wr k a1 b l0).bind fun r => some (strOfNums r, 0)
theorem ints_With.mono : ∀ a0 a1 k, LeO (ints_With.f k a0 a1) (ints_With.f (k + 1) a0 a1) := by
 intro a0 a1 k
 unfold ints_With.f ints_With.wr
 refine LeO.ite (LeO.refl _) (LeO.ite (LeO.refl _) (LeO.bind (tally_Uint.mono _ _ k) (fun _ => LeO.bind ?_ (fun _ => LeO.refl _))))
 exact LeO.ite (ints_writePlain.mono _ _ k) (LeO.ite (ints_writeDelta.mono _ _ k) (LeO.ite (ints_writeRuns.mono _ _ k) (ints_writePacked.mono _ _ k)))
def ints_With.ok (w : World) (b : Nat) : Nat → Prop := fun k => w.heap.size ≤ k ∧ k ≠ b
theorem ints_With.row {w W : World} {b n : Nat} {ok : Nat → Prop} {v : Value} {l : List Int} (h : Kd.R (Kd.int .u8) 5 W n ok v l) (hn : w.heap.size ≤ n) (hb : ∀ k, v.ownBlock = some k → k ≠ b) : Kd.R (Kd.int .u8) 5 W w.heap.size (ints_With.ok w b) v l :=
 Kd.R_of_own (own_less (Kd.own_of_R h) hn) (fun k hk => ⟨Nat.le_trans hn (own_base (Kd.own_of_R h) k hk), hb k hk⟩)
theorem ints_With.arg {w W : World} {n : Nat} {A : Option Addr} {l : List Int} (h : Kd.C (Kd.int .i64) w A n l) (hb : Below w.heap.size w W) : Kd.F (Kd.int .i64) W (fun k => k < w.heap.size) A n l := Kd.F_below (Kd.C_F (Kd.heap_int _) h) hb
set_option maxHeartbeats 4000000 in
set_option maxRecDepth 100000 in
theorem ints_With.w1 (A0 : Option Addr) (c0 : Nat) (l0 : List Int) (a1 : Int) (w : World) (h : a1 < 0 ∨ 4 ≤ a1) :
  Calls Try.prog 10 #[.slice A0 l0.length c0, .int .i64 a1] w fun e w' => e = .returned (.tuple #[.string ⟨#[]⟩, .int .i64 1]) ∧ Below w.heap.size w w' := by
 by_cases c : a1 < 0
 ·have d1 : decide (a1 < 0) = true := decide_eq_true c
  clear h c
  go_enter Try.func10, Try.ntmps10
  go_wp2_with fail
  refine (ints_With.codecs _).mono ?_; rintro e w1 ⟨b, rfl, ht, hle, hb⟩
  have HB := Aside0.mk hb; clear ht hle hb
  go_wp2
  go_ret2
  exact ⟨rfl, HB.out⟩
 ·have d1 : decide (a1 < 0) = false := decide_eq_false c
  have d2 : decide (4 ≤ a1) = true := decide_eq_true (by omega)
  clear h c
  go_enter Try.func10, Try.ntmps10
  go_wp2_with fail
  refine (ints_With.codecs _).mono ?_; rintro e w1 ⟨b, rfl, ht, hle, hb⟩
  have HB := Aside0.mk hb; clear ht hle hb
  go_wp2
  go_ret2
  exact ⟨rfl, HB.out⟩
set_option maxHeartbeats 4000000 in
set_option maxRecDepth 100000 in
theorem ints_With.w2 (A0 : Option Addr) (c0 : Nat) (l0 : List Int) (a1 : Int) (w : World) (h0 : 0 ≤ a1) (h1 : a1 < 4) (hl : 65536 < l0.length) :
  Calls Try.prog 10 #[.slice A0 l0.length c0, .int .i64 a1] w fun e w' => e = .returned (.tuple #[.string ⟨#[]⟩, .int .i64 3]) ∧ Below w.heap.size w w' := by
 have d1 : decide (a1 < 0) = false := decide_eq_false (by omega)
 have d2 : decide (4 ≤ a1) = false := decide_eq_false (by omega)
 have d3 : decide ((65536 : Int) < (l0.length : Int)) = true := decide_eq_true (by omega)
 have d4 : decide (65536 < l0.length) = true := decide_eq_true hl
 clear h0 h1 hl
 go_enter Try.func10, Try.ntmps10
 go_wp2_with fail
 refine (ints_With.codecs _).mono ?_; rintro e w1 ⟨b, rfl, ht, hle, hb⟩
 have HB := Aside0.mk hb; clear ht hle hb
 go_wp2
 go_ret2
 exact ⟨rfl, HB.out⟩
def ints_With.T6 : Bool × List (List Nat × List Nat) := (true, [([], []), ([], []), ([0, 1], [0, 1]), ([2], [2]), ([3], [3]), ([], []), ([5], [5]), ([6], [6]), ([], []), ([8], [8]), ([9], [9]), ([7, 10], [7, 10]), ([], []), ([4, 11, 12, 11], [4, 11, 12]), ([13], [13]), ([14, 13, 0, 1, 2, 3, 4, 5, 6, 7, 8, 9, 10, 11, 12, 13, 14], [14]), ([15, 0, 1, 2, 3, 4, 5, 6, 7, 8, 9, 10, 11, 12, 13, 14, 15], [])])
theorem ints_With.tab6 : rtab .any (opsOf Try.f10 6) = ints_With.T6 := by kernel_rfl
set_option maxHeartbeats 4000000 in
set_option maxRecDepth 100000 in
theorem ints_With.walk (k : Nat) (A0 : Option Addr) (c0 : Nat) (l0 : List Int) (j : Nat) (hj : j < 4) (hl : l0.length ≤ 65536) (F : FuncId) (fn : Func) (hf : Try.prog.funcs[F]? = some fn) (hname : (fn.name == "runtime.NumGoroutine") = false) (hbody : fn.body.isSome = true) (hF : ints_With.tab[j * 2]? = some (.func (.func F) #[] #[])) (bu r : List Int) (w : World) (hu : tally_Uint.f k [(j : Int)] (l0.length : Int) = some bu)
  (hh : ∀ (v2 : Value) (W : World) (b : Nat), Kd.R (Kd.int .u8) 5 W w.heap.size (ints_With.ok w b) v2 bu → Below w.heap.size w W → Calls Try.prog F #[v2, .slice A0 l0.length c0] W fun e w' => ∃ v0_ : Value, e = .returned v0_ ∧ Kd.R (Kd.int .u8) 5 w' w.heap.size (fun _ => True) v0_ r ∧ Below w.heap.size w w') :
  Calls Try.prog 10 #[.slice A0 l0.length c0, .int .i64 (j : Int)] w fun e w' => e = .returned (.tuple #[.string (strOfNums r), .int .i64 0]) ∧ Below w.heap.size w w' := by
 have d1 : decide ((j : Int) < 0) = false := decide_eq_false (by omega)
 have d2 : decide ((4 : Int) ≤ (j : Int)) = false := decide_eq_false (by omega)
 have d2' : decide (4 ≤ j) = false := decide_eq_false (by omega)
 have d3 : decide ((65536 : Int) < (l0.length : Int)) = false := decide_eq_false (by omega)
 have d4 : decide (65536 < l0.length) = false := decide_eq_false (by omega)
 have hw8 : IntKind.u8.wrap (j : Int) = (j : Int) := by simp [IntKind.wrap, IntKind.bits, IntKind.signed]; omega
 have hw64 : IntKind.u64.wrap (l0.length : Int) = (l0.length : Int) := by simp [IntKind.wrap, IntKind.bits, IntKind.signed]; omega
 have b0 : (0 : Int) ≤ (j : Int) := by omega
 have b1 : (j : Int) < 4 := by omega
 have b2 : (0 : Int) ≤ (l0.length : Int) := by omega
 have b3 : (l0.length : Int) ≤ 65536 := by omega
 have HU := Aside0.mk hu; have HF := Aside0.mk hF; have HH := Aside0.mk hh; have HJ := Aside0.mk hj; clear hu hF hh hl hj
 go_enter Try.func10, Try.ntmps10
 go_wp2_with fail
 refine (ints_With.codecs _).mono ?_; rintro e w1 ⟨b, rfl, ht, hle, hb⟩
 have HT := Aside0.mk ht; have HB := Aside0.mk hb; have HLE := Aside0.mk hle; clear ht hb hle
 go_wp2_with fail
 refine start_ (n := 17) (S := fun w' => True) (ds := []) (bs_ 17 0) (by kernel_rfl) rfl rfl trivial (fun hHeld => ?_)
 refine with_tab ints_With.tab6 (fun HT_ => ?_)
 replace HT : Aside0 (ints_With.Tab w1.drew b) := ⟨HT.out⟩
 replace HB := Aside0.mk (below_drew HB.out)
 generalize w1.drew = wr at HT HB hHeld ⊢
 refine pA_ 0 (some 21) (bs_ 17 1) HT_ ?_ ?_ ?_ ?_ ?_
 rotate_left; (intro w'; go_simp; with_reducible rfl); rotate_left; (simp only [PT_]; rfl)
 refine pA_ 1 (some 22) (bs_ 17 3) HT_ ?_ ?_ ?_ ?_ ?_
 rotate_left; (intro w'; go_simp; with_reducible rfl); rotate_left; (simp only [PT_]; rfl)
 refine pA_ 2 (some 23) (bs_ 17 7) HT_ ?_ ?_ ?_ ?_ ?_
 rotate_left; (intro w'; go_simp; with_reducible rfl); rotate_left; (simp only [PT_]; rfl)
 refine pA_ 3 (some 24) (bs_ 17 15) HT_ ?_ ?_ ?_ ?_ ?_
 rotate_left; (intro w'; go_simp; with_reducible rfl); rotate_left; (simp only [PT_]; rfl)
 refine pA_ 5 (some 26) (bs_ 17 47) HT_ ?_ ?_ ?_ ?_ ?_
 rotate_left; (intro w'; go_simp; with_reducible rfl); rotate_left; (simp only [PT_]; rfl)
 refine pA_ 6 (some 27) (bs_ 17 111) HT_ ?_ ?_ ?_ ?_ ?_
 rotate_left; (intro w'; go_simp; with_reducible rfl); rotate_left; (simp only [PT_]; rfl)
 refine pA_ 8 (some 29) (bs_ 17 367) HT_ ?_ ?_ ?_ ?_ ?_
 rotate_left; (intro w'; go_simp; with_reducible rfl); rotate_left; (simp only [PT_]; rfl)
 refine pA_ 9 (some 30) (bs_ 17 879) HT_ ?_ ?_ ?_ ?_ ?_
 rotate_left; (intro w'; go_simp; with_reducible rfl); rotate_left; (simp only [PT_]; rfl)
 refine pA_ 10 (some 31) (bs_ 17 1903) HT_ ?_ ?_ ?_ ?_ ?_
 rotate_left; (intro w'; go_simp; with_reducible rfl); rotate_left; (simp only [PT_]; rfl)
 refine pA_ 12 (some 33) (bs_ 17 5999) HT_ ?_ ?_ ?_ ?_ ?_
 rotate_left; (intro w'; go_simp; with_reducible rfl); rotate_left; (simp only [PT_]; rfl)
 refine two_ (i := 4) (j := 7) (Ni := (some 25)) (Nj := (some 28)) (bs_ 17 6015) (bs_ 17 6127) rfl rfl rfl rfl (two_of HT_.out (by kernel_rfl)) (by decide) (by decide) (fun K hK => ?_) (fun K hK => ?_)
 ·skip
  have q0 : wr.cell? ⟨b, j * 2, none⟩ = some (.func (.func F) #[] #[]) := (blk_cell HT.out (j * 2)).trans HF.out
  refine value_ (w1 := ?_) (v := ?_) (by rfl) rfl ?_ ?_
  rotate_left 2; (go_simp; constructor; rfl; rfl)
  clear q0
  refine hK.out _ _ trivial (fun hHeld => ?_)
  clear hK K
  refine norm_ (a' := ?_) ?_ ?_; rotate_left; (show Act.put _ (some 25) _ = _; simp only [PT_]; rfl)
  refine oA_ 7 (some 28) (bs_ 17 6143) HT_ (fun K hK => ?_)
  refine Kd.R_lit_step (Kd.int .u8) _ 5 ?hg (N := 28) ?hd (xs := ([(j : Int)] : List Int)) (inner := [.int .u8 (j : Int)]) (ok := fun _ => True) (okp := fun _ => True) ?hr ?hp (fun _ hk => hk) trivial (Below.refl _ _) (Nat.le_refl _) (by simp) ?_; (case hd => rfl); (case hg => rfl); (case hr => first | (go_simp; done) | (go_simp; rfl)); (case hp => exact (Reps.one (show Kd.M (Kd.int .u8) _ _ _ (j : Int) [.int .u8 (j : Int)] from rfl) (Reps.none _ _)))
  intro v1 w1 ho hb hg_ hnew_
  clear hg_ hnew_
  have HO1 := Aside0.mk (ints_With.row (w := w) (b := b) ho HB.out.size (fun k hk he => by have := own_base (Kd.own_of_R ho) k hk; have := blk_lt HT.out; omega))
  replace HT : Aside0 (ints_With.Tab w1 b) := ⟨(hb.block _ (blk_lt HT.out)).trans HT.out⟩
  replace HB := Aside0.mk (below_then HB.out HB.out.size hb)
  clear ho hb hHeld
  skip
  refine hK.out _ _ trivial (fun hHeld => ?_)
  clear hK K
  refine norm_ (a' := ?_) ?_ ?_; rotate_left; (show Act.put _ (some 28) _ = _; simp only [PT_]; rfl)
  refine oA_ 11 (some 32) (bs_ 17 8191) HT_ (fun K hK => ?_)
  refine goes_ Try.func18 (by kernel_rfl) rfl #[v1, .int .u64 (l0.length : Int)] (by rfl) rfl rfl (by first | rfl | (simp only [List.map_toArray, List.map_cons, List.map_nil]; rfl)) ?_
  refine (tally_Uint.calls k (ints_With.ok w b) v1 [(j : Int)] (l0.length : Int) bu w _ HB.out HO1.out HU.out).mono ?_
  rintro e w2 ⟨v2, rfl, ho, hb, hk⟩
  refine ⟨_, rfl, ?_⟩
  have HO2 := Aside0.mk (ints_With.row (w := w) (b := b) ho (Nat.le_refl _) (fun k hk he => (ho.1 k hk).elim (fun h => h.2 he) (fun h => by have := blk_lt HT.out; omega)))
  replace HT : Aside0 (ints_With.Tab w2 b) := ⟨blk_kept HT.out hk (fun h => h.2 rfl)⟩
  replace HB := Aside0.mk hb
  clear ho hb hk HO1 HU
  refine hK.out _ _ trivial (fun hHeld => ?_)
  clear hK K
  refine norm_ (a' := ?_) ?_ ?_; rotate_left; (show Act.put _ (some 32) _ = _; simp only [PT_]; rfl)
  refine oA_ 13 (some 34) (bs_ 17 16383) HT_ (fun K hK => ?_)
  refine goesV_ hf hname hbody #[v2, .slice A0 l0.length c0] (by rfl) rfl rfl (by rfl) (by first | rfl | (simp only [List.map_toArray, List.map_cons, List.map_nil]; rfl)) ?_
  refine (HH.out v2 _ b HO2.out HB.out).mono ?_
  rintro e w3 ⟨v3, rfl, ho, hb⟩
  refine ⟨_, rfl, ?_⟩
  have HO3 := Aside0.mk ho; replace HB := Aside0.mk hb
  clear ho hb HO2 HT HF
  refine hK.out _ _ trivial (fun hHeld => ?_)
  clear hK K
  refine norm_ (a' := ?_) ?_ ?_; rotate_left; (show Act.put _ (some 34) _ = _; simp only [PT_]; rfl)
  refine oA_ 14 (some 35) (bs_ 17 32767) HT_ (fun K hK => ?_)
  have hcv := own_string (P := Try.prog) Try.underlying38 Try.underlying5 Try.underlying9 (Kd.own_of_R HO3.out)
  refine value_ (w1 := ?_) (v := ?_) (by rfl) rfl ?_ ?_
  rotate_left 2; (go_simp; constructor; rfl; rfl)
  clear hcv
  refine hK.out _ _ trivial (fun hHeld => ?_)
  clear hK K
  refine norm_ (a' := ?_) ?_ ?_; rotate_left; (show Act.put _ (some 35) _ = _; simp only [PT_]; rfl)
  refine pA_ 15 (some 4) (bs_ 17 65535) HT_ ?_ ?_ ?_ ?_ ?_
  rotate_left; (intro w'; go_simp; with_reducible rfl); rotate_left; (simp only [PT_]; rfl)
  refine pA_ 16 (some 5) (bs_ 17 131071) HT_ ?_ ?_ ?_ ?_ ?_
  rotate_left; (intro w'; go_simp; with_reducible rfl); rotate_left; (simp only [PT_]; rfl)
  refine done_ (done_of HT_.out (by kernel_rfl)) ?_
  go_wp2
  go_ret2
  exact ⟨rfl, HB.out⟩
 ·skip
  refine Kd.R_lit_step (Kd.int .u8) _ 5 ?hg (N := 28) ?hd (xs := ([(j : Int)] : List Int)) (inner := [.int .u8 (j : Int)]) (ok := fun _ => True) (okp := fun _ => True) ?hr ?hp (fun _ hk => hk) trivial (Below.refl _ _) (Nat.le_refl _) (by simp) ?_; (case hd => rfl); (case hg => rfl); (case hr => first | (go_simp; done) | (go_simp; rfl)); (case hp => exact (Reps.one (show Kd.M (Kd.int .u8) _ _ _ (j : Int) [.int .u8 (j : Int)] from rfl) (Reps.none _ _)))
  intro v1 w1 ho hb hg_ hnew_
  clear hg_ hnew_
  have HO1 := Aside0.mk (ints_With.row (w := w) (b := b) ho HB.out.size (fun k hk he => by have := own_base (Kd.own_of_R ho) k hk; have := blk_lt HT.out; omega))
  replace HT : Aside0 (ints_With.Tab w1 b) := ⟨(hb.block _ (blk_lt HT.out)).trans HT.out⟩
  replace HB := Aside0.mk (below_then HB.out HB.out.size hb)
  clear ho hb hHeld
  skip
  refine hK.out _ _ trivial (fun hHeld => ?_)
  clear hK K
  refine norm_ (a' := ?_) ?_ ?_; rotate_left; (show Act.put _ (some 28) _ = _; simp only [PT_]; rfl)
  refine two_ (i := 4) (j := 11) (Ni := (some 25)) (Nj := (some 32)) (bs_ 17 6143) (bs_ 17 8175) rfl rfl rfl rfl (two_of HT_.out (by kernel_rfl)) (by decide) (by decide) (fun K hK => ?_) (fun K hK => ?_)
  ·skip
   have q0 : w1.cell? ⟨b, j * 2, none⟩ = some (.func (.func F) #[] #[]) := (blk_cell HT.out (j * 2)).trans HF.out
   refine value_ (w1 := ?_) (v := ?_) (by rfl) rfl ?_ ?_
   rotate_left 2; (go_simp; constructor; rfl; rfl)
   clear q0
   refine hK.out _ _ trivial (fun hHeld => ?_)
   clear hK K
   refine norm_ (a' := ?_) ?_ ?_; rotate_left; (show Act.put _ (some 25) _ = _; simp only [PT_]; rfl)
   refine oA_ 11 (some 32) (bs_ 17 8191) HT_ (fun K hK => ?_)
   refine goes_ Try.func18 (by kernel_rfl) rfl #[v1, .int .u64 (l0.length : Int)] (by rfl) rfl rfl (by first | rfl | (simp only [List.map_toArray, List.map_cons, List.map_nil]; rfl)) ?_
   refine (tally_Uint.calls k (ints_With.ok w b) v1 [(j : Int)] (l0.length : Int) bu w _ HB.out HO1.out HU.out).mono ?_
   rintro e w2 ⟨v2, rfl, ho, hb, hk⟩
   refine ⟨_, rfl, ?_⟩
   have HO2 := Aside0.mk (ints_With.row (w := w) (b := b) ho (Nat.le_refl _) (fun k hk he => (ho.1 k hk).elim (fun h => h.2 he) (fun h => by have := blk_lt HT.out; omega)))
   replace HT : Aside0 (ints_With.Tab w2 b) := ⟨blk_kept HT.out hk (fun h => h.2 rfl)⟩
   replace HB := Aside0.mk hb
   clear ho hb hk HO1 HU
   refine hK.out _ _ trivial (fun hHeld => ?_)
   clear hK K
   refine norm_ (a' := ?_) ?_ ?_; rotate_left; (show Act.put _ (some 32) _ = _; simp only [PT_]; rfl)
   refine oA_ 13 (some 34) (bs_ 17 16383) HT_ (fun K hK => ?_)
   refine goesV_ hf hname hbody #[v2, .slice A0 l0.length c0] (by rfl) rfl rfl (by rfl) (by first | rfl | (simp only [List.map_toArray, List.map_cons, List.map_nil]; rfl)) ?_
   refine (HH.out v2 _ b HO2.out HB.out).mono ?_
   rintro e w3 ⟨v3, rfl, ho, hb⟩
   refine ⟨_, rfl, ?_⟩
   have HO3 := Aside0.mk ho; replace HB := Aside0.mk hb
   clear ho hb HO2 HT HF
   refine hK.out _ _ trivial (fun hHeld => ?_)
   clear hK K
   refine norm_ (a' := ?_) ?_ ?_; rotate_left; (show Act.put _ (some 34) _ = _; simp only [PT_]; rfl)
   refine oA_ 14 (some 35) (bs_ 17 32767) HT_ (fun K hK => ?_)
   have hcv := own_string (P := Try.prog) Try.underlying38 Try.underlying5 Try.underlying9 (Kd.own_of_R HO3.out)
   refine value_ (w1 := ?_) (v := ?_) (by rfl) rfl ?_ ?_
   rotate_left 2; (go_simp; constructor; rfl; rfl)
   clear hcv
   refine hK.out _ _ trivial (fun hHeld => ?_)
   clear hK K
   refine norm_ (a' := ?_) ?_ ?_; rotate_left; (show Act.put _ (some 35) _ = _; simp only [PT_]; rfl)
   refine pA_ 15 (some 4) (bs_ 17 65535) HT_ ?_ ?_ ?_ ?_ ?_
   rotate_left; (intro w'; go_simp; with_reducible rfl); rotate_left; (simp only [PT_]; rfl)
   refine pA_ 16 (some 5) (bs_ 17 131071) HT_ ?_ ?_ ?_ ?_ ?_
   rotate_left; (intro w'; go_simp; with_reducible rfl); rotate_left; (simp only [PT_]; rfl)
   refine done_ (done_of HT_.out (by kernel_rfl)) ?_
   go_wp2
   go_ret2
   exact ⟨rfl, HB.out⟩
  ·skip
   refine goes_ Try.func18 (by kernel_rfl) rfl #[v1, .int .u64 (l0.length : Int)] (by rfl) rfl rfl (by first | rfl | (simp only [List.map_toArray, List.map_cons, List.map_nil]; rfl)) ?_
   refine (tally_Uint.calls k (ints_With.ok w b) v1 [(j : Int)] (l0.length : Int) bu w _ HB.out HO1.out HU.out).mono ?_
   rintro e w2 ⟨v2, rfl, ho, hb, hk⟩
   refine ⟨_, rfl, ?_⟩
   have HO2 := Aside0.mk (ints_With.row (w := w) (b := b) ho (Nat.le_refl _) (fun k hk he => (ho.1 k hk).elim (fun h => h.2 he) (fun h => by have := blk_lt HT.out; omega)))
   replace HT : Aside0 (ints_With.Tab w2 b) := ⟨blk_kept HT.out hk (fun h => h.2 rfl)⟩
   replace HB := Aside0.mk hb
   clear ho hb hk HO1 HU
   refine hK.out _ _ trivial (fun hHeld => ?_)
   clear hK K
   refine norm_ (a' := ?_) ?_ ?_; rotate_left; (show Act.put _ (some 32) _ = _; simp only [PT_]; rfl)
   refine oA_ 4 (some 25) (bs_ 17 8191) HT_ (fun K hK => ?_)
   have q0 : w2.cell? ⟨b, j * 2, none⟩ = some (.func (.func F) #[] #[]) := (blk_cell HT.out (j * 2)).trans HF.out
   refine value_ (w1 := ?_) (v := ?_) (by rfl) rfl ?_ ?_
   rotate_left 2; (go_simp; constructor; rfl; rfl)
   clear q0
   refine hK.out _ _ trivial (fun hHeld => ?_)
   clear hK K
   refine norm_ (a' := ?_) ?_ ?_; rotate_left; (show Act.put _ (some 25) _ = _; simp only [PT_]; rfl)
   refine oA_ 13 (some 34) (bs_ 17 16383) HT_ (fun K hK => ?_)
   refine goesV_ hf hname hbody #[v2, .slice A0 l0.length c0] (by rfl) rfl rfl (by rfl) (by first | rfl | (simp only [List.map_toArray, List.map_cons, List.map_nil]; rfl)) ?_
   refine (HH.out v2 _ b HO2.out HB.out).mono ?_
   rintro e w3 ⟨v3, rfl, ho, hb⟩
   refine ⟨_, rfl, ?_⟩
   have HO3 := Aside0.mk ho; replace HB := Aside0.mk hb
   clear ho hb HO2 HT HF
   refine hK.out _ _ trivial (fun hHeld => ?_)
   clear hK K
   refine norm_ (a' := ?_) ?_ ?_; rotate_left; (show Act.put _ (some 34) _ = _; simp only [PT_]; rfl)
   refine oA_ 14 (some 35) (bs_ 17 32767) HT_ (fun K hK => ?_)
   have hcv := own_string (P := Try.prog) Try.underlying38 Try.underlying5 Try.underlying9 (Kd.own_of_R HO3.out)
   refine value_ (w1 := ?_) (v := ?_) (by rfl) rfl ?_ ?_
   rotate_left 2; (go_simp; constructor; rfl; rfl)
   clear hcv
   refine hK.out _ _ trivial (fun hHeld => ?_)
   clear hK K
   refine norm_ (a' := ?_) ?_ ?_; rotate_left; (show Act.put _ (some 35) _ = _; simp only [PT_]; rfl)
   refine pA_ 15 (some 4) (bs_ 17 65535) HT_ ?_ ?_ ?_ ?_ ?_
   rotate_left; (intro w'; go_simp; with_reducible rfl); rotate_left; (simp only [PT_]; rfl)
   refine pA_ 16 (some 5) (bs_ 17 131071) HT_ ?_ ?_ ?_ ?_ ?_
   rotate_left; (intro w'; go_simp; with_reducible rfl); rotate_left; (simp only [PT_]; rfl)
   refine done_ (done_of HT_.out (by kernel_rfl)) ?_
   go_wp2
   go_ret2
   exact ⟨rfl, HB.out⟩
theorem ints_With.calls (k : Nat) (A0 : Option Addr) (c0 : Nat) (l0 : List Int) (a1 : Int) (r1 : ByteArray) (r2 : Int) (w : World) (hr0 : Kd.C (Kd.int .i64) w A0 l0.length l0) (hc0 : l0.length ≤ c0) (h : ints_With.f k l0 a1 = some (r1, r2)) :
  Calls Try.prog 10 #[.slice A0 l0.length c0, .int .i64 a1] w fun e w' => e = .returned (.tuple #[.string r1, .int .i64 r2]) ∧ Below w.heap.size w w' := by
 unfold ints_With.f at h
 by_cases c : a1 < 0 ∨ 4 ≤ a1
 ·rw [if_pos c] at h
  injection h with h; injection h with h1 h2; subst h1 h2
  exact ints_With.w1 A0 c0 l0 a1 w c
 ·rw [if_neg c] at h
  by_cases c2 : 65536 < l0.length
  ·rw [if_pos c2] at h
   injection h with h; injection h with h1 h2; subst h1 h2
   exact ints_With.w2 A0 c0 l0 a1 w (by omega) (by omega) c2
  ·rw [if_neg c2] at h
   obtain ⟨bu, hu, h⟩ := Option.bind_eq_some_iff.mp h
   obtain ⟨r, hr, h⟩ := Option.bind_eq_some_iff.mp h
   injection h with h; injection h with h1 h2; subst h1 h2
   obtain ⟨j, rfl⟩ : ∃ j : Nat, a1 = (j : Int) := ⟨a1.toNat, by omega⟩
   unfold ints_With.wr at hr
   rcases (by omega : j = 0 ∨ j = 1 ∨ j = 2 ∨ j = 3) with rfl | rfl | rfl | rfl
   ·replace hr : ints_writePlain.f k bu l0 = some r := hr
    refine ints_With.walk k A0 c0 l0 0 (by omega) (by omega) 34 _ Try.func34 (by kernel_rfl) rfl rfl bu r w hu (fun v2 W b ho hb => ?_)
    exact (ints_writePlain.calls k (ints_With.ok w b) v2 bu A0 c0 l0 r w W hb ho (fun W_ hk => Kd.F_now (Kd.F_kept (ints_With.arg hr0 hb) hk (fun k h1 h2 => by have := h2.1; omega))) hc0 hr).mono (fun e w' ⟨v0, he, hr', hb', hk'⟩ => ⟨v0, he, Kd.R_mono hr' (fun _ _ => trivial), hb'⟩)
   ·replace hr : ints_writeDelta.f k bu l0 = some r := hr
    refine ints_With.walk k A0 c0 l0 1 (by omega) (by omega) 36 _ Try.func36 (by kernel_rfl) rfl rfl bu r w hu (fun v2 W b ho hb => ?_)
    exact (ints_writeDelta.calls k (ints_With.ok w b) v2 bu A0 c0 l0 r w W hb ho (fun W_ hk => Kd.F_now (Kd.F_kept (ints_With.arg hr0 hb) hk (fun k h1 h2 => by have := h2.1; omega))) hc0 hr).mono (fun e w' ⟨v0, he, hr', hb', hk'⟩ => ⟨v0, he, Kd.R_mono hr' (fun _ _ => trivial), hb'⟩)
   ·replace hr : ints_writeRuns.f k bu l0 = some r := hr
    refine ints_With.walk k A0 c0 l0 2 (by omega) (by omega) 38 _ Try.func38 (by kernel_rfl) rfl rfl bu r w hu (fun v2 W b ho hb => ?_)
    exact (ints_writeRuns.calls k (ints_With.ok w b) v2 bu (fun k => k < w.heap.size) A0 c0 l0 r w W hb ho (Kd.V_mk hc0 (Kd.F_mono (ints_With.arg hr0 hb) (fun k hk => ⟨hk, fun he => by have := (ho.1 k he.symm).1; omega⟩))) hr).mono (fun e w' ⟨v0, he, hr', hb', hk'⟩ => ⟨v0, he, Kd.R_mono hr' (fun _ _ => trivial), hb'⟩)
   ·replace hr : ints_writePacked.f k bu l0 = some r := hr
    refine ints_With.walk k A0 c0 l0 3 (by omega) (by omega) 40 _ Try.func40 (by kernel_rfl) rfl rfl bu r w hu (fun v2 W b ho hb => ?_)
    exact (ints_writePacked.calls k (ints_With.ok w b) v2 bu A0 c0 l0 r w W hb ho (fun W_ hk => Kd.F_now (Kd.F_kept (ints_With.arg hr0 hb) hk (fun k h1 h2 => by have := h2.1; omega))) hc0 hr).mono (fun e w' ⟨v0, he, hr', hb', hk'⟩ => ⟨v0, he, Kd.R_mono hr' (fun _ _ => trivial), hb'⟩)
end Go.Proofs.Ytgeddoklmcjdcaa.G
namespace Go.Proofs.Ytgeddoklmcjdcaa.G
open Go.RowKit Go.Proofs.YtgeddoklmcjdcaaQ Go.Proofs.YtgeddoklmcjdcaaW.PrintWords Go.Proofs.YtgeddoklmcjdcaaW.PrintLast Go.Proofs.YtgeddoklmcjdcaaW.PrintMore
attribute [local go_sem] max2_int min2_int max_two min_two max_three min_three max_four min_four   -- for this text's walks alone
set_option linter.unusedVariables false
set_option linter.unusedSimpArgs false
def bits_Mul64.f (a0 : Int) (a1 : Int) : Option (Int × Int) := some (IntKind.u64.wrap ((IntKind.u64.wrap ((IntKind.u64.wrap ((a0 / 4294967296) * (a1 / 4294967296))) + ((IntKind.u64.wrap ((IntKind.u64.wrap ((a0 / 4294967296) * (Go.bits .and .u64 a1 4294967295))) + ((IntKind.u64.wrap ((Go.bits .and .u64 a0 4294967295) * (Go.bits .and .u64 a1 4294967295))) / 4294967296))) / 4294967296))) + ((IntKind.u64.wrap ((Go.bits .and .u64 (IntKind.u64.wrap ((IntKind.u64.wrap ((a0 / 4294967296) * (Go.bits .and .u64 a1 4294967295))) + ((IntKind.u64.wrap ((Go.bits .and .u64 a0 4294967295) * (Go.bits .and .u64 a1 4294967295))) / 4294967296))) 4294967295) + (IntKind.u64.wrap ((Go.bits .and .u64 a0 4294967295) * (a1 / 4294967296))))) / 4294967296)), IntKind.u64.wrap (a0 * a1))
set_option maxHeartbeats 8000000 in
set_option maxRecDepth 100000 in
theorem bits_Mul64.calls (a0 : Int) (a1 : Int) (r1 : Int) (r2 : Int) (w : World) (h : bits_Mul64.f a0 a1 = some (r1, r2)) :
  Calls Try.prog 75 #[.int .u64 a0, .int .u64 a1] w fun e w' => e = .returned (.tuple #[.int .u64 r1, .int .u64 r2]) ∧ Drawn0 w w' := by
 have H : (some (IntKind.u64.wrap ((IntKind.u64.wrap ((IntKind.u64.wrap ((a0 / 4294967296) * (a1 / 4294967296))) + ((IntKind.u64.wrap ((IntKind.u64.wrap ((a0 / 4294967296) * (Go.bits .and .u64 a1 4294967295))) + ((IntKind.u64.wrap ((Go.bits .and .u64 a0 4294967295) * (Go.bits .and .u64 a1 4294967295))) / 4294967296))) / 4294967296))) + ((IntKind.u64.wrap ((Go.bits .and .u64 (IntKind.u64.wrap ((IntKind.u64.wrap ((a0 / 4294967296) * (Go.bits .and .u64 a1 4294967295))) + ((IntKind.u64.wrap ((Go.bits .and .u64 a0 4294967295) * (Go.bits .and .u64 a1 4294967295))) / 4294967296))) 4294967295) + (IntKind.u64.wrap ((Go.bits .and .u64 a0 4294967295) * (a1 / 4294967296))))) / 4294967296)), IntKind.u64.wrap (a0 * a1))) = some (r1, r2) := h
 clear h
 simp only [Option.some.injEq, Prod.mk.injEq] at H
 obtain ⟨rfl, rfl⟩ := H
 go_enter Try.func75, Try.ntmps75
 go_wp2
 go_ret2
 exact ⟨z6_, z9_⟩
def bits_Mul.f (a0 : Int) (a1 : Int) : Option (Int × Int) := (bits_Mul64.f a0 a1).bind fun bt189 => (some (bt189.1, bt189.2))
set_option maxHeartbeats 8000000 in
set_option maxRecDepth 100000 in
theorem bits_Mul.calls (a0 : Int) (a1 : Int) (r1 : Int) (r2 : Int) (w : World) (h : bits_Mul.f a0 a1 = some (r1, r2)) :
  Calls Try.prog 68 #[.int .u64 a0, .int .u64 a1] w fun e w' => e = .returned (.tuple #[.int .u64 r1, .int .u64 r2]) ∧ Drawn0 w w' := by
 have H : ((bits_Mul64.f a0 a1).bind fun bt189 => (some (bt189.1, bt189.2))) = some (r1, r2) := h
 clear h
 replace H := Option.bind_eq_some_iff.mp H
 obtain ⟨⟨t189, t190⟩, A30, H⟩ := H
 replace H : (some (t189, t190)) = some (r1, r2) := H
 have A3 := Aside0.mk A30
 clear A30
 simp only [Option.some.injEq, Prod.mk.injEq] at H
 obtain ⟨rfl, rfl⟩ := H
 go_enter Try.func68, Try.ntmps68
 go_wp2_with (first | ((with_reducible refine gate_callee (f := 75) rfl ?_); refine goesL_ (some 25) rfl rfl Try.func75 (by kernel_rfl) rfl #[.int .u64 a0, .int .u64 a1] rfl (by (try simp only [List.map_toArray, List.map_cons, List.map_nil]); first | done | rfl | (simp only [List.length_drop, List.length_take]; rfl) | (go_simp; simp [IntKind.wrap, IntKind.bits, IntKind.signed]; omega)) ?_; (with_reducible refine (bits_Mul64.calls a0 a1 t189 t190 _ A3.out).mono ?_); rintro e w' ⟨rfl, ⟨nd, rfl⟩⟩; refine ⟨_, rfl, ?_⟩))
 go_ret2
 exact ⟨z6_, z9_⟩
end Go.Proofs.Ytgeddoklmcjdcaa.G
namespace Go.Proofs.Ytgeddoklmcjdcaa.G
open Go.RowKit Go.Proofs.YtgeddoklmcjdcaaQ Go.Proofs.YtgeddoklmcjdcaaW.PrintWords Go.Proofs.YtgeddoklmcjdcaaW.PrintLast Go.Proofs.YtgeddoklmcjdcaaW.PrintMore
attribute [local go_sem] max2_int min2_int max_two min_two max_three min_three max_four min_four   -- for this text's walks alone
set_option linter.unusedVariables false
set_option linter.unusedSimpArgs false
def slices_Repeat_int64_int64.f (l0 : List Int) (a1 : Int) : Option (List Int) := if l0.length = 1 ∧ 0 ≤ a1 ∧ a1 ≤ 1000000 then some (List.replicate a1.toNat (rd l0 0)) else none
theorem slices_Repeat_int64_int64.mul {c : Int} (h0 : 0 ≤ c) (h1 : c ≤ 1000000) : bits_Mul.f 1 c = some (0, c) := by
 have a1 : Go.bits .and .u64 1 4294967295 = 1 := by decide
 have a2 : Go.bits .and .u64 0 4294967295 = 0 := by decide
 have a3 : Go.bits .and .u64 c 4294967295 = c := by
  obtain ⟨n, rfl⟩ : ∃ n : Nat, c = (n : Int) := ⟨c.toNat, by omega⟩
  have h := Go.u64_and_nat n 4294967295 (by omega) (by decide)
  have e : n &&& 4294967295 = n := by
   have := Nat.and_two_pow_sub_one_eq_mod n 32
   rw [show (4294967295 : Nat) = 2 ^ 32 - 1 from rfl, this]
   exact Nat.mod_eq_of_lt (by omega)
  rw [e] at h
  exact h
 have e1 : (1 : Int) / 4294967296 = 0 := by decide
 have e2 : c / 4294967296 = 0 := by omega
 have w0 : IntKind.u64.wrap 0 = 0 := by decide
 have wc : IntKind.u64.wrap c = c := by simp [IntKind.wrap, IntKind.bits, IntKind.signed]; omega
 unfold bits_Mul.f bits_Mul64.f
 simp only [a1, a2, a3, e1, e2, Int.zero_mul, Int.mul_zero, Int.one_mul, Int.zero_add, Int.add_zero, w0, wc, Int.zero_ediv, Option.bind_some]
def slices_Repeat_int64_int64.cells (x : Int) (n c : Nat) : List Value := List.replicate n (Value.int .i64 x) ++ List.replicate (c - n) (Value.int .i64 0)
theorem slices_Repeat_int64_int64.cells_len (x : Int) {n c : Nat} (h : n ≤ c) : (slices_Repeat_int64_int64.cells x n c).length = c := by simp [slices_Repeat_int64_int64.cells]; omega
theorem slices_Repeat_int64_int64.cells_next (x : Int) {n m c : Nat} (h : n + m ≤ c) : splice (slices_Repeat_int64_int64.cells x n c) n (List.replicate m (Value.int .i64 x)) = slices_Repeat_int64_int64.cells x (n + m) c := by
 unfold splice slices_Repeat_int64_int64.cells
 rw [List.take_left' (by simp), List.length_replicate, List.drop_append, List.drop_eq_nil_of_le (by simp), List.nil_append, List.length_replicate, List.drop_replicate, ← List.append_assoc, List.replicate_append_replicate]
 congr 2; omega
theorem slices_Repeat_int64_int64.cells_at (x : Int) {n c j : Nat} (h : j < n) : (slices_Repeat_int64_int64.cells x n c)[j]? = some (.int .i64 x) := by
 unfold slices_Repeat_int64_int64.cells
 rw [List.getElem?_append_left (by simpa using h), List.getElem?_replicate, if_pos h]
theorem slices_Repeat_int64_int64.pos {W : World} {ad : Addr} {x : Int} {c : Nat} (h : W.cell? (ad.add 0) = some (.int .i64 x)) : ∀ j v, (List.replicate (min 1 c) (Value.int .i64 x))[j]? = some v → W.cell? (ad.add j) = some v := by
 intro j v hj
 rw [List.getElem?_replicate] at hj
 split at hj
 ·obtain rfl : j = 0 := by omega
  obtain rfl := Option.some.inj hj
  exact h
 ·cases hj
theorem slices_Repeat_int64_int64.posn {W : World} {g n c e : Nat} {x : Int} (h : W.heap[g]? = some (.cells (slices_Repeat_int64_int64.cells x n c).toArray e (0, 0))) : ∀ j v, (List.replicate (min n (c - n)) (Value.int .i64 x))[j]? = some v → W.cell? ((⟨g, 0, none⟩ : Addr).add j) = some v := by
 intro j v hj
 rw [List.getElem?_replicate] at hj
 split at hj
 ·obtain rfl := Option.some.inj hj
  rw [add_plain, blk_cell h j, List.getElem?_toArray]
  exact slices_Repeat_int64_int64.cells_at x (by omega)
 ·cases hj
theorem slices_Repeat_int64_int64.made (x : Int) (c : Nat) : madeCells #[Value.int .i64 0] c = (slices_Repeat_int64_int64.cells x 0 c).toArray := by
 apply Array.toList_inj.1
 apply List.ext_getElem
 ·simp [madeCells, slices_Repeat_int64_int64.cells]
 ·intro i h1 h2
  simp [madeCells, slices_Repeat_int64_int64.cells, Nat.mod_one]
theorem slices_Repeat_int64_int64.own {w W : World} {g c : Nat} {x : Int} (hg : W.heap[g]? = some (.cells (slices_Repeat_int64_int64.cells x c c).toArray 2 (0, 0))) (hw : w.heap.size ≤ g) (hc : c ≤ 1000000) :
  Kd.R (Kd.int .i64) 2 W w.heap.size (fun _ => True) (.slice (some ⟨g, 0, none⟩) c c) (List.replicate c x) := by
 refine Kd.R_of_own ?_ (fun _ _ => trivial)
 have e : (slices_Repeat_int64_int64.cells x c c) = encs (Value.int .i64) (List.replicate c x) := by simp [slices_Repeat_int64_int64.cells, encs]
 rw [e] at hg
 refine ⟨by simp [encs], .inr ⟨g, c, _, by simp, hw, hg, by simp, by simp [maxLen]; omega, by simp [encs], by simp [encs]⟩⟩
def slices_Repeat_int64_int64.T9 : Bool × List (List Nat × List Nat) := (true, [([], []), ([], []), ([], []), ([1, 2], [1, 2]), ([], []), ([], []), ([4, 5], [4, 5]), ([3, 6], [3, 6]), ([0, 7], [0, 7]), ([8, 7, 0, 1, 2, 3, 4, 5, 6, 7, 8], [0, 2, 5, 8])])
theorem slices_Repeat_int64_int64.tab9 : rtab .any (opsOf Try.f57 9) = slices_Repeat_int64_int64.T9 := by kernel_rfl
set_option maxHeartbeats 4000000 in
set_option maxRecDepth 100000 in
theorem slices_Repeat_int64_int64.walk (ad : Addr) (c0 c : Nat) (x : Int) (w : World) (hcell : w.cell? (ad.add 0) = some (.int .i64 x)) (hc : c ≤ 1000000) :
  Calls Try.prog 57 #[.slice (some ad) 1 c0, .int .i64 (c : Int)] w fun e w' => ∃ v0_ : Value, e = .returned (v0_) ∧ Kd.R (Kd.int .i64) 2 w' w.heap.size (fun _ => True) v0_ (List.replicate c x) ∧ Below w.heap.size w w' := by
 have hm := slices_Repeat_int64_int64.mul (c := (c : Int)) (by omega) (by omega)
 have HM := Aside0.mk hm
 have HC := Aside0.mk hc
 have HX := Aside0.mk hcell
 have d1 : decide ((c : Int) < 0) = false := decide_eq_false (by omega)
 have d2 : decide ((9223372036854775807 : Int) < (c : Int)) = false := decide_eq_false (by omega)
 have d3 : decide (9223372036854775807 < c) = false := decide_eq_false (by omega)
 have hmk := print_make (P := Try.prog) 22 2 .i64 8 Try.underlying22 (by kernel_rfl) (by decide) c (by omega)
 have b0 : (0 : Int) ≤ (c : Int) := by omega
 have b1 : (c : Int) ≤ 1000000 := by omega
 clear hm hc hcell
 go_enter Try.func57, Try.ntmps57
 go_wp2_with fail
 refine (bits_Mul.calls 1 (c : Int) 0 (c : Int) _ HM.out).mono ?_; rintro e w1 ⟨rfl, ⟨nd, rfl⟩⟩
 have hg0 : ((w.drewN nd).alloc (.cells (madeCells #[Value.int .i64 0] c) 2)).heap[w.heap.size]? = some (.cells (slices_Repeat_int64_int64.cells x 0 c).toArray 2 (0, 0)) := by
  rw [slices_Repeat_int64_int64.made x]; exact heap_alloc_new (w.drewN nd) _
 have hb0 : Below w.heap.size w ((w.drewN nd).alloc (.cells (madeCells #[Value.int .i64 0] c) 2)) := below_alloc (pw_below_drewN (Below.refl _ _) _) _
 have HG0 := Aside0.mk hg0; have HB0 := Aside0.mk hb0
 clear hg0 hb0
 go_wp2_with ((with_reducible refine wpList_copy_splice rfl (.tmp 31) (.tmp 32) 22 22 rfl 2 Try.underlying22 (by kernel_rfl) (some ⟨w.heap.size, 0, none⟩) (some ad) c c 1 c0 rfl rfl w.heap.size 0 (slices_Repeat_int64_int64.cells x 0 c) 2 HG0.out (List.replicate (min 1 c) (Value.int .i64 x)) ?hn (fun _ => ⟨rfl, ad, rfl, slices_Repeat_int64_int64.pos ((HB0.out.cell (World.block_lt_of_cell? w _ HX.out)).trans HX.out)⟩) ?hf ?ho w.heap.size w HB0.out (Nat.le_refl _) ?_); (case hn => simp [Nat.min_comm]); (case hf => rw [slices_Repeat_int64_int64.cells_len x (Nat.zero_le _)]; simp; omega); (case ho => intro v hv; rw [(List.mem_replicate.1 hv).2]; rfl); intro w2 hg2 hb2; (have HG2 := Aside0.mk hg2.out); (have HB2 := Aside0.mk hb2); clear hg2 hb2)
 have hn1 := HG2.out
 rw [slices_Repeat_int64_int64.cells_next x (n := 0) (m := min 1 c) (by omega), Nat.zero_add] at hn1
 have HN := Aside0.mk hn1
 clear hn1 HG2 HG0 HB0 HX HM hmk d1 d2 d3 b0 b1
 go_loopg [8] (c - min 1 c) (fun gq s8 wx => ∃ n : Nat, n ≤ c ∧ (n = 0 → c = 0) ∧ gq = c - n ∧ s8 = .int .i64 (n : Int) ∧ Aside0 (wx.heap[w.heap.size]? = some (.cells (slices_Repeat_int64_int64.cells x n c).toArray 2 (0, 0))) ∧ Aside0 (Below w.heap.size w wx))
 case atStart => exact ⟨min 1 c, by omega, by omega, rfl, rfl, HN, HB2⟩
 case round =>
  clear HN HB2
  obtain ⟨n, hn, hn0, rfl, rfl, HN, HB⟩ := hrel
  by_cases hlt : n < c
  ·have HL := Aside0.mk hlt
   have hpos : 0 < n := by omega
   obtain ⟨g1, hg1⟩ : ∃ g1, c - n = g1 + 1 := ⟨c - n - 1, by omega⟩
   have k1 : decide ((n : Int) < (c : Int)) = true := decide_eq_true (by omega)
   have k2 : decide (n < c) = true := decide_eq_true hlt
   have b0 : (0 : Int) ≤ (n : Int) := by omega
   have b1 : (n : Int) ≤ (c : Int) := by omega
   have b2 : ¬ c = n := by omega
   have b3 : (c : Int) ≤ 1000000 := by have := HC.out; omega
   have HG1 := Aside0.mk hg1; clear hg1 hn0
   go_wp2_with fail
   refine start_ (n := 10) (S := fun w' => True) (ds := []) (bs_ 10 0) (by kernel_rfl) rfl rfl trivial (fun hHeld => ?_)
   refine with_tab slices_Repeat_int64_int64.tab9 (fun HT_ => ?_)
   replace HN : Aside0 (wr.drew.heap[w.heap.size]? = some (.cells (slices_Repeat_int64_int64.cells x n c).toArray 2 (0, 0))) := ⟨HN.out⟩
   replace HB : Aside0 (Below w.heap.size w wr.drew) := ⟨below_drew HB.out⟩
   generalize wr.drew = wr at HN HB hHeld ⊢
   refine pA_ 0 (some 38) (bs_ 10 1) HT_ ?_ ?_ ?_ ?_ ?_
   rotate_left; (intro w'; go_simp; with_reducible rfl); rotate_left; (simp only [PT_]; rfl)
   refine pA_ 1 (some 39) (bs_ 10 3) HT_ ?_ ?_ ?_ ?_ ?_
   rotate_left; (intro w'; go_simp; with_reducible rfl); rotate_left; (simp only [PT_]; rfl)
   refine pA_ 2 (some 40) (bs_ 10 7) HT_ ?_ ?_ ?_ ?_ ?_
   rotate_left; (intro w'; go_simp; with_reducible rfl); rotate_left; (simp only [PT_]; rfl)
   refine pA_ 3 (some 41) (bs_ 10 15) HT_ ?_ ?_ ?_ ?_ ?_
   rotate_left; (intro w'; go_simp; with_reducible rfl); rotate_left; (simp only [PT_]; rfl)
   refine pA_ 4 (some 42) (bs_ 10 31) HT_ ?_ ?_ ?_ ?_ ?_
   rotate_left; (intro w'; go_simp; with_reducible rfl); rotate_left; (simp only [PT_]; rfl)
   refine pA_ 5 (some 43) (bs_ 10 63) HT_ ?_ ?_ ?_ ?_ ?_
   rotate_left; (intro w'; go_simp; with_reducible rfl); rotate_left; (simp only [PT_]; rfl)
   refine pA_ 6 (some 44) (bs_ 10 127) HT_ ?_ ?_ ?_ ?_ ?_
   rotate_left; (intro w'; go_simp; with_reducible rfl); rotate_left; (simp only [PT_]; rfl)
   refine oA_ 7 (some 45) (bs_ 10 255) HT_ (fun K hK => ?_)
   refine step_copy_splice rfl (.tmp 41) (.tmp 44) 22 22 rfl 2 Try.underlying22 (by kernel_rfl) (some ⟨w.heap.size, n, none⟩) (some ⟨w.heap.size, 0, none⟩) (c - n) (c - n) n c (by rfl) (by rfl) w.heap.size n (slices_Repeat_int64_int64.cells x n c) 2 HN.out (List.replicate (min n (c - n)) (Value.int .i64 x)) (by simp) (fun _ => ⟨rfl, _, rfl, slices_Repeat_int64_int64.posn HN.out⟩) (by rw [slices_Repeat_int64_int64.cells_len x (by have := HL.out; omega)]; simp; have := HL.out; omega) (by intro v hv; rw [(List.mem_replicate.1 hv).2]; rfl) w.heap.size w HB.out (Nat.le_refl _) ?_
   intro w4 hg4 hb4
   have HG4 := Aside0.mk hg4.out; have HB4 := Aside0.mk hb4; clear hg4 hb4 HN HB
   refine hK.out _ _ trivial (fun hHeld => ?_)
   clear hK K
   refine norm_ (a' := ?_) ?_ ?_; rotate_left; (show Act.put _ (some 45) _ = _; simp only [PT_]; rfl)
   refine pA_ 8 (some 46) (bs_ 10 511) HT_ ?_ ?_ ?_ ?_ ?_
   rotate_left; (intro w'; go_simp; with_reducible rfl); rotate_left; (simp only [PT_]; rfl)
   refine pA_ 9 (some 8) (bs_ 10 1023) HT_ ?_ ?_ ?_ ?_ ?_
   rotate_left; (intro w'; go_simp; with_reducible rfl); rotate_left; (simp only [PT_]; rfl)
   refine done_ (done_of HT_.out (by kernel_rfl)) ?_
   have hn4 := HG4.out
   rw [slices_Repeat_int64_int64.cells_next x (by have := HL.out; omega)] at hn4
   have HN4 := Aside0.mk hn4; clear hn4 HG4
   have hw : wrap64 ((n : Int) + ((min n (c - n) : Nat) : Int)) = ((n + min n (c - n) : Nat) : Int) := by have := HL.out; have := HC.out; rw [w64 (by omega) (by omega)]; rfl
   rw [hw]
   have HW := Aside0.mk hw; clear hw
   go_wp2
   go_roundg (c - (n + min n (c - n)))
   case measure => have := HG1.out; have := HL.out; omega
   case rel => exact ⟨n + min n (c - n), by have := HL.out; omega, by have := HL.out; omega, rfl, by go_num, HN4, HB4⟩
  ·have e : n = c := by omega
   subst e
   have k1 : decide ((n : Int) < (n : Int)) = false := decide_eq_false (by omega)
   have k2 : decide (n < n) = false := decide_eq_false (by omega)
   clear hlt hn hn0
   go_wp2
   go_ret
   exact ⟨_, rfl, slices_Repeat_int64_int64.own HN.out (Nat.le_refl _) HC.out, HB.out⟩
theorem slices_Repeat_int64_int64.calls (A0 : Option Addr) (c0 : Nat) (l0 : List Int) (a1 : Int) (r : List Int) (w : World) (hr0 : Kd.C (Kd.int .i64) w A0 l0.length l0) (hc0 : l0.length ≤ c0) (h : slices_Repeat_int64_int64.f l0 a1 = some r) :
  Calls Try.prog 57 #[.slice A0 l0.length c0, .int .i64 a1] w fun e w' => ∃ v0_ : Value, e = .returned (v0_) ∧ Kd.R (Kd.int .i64) 2 w' w.heap.size (fun _ => True) v0_ r ∧ Below w.heap.size w w' := by
 unfold slices_Repeat_int64_int64.f at h
 split at h
 ·rename_i hl
  obtain ⟨h1, h2, h3⟩ := hl
  obtain rfl := Option.some.inj h
  obtain ⟨c, rfl⟩ : ∃ c : Nat, a1 = (c : Int) := ⟨a1.toNat, by omega⟩
  obtain ⟨ad, hA, hcell⟩ := Kd.at_int hr0 0 (by omega) (by omega)
  cases hA
  rw [h1, Int.toNat_natCast]
  exact slices_Repeat_int64_int64.walk ad c0 c (rd l0 0) w hcell (by omega)
 ·exact absurd h (by simp)
end Go.Proofs.Ytgeddoklmcjdcaa.G
