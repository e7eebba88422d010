import Derived.Test.YtagokgijffpdnaaZQA
import Derived.Test.YtagokgijffpdnaaZG3
import Derived.Test.YtagokgijffpdnaaZG5
namespace Go.Proofs.Ytagokgijffpdnaa.G
open Go.RowKit Go.Proofs.YtagokgijffpdnaaQ Go.Proofs.YtagokgijffpdnaaW.PrintWords Go.Proofs.YtagokgijffpdnaaW.PrintLast Go.Proofs.YtagokgijffpdnaaW.PrintMore
attribute [local go_sem] max2_int min2_int max_two min_two max_three min_three max_four min_four   -- for this text's walks alone
set_option linter.unusedVariables false
set_option linter.unusedSimpArgs false
def manifest_Write.l0 : Nat → List Int → List (S36) → Int → Int → List Int → List (S36) → Int → Int → Option (ByteArray × Int)
 | 0, _, _, _, _, _, _, _, _ => none
 | k + 1, x4, x25, x26, x27, x246000, x246001, x246002, x246003 => if x27 < x26 then (if 0 ≤ x27 then (if x27 < (x25.length : Int) then ((manifest_nums.f k x4 (([(rd_T36 x25 x27).f0, (rd_T36 x25 x27).f1] : List Int))).bind fun t267 => ((manifest_bounds.f k t267 (([(⟨(rd_T36 x25 x27).f2.f0, (rd_T36 x25 x27).f2.f1, (rd_T36 x25 x27).f2.f2⟩ : S34), (⟨(rd_T36 x25 x27).f3.f0, (rd_T36 x25 x27).f3.f1, (rd_T36 x25 x27).f3.f2⟩ : S34)] : List (S34)))).bind fun t273 => (manifest_Write.l0 k t273 x25 x26 (wrap64 (x27 + 1)) x246000 x246001 x246002 x246003))) else (none)) else (none)) else ((manifest_nums.f k x4 (([x246002, x246003] : List Int))).bind fun t279 => ((frame_Write.f k (strOfNums t279)).bind fun t282 => (some (t282, 0))))
def manifest_Write.f (k : Nat) (l0_0 : List Int) (l0_1 : List (S36)) (a0_2 : Int) (a0_3 : Int) : Option (ByteArray × Int) := (manifest_right.f l0_0 l0_1 a0_2 a0_3).bind fun t246 => (if t246 = true then ((manifest_nums.f k ([] : List Int) (([(l0_0.length : Int)] : List Int))).bind fun t250 => ((manifest_nums.f k t250 l0_0).bind fun t253 => ((manifest_nums.f k t253 (([(l0_1.length : Int)] : List Int))).bind fun t259 => (manifest_Write.l0 k t259 l0_1 (l0_1.length : Int) 0 l0_0 l0_1 a0_2 a0_3)))) else (some ((⟨#[]⟩ : ByteArray), 1)))
theorem manifest_Write.mono_l : ∀ k, (∀ y0 y1 y2 y3 y4 y5 y6 y7, LeO (manifest_Write.l0 k y0 y1 y2 y3 y4 y5 y6 y7) (manifest_Write.l0 (k + 1) y0 y1 y2 y3 y4 y5 y6 y7))
 | 0 => fun _ _ _ _ _ _ _ _ r h => by simp [manifest_Write.l0] at h
 | k + 1 => by
  have ih0 := manifest_Write.mono_l k
  ·intro y0 y1 y2 y3 y4 y5 y6 y7
   unfold manifest_Write.l0
   repeat' first
   | (with_reducible exact ih0 _ _ _ _ _ _ _ _)
   | (with_reducible exact frame_Write.mono _ _)
   | (with_reducible exact manifest_bounds.mono _ _ _)
   | (with_reducible exact manifest_nums.mono _ _ _)
   | (with_reducible exact LeO.refl _)
   | (with_reducible exact LeO.none _)
   | (with_reducible refine LeO.ite ?_ ?_)
   | (with_reducible refine LeO.bind ?_ (fun _ => ?_))
   | exact ih0 _ _ _ _ _ _ _ _
   | exact frame_Write.mono _ _
   | exact manifest_bounds.mono _ _ _
   | exact manifest_nums.mono _ _ _
   | exact LeO.none _
   | refine LeO.ite ?_ ?_
   | refine LeO.bind ?_ (fun _ => ?_)
theorem manifest_Write.mono : ∀ a0 a1 a2 a3 k, LeO (manifest_Write.f k a0 a1 a2 a3) (manifest_Write.f (k + 1) a0 a1 a2 a3) := by
 intro a0 a1 a2 a3 k
 have ih0 := manifest_Write.mono_l k
 unfold manifest_Write.f
 repeat' first
   | (with_reducible exact ih0 _ _ _ _ _ _ _ _)
   | (with_reducible exact frame_Write.mono _ _)
   | (with_reducible exact manifest_bounds.mono _ _ _)
   | (with_reducible exact manifest_nums.mono _ _ _)
   | (with_reducible exact LeO.refl _)
   | (with_reducible exact LeO.none _)
   | (with_reducible refine LeO.ite ?_ ?_)
   | (with_reducible refine LeO.bind ?_ (fun _ => ?_))
   | exact ih0 _ _ _ _ _ _ _ _
   | exact frame_Write.mono _ _
   | exact manifest_bounds.mono _ _ _
   | exact manifest_nums.mono _ _ _
   | exact LeO.none _
   | refine LeO.ite ?_ ?_
   | refine LeO.bind ?_ (fun _ => ?_)
def manifest_Write.T3 : Bool × List (List Nat × List Nat) := (true, [([], []), ([0], [0]), ([1], [1]), ([2], [2]), ([3], [3]), ([], []), ([5], [5]), ([4, 6, 4], [4, 6]), ([7, 7, 0, 1, 2, 3, 4, 5, 6, 7], [7])])
def manifest_Write.B3 : List Nat := [0, 1, 3, 7, 15, 0, 32, 127, 255]
theorem manifest_Write.tab3 : rtab .any (opsOf Try.f12 3) = manifest_Write.T3 := by kernel_rfl
theorem manifest_Write.bits3 : waitsOk manifest_Write.T3.2 manifest_Write.B3 = true := by kernel_rfl
def manifest_Write.T8 : Bool × List (List Nat × List Nat) := (true, [([], []), ([], []), ([1], [1]), ([], []), ([3], [3]), ([2, 4], [2, 4]), ([0, 5], [0, 5]), ([], []), ([7], [7]), ([], []), ([9], [9]), ([8, 10], [8, 10]), ([6, 11, 6], [6, 11]), ([12, 12, 0, 1, 2, 3, 4, 5, 6, 7, 8, 9, 10, 11, 12], [0, 12])])
def manifest_Write.B8 : List Nat := [0, 0, 2, 0, 8, 30, 63, 0, 128, 0, 512, 1920, 4095, 8191]
theorem manifest_Write.tab8 : rtab .any (opsOf Try.f12 8) = manifest_Write.T8 := by kernel_rfl
theorem manifest_Write.bits8 : waitsOk manifest_Write.T8.2 manifest_Write.B8 = true := by kernel_rfl
set_option maxHeartbeats 8000000 in
set_option maxRecDepth 100000 in
theorem manifest_Write.calls (k : Nat) (A0_0 : Option Addr) (c0_0 : Nat) (l0_0 : List Int) (A0_1 : Option Addr) (c0_1 : Nat) (l0_1 : List (S36)) (a0_2 : Int) (a0_3 : Int) (r1 : ByteArray) (r2 : Int) (w : World) (hr0_0 : Kd.C (Kd.int .i64) w A0_0 l0_0.length l0_0) (hc0_0 : l0_0.length ≤ c0_0) (hr0_1 : Kd.C k36 w A0_1 l0_1.length l0_1) (hc0_1 : l0_1.length ≤ c0_1) (h : manifest_Write.f k l0_0 l0_1 a0_2 a0_3 = some (r1, r2)) :
  Calls Try.prog 12 #[.agg #[.slice A0_0 l0_0.length c0_0, .slice A0_1 l0_1.length c0_1, .int .i64 a0_2, .int .i64 a0_3]] w fun e w' => e = .returned (.tuple #[.string r1, .int .i64 r2]) ∧ Below w.heap.size w w' := by
 have hu32 := Try.underlying32
 have hu36 := Try.underlying36
 have hu34 := Try.underlying34
 have HR0_0 := Aside0.mk hr0_0
 have HC0_0 := Aside0.mk hc0_0
 clear hr0_0 hc0_0
 have HR0_1 := Aside0.mk hr0_1
 have HC0_1 := Aside0.mk hc0_1
 clear hr0_1 hc0_1
 have HB := Aside0.mk (Below.refl w.heap.size w)
 have H : ((manifest_right.f l0_0 l0_1 a0_2 a0_3).bind fun t246 => (if t246 = true then ((manifest_nums.f k ([] : List Int) (([(l0_0.length : Int)] : List Int))).bind fun t250 => ((manifest_nums.f k t250 l0_0).bind fun t253 => ((manifest_nums.f k t253 (([(l0_1.length : Int)] : List Int))).bind fun t259 => (manifest_Write.l0 k t259 l0_1 (l0_1.length : Int) 0 l0_0 l0_1 a0_2 a0_3)))) else (some ((⟨#[]⟩ : ByteArray), 1)))) = some (r1, r2) := h
 clear h
 replace H := Option.bind_eq_some_iff.mp H
 obtain ⟨t246, A20, H⟩ := H
 replace H : (if t246 = true then ((manifest_nums.f k ([] : List Int) (([(l0_0.length : Int)] : List Int))).bind fun t250 => ((manifest_nums.f k t250 l0_0).bind fun t253 => ((manifest_nums.f k t253 (([(l0_1.length : Int)] : List Int))).bind fun t259 => (manifest_Write.l0 k t259 l0_1 (l0_1.length : Int) 0 l0_0 l0_1 a0_2 a0_3)))) else (some ((⟨#[]⟩ : ByteArray), 1))) = some (r1, r2) := H
 have A2 := Aside0.mk A20
 clear A20
 by_cases c3 : t246 = true
 ·subst c3
  have H1 : ((manifest_nums.f k ([] : List Int) (([(l0_0.length : Int)] : List Int))).bind fun t250 => ((manifest_nums.f k t250 l0_0).bind fun t253 => ((manifest_nums.f k t253 (([(l0_1.length : Int)] : List Int))).bind fun t259 => (manifest_Write.l0 k t259 l0_1 (l0_1.length : Int) 0 l0_0 l0_1 a0_2 a0_3)))) = some (r1, r2) := by rw [if_pos rfl] at H; exact H
  clear H
  have H := H1
  clear H1
  obtain ⟨y247, hy247⟩ : ∃ y_ : List Int, y_ = (([(l0_0.length : Int)] : List Int)) := ⟨_, rfl⟩
  replace H : ((manifest_nums.f k ([] : List Int) y247).bind fun t250 => ((manifest_nums.f k t250 l0_0).bind fun t253 => ((manifest_nums.f k t253 (([(l0_1.length : Int)] : List Int))).bind fun t259 => (manifest_Write.l0 k t259 l0_1 (l0_1.length : Int) 0 l0_0 l0_1 a0_2 a0_3)))) = some (r1, r2) := by first | (rw [hy247]; with_reducible exact H) | (have H2_ := (Option.bind_some _ _).symm.trans H; rw [hy247]; with_reducible exact H2_) | (have H2_ := (Option.bind_some _ _).symm.trans H; with_reducible exact H2_) | with_reducible exact H | (rw [hy247]; exact H) | exact H
  have Ny247 := Aside0.mk hy247
  clear hy247
  replace H := Option.bind_eq_some_iff.mp H
  obtain ⟨t250, A40, H⟩ := H
  replace H : ((manifest_nums.f k t250 l0_0).bind fun t253 => ((manifest_nums.f k t253 (([(l0_1.length : Int)] : List Int))).bind fun t259 => (manifest_Write.l0 k t259 l0_1 (l0_1.length : Int) 0 l0_0 l0_1 a0_2 a0_3))) = some (r1, r2) := H
  have A4 := Aside0.mk A40
  clear A40
  replace H := Option.bind_eq_some_iff.mp H
  obtain ⟨t253, A50, H⟩ := H
  replace H : ((manifest_nums.f k t253 (([(l0_1.length : Int)] : List Int))).bind fun t259 => (manifest_Write.l0 k t259 l0_1 (l0_1.length : Int) 0 l0_0 l0_1 a0_2 a0_3)) = some (r1, r2) := H
  have A5 := Aside0.mk A50
  clear A50
  obtain ⟨y256, hy256⟩ : ∃ y_ : List Int, y_ = (([(l0_1.length : Int)] : List Int)) := ⟨_, rfl⟩
  replace H : ((manifest_nums.f k t253 y256).bind fun t259 => (manifest_Write.l0 k t259 l0_1 (l0_1.length : Int) 0 l0_0 l0_1 a0_2 a0_3)) = some (r1, r2) := by first | (rw [hy256]; with_reducible exact H) | (have H2_ := (Option.bind_some _ _).symm.trans H; rw [hy256]; with_reducible exact H2_) | (have H2_ := (Option.bind_some _ _).symm.trans H; with_reducible exact H2_) | with_reducible exact H | (rw [hy256]; exact H) | exact H
  have Ny256 := Aside0.mk hy256
  clear hy256
  replace H := Option.bind_eq_some_iff.mp H
  obtain ⟨t259, A60, H⟩ := H
  replace H : (manifest_Write.l0 k t259 l0_1 (l0_1.length : Int) 0 l0_0 l0_1 a0_2 a0_3) = some (r1, r2) := H
  have A6 := Aside0.mk A60
  clear A60
  have H' := Aside0.mk H
  clear H
  go_enter Try.func12, Try.ntmps12
  try go_wp2_with (first | ((with_reducible refine gate_dst (N := 1) rfl ?_); refine box_event ?hg (N := 1) ?hd (cs := #[.slice A0_0 l0_0.length c0_0, .slice A0_1 l0_1.length c0_1, .int .i64 a0_2, .int .i64 a0_3]) (t := 32) ?hr ?_; (case hd => rfl); (case hg => rfl); (case hr => first | (go_simp; done) | (go_simp; rfl)); intro gb245 hg w7 hbox hb; have n0_ := Aside0.mk (below_step z0_ hb); have n1_ := Aside0.mk (hbox); have n2_ := Aside0.mk ((by rw [hg]; exact (below_size z0_) : w.heap.size ≤ gb245)); have n3_ := Aside0.mk ((by rw [hg]; exact (below_size z0_) : w.heap.size ≤ gb245)); clear HB; have HB := n0_; have BK245 := n1_; have GW245 := n2_; have GE245 := n3_; clear n0_ n1_ n2_ n3_; clear hb hbox hg; have hcz8_0 : w7.cell? ⟨gb245, 0, none⟩ = some (.slice A0_0 l0_0.length c0_0) := (blk_cell BK245.out 0).trans rfl; have hcz8_1 : w7.cell? ⟨gb245, 1, none⟩ = some (.slice A0_1 l0_1.length c0_1) := (blk_cell BK245.out 1).trans rfl; have hcz8_2 : w7.cell? ⟨gb245, 2, none⟩ = some (.int .i64 a0_2) := (blk_cell BK245.out 2).trans rfl; have hcz8_3 : w7.cell? ⟨gb245, 3, none⟩ = some (.int .i64 a0_3) := (blk_cell BK245.out 3).trans rfl; have hfz8_0 := blk_frozen BK245.out 0; have hfz8_1 := blk_frozen BK245.out 1; have hfz8_2 := blk_frozen BK245.out 2; have hfz8_3 := blk_frozen BK245.out 3) | ((with_reducible refine gate_callee (f := 18) rfl ?_); refine goesL_ (some 8) rfl rfl Try.func18 (by kernel_rfl) rfl #[.agg #[.slice A0_0 l0_0.length c0_0, .slice A0_1 l0_1.length c0_1, .int .i64 a0_2, .int .i64 a0_3]] rfl (by (try simp only [List.map_toArray, List.map_cons, List.map_nil]); first | done | rfl | (simp only [List.length_drop, List.length_take]; rfl) | (go_simp; simp [IntKind.wrap, IntKind.bits, IntKind.signed]; omega)) ?_; (with_reducible refine (manifest_right.calls _ _ l0_0 _ _ l0_1 a0_2 a0_3 true _ ?side1 ?side2 ?side3 ?side4 A2.out).mono ?_); (case side1 => repeat (first | exact (Kd.C_below HR0_0.out HB.out) | (with_reducible refine Kd.C_alloc ?_ _) | (with_reducible refine Kd.C_drewN ?_ _) | (with_reducible refine Kd.C_drew ?_))); (case side2 => exact HC0_0.out); (case side3 => repeat (first | exact (Kd.C_below HR0_1.out HB.out) | (with_reducible refine Kd.C_alloc ?_ _) | (with_reducible refine Kd.C_drewN ?_ _) | (with_reducible refine Kd.C_drew ?_))); (case side4 => exact HC0_1.out); rintro e w9 ⟨rfl, hb⟩; refine ⟨_, rfl, ?_⟩; have n0_ := Aside0.mk (blk_below (g := gb245) (o := .cells #[.slice A0_0 l0_0.length c0_0, .slice A0_1 l0_1.length c0_1, .int .i64 a0_2, .int .i64 a0_3] 32 (0, 0)) (by (with_reducible repeat (first | refine blk_drewN ?_ _ | refine blk_drew ?_ | refine blk_alloc ?_ _)); exact BK245.out) hb); have n1_ := Aside0.mk (below_step z7_ hb); clear BK245; clear HB; have BK245 := n0_; have HB := n1_; clear n0_ n1_; (try clear hb); (try clear hb2); (try clear hk); (try clear hi)))
  have n0_ := Aside0.mk (blk_drew BK245.out)
  have n1_ := Aside0.mk (below_drew1 HB.out)
  clear BK245
  clear HB
  have BK245 := n0_
  have HB := n1_
  clear n0_ n1_
  refine start_ (n := 9) (S := fun w' => w'.cell? ⟨gb245, 0, none⟩ = some (.slice A0_0 l0_0.length c0_0) ∧ w'.cell? ⟨gb245, 1, none⟩ = some (.slice A0_1 l0_1.length c0_1) ∧ w'.cell? ⟨gb245, 2, none⟩ = some (.int .i64 a0_2) ∧ w'.cell? ⟨gb245, 3, none⟩ = some (.int .i64 a0_3)) (ds := []) (bs_ 9 0) (by kernel_rfl) rfl rfl ⟨(blk_cell BK245.out 0).trans rfl, (blk_cell BK245.out 1).trans rfl, (blk_cell BK245.out 2).trans rfl, (blk_cell BK245.out 3).trans rfl⟩ (fun hHeld => ?_); refine with_tabW manifest_Write.tab3 manifest_Write.bits3 (fun HT_ HW_ => ?_)
  generalize w9.drew = w10 at BK245 HB hHeld ⊢
  refine pA_ 0 (some 10) (bs_ 9 1) HT_ ?_ ?_ ?_ ?_ ?_
  rotate_left; (intro w'; go_simp; with_reducible rfl); rotate_left; (simp only [PT_]; rfl)
  refine pA_ 5 (some 15) (bs_ 9 33) HT_ ?_ ?_ ?_ ?_ ?_
  rotate_left; (intro w'; go_simp; with_reducible rfl); rotate_left; (simp only [PT_]; rfl)
  refine take_ (i := 1) (N := some 11) (v := ?_) (a' := ?_) (bs_ 9 35) rfl rfl (take_ofW HT_.out HW_.out (by kernel_rfl)) (fun _ _ _ h => h) (Or.inl ⟨by rfl, ?_⟩) hHeld ?_ ?_
  rotate_left
  ·rintro w' ⟨s0, s1, s2, s3⟩
   go_simp
   with_reducible rfl
  rotate_left
  ·simp only [PT_]
   rfl
  refine pA_ 2 (some 12) (bs_ 9 39) HT_ ?_ ?_ ?_ ?_ ?_
  rotate_left; (intro w'; go_simp; with_reducible rfl); rotate_left; (simp only [PT_]; rfl)
  refine take_ (i := 6) (N := some 16) (v := ?_) (a' := ?_) (bs_ 9 103) rfl rfl (take_ofW HT_.out HW_.out (by kernel_rfl)) (fun _ _ _ h => h) (Or.inl ⟨by rfl, ?_⟩) hHeld ?_ ?_
  rotate_left
  ·rintro w' ⟨s0, s1, s2, s3⟩
   go_simp
   with_reducible rfl
  rotate_left
  ·simp only [PT_]
   rfl
  refine oA_ 3 (some 13) (bs_ 9 111) HT_ (fun K hK => ?_)
  refine Kd.R_lit_step (Kd.int .i64) _ 3 ?hg (N := 13) ?hd (xs := ([(l0_0.length : Int)] : List Int)) (inner := [.int .i64 (l0_0.length : Int)]) (ok := fun _ => True) (okp := fun _ => True) ?hr ?hp (fun _ hk => hk) trivial (Below.refl _ _) (Nat.le_refl _) (by simp) ?_; (case hd => rfl); (case hg => rfl); (case hr => first | (go_simp; done) | (go_simp; rfl)); (case hp => exact (Reps.one (show Kd.M (Kd.int .i64) _ _ _ (l0_0.length : Int) [.int .i64 (l0_0.length : Int)] from rfl) (Reps.none _ _)))
  intro v248 w11 ho12 hb hg_ hnew_
  clear hg_ hnew_
  (first | rw [← Ny247.out] at ho12 | (simp only [Int.reduceToNat] at ho12; rw [← Ny247.out] at ho12))
  have n0_ := Aside0.mk (Kd.R_lower ho12 (below_size z7_))
  have n1_ := Aside0.mk (blk_below (g := gb245) (o := .cells #[.slice A0_0 l0_0.length c0_0, .slice A0_1 l0_1.length c0_1, .int .i64 a0_2, .int .i64 a0_3] 32 (0, 0)) (by (with_reducible repeat (first | refine blk_drewN ?_ _ | refine blk_drew ?_ | refine blk_alloc ?_ _)); exact BK245.out) hb)
  have n2_ := Aside0.mk (below_step z7_ hb)
  clear BK245
  clear HB
  have HO249 := n0_
  have BK245 := n1_
  have HB := n2_
  clear n0_ n1_ n2_
  clear hb ho12
  obtain ⟨Ao13, co13, eo13⟩ := Kd.R_slice HO249.out
  (first | subst eo13 | (injection eo13 with f1_ f2_ f3_; have f4_ := f1_.symm; have f5_ := f3_.symm; clear f1_ f2_ f3_; subst f4_; subst f5_))
  refine hK.out _ _ ⟨(blk_cell BK245.out 0).trans rfl, (blk_cell BK245.out 1).trans rfl, (blk_cell BK245.out 2).trans rfl, (blk_cell BK245.out 3).trans rfl⟩ (fun hHeld => ?_)
  clear hK K
  refine norm_ (a' := ?_) ?_ ?_; rotate_left; (show Act.put _ (some 13) _ = _; simp only [PT_]; rfl)
  refine oA_ 4 (some 14) (bs_ 9 127) HT_ (fun K hK => ?_)
  refine goes_ Try.func20 (by kernel_rfl) rfl #[.slice none 0 0, .slice Ao13 y247.length co13] (by rfl) rfl rfl (by (try simp only [List.map_toArray, List.map_cons, List.map_nil]); first | done | rfl | (simp only [List.length_drop, List.length_take]; rfl)) ?_
  refine (manifest_nums.calls k (fun k_ => some k_ = (.slice none 0 0 : Value).ownBlock) (.slice none 0 0) ([] : List Int) _ _ y247 t250 w _ ?side1 ?side2 ?side3 ?side4 A4.out).mono ?_
  (case side1 => repeat (first | (with_reducible first | exact HB.out | apply below_alloc | apply pw_below_drewN | apply below_drew1 | refine below_set ?_ GE245.out) | exact HB.out))
  (case side2 => exact Kd.R_nil _ _ _ _ _)
  (case side3 => exact Kd.C_kept_own (HO249.out) (fun k_ hk_ hs_ => (fun e_ => by simp [Value.ownBlock] at e_) hs_))
  (case side4 => exact (Kd.R_reads' HO249.out).2.1)
  rintro e w14 ⟨v251, rfl, ho0, hb, hkp⟩
  refine ⟨_, rfl, ?_⟩
  have n0_ := Aside0.mk (blk_kept (by (with_reducible repeat (first | refine blk_drewN ?_ _ | refine blk_drew ?_ | refine blk_alloc ?_ _)); exact BK245.out) hkp (fun hs_ => (fun e_ => by simp [Value.ownBlock] at e_) hs_))
  have n1_ := Aside0.mk (Kd.R_mono (ok' := fun k_ => True) (Kd.R_keptB (HO249.out) hkp (fun k_ hk_ hs_ => (fun e_ => by simp [Value.ownBlock] at e_) hs_)) (fun k_ hk_ => trivial))
  have n2_ := Aside0.mk (Kd.R_mono (ok' := fun k_ => True) ho0 (fun k_ hk_ => trivial))
  have n3_ := Aside0.mk (hb)
  clear BK245
  clear HO249
  clear HB
  have BK245 := n0_
  have HO249 := n1_
  have HO252 := n2_
  have HB := n3_
  clear n0_ n1_ n2_ n3_
  (try clear hb)
  (try clear hkp)
  (try clear ho0)
  obtain ⟨Ao15, co15, eo15⟩ := Kd.R_slice HO252.out
  (first | subst eo15 | (injection eo15 with f1_ f2_ f3_; have f4_ := f1_.symm; have f5_ := f3_.symm; clear f1_ f2_ f3_; subst f4_; subst f5_))
  refine hK.out _ _ ⟨(blk_cell BK245.out 0).trans rfl, (blk_cell BK245.out 1).trans rfl, (blk_cell BK245.out 2).trans rfl, (blk_cell BK245.out 3).trans rfl⟩ (fun hHeld => ?_)
  clear hK K
  refine norm_ (a' := ?_) ?_ ?_; rotate_left; (show Act.put _ (some 14) _ = _; simp only [PT_]; rfl)
  refine oA_ 7 (some 17) (bs_ 9 255) HT_ (fun K hK => ?_)
  refine goes_ Try.func20 (by kernel_rfl) rfl #[.slice Ao15 t250.length co15, .slice A0_0 l0_0.length c0_0] (by rfl) rfl rfl (by (try simp only [List.map_toArray, List.map_cons, List.map_nil]); first | done | rfl | (simp only [List.length_drop, List.length_take]; rfl)) ?_
  with_reducible refine (manifest_nums.calls k (fun k_ => some k_ = (.slice Ao15 t250.length co15 : Value).ownBlock) (.slice Ao15 t250.length co15) t250 _ _ l0_0 t253 w _ ?side1 ?side2 ?side3 ?side4 A5.out).mono ?_
  (case side1 => repeat (first | (with_reducible first | exact HB.out | apply below_alloc | apply pw_below_drewN | apply below_drew1 | refine below_set ?_ GE245.out) | exact HB.out))
  (case side2 => exact Kd.R_tight rfl HO252.out)
  (case side3 => exact Kd.C_kept_came (Kd.heap_int .i64) HR0_0.out z7_ (fun k_ hs_ => (fun e_ => Kd.R_base HO252.out k_ e_.symm) hs_))
  (case side4 => exact HC0_0.out)
  rintro e w16 ⟨v254, rfl, ho0, hb, hkp⟩
  refine ⟨_, rfl, ?_⟩
  have n0_ := Aside0.mk (blk_kept (by (with_reducible repeat (first | refine blk_drewN ?_ _ | refine blk_drew ?_ | refine blk_alloc ?_ _)); exact BK245.out) hkp (fun hs_ => (fun e_ => (Kd.R_ne HO252.out BK245.out (by decide)) e_) hs_))
  have n1_ := Aside0.mk (Kd.R_mono (ok' := fun k_ => True) (Kd.R_keptB ((Kd.R_apart' HO249.out (Kd.R_typed HO252.out) (by decide))) hkp (fun k_ hk_ hs_ => (hk_.2) hs_)) (fun k_ hk_ => trivial))
  have n2_ := Aside0.mk (Kd.R_mono (ok' := fun k_ => True) ho0 (fun k_ hk_ => trivial))
  have n3_ := Aside0.mk (hb)
  clear BK245
  clear HO249
  clear HB
  clear HO252
  have BK245 := n0_
  have HO249 := n1_
  have HO255 := n2_
  have HB := n3_
  clear n0_ n1_ n2_ n3_
  (try clear hb)
  (try clear hkp)
  (try clear ho0)
  refine hK.out _ _ ⟨(blk_cell BK245.out 0).trans rfl, (blk_cell BK245.out 1).trans rfl, (blk_cell BK245.out 2).trans rfl, (blk_cell BK245.out 3).trans rfl⟩ (fun hHeld => ?_)
  clear hK K
  refine norm_ (a' := ?_) ?_ ?_; rotate_left; (show Act.put _ (some 17) _ = _; simp only [PT_]; rfl)
  refine pA_ 8 (some 4) (bs_ 9 511) HT_ ?_ ?_ ?_ ?_ ?_
  rotate_left; (intro w'; go_simp; with_reducible rfl); rotate_left; (simp only [PT_]; rfl)
  refine done_ (done_of HT_.out (by kernel_rfl)) ?_
  have hcz17_0 : w16.cell? ⟨gb245, 0, none⟩ = some (.slice A0_0 l0_0.length c0_0) := (blk_cell BK245.out 0).trans rfl
  have hcz17_1 : w16.cell? ⟨gb245, 1, none⟩ = some (.slice A0_1 l0_1.length c0_1) := (blk_cell BK245.out 1).trans rfl
  have hcz17_2 : w16.cell? ⟨gb245, 2, none⟩ = some (.int .i64 a0_2) := (blk_cell BK245.out 2).trans rfl
  have hcz17_3 : w16.cell? ⟨gb245, 3, none⟩ = some (.int .i64 a0_3) := (blk_cell BK245.out 3).trans rfl
  have hfz17_0 := blk_frozen BK245.out 0
  have hfz17_1 := blk_frozen BK245.out 1
  have hfz17_2 := blk_frozen BK245.out 2
  have hfz17_3 := blk_frozen BK245.out 3
  try go_wp2_with (first | ((with_reducible refine gate_dst (N := 22) rfl ?_); refine Kd.R_lit (Kd.int .i64) _ 3 ?hg (N := 22) ?hd (xs := ([(l0_1.length : Int)] : List Int)) (inner := [.int .i64 (l0_1.length : Int)]) (ok := fun _ => True) (okp := fun _ => True) ?hr ?hp (fun _ hk => hk) trivial (Below.refl _ _) (Nat.le_refl _) (by simp) ?_; (case hd => rfl); (case hg => rfl); (case hr => first | (go_simp; done) | (go_simp; rfl)); (case hp => exact (Reps.one (show Kd.M (Kd.int .i64) _ _ _ (l0_1.length : Int) [.int .i64 (l0_1.length : Int)] from rfl) (Reps.none _ _))); intro v257 w18 ho19 hb hg_ hnew_; clear hg_ hnew_; (first | rw [← Ny256.out] at ho19 | (simp only [Int.reduceToNat] at ho19; rw [← Ny256.out] at ho19)); have n0_ := Aside0.mk (Kd.R_elder' (by (with_reducible repeat (first | apply Kd.R_alloc | apply Kd.R_drewN | apply Kd.R_drew)); exact HO249.out) (Kd.R_base ho19) hb); have n1_ := Aside0.mk (Kd.R_below (by (with_reducible repeat (first | apply Kd.R_alloc | apply Kd.R_drewN | apply Kd.R_drew)); exact HO255.out) hb); have n2_ := Aside0.mk (Kd.R_lower (Kd.R_new' ho19 (Kd.R_lt (by (with_reducible repeat (first | apply Kd.R_alloc | apply Kd.R_drewN | apply Kd.R_drew)); exact HO249.out))) (below_size z7_)); have n3_ := Aside0.mk (blk_below (g := gb245) (o := .cells #[.slice A0_0 l0_0.length c0_0, .slice A0_1 l0_1.length c0_1, .int .i64 a0_2, .int .i64 a0_3] 32 (0, 0)) (by (with_reducible repeat (first | refine blk_drewN ?_ _ | refine blk_drew ?_ | refine blk_alloc ?_ _)); exact BK245.out) hb); have n4_ := Aside0.mk (below_step z7_ hb); clear HO249; clear HO255; clear BK245; clear HB; have HO249 := n0_; have HO255 := n1_; have HO258 := n2_; have BK245 := n3_; have HB := n4_; clear n0_ n1_ n2_ n3_ n4_; clear hb ho19; obtain ⟨Ao20, co20, eo20⟩ := Kd.R_slice HO255.out; subst eo20; obtain ⟨Ao21, co21, eo21⟩ := Kd.R_slice HO258.out; subst eo21) | ((with_reducible refine gate_callee (f := 20) rfl ?_); refine goesL_ (some 23) rfl rfl Try.func20 (by kernel_rfl) rfl #[.slice Ao20 t253.length co20, .slice Ao21 y256.length co21] rfl (by (try simp only [List.map_toArray, List.map_cons, List.map_nil]); first | done | rfl | (simp only [List.length_drop, List.length_take]; rfl) | (go_simp; simp [IntKind.wrap, IntKind.bits, IntKind.signed]; omega)) ?_; (with_reducible refine (manifest_nums.calls k (fun k_ => some k_ = (.slice Ao20 t253.length co20 : Value).ownBlock) (.slice Ao20 t253.length co20) t253 _ _ y256 t259 w _ ?side1 ?side2 ?side3 ?side4 A6.out).mono ?_); (case side1 => repeat (first | (with_reducible first | exact HB.out | apply below_alloc | apply pw_below_drewN | apply below_drew1 | refine below_set ?_ GE245.out) | exact HB.out)); (case side2 => exact Kd.R_tight rfl HO255.out); (case side3 => exact Kd.C_kept_own ((Kd.R_apart' HO258.out (Kd.R_typed HO255.out) (by decide))) (fun k_ hk_ hs_ => (hk_.2) hs_)); (case side4 => exact (Kd.R_reads' HO258.out).2.1); rintro e w22 ⟨v260, rfl, ho0, hb, hkp⟩; refine ⟨_, rfl, ?_⟩; have n0_ := Aside0.mk (blk_kept (by (with_reducible repeat (first | refine blk_drewN ?_ _ | refine blk_drew ?_ | refine blk_alloc ?_ _)); exact BK245.out) hkp (fun hs_ => (fun e_ => (Kd.R_ne HO255.out BK245.out (by decide)) e_) hs_)); have n1_ := Aside0.mk (Kd.R_mono (ok' := fun k_ => some k_ ≠ (.slice Ao21 y256.length co21 : Value).ownBlock) (Kd.R_keptB ((Kd.R_apart' HO249.out (Kd.R_typed HO255.out) (by decide))) hkp (fun k_ hk_ hs_ => (hk_.2) hs_)) (fun k_ hk_ => hk_.1.1.2)); have n2_ := Aside0.mk (Kd.R_mono (ok' := fun k_ => some k_ ≠ (.slice Ao13 y247.length co13 : Value).ownBlock) (Kd.R_keptB ((Kd.R_apart' HO258.out (Kd.R_typed HO255.out) (by decide))) hkp (fun k_ hk_ hs_ => (hk_.2) hs_)) (fun k_ hk_ => hk_.1.1.2)); have n3_ := Aside0.mk (Kd.R_mono (ok' := fun k_ => True) ho0 (fun k_ hk_ => trivial)); have n4_ := Aside0.mk (hb); clear BK245; clear HO249; clear HO258; clear HB; clear HO255; have BK245 := n0_; have HO249 := n1_; have HO258 := n2_; have HO261 := n3_; have HB := n4_; clear n0_ n1_ n2_ n3_ n4_; (try clear hb); (try clear hkp); (try clear ho0); have hcz23_0 : w22.cell? ⟨gb245, 0, none⟩ = some (.slice A0_0 l0_0.length c0_0) := (blk_cell BK245.out 0).trans rfl; have hcz23_1 : w22.cell? ⟨gb245, 1, none⟩ = some (.slice A0_1 l0_1.length c0_1) := (blk_cell BK245.out 1).trans rfl; have hcz23_2 : w22.cell? ⟨gb245, 2, none⟩ = some (.int .i64 a0_2) := (blk_cell BK245.out 2).trans rfl; have hcz23_3 : w22.cell? ⟨gb245, 3, none⟩ = some (.int .i64 a0_3) := (blk_cell BK245.out 3).trans rfl; have hfz23_0 := blk_frozen BK245.out 0; have hfz23_1 := blk_frozen BK245.out 1; have hfz23_2 := blk_frozen BK245.out 2; have hfz23_3 := blk_frozen BK245.out 3))
  go_loopg [4, 27] k (fun kq v4 v27 w' => ∃ (x4_1 : List Int) (x27_1 : Int), v27 = .int .i64 x27_1 ∧ Aside0 (manifest_Write.l0 kq x4_1 l0_1 (l0_1.length : Int) x27_1 l0_0 l0_1 a0_2 a0_3 = some (r1, r2)) ∧ Aside0 (kq ≤ k) ∧ Aside0 (Kd.R (Kd.int .u8) 5 w' w.heap.size (fun _ => True) v4 x4_1) ∧ Aside0 (w'.heap[gb245]? = some (.cells #[(.slice A0_0 l0_0.length c0_0), (.slice A0_1 l0_1.length c0_1), .int .i64 a0_2, .int .i64 a0_3] 32 (0, 0))) ∧ Aside0 (Below w.heap.size w w'))
  case atStart => exact ⟨(t259), (0), z8_, H', ⟨Nat.le_refl _⟩, ⟨by (with_reducible repeat (first | apply Kd.R_alloc | apply Kd.R_drewN | apply Kd.R_drew)); exact HO261.out⟩, ⟨by (with_reducible repeat (first | refine blk_drewN ?_ _ | refine blk_drew ?_ | refine blk_alloc ?_ _)); exact BK245.out⟩, ⟨z7_⟩⟩
  case round =>
   clear H'
   try clear c1
   try clear c2
   try clear p2
   try clear c3
   try clear c12
   try clear c18
   try clear c20
   try clear hcz17_0
   try clear hcz17_1
   try clear hcz17_2
   try clear hcz17_3
   try clear hcz23_0
   try clear hcz23_1
   try clear hcz23_2
   try clear hcz23_3
   try clear hcz8_0
   try clear hcz8_1
   try clear hcz8_2
   try clear hcz8_3
   try clear hfz17_0
   try clear hfz17_1
   try clear hfz17_2
   try clear hfz17_3
   try clear hfz23_0
   try clear hfz23_1
   try clear hfz23_2
   try clear hfz23_3
   try clear hfz8_0
   try clear hfz8_1
   try clear hfz8_2
   try clear hfz8_3
   obtain ⟨x4_1, x27_1, rfl, HA, HK1, HO_4, BK245, HB⟩ := hrel
   cases gk with
   | zero => exact absurd HA.out (by simp [manifest_Write.l0])
   | succ k1 =>
    have H := HA.out
    clear HA
    simp only [manifest_Write.l0] at H
    by_cases c24 : x27_1 < (l0_1.length : Int)
    ·rw [if_pos c24] at H
     have c24b0 : decide (x27_1 < (l0_1.length : Int)) = true := decide_eq_true c24
     clear c24
     by_cases c25 : 0 ≤ x27_1
     ·rw [if_pos c25] at H
      have c25b0 : decide (0 ≤ x27_1) = true := decide_eq_true c25
      clear c25
      by_cases c26 : x27_1 < (l0_1.length : Int)
      ·rw [if_pos c26] at H
       have c26b0 : decide (x27_1 < (l0_1.length : Int)) = true := decide_eq_true c26
       clear c26
       obtain ⟨y264, hy264⟩ : ∃ y_ : List Int, y_ = (([(rd_T36 l0_1 x27_1).f0, (rd_T36 l0_1 x27_1).f1] : List Int)) := ⟨_, rfl⟩
       replace H : ((manifest_nums.f k1 x4_1 y264).bind fun t267 => ((manifest_bounds.f k1 t267 (([(⟨(rd_T36 l0_1 x27_1).f2.f0, (rd_T36 l0_1 x27_1).f2.f1, (rd_T36 l0_1 x27_1).f2.f2⟩ : S34), (⟨(rd_T36 l0_1 x27_1).f3.f0, (rd_T36 l0_1 x27_1).f3.f1, (rd_T36 l0_1 x27_1).f3.f2⟩ : S34)] : List (S34)))).bind fun t273 => (manifest_Write.l0 k1 t273 l0_1 (l0_1.length : Int) (wrap64 (x27_1 + 1)) l0_0 l0_1 a0_2 a0_3))) = some (r1, r2) := by first | (rw [hy264]; with_reducible exact H) | (have H2_ := (Option.bind_some _ _).symm.trans H; rw [hy264]; with_reducible exact H2_) | (have H2_ := (Option.bind_some _ _).symm.trans H; with_reducible exact H2_) | with_reducible exact H | (rw [hy264]; exact H) | exact H
       have Ny264 := Aside0.mk hy264
       clear hy264
       replace H := Option.bind_eq_some_iff.mp H
       obtain ⟨t267, A270, H⟩ := H
       replace H : ((manifest_bounds.f k1 t267 (([(⟨(rd_T36 l0_1 x27_1).f2.f0, (rd_T36 l0_1 x27_1).f2.f1, (rd_T36 l0_1 x27_1).f2.f2⟩ : S34), (⟨(rd_T36 l0_1 x27_1).f3.f0, (rd_T36 l0_1 x27_1).f3.f1, (rd_T36 l0_1 x27_1).f3.f2⟩ : S34)] : List (S34)))).bind fun t273 => (manifest_Write.l0 k1 t273 l0_1 (l0_1.length : Int) (wrap64 (x27_1 + 1)) l0_0 l0_1 a0_2 a0_3)) = some (r1, r2) := H
       have A27 := Aside0.mk A270
       clear A270
       obtain ⟨y270, hy270⟩ : ∃ y_ : List (S34), y_ = (([(⟨(rd_T36 l0_1 x27_1).f2.f0, (rd_T36 l0_1 x27_1).f2.f1, (rd_T36 l0_1 x27_1).f2.f2⟩ : S34), (⟨(rd_T36 l0_1 x27_1).f3.f0, (rd_T36 l0_1 x27_1).f3.f1, (rd_T36 l0_1 x27_1).f3.f2⟩ : S34)] : List (S34))) := ⟨_, rfl⟩
       replace H : ((manifest_bounds.f k1 t267 y270).bind fun t273 => (manifest_Write.l0 k1 t273 l0_1 (l0_1.length : Int) (wrap64 (x27_1 + 1)) l0_0 l0_1 a0_2 a0_3)) = some (r1, r2) := by first | (rw [hy270]; with_reducible exact H) | (have H2_ := (Option.bind_some _ _).symm.trans H; rw [hy270]; with_reducible exact H2_) | (have H2_ := (Option.bind_some _ _).symm.trans H; with_reducible exact H2_) | with_reducible exact H | (rw [hy270]; exact H) | exact H
       have Ny270 := Aside0.mk hy270
       clear hy270
       replace H := Option.bind_eq_some_iff.mp H
       obtain ⟨t273, A280, H⟩ := H
       replace H : (manifest_Write.l0 k1 t273 l0_1 (l0_1.length : Int) (wrap64 (x27_1 + 1)) l0_0 l0_1 a0_2 a0_3) = some (r1, r2) := H
       have A28 := Aside0.mk A280
       clear A280
       have H' := Aside0.mk H
       clear H
       have p262 : 0 ≤ (x27_1 : Int) := of_decide_eq_true z11_
       have q262 : x27_1 < (l0_1.length : Int) := of_decide_eq_true z11_
       obtain ⟨ad262, e262, hx262_0, hx262_1, hx262_2, hx262_3, hx262_4, hx262_5, hx262_6, hx262_7⟩ := at_T36 HR0_1.out x27_1 p262 q262
       cases e262
       replace hx262_0 := (HB.out.cell (World.block_lt_of_cell? w _ hx262_0)).trans hx262_0
       replace hx262_1 := (HB.out.cell (World.block_lt_of_cell? w _ hx262_1)).trans hx262_1
       replace hx262_2 := (HB.out.cell (World.block_lt_of_cell? w _ hx262_2)).trans hx262_2
       replace hx262_3 := (HB.out.cell (World.block_lt_of_cell? w _ hx262_3)).trans hx262_3
       replace hx262_4 := (HB.out.cell (World.block_lt_of_cell? w _ hx262_4)).trans hx262_4
       replace hx262_5 := (HB.out.cell (World.block_lt_of_cell? w _ hx262_5)).trans hx262_5
       replace hx262_6 := (HB.out.cell (World.block_lt_of_cell? w _ hx262_6)).trans hx262_6
       replace hx262_7 := (HB.out.cell (World.block_lt_of_cell? w _ hx262_7)).trans hx262_7
       replace p262 := eq_true p262
       replace q262 := eq_true q262
       try go_wp2_with (first | ((with_reducible refine gate_dst (N := 6) rfl ?_); refine box_event ?hg (N := 6) ?hd (cs := #[.int .i64 0, .int .i64 0, .bool false, .int .i64 0, .string (⟨#[]⟩ : ByteArray), .bool false, .int .i64 0, .string (⟨#[]⟩ : ByteArray)]) (t := 36) ?hr ?_; (case hd => rfl); (case hg => rfl); (case hr => first | (go_simp; done) | (go_simp; rfl)); intro gb263 hg w29 hbox hb; have n0_ := Aside0.mk (Kd.R_below (by (with_reducible repeat (first | apply Kd.R_alloc | apply Kd.R_drewN | apply Kd.R_drew)); exact HO_4.out) hb); have n1_ := Aside0.mk (blk_below (g := gb245) (o := .cells #[.slice A0_0 l0_0.length c0_0, .slice (some ad262) l0_1.length c0_1, .int .i64 a0_2, .int .i64 a0_3] 32 (0, 0)) (by (with_reducible repeat (first | refine blk_drewN ?_ _ | refine blk_drew ?_ | refine blk_alloc ?_ _)); exact BK245.out) hb); have n2_ := Aside0.mk (below_step z7_ hb); have n3_ := Aside0.mk (hbox); have n4_ := Aside0.mk ((by rw [hg]; exact (below_size z7_) : w.heap.size ≤ gb263)); have n5_ := Aside0.mk ((by rw [hg]; exact (below_size z7_) : w.heap.size ≤ gb263)); have n6_ := Aside0.mk ((by rw [hg]; exact Nat.ne_of_lt (blk_lt (g := gb245) (o := .cells #[.slice A0_0 l0_0.length c0_0, .slice (some ad262) l0_1.length c0_1, .int .i64 a0_2, .int .i64 a0_3] 32 (0, 0)) (by (with_reducible repeat (first | refine blk_drewN ?_ _ | refine blk_drew ?_ | refine blk_alloc ?_ _)); exact BK245.out)) : gb245 ≠ gb263)); have n7_ := Aside0.mk ((by rw [hg]; exact Nat.ne_of_gt (blk_lt (g := gb245) (o := .cells #[.slice A0_0 l0_0.length c0_0, .slice (some ad262) l0_1.length c0_1, .int .i64 a0_2, .int .i64 a0_3] 32 (0, 0)) (by (with_reducible repeat (first | refine blk_drewN ?_ _ | refine blk_drew ?_ | refine blk_alloc ?_ _)); exact BK245.out)) : gb263 ≠ gb245)); clear HO_4; clear BK245; clear HB; have HO_4 := n0_; have BK245 := n1_; have HB := n2_; have BK263 := n3_; have GW263 := n4_; have GE263 := n5_; have NB245_263 := n6_; have NB263_245 := n7_; clear n0_ n1_ n2_ n3_ n4_ n5_ n6_ n7_; clear hb hbox hg; have hnb30 := NB263_245.out; have hnc30 := NB245_263.out; have hcz31_0 : w29.cell? ⟨gb263, 0, none⟩ = some (.int .i64 0) := (blk_cell BK263.out 0).trans rfl; have hcz31_1 : w29.cell? ⟨gb263, 1, none⟩ = some (.int .i64 0) := (blk_cell BK263.out 1).trans rfl; have hcz31_2 : w29.cell? ⟨gb263, 2, none⟩ = some (.bool false) := (blk_cell BK263.out 2).trans rfl; have hcz31_3 : w29.cell? ⟨gb263, 3, none⟩ = some (.int .i64 0) := (blk_cell BK263.out 3).trans rfl; have hcz31_4 : w29.cell? ⟨gb263, 4, none⟩ = some (.string (⟨#[]⟩ : ByteArray)) := (blk_cell BK263.out 4).trans rfl; have hcz31_5 : w29.cell? ⟨gb263, 5, none⟩ = some (.bool false) := (blk_cell BK263.out 5).trans rfl; have hcz31_6 : w29.cell? ⟨gb263, 6, none⟩ = some (.int .i64 0) := (blk_cell BK263.out 6).trans rfl; have hcz31_7 : w29.cell? ⟨gb263, 7, none⟩ = some (.string (⟨#[]⟩ : ByteArray)) := (blk_cell BK263.out 7).trans rfl; have hfz31_0 := blk_frozen BK263.out 0; have hfz31_1 := blk_frozen BK263.out 1; have hfz31_2 := blk_frozen BK263.out 2; have hfz31_3 := blk_frozen BK263.out 3; have hfz31_4 := blk_frozen BK263.out 4; have hfz31_5 := blk_frozen BK263.out 5; have hfz31_6 := blk_frozen BK263.out 6; have hfz31_7 := blk_frozen BK263.out 7; obtain ⟨Ao32, co32, eo32⟩ := Kd.R_slice HO_4.out; subst eo32))
       have n0_ : Aside0 (Kd.R (Kd.int .u8) 5 ((((((((w29.setCell ⟨gb263, 0, none⟩ (.int .i64 ((rd_T36 l0_1 x27_1).f0))).setCell ⟨gb263, 1, none⟩ (.int .i64 ((rd_T36 l0_1 x27_1).f1))).setCell ⟨gb263, 2, none⟩ (.bool ((rd_T36 l0_1 x27_1).f2.f0))).setCell ⟨gb263, 3, none⟩ (.int .i64 ((rd_T36 l0_1 x27_1).f2.f1))).setCell ⟨gb263, 4, none⟩ (.string ((rd_T36 l0_1 x27_1).f2.f2))).setCell ⟨gb263, 5, none⟩ (.bool ((rd_T36 l0_1 x27_1).f3.f0))).setCell ⟨gb263, 6, none⟩ (.int .i64 ((rd_T36 l0_1 x27_1).f3.f1))).setCell ⟨gb263, 7, none⟩ (.string ((rd_T36 l0_1 x27_1).f3.f2))) w.heap.size (fun _ => True) (.slice Ao32 x4_1.length co32) x4_1) := ⟨by (with_reducible repeat (first | apply Kd.R_alloc | apply Kd.R_drewN | apply Kd.R_drew)); exact Kd.R_mono (Kd.R_far (p := ⟨gb263, 7, none⟩) (Kd.R_far (p := ⟨gb263, 6, none⟩) (Kd.R_far (p := ⟨gb263, 5, none⟩) (Kd.R_far (p := ⟨gb263, 4, none⟩) (Kd.R_far (p := ⟨gb263, 3, none⟩) (Kd.R_far (p := ⟨gb263, 2, none⟩) (Kd.R_far (p := ⟨gb263, 1, none⟩) (Kd.R_far (p := ⟨gb263, 0, none⟩) (Kd.R_types HO_4.out BK263.out (by decide)) (fun _ hk => hk.2) (.int .i64 ((rd_T36 l0_1 x27_1).f0))) (fun _ hk => hk.2) (.int .i64 ((rd_T36 l0_1 x27_1).f1))) (fun _ hk => hk.2) (.bool ((rd_T36 l0_1 x27_1).f2.f0))) (fun _ hk => hk.2) (.int .i64 ((rd_T36 l0_1 x27_1).f2.f1))) (fun _ hk => hk.2) (.string ((rd_T36 l0_1 x27_1).f2.f2))) (fun _ hk => hk.2) (.bool ((rd_T36 l0_1 x27_1).f3.f0))) (fun _ hk => hk.2) (.int .i64 ((rd_T36 l0_1 x27_1).f3.f1))) (fun _ hk => hk.2) (.string ((rd_T36 l0_1 x27_1).f3.f2))) (fun _ hk => trivial)⟩
       have n1_ : Aside0 (((((((((w29.setCell ⟨gb263, 0, none⟩ (.int .i64 ((rd_T36 l0_1 x27_1).f0))).setCell ⟨gb263, 1, none⟩ (.int .i64 ((rd_T36 l0_1 x27_1).f1))).setCell ⟨gb263, 2, none⟩ (.bool ((rd_T36 l0_1 x27_1).f2.f0))).setCell ⟨gb263, 3, none⟩ (.int .i64 ((rd_T36 l0_1 x27_1).f2.f1))).setCell ⟨gb263, 4, none⟩ (.string ((rd_T36 l0_1 x27_1).f2.f2))).setCell ⟨gb263, 5, none⟩ (.bool ((rd_T36 l0_1 x27_1).f3.f0))).setCell ⟨gb263, 6, none⟩ (.int .i64 ((rd_T36 l0_1 x27_1).f3.f1))).setCell ⟨gb263, 7, none⟩ (.string ((rd_T36 l0_1 x27_1).f3.f2))).heap[gb245]? = some (.cells #[.slice A0_0 l0_0.length c0_0, .slice (some ad262) l0_1.length c0_1, .int .i64 a0_2, .int .i64 a0_3] 32 (0, 0))) := ⟨by (with_reducible repeat (first | refine blk_drewN ?_ _ | refine blk_drew ?_ | refine blk_alloc ?_ _)); refine blk_far ?_ NB245_263.out _; (with_reducible repeat (first | refine blk_drewN ?_ _ | refine blk_drew ?_ | refine blk_alloc ?_ _)); refine blk_far ?_ NB245_263.out _; (with_reducible repeat (first | refine blk_drewN ?_ _ | refine blk_drew ?_ | refine blk_alloc ?_ _)); refine blk_far ?_ NB245_263.out _; (with_reducible repeat (first | refine blk_drewN ?_ _ | refine blk_drew ?_ | refine blk_alloc ?_ _)); refine blk_far ?_ NB245_263.out _; (with_reducible repeat (first | refine blk_drewN ?_ _ | refine blk_drew ?_ | refine blk_alloc ?_ _)); refine blk_far ?_ NB245_263.out _; (with_reducible repeat (first | refine blk_drewN ?_ _ | refine blk_drew ?_ | refine blk_alloc ?_ _)); refine blk_far ?_ NB245_263.out _; (with_reducible repeat (first | refine blk_drewN ?_ _ | refine blk_drew ?_ | refine blk_alloc ?_ _)); refine blk_far ?_ NB245_263.out _; (with_reducible repeat (first | refine blk_drewN ?_ _ | refine blk_drew ?_ | refine blk_alloc ?_ _)); refine blk_far ?_ NB245_263.out _; (with_reducible repeat (first | refine blk_drewN ?_ _ | refine blk_drew ?_ | refine blk_alloc ?_ _)); exact BK245.out⟩
       have n2_ : Aside0 (((((((((w29.setCell ⟨gb263, 0, none⟩ (.int .i64 ((rd_T36 l0_1 x27_1).f0))).setCell ⟨gb263, 1, none⟩ (.int .i64 ((rd_T36 l0_1 x27_1).f1))).setCell ⟨gb263, 2, none⟩ (.bool ((rd_T36 l0_1 x27_1).f2.f0))).setCell ⟨gb263, 3, none⟩ (.int .i64 ((rd_T36 l0_1 x27_1).f2.f1))).setCell ⟨gb263, 4, none⟩ (.string ((rd_T36 l0_1 x27_1).f2.f2))).setCell ⟨gb263, 5, none⟩ (.bool ((rd_T36 l0_1 x27_1).f3.f0))).setCell ⟨gb263, 6, none⟩ (.int .i64 ((rd_T36 l0_1 x27_1).f3.f1))).setCell ⟨gb263, 7, none⟩ (.string ((rd_T36 l0_1 x27_1).f3.f2))).heap[gb263]? = some (.cells #[.int .i64 ((rd_T36 l0_1 x27_1).f0), .int .i64 ((rd_T36 l0_1 x27_1).f1), .bool ((rd_T36 l0_1 x27_1).f2.f0), .int .i64 ((rd_T36 l0_1 x27_1).f2.f1), .string ((rd_T36 l0_1 x27_1).f2.f2), .bool ((rd_T36 l0_1 x27_1).f3.f0), .int .i64 ((rd_T36 l0_1 x27_1).f3.f1), .string ((rd_T36 l0_1 x27_1).f3.f2)] 36 (0, 0))) := ⟨by (with_reducible repeat (first | refine blk_drewN ?_ _ | refine blk_drew ?_ | refine blk_alloc ?_ _)); refine blk_put (cs := #[.int .i64 ((rd_T36 l0_1 x27_1).f0), .int .i64 ((rd_T36 l0_1 x27_1).f1), .bool ((rd_T36 l0_1 x27_1).f2.f0), .int .i64 ((rd_T36 l0_1 x27_1).f2.f1), .string ((rd_T36 l0_1 x27_1).f2.f2), .bool ((rd_T36 l0_1 x27_1).f3.f0), .int .i64 ((rd_T36 l0_1 x27_1).f3.f1), .string (⟨#[]⟩ : ByteArray)]) ?_ 7 _ rfl; (with_reducible repeat (first | refine blk_drewN ?_ _ | refine blk_drew ?_ | refine blk_alloc ?_ _)); refine blk_put (cs := #[.int .i64 ((rd_T36 l0_1 x27_1).f0), .int .i64 ((rd_T36 l0_1 x27_1).f1), .bool ((rd_T36 l0_1 x27_1).f2.f0), .int .i64 ((rd_T36 l0_1 x27_1).f2.f1), .string ((rd_T36 l0_1 x27_1).f2.f2), .bool ((rd_T36 l0_1 x27_1).f3.f0), .int .i64 0, .string (⟨#[]⟩ : ByteArray)]) ?_ 6 _ rfl; (with_reducible repeat (first | refine blk_drewN ?_ _ | refine blk_drew ?_ | refine blk_alloc ?_ _)); refine blk_put (cs := #[.int .i64 ((rd_T36 l0_1 x27_1).f0), .int .i64 ((rd_T36 l0_1 x27_1).f1), .bool ((rd_T36 l0_1 x27_1).f2.f0), .int .i64 ((rd_T36 l0_1 x27_1).f2.f1), .string ((rd_T36 l0_1 x27_1).f2.f2), .bool false, .int .i64 0, .string (⟨#[]⟩ : ByteArray)]) ?_ 5 _ rfl; (with_reducible repeat (first | refine blk_drewN ?_ _ | refine blk_drew ?_ | refine blk_alloc ?_ _)); refine blk_put (cs := #[.int .i64 ((rd_T36 l0_1 x27_1).f0), .int .i64 ((rd_T36 l0_1 x27_1).f1), .bool ((rd_T36 l0_1 x27_1).f2.f0), .int .i64 ((rd_T36 l0_1 x27_1).f2.f1), .string (⟨#[]⟩ : ByteArray), .bool false, .int .i64 0, .string (⟨#[]⟩ : ByteArray)]) ?_ 4 _ rfl; (with_reducible repeat (first | refine blk_drewN ?_ _ | refine blk_drew ?_ | refine blk_alloc ?_ _)); refine blk_put (cs := #[.int .i64 ((rd_T36 l0_1 x27_1).f0), .int .i64 ((rd_T36 l0_1 x27_1).f1), .bool ((rd_T36 l0_1 x27_1).f2.f0), .int .i64 0, .string (⟨#[]⟩ : ByteArray), .bool false, .int .i64 0, .string (⟨#[]⟩ : ByteArray)]) ?_ 3 _ rfl; (with_reducible repeat (first | refine blk_drewN ?_ _ | refine blk_drew ?_ | refine blk_alloc ?_ _)); refine blk_put (cs := #[.int .i64 ((rd_T36 l0_1 x27_1).f0), .int .i64 ((rd_T36 l0_1 x27_1).f1), .bool false, .int .i64 0, .string (⟨#[]⟩ : ByteArray), .bool false, .int .i64 0, .string (⟨#[]⟩ : ByteArray)]) ?_ 2 _ rfl; (with_reducible repeat (first | refine blk_drewN ?_ _ | refine blk_drew ?_ | refine blk_alloc ?_ _)); refine blk_put (cs := #[.int .i64 ((rd_T36 l0_1 x27_1).f0), .int .i64 0, .bool false, .int .i64 0, .string (⟨#[]⟩ : ByteArray), .bool false, .int .i64 0, .string (⟨#[]⟩ : ByteArray)]) ?_ 1 _ rfl; (with_reducible repeat (first | refine blk_drewN ?_ _ | refine blk_drew ?_ | refine blk_alloc ?_ _)); refine blk_put (cs := #[.int .i64 0, .int .i64 0, .bool false, .int .i64 0, .string (⟨#[]⟩ : ByteArray), .bool false, .int .i64 0, .string (⟨#[]⟩ : ByteArray)]) ?_ 0 _ rfl; (with_reducible repeat (first | refine blk_drewN ?_ _ | refine blk_drew ?_ | refine blk_alloc ?_ _)); exact BK263.out⟩
       have n3_ : Aside0 (Below w.heap.size w ((((((((w29.setCell ⟨gb263, 0, none⟩ (.int .i64 ((rd_T36 l0_1 x27_1).f0))).setCell ⟨gb263, 1, none⟩ (.int .i64 ((rd_T36 l0_1 x27_1).f1))).setCell ⟨gb263, 2, none⟩ (.bool ((rd_T36 l0_1 x27_1).f2.f0))).setCell ⟨gb263, 3, none⟩ (.int .i64 ((rd_T36 l0_1 x27_1).f2.f1))).setCell ⟨gb263, 4, none⟩ (.string ((rd_T36 l0_1 x27_1).f2.f2))).setCell ⟨gb263, 5, none⟩ (.bool ((rd_T36 l0_1 x27_1).f3.f0))).setCell ⟨gb263, 6, none⟩ (.int .i64 ((rd_T36 l0_1 x27_1).f3.f1))).setCell ⟨gb263, 7, none⟩ (.string ((rd_T36 l0_1 x27_1).f3.f2)))) := ⟨z6_⟩
       (try clear HO_4)
       (try clear BK245)
       (try clear BK263)
       (try clear HB)
       generalize ((((((((w29.setCell ⟨gb263, 0, none⟩ (.int .i64 ((rd_T36 l0_1 x27_1).f0))).setCell ⟨gb263, 1, none⟩ (.int .i64 ((rd_T36 l0_1 x27_1).f1))).setCell ⟨gb263, 2, none⟩ (.bool ((rd_T36 l0_1 x27_1).f2.f0))).setCell ⟨gb263, 3, none⟩ (.int .i64 ((rd_T36 l0_1 x27_1).f2.f1))).setCell ⟨gb263, 4, none⟩ (.string ((rd_T36 l0_1 x27_1).f2.f2))).setCell ⟨gb263, 5, none⟩ (.bool ((rd_T36 l0_1 x27_1).f3.f0))).setCell ⟨gb263, 6, none⟩ (.int .i64 ((rd_T36 l0_1 x27_1).f3.f1))).setCell ⟨gb263, 7, none⟩ (.string ((rd_T36 l0_1 x27_1).f3.f2))) = w33 at n0_ n1_ n2_ n3_ ⊢
       have HO_4 := n0_
       have BK245 := n1_
       have BK263 := n2_
       have HB := n3_
       clear n0_ n1_ n2_ n3_
       have n0_ := Aside0.mk (Kd.R_drew HO_4.out)
       have n1_ := Aside0.mk (blk_drew BK245.out)
       have n2_ := Aside0.mk (blk_drew BK263.out)
       have n3_ := Aside0.mk (below_drew1 HB.out)
       clear HO_4
       clear BK245
       clear BK263
       clear HB
       have HO_4 := n0_
       have BK245 := n1_
       have BK263 := n2_
       have HB := n3_
       clear n0_ n1_ n2_ n3_
       refine start_ (n := 14) (S := fun w' => w'.cell? ⟨gb263, 0, none⟩ = some (.int .i64 ((rd_T36 l0_1 x27_1).f0)) ∧ w'.cell? ⟨gb263, 1, none⟩ = some (.int .i64 ((rd_T36 l0_1 x27_1).f1)) ∧ w'.cell? ⟨gb263, 2, none⟩ = some (.bool ((rd_T36 l0_1 x27_1).f2.f0)) ∧ w'.cell? ⟨gb263, 3, none⟩ = some (.int .i64 ((rd_T36 l0_1 x27_1).f2.f1)) ∧ w'.cell? ⟨gb263, 4, none⟩ = some (.string ((rd_T36 l0_1 x27_1).f2.f2)) ∧ w'.cell? ⟨gb263, 5, none⟩ = some (.bool ((rd_T36 l0_1 x27_1).f3.f0)) ∧ w'.cell? ⟨gb263, 6, none⟩ = some (.int .i64 ((rd_T36 l0_1 x27_1).f3.f1)) ∧ w'.cell? ⟨gb263, 7, none⟩ = some (.string ((rd_T36 l0_1 x27_1).f3.f2))) (ds := []) (bs_ 14 0) (by kernel_rfl) rfl rfl ⟨(blk_cell BK263.out 0).trans rfl, (blk_cell BK263.out 1).trans rfl, (blk_cell BK263.out 2).trans rfl, (blk_cell BK263.out 3).trans rfl, (blk_cell BK263.out 4).trans rfl, (blk_cell BK263.out 5).trans rfl, (blk_cell BK263.out 6).trans rfl, (blk_cell BK263.out 7).trans rfl⟩ (fun hHeld => ?_); refine with_tabW manifest_Write.tab8 manifest_Write.bits8 (fun HT_ HW_ => ?_)
       generalize w33.drew = w34 at HO_4 BK245 BK263 HB hHeld ⊢
       refine pA_ 0 (some 31) (bs_ 14 1) HT_ ?_ ?_ ?_ ?_ ?_
       rotate_left; (intro w'; go_simp; with_reducible rfl); rotate_left; (simp only [PT_]; rfl)
       refine pA_ 1 (some 32) (bs_ 14 3) HT_ ?_ ?_ ?_ ?_ ?_
       rotate_left; (intro w'; go_simp; with_reducible rfl); rotate_left; (simp only [PT_]; rfl)
       refine pA_ 3 (some 34) (bs_ 14 11) HT_ ?_ ?_ ?_ ?_ ?_
       rotate_left; (intro w'; go_simp; with_reducible rfl); rotate_left; (simp only [PT_]; rfl)
       refine pA_ 7 (some 38) (bs_ 14 139) HT_ ?_ ?_ ?_ ?_ ?_
       rotate_left; (intro w'; go_simp; with_reducible rfl); rotate_left; (simp only [PT_]; rfl)
       refine pA_ 9 (some 40) (bs_ 14 651) HT_ ?_ ?_ ?_ ?_ ?_
       rotate_left; (intro w'; go_simp; with_reducible rfl); rotate_left; (simp only [PT_]; rfl)
       refine take_ (i := 2) (N := some 33) (v := ?_) (a' := ?_) (bs_ 14 655) rfl rfl (take_ofW HT_.out HW_.out (by kernel_rfl)) (fun _ _ _ h => h) (Or.inl ⟨by rfl, ?_⟩) hHeld ?_ ?_
       rotate_left
       ·rintro w' ⟨s0, s1, s2, s3, s4, s5, s6, s7⟩
        go_simp
        with_reducible rfl
       rotate_left
       ·simp only [PT_]
        rfl
       refine take_ (i := 4) (N := some 35) (v := ?_) (a' := ?_) (bs_ 14 671) rfl rfl (take_ofW HT_.out HW_.out (by kernel_rfl)) (fun _ _ _ h => h) (Or.inl ⟨by rfl, ?_⟩) hHeld ?_ ?_
       rotate_left
       ·rintro w' ⟨s0, s1, s2, s3, s4, s5, s6, s7⟩
        go_simp
        with_reducible rfl
       rotate_left
       ·simp only [PT_]
        rfl
       refine take_ (i := 8) (N := some 39) (v := ?_) (a' := ?_) (bs_ 14 927) rfl rfl (take_ofW HT_.out HW_.out (by kernel_rfl)) (fun _ _ _ h => h) (Or.inl ⟨by rfl, ?_⟩) hHeld ?_ ?_
       rotate_left
       ·rintro w' ⟨s0, s1, s2, s3, s4, s5, s6, s7⟩
        go_simp
        with_reducible rfl
       rotate_left
       ·simp only [PT_]
        rfl
       refine take_ (i := 10) (N := some 41) (v := ?_) (a' := ?_) (bs_ 14 1951) rfl rfl (take_ofW HT_.out HW_.out (by kernel_rfl)) (fun _ _ _ h => h) (Or.inl ⟨by rfl, ?_⟩) hHeld ?_ ?_
       rotate_left
       ·rintro w' ⟨s0, s1, s2, s3, s4, s5, s6, s7⟩
        go_simp
        with_reducible rfl
       rotate_left
       ·simp only [PT_]
        rfl
       refine join_ (σ := Value × Value × Value) 2 (bs_ 14 4095) (fun s_ => [(36, s_.1), (37, s_.2.1), (42, s_.2.2)]) (fun s_ w' => (w'.cell? ⟨gb263, 0, none⟩ = some (.int .i64 ((rd_T36 l0_1 x27_1).f0)) ∧ w'.cell? ⟨gb263, 1, none⟩ = some (.int .i64 ((rd_T36 l0_1 x27_1).f1)) ∧ w'.cell? ⟨gb263, 2, none⟩ = some (.bool ((rd_T36 l0_1 x27_1).f2.f0)) ∧ w'.cell? ⟨gb263, 3, none⟩ = some (.int .i64 ((rd_T36 l0_1 x27_1).f2.f1)) ∧ w'.cell? ⟨gb263, 4, none⟩ = some (.string ((rd_T36 l0_1 x27_1).f2.f2)) ∧ w'.cell? ⟨gb263, 5, none⟩ = some (.bool ((rd_T36 l0_1 x27_1).f3.f0)) ∧ w'.cell? ⟨gb263, 6, none⟩ = some (.int .i64 ((rd_T36 l0_1 x27_1).f3.f1)) ∧ w'.cell? ⟨gb263, 7, none⟩ = some (.string ((rd_T36 l0_1 x27_1).f3.f2))) ∧ (Kd.R (Kd.int .i64) 3 w' w.heap.size (fun _ => True) s_.1 y264) ∧ (Kd.R (Kd.int .u8) 5 w' w.heap.size (fun _ => True) s_.2.1 t267) ∧ (Kd.R k34 34 w' w.heap.size (fun _ => True) s_.2.2 y270) ∧ (w'.heap[gb245]? = some (.cells #[.slice A0_0 l0_0.length c0_0, .slice (some ad262) l0_1.length c0_1, .int .i64 a0_2, .int .i64 a0_3] 32 (0, 0))) ∧ (w'.heap[gb263]? = some (.cells #[.int .i64 ((rd_T36 l0_1 x27_1).f0), .int .i64 ((rd_T36 l0_1 x27_1).f1), .bool ((rd_T36 l0_1 x27_1).f2.f0), .int .i64 ((rd_T36 l0_1 x27_1).f2.f1), .string ((rd_T36 l0_1 x27_1).f2.f2), .bool ((rd_T36 l0_1 x27_1).f3.f0), .int .i64 ((rd_T36 l0_1 x27_1).f3.f1), .string ((rd_T36 l0_1 x27_1).f3.f2)] 36 (0, 0))) ∧ (Below w.heap.size w w')) ?_ ?_
       rotate_left
       ·intro hCont
        refine two_ (i := 5) (j := 11) (Ni := some 36) (Nj := some 42) (bs_ 14 1983) (bs_ 14 3999) rfl rfl rfl rfl (two_of HT_.out (by kernel_rfl)) (by decide) (by decide) (fun K hK => ?_) (fun K hK => ?_)
        ·skip
         refine Kd.R_lit_step (Kd.int .i64) _ 3 ?hg (N := 36) ?hd (xs := ([(rd_T36 l0_1 x27_1).f0, (rd_T36 l0_1 x27_1).f1] : List Int)) (inner := [.int .i64 ((rd_T36 l0_1 x27_1).f0), .int .i64 ((rd_T36 l0_1 x27_1).f1)]) (ok := fun _ => True) (okp := fun _ => True) ?hr ?hp (fun _ hk => hk) trivial (Below.refl _ _) (Nat.le_refl _) (by simp) ?_; (case hd => rfl); (case hg => rfl); (case hr => first | (go_simp; done) | (go_simp; rfl)); (case hp => exact (Reps.one (show Kd.M (Kd.int .i64) _ _ _ ((rd_T36 l0_1 x27_1).f0) [.int .i64 ((rd_T36 l0_1 x27_1).f0)] from rfl) (Reps.one (show Kd.M (Kd.int .i64) _ _ _ ((rd_T36 l0_1 x27_1).f1) [.int .i64 ((rd_T36 l0_1 x27_1).f1)] from rfl) (Reps.none _ _))))
         intro v265 w35 ho36 hb hg_ hnew_
         clear hg_ hnew_
         (first | rw [← Ny264.out] at ho36 | (simp only [Int.reduceToNat] at ho36; rw [← Ny264.out] at ho36))
         have n0_ := Aside0.mk (Kd.R_below (by (with_reducible repeat (first | apply Kd.R_alloc | apply Kd.R_drewN | apply Kd.R_drew)); exact HO_4.out) hb)
         have n1_ := Aside0.mk (Kd.R_lower ho36 (below_size z6_))
         have n2_ := Aside0.mk (blk_below (g := gb245) (o := .cells #[.slice A0_0 l0_0.length c0_0, .slice (some ad262) l0_1.length c0_1, .int .i64 a0_2, .int .i64 a0_3] 32 (0, 0)) (by (with_reducible repeat (first | refine blk_drewN ?_ _ | refine blk_drew ?_ | refine blk_alloc ?_ _)); exact BK245.out) hb)
         have n3_ := Aside0.mk (blk_below (g := gb263) (o := .cells #[.int .i64 ((rd_T36 l0_1 x27_1).f0), .int .i64 ((rd_T36 l0_1 x27_1).f1), .bool ((rd_T36 l0_1 x27_1).f2.f0), .int .i64 ((rd_T36 l0_1 x27_1).f2.f1), .string ((rd_T36 l0_1 x27_1).f2.f2), .bool ((rd_T36 l0_1 x27_1).f3.f0), .int .i64 ((rd_T36 l0_1 x27_1).f3.f1), .string ((rd_T36 l0_1 x27_1).f3.f2)] 36 (0, 0)) (by (with_reducible repeat (first | refine blk_drewN ?_ _ | refine blk_drew ?_ | refine blk_alloc ?_ _)); exact BK263.out) hb)
         have n4_ := Aside0.mk (below_step z6_ hb)
         clear HO_4
         clear BK245
         clear BK263
         clear HB
         have HO_4 := n0_
         have HO266 := n1_
         have BK245 := n2_
         have BK263 := n3_
         have HB := n4_
         clear n0_ n1_ n2_ n3_ n4_
         clear hb ho36
         obtain ⟨Ao37, co37, eo37⟩ := Kd.R_slice HO266.out
         (first | subst eo37 | (injection eo37 with f1_ f2_ f3_; have f4_ := f1_.symm; have f5_ := f3_.symm; clear f1_ f2_ f3_; subst f4_; subst f5_))
         refine hK.out _ _ ⟨(blk_cell BK263.out 0).trans rfl, (blk_cell BK263.out 1).trans rfl, (blk_cell BK263.out 2).trans rfl, (blk_cell BK263.out 3).trans rfl, (blk_cell BK263.out 4).trans rfl, (blk_cell BK263.out 5).trans rfl, (blk_cell BK263.out 6).trans rfl, (blk_cell BK263.out 7).trans rfl⟩ (fun hHeld => ?_)
         clear hK K
         refine norm_ (a' := ?_) ?_ ?_; rotate_left; (show Act.put _ (some 36) _ = _; simp only [PT_]; rfl)
         refine two_ (i := 6) (j := 11) (Ni := some 37) (Nj := some 42) (bs_ 14 2047) (bs_ 14 4031) rfl rfl rfl rfl (two_of HT_.out (by kernel_rfl)) (by decide) (by decide) (fun K hK => ?_) (fun K hK => ?_)
         ·skip
          refine goes_ Try.func20 (by kernel_rfl) rfl #[.slice Ao32 x4_1.length co32, .slice Ao37 y264.length co37] (by rfl) rfl rfl (by (try simp only [List.map_toArray, List.map_cons, List.map_nil]); first | done | rfl | (simp only [List.length_drop, List.length_take]; rfl)) ?_
          with_reducible refine (manifest_nums.calls k1 (fun k_ => some k_ = (.slice Ao32 x4_1.length co32 : Value).ownBlock) (.slice Ao32 x4_1.length co32) x4_1 _ _ y264 t267 w _ ?side1 ?side2 ?side3 ?side4 A27.out).mono ?_
          (case side1 => repeat (first | (with_reducible first | exact HB.out | apply below_alloc | apply pw_below_drewN | apply below_drew1 | refine below_set ?_ GE245.out | refine below_set ?_ GE263.out) | exact HB.out))
          (case side2 => exact Kd.R_tight rfl HO_4.out)
          (case side3 => exact Kd.C_kept_own ((Kd.R_apart' HO266.out (Kd.R_typed HO_4.out) (by decide))) (fun k_ hk_ hs_ => (hk_.2) hs_))
          (case side4 => exact (Kd.R_reads' HO266.out).2.1)
          rintro e w38 ⟨v268, rfl, ho0, hb, hkp⟩
          refine ⟨_, rfl, ?_⟩
          have n0_ := Aside0.mk (blk_kept (by (with_reducible repeat (first | refine blk_drewN ?_ _ | refine blk_drew ?_ | refine blk_alloc ?_ _)); exact BK245.out) hkp (fun hs_ => (fun e_ => (Kd.R_ne HO_4.out BK245.out (by decide)) e_) hs_))
          have n1_ := Aside0.mk (blk_kept (by (with_reducible repeat (first | refine blk_drewN ?_ _ | refine blk_drew ?_ | refine blk_alloc ?_ _)); exact BK263.out) hkp (fun hs_ => (fun e_ => (Kd.R_ne HO_4.out BK263.out (by decide)) e_) hs_))
          have n2_ := Aside0.mk (Kd.R_mono (ok' := fun k_ => True) (Kd.R_keptB ((Kd.R_apart' HO266.out (Kd.R_typed HO_4.out) (by decide))) hkp (fun k_ hk_ hs_ => (hk_.2) hs_)) (fun k_ hk_ => trivial))
          have n3_ := Aside0.mk (Kd.R_mono (ok' := fun k_ => True) ho0 (fun k_ hk_ => trivial))
          have n4_ := Aside0.mk (hb)
          clear BK245
          clear BK263
          clear HO266
          clear HB
          clear HO_4
          have BK245 := n0_
          have BK263 := n1_
          have HO266 := n2_
          have HO269 := n3_
          have HB := n4_
          clear n0_ n1_ n2_ n3_ n4_
          (try clear hb)
          (try clear hkp)
          (try clear ho0)
          refine hK.out _ _ ⟨(blk_cell BK263.out 0).trans rfl, (blk_cell BK263.out 1).trans rfl, (blk_cell BK263.out 2).trans rfl, (blk_cell BK263.out 3).trans rfl, (blk_cell BK263.out 4).trans rfl, (blk_cell BK263.out 5).trans rfl, (blk_cell BK263.out 6).trans rfl, (blk_cell BK263.out 7).trans rfl⟩ (fun hHeld => ?_)
          clear hK K
          refine norm_ (a' := ?_) ?_ ?_; rotate_left; (show Act.put _ (some 37) _ = _; simp only [PT_]; rfl)
          refine oA_ 11 (some 42) (bs_ 14 4095) HT_ (fun K hK => ?_)
          refine Kd.R_lit_step k34 _ 34 ?hg (N := 42) ?hd (xs := ([(⟨(rd_T36 l0_1 x27_1).f2.f0, (rd_T36 l0_1 x27_1).f2.f1, (rd_T36 l0_1 x27_1).f2.f2⟩ : S34), (⟨(rd_T36 l0_1 x27_1).f3.f0, (rd_T36 l0_1 x27_1).f3.f1, (rd_T36 l0_1 x27_1).f3.f2⟩ : S34)] : List (S34))) (inner := [.bool ((rd_T36 l0_1 x27_1).f2.f0), .int .i64 ((rd_T36 l0_1 x27_1).f2.f1), .string ((rd_T36 l0_1 x27_1).f2.f2), .bool ((rd_T36 l0_1 x27_1).f3.f0), .int .i64 ((rd_T36 l0_1 x27_1).f3.f1), .string ((rd_T36 l0_1 x27_1).f3.f2)]) (ok := fun _ => True) (okp := fun _ => True) ?hr ?hp (fun _ hk => hk) trivial (Below.refl _ _) (Nat.le_refl _) (by simp) ?_; (case hd => rfl); (case hg => rfl); (case hr => first | (go_simp; done) | (go_simp; rfl)); (case hp => exact (Reps.c3 (show Kd.M k34 _ _ _ (⟨(rd_T36 l0_1 x27_1).f2.f0, (rd_T36 l0_1 x27_1).f2.f1, (rd_T36 l0_1 x27_1).f2.f2⟩ : S34) [.bool ((rd_T36 l0_1 x27_1).f2.f0), .int .i64 ((rd_T36 l0_1 x27_1).f2.f1), .string ((rd_T36 l0_1 x27_1).f2.f2)] from (k34_mkM _ _ _ (⟨(rd_T36 l0_1 x27_1).f2.f0, (rd_T36 l0_1 x27_1).f2.f1, (rd_T36 l0_1 x27_1).f2.f2⟩ : S34) )) (Reps.c3 (show Kd.M k34 _ _ _ (⟨(rd_T36 l0_1 x27_1).f3.f0, (rd_T36 l0_1 x27_1).f3.f1, (rd_T36 l0_1 x27_1).f3.f2⟩ : S34) [.bool ((rd_T36 l0_1 x27_1).f3.f0), .int .i64 ((rd_T36 l0_1 x27_1).f3.f1), .string ((rd_T36 l0_1 x27_1).f3.f2)] from (k34_mkM _ _ _ (⟨(rd_T36 l0_1 x27_1).f3.f0, (rd_T36 l0_1 x27_1).f3.f1, (rd_T36 l0_1 x27_1).f3.f2⟩ : S34) )) (Reps.none _ _))))
          intro v271 w39 ho40 hb hg_ hnew_
          clear hg_ hnew_
          (first | rw [← Ny270.out] at ho40 | (simp only [Int.reduceToNat] at ho40; rw [← Ny270.out] at ho40))
          have n0_ := Aside0.mk (Kd.R_below (by (with_reducible repeat (first | apply Kd.R_alloc | apply Kd.R_drewN | apply Kd.R_drew)); exact HO266.out) hb)
          have n1_ := Aside0.mk (Kd.R_below (by (with_reducible repeat (first | apply Kd.R_alloc | apply Kd.R_drewN | apply Kd.R_drew)); exact HO269.out) hb)
          have n2_ := Aside0.mk (Kd.R_lower ho40 (below_size z6_))
          have n3_ := Aside0.mk (blk_below (g := gb245) (o := .cells #[.slice A0_0 l0_0.length c0_0, .slice (some ad262) l0_1.length c0_1, .int .i64 a0_2, .int .i64 a0_3] 32 (0, 0)) (by (with_reducible repeat (first | refine blk_drewN ?_ _ | refine blk_drew ?_ | refine blk_alloc ?_ _)); exact BK245.out) hb)
          have n4_ := Aside0.mk (blk_below (g := gb263) (o := .cells #[.int .i64 ((rd_T36 l0_1 x27_1).f0), .int .i64 ((rd_T36 l0_1 x27_1).f1), .bool ((rd_T36 l0_1 x27_1).f2.f0), .int .i64 ((rd_T36 l0_1 x27_1).f2.f1), .string ((rd_T36 l0_1 x27_1).f2.f2), .bool ((rd_T36 l0_1 x27_1).f3.f0), .int .i64 ((rd_T36 l0_1 x27_1).f3.f1), .string ((rd_T36 l0_1 x27_1).f3.f2)] 36 (0, 0)) (by (with_reducible repeat (first | refine blk_drewN ?_ _ | refine blk_drew ?_ | refine blk_alloc ?_ _)); exact BK263.out) hb)
          have n5_ := Aside0.mk (below_step z6_ hb)
          clear HO266
          clear HO269
          clear BK245
          clear BK263
          clear HB
          have HO266 := n0_
          have HO269 := n1_
          have HO272 := n2_
          have BK245 := n3_
          have BK263 := n4_
          have HB := n5_
          clear n0_ n1_ n2_ n3_ n4_ n5_
          clear hb ho40
          refine hK.out _ _ ⟨(blk_cell BK263.out 0).trans rfl, (blk_cell BK263.out 1).trans rfl, (blk_cell BK263.out 2).trans rfl, (blk_cell BK263.out 3).trans rfl, (blk_cell BK263.out 4).trans rfl, (blk_cell BK263.out 5).trans rfl, (blk_cell BK263.out 6).trans rfl, (blk_cell BK263.out 7).trans rfl⟩ (fun hHeld => ?_)
          clear hK K
          refine norm_ (a' := ?_) ?_ ?_; rotate_left; (show Act.put _ (some 42) _ = _; simp only [PT_]; rfl)
          exact norm_ (by simp only [putAll, Act.put, List.setIfInBounds_toArray, List.set_cons_zero, List.set_cons_succ]) (hCont (.slice Ao37 y264.length co37, v268, v271) _ ⟨hHeld, (by (with_reducible repeat (first | apply Kd.R_alloc | apply Kd.R_drewN | apply Kd.R_drew)); exact HO266.out), (by (with_reducible repeat (first | apply Kd.R_alloc | apply Kd.R_drewN | apply Kd.R_drew)); exact HO269.out), (by (with_reducible repeat (first | apply Kd.R_alloc | apply Kd.R_drewN | apply Kd.R_drew)); exact HO272.out), (by (with_reducible repeat (first | refine blk_drewN ?_ _ | refine blk_drew ?_ | refine blk_alloc ?_ _)); exact BK245.out), (by (with_reducible repeat (first | refine blk_drewN ?_ _ | refine blk_drew ?_ | refine blk_alloc ?_ _)); exact BK263.out), z6_⟩)
         ·skip
          refine Kd.R_lit_step k34 _ 34 ?hg (N := 42) ?hd (xs := ([(⟨(rd_T36 l0_1 x27_1).f2.f0, (rd_T36 l0_1 x27_1).f2.f1, (rd_T36 l0_1 x27_1).f2.f2⟩ : S34), (⟨(rd_T36 l0_1 x27_1).f3.f0, (rd_T36 l0_1 x27_1).f3.f1, (rd_T36 l0_1 x27_1).f3.f2⟩ : S34)] : List (S34))) (inner := [.bool ((rd_T36 l0_1 x27_1).f2.f0), .int .i64 ((rd_T36 l0_1 x27_1).f2.f1), .string ((rd_T36 l0_1 x27_1).f2.f2), .bool ((rd_T36 l0_1 x27_1).f3.f0), .int .i64 ((rd_T36 l0_1 x27_1).f3.f1), .string ((rd_T36 l0_1 x27_1).f3.f2)]) (ok := fun _ => True) (okp := fun _ => True) ?hr ?hp (fun _ hk => hk) trivial (Below.refl _ _) (Nat.le_refl _) (by simp) ?_; (case hd => rfl); (case hg => rfl); (case hr => first | (go_simp; done) | (go_simp; rfl)); (case hp => exact (Reps.c3 (show Kd.M k34 _ _ _ (⟨(rd_T36 l0_1 x27_1).f2.f0, (rd_T36 l0_1 x27_1).f2.f1, (rd_T36 l0_1 x27_1).f2.f2⟩ : S34) [.bool ((rd_T36 l0_1 x27_1).f2.f0), .int .i64 ((rd_T36 l0_1 x27_1).f2.f1), .string ((rd_T36 l0_1 x27_1).f2.f2)] from (k34_mkM _ _ _ (⟨(rd_T36 l0_1 x27_1).f2.f0, (rd_T36 l0_1 x27_1).f2.f1, (rd_T36 l0_1 x27_1).f2.f2⟩ : S34) )) (Reps.c3 (show Kd.M k34 _ _ _ (⟨(rd_T36 l0_1 x27_1).f3.f0, (rd_T36 l0_1 x27_1).f3.f1, (rd_T36 l0_1 x27_1).f3.f2⟩ : S34) [.bool ((rd_T36 l0_1 x27_1).f3.f0), .int .i64 ((rd_T36 l0_1 x27_1).f3.f1), .string ((rd_T36 l0_1 x27_1).f3.f2)] from (k34_mkM _ _ _ (⟨(rd_T36 l0_1 x27_1).f3.f0, (rd_T36 l0_1 x27_1).f3.f1, (rd_T36 l0_1 x27_1).f3.f2⟩ : S34) )) (Reps.none _ _))))
          intro v271 w37 ho38 hb hg_ hnew_
          clear hg_ hnew_
          (first | rw [← Ny270.out] at ho38 | (simp only [Int.reduceToNat] at ho38; rw [← Ny270.out] at ho38))
          have n0_ := Aside0.mk (Kd.R_below (by (with_reducible repeat (first | apply Kd.R_alloc | apply Kd.R_drewN | apply Kd.R_drew)); exact HO_4.out) hb)
          have n1_ := Aside0.mk (Kd.R_below (by (with_reducible repeat (first | apply Kd.R_alloc | apply Kd.R_drewN | apply Kd.R_drew)); exact HO266.out) hb)
          have n2_ := Aside0.mk (Kd.R_lower ho38 (below_size z6_))
          have n3_ := Aside0.mk (blk_below (g := gb245) (o := .cells #[.slice A0_0 l0_0.length c0_0, .slice (some ad262) l0_1.length c0_1, .int .i64 a0_2, .int .i64 a0_3] 32 (0, 0)) (by (with_reducible repeat (first | refine blk_drewN ?_ _ | refine blk_drew ?_ | refine blk_alloc ?_ _)); exact BK245.out) hb)
          have n4_ := Aside0.mk (blk_below (g := gb263) (o := .cells #[.int .i64 ((rd_T36 l0_1 x27_1).f0), .int .i64 ((rd_T36 l0_1 x27_1).f1), .bool ((rd_T36 l0_1 x27_1).f2.f0), .int .i64 ((rd_T36 l0_1 x27_1).f2.f1), .string ((rd_T36 l0_1 x27_1).f2.f2), .bool ((rd_T36 l0_1 x27_1).f3.f0), .int .i64 ((rd_T36 l0_1 x27_1).f3.f1), .string ((rd_T36 l0_1 x27_1).f3.f2)] 36 (0, 0)) (by (with_reducible repeat (first | refine blk_drewN ?_ _ | refine blk_drew ?_ | refine blk_alloc ?_ _)); exact BK263.out) hb)
          have n5_ := Aside0.mk (below_step z6_ hb)
          clear HO_4
          clear HO266
          clear BK245
          clear BK263
          clear HB
          have HO_4 := n0_
          have HO266 := n1_
          have HO272 := n2_
          have BK245 := n3_
          have BK263 := n4_
          have HB := n5_
          clear n0_ n1_ n2_ n3_ n4_ n5_
          clear hb ho38
          obtain ⟨Ao39, co39, eo39⟩ := Kd.R_slice HO266.out
          (first | subst eo39 | (injection eo39 with f1_ f2_ f3_; have f4_ := f1_.symm; have f5_ := f3_.symm; clear f1_ f2_ f3_; subst f4_; subst f5_))
          refine hK.out _ _ ⟨(blk_cell BK263.out 0).trans rfl, (blk_cell BK263.out 1).trans rfl, (blk_cell BK263.out 2).trans rfl, (blk_cell BK263.out 3).trans rfl, (blk_cell BK263.out 4).trans rfl, (blk_cell BK263.out 5).trans rfl, (blk_cell BK263.out 6).trans rfl, (blk_cell BK263.out 7).trans rfl⟩ (fun hHeld => ?_)
          clear hK K
          refine norm_ (a' := ?_) ?_ ?_; rotate_left; (show Act.put _ (some 42) _ = _; simp only [PT_]; rfl)
          refine oA_ 6 (some 37) (bs_ 14 4095) HT_ (fun K hK => ?_)
          refine goes_ Try.func20 (by kernel_rfl) rfl #[.slice Ao32 x4_1.length co32, .slice Ao39 y264.length co39] (by rfl) rfl rfl (by (try simp only [List.map_toArray, List.map_cons, List.map_nil]); first | done | rfl | (simp only [List.length_drop, List.length_take]; rfl)) ?_
          with_reducible refine (manifest_nums.calls k1 (fun k_ => some k_ = (.slice Ao32 x4_1.length co32 : Value).ownBlock) (.slice Ao32 x4_1.length co32) x4_1 _ _ y264 t267 w _ ?side1 ?side2 ?side3 ?side4 A27.out).mono ?_
          (case side1 => repeat (first | (with_reducible first | exact HB.out | apply below_alloc | apply pw_below_drewN | apply below_drew1 | refine below_set ?_ GE245.out | refine below_set ?_ GE263.out) | exact HB.out))
          (case side2 => exact Kd.R_tight rfl HO_4.out)
          (case side3 => exact Kd.C_kept_own ((Kd.R_apart' HO266.out (Kd.R_typed HO_4.out) (by decide))) (fun k_ hk_ hs_ => (hk_.2) hs_))
          (case side4 => exact (Kd.R_reads' HO266.out).2.1)
          rintro e w40 ⟨v268, rfl, ho0, hb, hkp⟩
          refine ⟨_, rfl, ?_⟩
          have n0_ := Aside0.mk (blk_kept (by (with_reducible repeat (first | refine blk_drewN ?_ _ | refine blk_drew ?_ | refine blk_alloc ?_ _)); exact BK245.out) hkp (fun hs_ => (fun e_ => (Kd.R_ne HO_4.out BK245.out (by decide)) e_) hs_))
          have n1_ := Aside0.mk (blk_kept (by (with_reducible repeat (first | refine blk_drewN ?_ _ | refine blk_drew ?_ | refine blk_alloc ?_ _)); exact BK263.out) hkp (fun hs_ => (fun e_ => (Kd.R_ne HO_4.out BK263.out (by decide)) e_) hs_))
          have n2_ := Aside0.mk (Kd.R_mono (ok' := fun k_ => True) (Kd.R_keptB ((Kd.R_apart' HO266.out (Kd.R_typed HO_4.out) (by decide))) hkp (fun k_ hk_ hs_ => (hk_.2) hs_)) (fun k_ hk_ => trivial))
          have n3_ := Aside0.mk (Kd.R_mono (ok' := fun k_ => True) (Kd.R_keptB ((Kd.R_apart' HO272.out (Kd.R_typed HO_4.out) (by decide))) hkp (fun k_ hk_ hs_ => (hk_.2) hs_)) (fun k_ hk_ => trivial))
          have n4_ := Aside0.mk (Kd.R_mono (ok' := fun k_ => True) ho0 (fun k_ hk_ => trivial))
          have n5_ := Aside0.mk (hb)
          clear BK245
          clear BK263
          clear HO266
          clear HO272
          clear HB
          clear HO_4
          have BK245 := n0_
          have BK263 := n1_
          have HO266 := n2_
          have HO272 := n3_
          have HO269 := n4_
          have HB := n5_
          clear n0_ n1_ n2_ n3_ n4_ n5_
          (try clear hb)
          (try clear hkp)
          (try clear ho0)
          refine hK.out _ _ ⟨(blk_cell BK263.out 0).trans rfl, (blk_cell BK263.out 1).trans rfl, (blk_cell BK263.out 2).trans rfl, (blk_cell BK263.out 3).trans rfl, (blk_cell BK263.out 4).trans rfl, (blk_cell BK263.out 5).trans rfl, (blk_cell BK263.out 6).trans rfl, (blk_cell BK263.out 7).trans rfl⟩ (fun hHeld => ?_)
          clear hK K
          refine norm_ (a' := ?_) ?_ ?_; rotate_left; (show Act.put _ (some 37) _ = _; simp only [PT_]; rfl)
          exact norm_ (by simp only [putAll, Act.put, List.setIfInBounds_toArray, List.set_cons_zero, List.set_cons_succ]) (hCont (.slice Ao39 y264.length co39, v268, v271) _ ⟨hHeld, (by (with_reducible repeat (first | apply Kd.R_alloc | apply Kd.R_drewN | apply Kd.R_drew)); exact HO266.out), (by (with_reducible repeat (first | apply Kd.R_alloc | apply Kd.R_drewN | apply Kd.R_drew)); exact HO269.out), (by (with_reducible repeat (first | apply Kd.R_alloc | apply Kd.R_drewN | apply Kd.R_drew)); exact HO272.out), (by (with_reducible repeat (first | refine blk_drewN ?_ _ | refine blk_drew ?_ | refine blk_alloc ?_ _)); exact BK245.out), (by (with_reducible repeat (first | refine blk_drewN ?_ _ | refine blk_drew ?_ | refine blk_alloc ?_ _)); exact BK263.out), z6_⟩)
        ·skip
         refine Kd.R_lit_step k34 _ 34 ?hg (N := 42) ?hd (xs := ([(⟨(rd_T36 l0_1 x27_1).f2.f0, (rd_T36 l0_1 x27_1).f2.f1, (rd_T36 l0_1 x27_1).f2.f2⟩ : S34), (⟨(rd_T36 l0_1 x27_1).f3.f0, (rd_T36 l0_1 x27_1).f3.f1, (rd_T36 l0_1 x27_1).f3.f2⟩ : S34)] : List (S34))) (inner := [.bool ((rd_T36 l0_1 x27_1).f2.f0), .int .i64 ((rd_T36 l0_1 x27_1).f2.f1), .string ((rd_T36 l0_1 x27_1).f2.f2), .bool ((rd_T36 l0_1 x27_1).f3.f0), .int .i64 ((rd_T36 l0_1 x27_1).f3.f1), .string ((rd_T36 l0_1 x27_1).f3.f2)]) (ok := fun _ => True) (okp := fun _ => True) ?hr ?hp (fun _ hk => hk) trivial (Below.refl _ _) (Nat.le_refl _) (by simp) ?_; (case hd => rfl); (case hg => rfl); (case hr => first | (go_simp; done) | (go_simp; rfl)); (case hp => exact (Reps.c3 (show Kd.M k34 _ _ _ (⟨(rd_T36 l0_1 x27_1).f2.f0, (rd_T36 l0_1 x27_1).f2.f1, (rd_T36 l0_1 x27_1).f2.f2⟩ : S34) [.bool ((rd_T36 l0_1 x27_1).f2.f0), .int .i64 ((rd_T36 l0_1 x27_1).f2.f1), .string ((rd_T36 l0_1 x27_1).f2.f2)] from (k34_mkM _ _ _ (⟨(rd_T36 l0_1 x27_1).f2.f0, (rd_T36 l0_1 x27_1).f2.f1, (rd_T36 l0_1 x27_1).f2.f2⟩ : S34) )) (Reps.c3 (show Kd.M k34 _ _ _ (⟨(rd_T36 l0_1 x27_1).f3.f0, (rd_T36 l0_1 x27_1).f3.f1, (rd_T36 l0_1 x27_1).f3.f2⟩ : S34) [.bool ((rd_T36 l0_1 x27_1).f3.f0), .int .i64 ((rd_T36 l0_1 x27_1).f3.f1), .string ((rd_T36 l0_1 x27_1).f3.f2)] from (k34_mkM _ _ _ (⟨(rd_T36 l0_1 x27_1).f3.f0, (rd_T36 l0_1 x27_1).f3.f1, (rd_T36 l0_1 x27_1).f3.f2⟩ : S34) )) (Reps.none _ _))))
         intro v271 w35 ho36 hb hg_ hnew_
         clear hg_ hnew_
         (first | rw [← Ny270.out] at ho36 | (simp only [Int.reduceToNat] at ho36; rw [← Ny270.out] at ho36))
         have n0_ := Aside0.mk (Kd.R_below (by (with_reducible repeat (first | apply Kd.R_alloc | apply Kd.R_drewN | apply Kd.R_drew)); exact HO_4.out) hb)
         have n1_ := Aside0.mk (Kd.R_lower ho36 (below_size z6_))
         have n2_ := Aside0.mk (blk_below (g := gb245) (o := .cells #[.slice A0_0 l0_0.length c0_0, .slice (some ad262) l0_1.length c0_1, .int .i64 a0_2, .int .i64 a0_3] 32 (0, 0)) (by (with_reducible repeat (first | refine blk_drewN ?_ _ | refine blk_drew ?_ | refine blk_alloc ?_ _)); exact BK245.out) hb)
         have n3_ := Aside0.mk (blk_below (g := gb263) (o := .cells #[.int .i64 ((rd_T36 l0_1 x27_1).f0), .int .i64 ((rd_T36 l0_1 x27_1).f1), .bool ((rd_T36 l0_1 x27_1).f2.f0), .int .i64 ((rd_T36 l0_1 x27_1).f2.f1), .string ((rd_T36 l0_1 x27_1).f2.f2), .bool ((rd_T36 l0_1 x27_1).f3.f0), .int .i64 ((rd_T36 l0_1 x27_1).f3.f1), .string ((rd_T36 l0_1 x27_1).f3.f2)] 36 (0, 0)) (by (with_reducible repeat (first | refine blk_drewN ?_ _ | refine blk_drew ?_ | refine blk_alloc ?_ _)); exact BK263.out) hb)
         have n4_ := Aside0.mk (below_step z6_ hb)
         clear HO_4
         clear BK245
         clear BK263
         clear HB
         have HO_4 := n0_
         have HO272 := n1_
         have BK245 := n2_
         have BK263 := n3_
         have HB := n4_
         clear n0_ n1_ n2_ n3_ n4_
         clear hb ho36
         refine hK.out _ _ ⟨(blk_cell BK263.out 0).trans rfl, (blk_cell BK263.out 1).trans rfl, (blk_cell BK263.out 2).trans rfl, (blk_cell BK263.out 3).trans rfl, (blk_cell BK263.out 4).trans rfl, (blk_cell BK263.out 5).trans rfl, (blk_cell BK263.out 6).trans rfl, (blk_cell BK263.out 7).trans rfl⟩ (fun hHeld => ?_)
         clear hK K
         refine norm_ (a' := ?_) ?_ ?_; rotate_left; (show Act.put _ (some 42) _ = _; simp only [PT_]; rfl)
         refine oA_ 5 (some 36) (bs_ 14 4031) HT_ (fun K hK => ?_)
         refine Kd.R_lit_step (Kd.int .i64) _ 3 ?hg (N := 36) ?hd (xs := ([(rd_T36 l0_1 x27_1).f0, (rd_T36 l0_1 x27_1).f1] : List Int)) (inner := [.int .i64 ((rd_T36 l0_1 x27_1).f0), .int .i64 ((rd_T36 l0_1 x27_1).f1)]) (ok := fun _ => True) (okp := fun _ => True) ?hr ?hp (fun _ hk => hk) trivial (Below.refl _ _) (Nat.le_refl _) (by simp) ?_; (case hd => rfl); (case hg => rfl); (case hr => first | (go_simp; done) | (go_simp; rfl)); (case hp => exact (Reps.one (show Kd.M (Kd.int .i64) _ _ _ ((rd_T36 l0_1 x27_1).f0) [.int .i64 ((rd_T36 l0_1 x27_1).f0)] from rfl) (Reps.one (show Kd.M (Kd.int .i64) _ _ _ ((rd_T36 l0_1 x27_1).f1) [.int .i64 ((rd_T36 l0_1 x27_1).f1)] from rfl) (Reps.none _ _))))
         intro v265 w37 ho38 hb hg_ hnew_
         clear hg_ hnew_
         (first | rw [← Ny264.out] at ho38 | (simp only [Int.reduceToNat] at ho38; rw [← Ny264.out] at ho38))
         have n0_ := Aside0.mk (Kd.R_below (by (with_reducible repeat (first | apply Kd.R_alloc | apply Kd.R_drewN | apply Kd.R_drew)); exact HO_4.out) hb)
         have n1_ := Aside0.mk (Kd.R_below (by (with_reducible repeat (first | apply Kd.R_alloc | apply Kd.R_drewN | apply Kd.R_drew)); exact HO272.out) hb)
         have n2_ := Aside0.mk (Kd.R_lower ho38 (below_size z6_))
         have n3_ := Aside0.mk (blk_below (g := gb245) (o := .cells #[.slice A0_0 l0_0.length c0_0, .slice (some ad262) l0_1.length c0_1, .int .i64 a0_2, .int .i64 a0_3] 32 (0, 0)) (by (with_reducible repeat (first | refine blk_drewN ?_ _ | refine blk_drew ?_ | refine blk_alloc ?_ _)); exact BK245.out) hb)
         have n4_ := Aside0.mk (blk_below (g := gb263) (o := .cells #[.int .i64 ((rd_T36 l0_1 x27_1).f0), .int .i64 ((rd_T36 l0_1 x27_1).f1), .bool ((rd_T36 l0_1 x27_1).f2.f0), .int .i64 ((rd_T36 l0_1 x27_1).f2.f1), .string ((rd_T36 l0_1 x27_1).f2.f2), .bool ((rd_T36 l0_1 x27_1).f3.f0), .int .i64 ((rd_T36 l0_1 x27_1).f3.f1), .string ((rd_T36 l0_1 x27_1).f3.f2)] 36 (0, 0)) (by (with_reducible repeat (first | refine blk_drewN ?_ _ | refine blk_drew ?_ | refine blk_alloc ?_ _)); exact BK263.out) hb)
         have n5_ := Aside0.mk (below_step z6_ hb)
         clear HO_4
         clear HO272
         clear BK245
         clear BK263
         clear HB
         have HO_4 := n0_
         have HO272 := n1_
         have HO266 := n2_
         have BK245 := n3_
         have BK263 := n4_
         have HB := n5_
         clear n0_ n1_ n2_ n3_ n4_ n5_
         clear hb ho38
         obtain ⟨Ao39, co39, eo39⟩ := Kd.R_slice HO266.out
         (first | subst eo39 | (injection eo39 with f1_ f2_ f3_; have f4_ := f1_.symm; have f5_ := f3_.symm; clear f1_ f2_ f3_; subst f4_; subst f5_))
         refine hK.out _ _ ⟨(blk_cell BK263.out 0).trans rfl, (blk_cell BK263.out 1).trans rfl, (blk_cell BK263.out 2).trans rfl, (blk_cell BK263.out 3).trans rfl, (blk_cell BK263.out 4).trans rfl, (blk_cell BK263.out 5).trans rfl, (blk_cell BK263.out 6).trans rfl, (blk_cell BK263.out 7).trans rfl⟩ (fun hHeld => ?_)
         clear hK K
         refine norm_ (a' := ?_) ?_ ?_; rotate_left; (show Act.put _ (some 36) _ = _; simp only [PT_]; rfl)
         refine oA_ 6 (some 37) (bs_ 14 4095) HT_ (fun K hK => ?_)
         refine goes_ Try.func20 (by kernel_rfl) rfl #[.slice Ao32 x4_1.length co32, .slice Ao39 y264.length co39] (by rfl) rfl rfl (by (try simp only [List.map_toArray, List.map_cons, List.map_nil]); first | done | rfl | (simp only [List.length_drop, List.length_take]; rfl)) ?_
         with_reducible refine (manifest_nums.calls k1 (fun k_ => some k_ = (.slice Ao32 x4_1.length co32 : Value).ownBlock) (.slice Ao32 x4_1.length co32) x4_1 _ _ y264 t267 w _ ?side1 ?side2 ?side3 ?side4 A27.out).mono ?_
         (case side1 => repeat (first | (with_reducible first | exact HB.out | apply below_alloc | apply pw_below_drewN | apply below_drew1 | refine below_set ?_ GE245.out | refine below_set ?_ GE263.out) | exact HB.out))
         (case side2 => exact Kd.R_tight rfl HO_4.out)
         (case side3 => exact Kd.C_kept_own ((Kd.R_apart' HO266.out (Kd.R_typed HO_4.out) (by decide))) (fun k_ hk_ hs_ => (hk_.2) hs_))
         (case side4 => exact (Kd.R_reads' HO266.out).2.1)
         rintro e w40 ⟨v268, rfl, ho0, hb, hkp⟩
         refine ⟨_, rfl, ?_⟩
         have n0_ := Aside0.mk (blk_kept (by (with_reducible repeat (first | refine blk_drewN ?_ _ | refine blk_drew ?_ | refine blk_alloc ?_ _)); exact BK245.out) hkp (fun hs_ => (fun e_ => (Kd.R_ne HO_4.out BK245.out (by decide)) e_) hs_))
         have n1_ := Aside0.mk (blk_kept (by (with_reducible repeat (first | refine blk_drewN ?_ _ | refine blk_drew ?_ | refine blk_alloc ?_ _)); exact BK263.out) hkp (fun hs_ => (fun e_ => (Kd.R_ne HO_4.out BK263.out (by decide)) e_) hs_))
         have n2_ := Aside0.mk (Kd.R_mono (ok' := fun k_ => True) (Kd.R_keptB ((Kd.R_apart' HO272.out (Kd.R_typed HO_4.out) (by decide))) hkp (fun k_ hk_ hs_ => (hk_.2) hs_)) (fun k_ hk_ => trivial))
         have n3_ := Aside0.mk (Kd.R_mono (ok' := fun k_ => True) (Kd.R_keptB ((Kd.R_apart' HO266.out (Kd.R_typed HO_4.out) (by decide))) hkp (fun k_ hk_ hs_ => (hk_.2) hs_)) (fun k_ hk_ => trivial))
         have n4_ := Aside0.mk (Kd.R_mono (ok' := fun k_ => True) ho0 (fun k_ hk_ => trivial))
         have n5_ := Aside0.mk (hb)
         clear BK245
         clear BK263
         clear HO272
         clear HO266
         clear HB
         clear HO_4
         have BK245 := n0_
         have BK263 := n1_
         have HO272 := n2_
         have HO266 := n3_
         have HO269 := n4_
         have HB := n5_
         clear n0_ n1_ n2_ n3_ n4_ n5_
         (try clear hb)
         (try clear hkp)
         (try clear ho0)
         refine hK.out _ _ ⟨(blk_cell BK263.out 0).trans rfl, (blk_cell BK263.out 1).trans rfl, (blk_cell BK263.out 2).trans rfl, (blk_cell BK263.out 3).trans rfl, (blk_cell BK263.out 4).trans rfl, (blk_cell BK263.out 5).trans rfl, (blk_cell BK263.out 6).trans rfl, (blk_cell BK263.out 7).trans rfl⟩ (fun hHeld => ?_)
         clear hK K
         refine norm_ (a' := ?_) ?_ ?_; rotate_left; (show Act.put _ (some 37) _ = _; simp only [PT_]; rfl)
         exact norm_ (by simp only [putAll, Act.put, List.setIfInBounds_toArray, List.set_cons_zero, List.set_cons_succ]) (hCont (.slice Ao39 y264.length co39, v268, v271) _ ⟨hHeld, (by (with_reducible repeat (first | apply Kd.R_alloc | apply Kd.R_drewN | apply Kd.R_drew)); exact HO266.out), (by (with_reducible repeat (first | apply Kd.R_alloc | apply Kd.R_drewN | apply Kd.R_drew)); exact HO269.out), (by (with_reducible repeat (first | apply Kd.R_alloc | apply Kd.R_drewN | apply Kd.R_drew)); exact HO272.out), (by (with_reducible repeat (first | refine blk_drewN ?_ _ | refine blk_drew ?_ | refine blk_alloc ?_ _)); exact BK245.out), (by (with_reducible repeat (first | refine blk_drewN ?_ _ | refine blk_drew ?_ | refine blk_alloc ?_ _)); exact BK263.out), z6_⟩)
       rintro ⟨v265, v268, v271⟩ w41 ⟨hS_, h0_, h1_, h2_, h3_, h4_, h5_⟩
       have n0_ : Aside0 (Kd.R (Kd.int .i64) 3 w41 w.heap.size (fun _ => True) v265 y264) := ⟨h0_⟩
       have n1_ : Aside0 (Kd.R (Kd.int .u8) 5 w41 w.heap.size (fun _ => True) v268 t267) := ⟨h1_⟩
       have n2_ : Aside0 (Kd.R k34 34 w41 w.heap.size (fun _ => True) v271 y270) := ⟨h2_⟩
       have n3_ : Aside0 (w41.heap[gb245]? = some (.cells #[.slice A0_0 l0_0.length c0_0, .slice (some ad262) l0_1.length c0_1, .int .i64 a0_2, .int .i64 a0_3] 32 (0, 0))) := ⟨h3_⟩
       have n4_ : Aside0 (w41.heap[gb263]? = some (.cells #[.int .i64 ((rd_T36 l0_1 x27_1).f0), .int .i64 ((rd_T36 l0_1 x27_1).f1), .bool ((rd_T36 l0_1 x27_1).f2.f0), .int .i64 ((rd_T36 l0_1 x27_1).f2.f1), .string ((rd_T36 l0_1 x27_1).f2.f2), .bool ((rd_T36 l0_1 x27_1).f3.f0), .int .i64 ((rd_T36 l0_1 x27_1).f3.f1), .string ((rd_T36 l0_1 x27_1).f3.f2)] 36 (0, 0))) := ⟨h4_⟩
       have n5_ : Aside0 (Below w.heap.size w w41) := ⟨h5_⟩
       clear HO_4
       clear BK245
       clear BK263
       clear HB
       clear h0_ h1_ h2_ h3_ h4_ h5_
       have HO266 := n0_
       have HO269 := n1_
       have HO272 := n2_
       have BK245 := n3_
       have BK263 := n4_
       have HB := n5_
       clear n0_ n1_ n2_ n3_ n4_ n5_
       have hHeld : w41.cell? ⟨gb263, 0, none⟩ = some (.int .i64 ((rd_T36 l0_1 x27_1).f0)) ∧ w41.cell? ⟨gb263, 1, none⟩ = some (.int .i64 ((rd_T36 l0_1 x27_1).f1)) ∧ w41.cell? ⟨gb263, 2, none⟩ = some (.bool ((rd_T36 l0_1 x27_1).f2.f0)) ∧ w41.cell? ⟨gb263, 3, none⟩ = some (.int .i64 ((rd_T36 l0_1 x27_1).f2.f1)) ∧ w41.cell? ⟨gb263, 4, none⟩ = some (.string ((rd_T36 l0_1 x27_1).f2.f2)) ∧ w41.cell? ⟨gb263, 5, none⟩ = some (.bool ((rd_T36 l0_1 x27_1).f3.f0)) ∧ w41.cell? ⟨gb263, 6, none⟩ = some (.int .i64 ((rd_T36 l0_1 x27_1).f3.f1)) ∧ w41.cell? ⟨gb263, 7, none⟩ = some (.string ((rd_T36 l0_1 x27_1).f3.f2)) := hS_
       obtain ⟨Ao42, co42, eo42⟩ := Kd.R_slice HO269.out
       (first | subst eo42 | (injection eo42 with f1_ f2_ f3_; have f4_ := f1_.symm; have f5_ := f3_.symm; clear f1_ f2_ f3_; subst f4_; subst f5_))
       obtain ⟨Ao43, co43, eo43⟩ := Kd.R_slice HO272.out
       (first | subst eo43 | (injection eo43 with f1_ f2_ f3_; have f4_ := f1_.symm; have f5_ := f3_.symm; clear f1_ f2_ f3_; subst f4_; subst f5_))
       refine norm_ (a' := ?_) ?_ ?_
       rotate_left
       ·simp only [putAll, Act.put, List.setIfInBounds_toArray, List.set_cons_zero, List.set_cons_succ]
        rfl
       refine oA_ 12 (some 43) (bs_ 14 8191) HT_ (fun K hK => ?_)
       refine goes_ Try.func21 (by kernel_rfl) rfl #[.slice Ao42 t267.length co42, .slice Ao43 y270.length co43] (by rfl) rfl rfl (by (try simp only [List.map_toArray, List.map_cons, List.map_nil]); first | done | rfl | (simp only [List.length_drop, List.length_take]; rfl)) ?_
       with_reducible refine (manifest_bounds.calls k1 (fun k_ => some k_ = (.slice Ao42 t267.length co42 : Value).ownBlock) (.slice Ao42 t267.length co42) t267 _ _ y270 t273 w _ ?side1 ?side2 ?side3 ?side4 A28.out).mono ?_
       (case side1 => repeat (first | (with_reducible first | exact HB.out | apply below_alloc | apply pw_below_drewN | apply below_drew1 | refine below_set ?_ GE245.out | refine below_set ?_ GE263.out) | exact HB.out))
       (case side2 => exact Kd.R_tight rfl HO269.out)
       (case side3 => exact Kd.C_kept_own ((Kd.R_apart' HO272.out (Kd.R_typed HO269.out) (by decide))) (fun k_ hk_ hs_ => (hk_.2) hs_))
       (case side4 => exact (Kd.R_reads' HO272.out).2.1)
       rintro e w44 ⟨v274, rfl, ho0, hb, hkp⟩
       refine ⟨_, rfl, ?_⟩
       have n0_ := Aside0.mk (blk_kept (by (with_reducible repeat (first | refine blk_drewN ?_ _ | refine blk_drew ?_ | refine blk_alloc ?_ _)); exact BK245.out) hkp (fun hs_ => (fun e_ => (Kd.R_ne HO269.out BK245.out (by decide)) e_) hs_))
       have n1_ := Aside0.mk (blk_kept (by (with_reducible repeat (first | refine blk_drewN ?_ _ | refine blk_drew ?_ | refine blk_alloc ?_ _)); exact BK263.out) hkp (fun hs_ => (fun e_ => (Kd.R_ne HO269.out BK263.out (by decide)) e_) hs_))
       have n2_ := Aside0.mk (Kd.R_mono (ok' := fun k_ => True) (Kd.R_keptB ((Kd.R_apart' HO266.out (Kd.R_typed HO269.out) (by decide))) hkp (fun k_ hk_ hs_ => (hk_.2) hs_)) (fun k_ hk_ => trivial))
       have n3_ := Aside0.mk (Kd.R_mono (ok' := fun k_ => True) (Kd.R_keptB ((Kd.R_apart' HO272.out (Kd.R_typed HO269.out) (by decide))) hkp (fun k_ hk_ hs_ => (hk_.2) hs_)) (fun k_ hk_ => trivial))
       have n4_ := Aside0.mk (Kd.R_mono (ok' := fun k_ => True) ho0 (fun k_ hk_ => trivial))
       have n5_ := Aside0.mk (hb)
       clear BK245
       clear BK263
       clear HO266
       clear HO272
       clear HB
       clear HO269
       have BK245 := n0_
       have BK263 := n1_
       have HO266 := n2_
       have HO272 := n3_
       have HO275 := n4_
       have HB := n5_
       clear n0_ n1_ n2_ n3_ n4_ n5_
       (try clear hb)
       (try clear hkp)
       (try clear ho0)
       refine hK.out _ _ ⟨(blk_cell BK263.out 0).trans rfl, (blk_cell BK263.out 1).trans rfl, (blk_cell BK263.out 2).trans rfl, (blk_cell BK263.out 3).trans rfl, (blk_cell BK263.out 4).trans rfl, (blk_cell BK263.out 5).trans rfl, (blk_cell BK263.out 6).trans rfl, (blk_cell BK263.out 7).trans rfl⟩ (fun hHeld => ?_)
       clear hK K
       refine norm_ (a' := ?_) ?_ ?_; rotate_left; (show Act.put _ (some 43) _ = _; simp only [PT_]; rfl)
       refine pA_ 13 (some 4) (bs_ 14 16383) HT_ ?_ ?_ ?_ ?_ ?_
       rotate_left; (intro w'; go_simp; with_reducible rfl); rotate_left; (simp only [PT_]; rfl)
       refine done_ (done_of HT_.out (by kernel_rfl)) ?_
       try go_wp2
       go_roundg k1
       case measure => have := HK1.out; omega
       case rel => exact ⟨(t273), (wrap64 (x27_1 + 1)), z8_, H', ⟨by have := HK1.out; omega⟩, ⟨by (with_reducible repeat (first | apply Kd.R_alloc | apply Kd.R_drewN | apply Kd.R_drew)); exact HO275.out⟩, ⟨by (with_reducible repeat (first | refine blk_drewN ?_ _ | refine blk_drew ?_ | refine blk_alloc ?_ _)); exact BK245.out⟩, ⟨z6_⟩⟩
      ·rw [if_neg c26] at H
       exact absurd H (by simp)
     ·rw [if_neg c25] at H
      exact absurd H (by simp)
    ·rw [if_neg c24] at H
     have c24b0 : decide (x27_1 < (l0_1.length : Int)) = false := decide_eq_false c24
     clear c24
     obtain ⟨y276, hy276⟩ : ∃ y_ : List Int, y_ = (([a0_2, a0_3] : List Int)) := ⟨_, rfl⟩
     replace H : ((manifest_nums.f k1 x4_1 y276).bind fun t279 => ((frame_Write.f k1 (strOfNums t279)).bind fun t282 => (some (t282, 0)))) = some (r1, r2) := by first | (rw [hy276]; with_reducible exact H) | (have H2_ := (Option.bind_some _ _).symm.trans H; rw [hy276]; with_reducible exact H2_) | (have H2_ := (Option.bind_some _ _).symm.trans H; with_reducible exact H2_) | with_reducible exact H | (rw [hy276]; exact H) | exact H
     have Ny276 := Aside0.mk hy276
     clear hy276
     replace H := Option.bind_eq_some_iff.mp H
     obtain ⟨t279, A450, H⟩ := H
     replace H : ((frame_Write.f k1 (strOfNums t279)).bind fun t282 => (some (t282, 0))) = some (r1, r2) := H
     have A45 := Aside0.mk A450
     clear A450
     replace H := Option.bind_eq_some_iff.mp H
     obtain ⟨t282, A460, H⟩ := H
     replace H : (some (t282, 0)) = some (r1, r2) := H
     have A46 := Aside0.mk A460
     clear A460
     simp only [Option.some.injEq, Prod.mk.injEq] at H
     obtain ⟨rfl, rfl⟩ := H
     have hcz47_0 : wr.cell? ⟨gb245, 0, none⟩ = some (.slice A0_0 l0_0.length c0_0) := (blk_cell BK245.out 0).trans rfl
     have hcz47_1 : wr.cell? ⟨gb245, 1, none⟩ = some (.slice A0_1 l0_1.length c0_1) := (blk_cell BK245.out 1).trans rfl
     have hcz47_2 : wr.cell? ⟨gb245, 2, none⟩ = some (.int .i64 a0_2) := (blk_cell BK245.out 2).trans rfl
     have hcz47_3 : wr.cell? ⟨gb245, 3, none⟩ = some (.int .i64 a0_3) := (blk_cell BK245.out 3).trans rfl
     have hfz47_0 := blk_frozen BK245.out 0
     have hfz47_1 := blk_frozen BK245.out 1
     have hfz47_2 := blk_frozen BK245.out 2
     have hfz47_3 := blk_frozen BK245.out 3
     go_wp2_with (first | ((with_reducible refine gate_dst (N := 50) rfl ?_); refine Kd.R_lit (Kd.int .i64) _ 3 ?hg (N := 50) ?hd (xs := ([a0_2, a0_3] : List Int)) (inner := [.int .i64 a0_2, .int .i64 a0_3]) (ok := fun _ => True) (okp := fun _ => True) ?hr ?hp (fun _ hk => hk) trivial (Below.refl _ _) (Nat.le_refl _) (by simp) ?_; (case hd => rfl); (case hg => rfl); (case hr => first | (go_simp; done) | (go_simp; rfl)); (case hp => exact (Reps.one (show Kd.M (Kd.int .i64) _ _ _ a0_2 [.int .i64 a0_2] from rfl) (Reps.one (show Kd.M (Kd.int .i64) _ _ _ a0_3 [.int .i64 a0_3] from rfl) (Reps.none _ _)))); intro v277 w48 ho49 hb hg_ hnew_; clear hg_ hnew_; (first | rw [← Ny276.out] at ho49 | (simp only [Int.reduceToNat] at ho49; rw [← Ny276.out] at ho49)); have n0_ := Aside0.mk (Kd.R_below (by (with_reducible repeat (first | apply Kd.R_alloc | apply Kd.R_drewN | apply Kd.R_drew)); exact HO_4.out) hb); have n1_ := Aside0.mk (Kd.R_lower ho49 (below_size z7_)); have n2_ := Aside0.mk (blk_below (g := gb245) (o := .cells #[.slice A0_0 l0_0.length c0_0, .slice A0_1 l0_1.length c0_1, .int .i64 a0_2, .int .i64 a0_3] 32 (0, 0)) (by (with_reducible repeat (first | refine blk_drewN ?_ _ | refine blk_drew ?_ | refine blk_alloc ?_ _)); exact BK245.out) hb); have n3_ := Aside0.mk (below_step z7_ hb); clear HO_4; clear BK245; clear HB; have HO_4 := n0_; have HO278 := n1_; have BK245 := n2_; have HB := n3_; clear n0_ n1_ n2_ n3_; clear hb ho49; obtain ⟨Ao50, co50, eo50⟩ := Kd.R_slice HO_4.out; subst eo50; obtain ⟨Ao51, co51, eo51⟩ := Kd.R_slice HO278.out; subst eo51) | ((with_reducible refine gate_callee (f := 20) rfl ?_); refine goesL_ (some 51) rfl rfl Try.func20 (by kernel_rfl) rfl #[.slice Ao50 x4_1.length co50, .slice Ao51 y276.length co51] rfl (by (try simp only [List.map_toArray, List.map_cons, List.map_nil]); first | done | rfl | (simp only [List.length_drop, List.length_take]; rfl) | (go_simp; simp [IntKind.wrap, IntKind.bits, IntKind.signed]; omega)) ?_; (with_reducible refine (manifest_nums.calls k1 (fun k_ => some k_ = (.slice Ao50 x4_1.length co50 : Value).ownBlock) (.slice Ao50 x4_1.length co50) x4_1 _ _ y276 t279 w _ ?side1 ?side2 ?side3 ?side4 A45.out).mono ?_); (case side1 => repeat (first | (with_reducible first | exact HB.out | apply below_alloc | apply pw_below_drewN | apply below_drew1 | refine below_set ?_ GE245.out) | exact HB.out)); (case side2 => exact Kd.R_tight rfl HO_4.out); (case side3 => exact Kd.C_kept_own ((Kd.R_apart' HO278.out (Kd.R_typed HO_4.out) (by decide))) (fun k_ hk_ hs_ => (hk_.2) hs_)); (case side4 => exact (Kd.R_reads' HO278.out).2.1); rintro e w52 ⟨v280, rfl, ho0, hb, hkp⟩; refine ⟨_, rfl, ?_⟩; have n0_ := Aside0.mk (blk_kept (by (with_reducible repeat (first | refine blk_drewN ?_ _ | refine blk_drew ?_ | refine blk_alloc ?_ _)); exact BK245.out) hkp (fun hs_ => (fun e_ => (Kd.R_ne HO_4.out BK245.out (by decide)) e_) hs_)); have n1_ := Aside0.mk (Kd.R_mono (ok' := fun k_ => True) (Kd.R_keptB ((Kd.R_apart' HO278.out (Kd.R_typed HO_4.out) (by decide))) hkp (fun k_ hk_ hs_ => (hk_.2) hs_)) (fun k_ hk_ => trivial)); have n2_ := Aside0.mk (Kd.R_mono (ok' := fun k_ => True) ho0 (fun k_ hk_ => trivial)); have n3_ := Aside0.mk (hb); clear BK245; clear HO278; clear HB; clear HO_4; have BK245 := n0_; have HO278 := n1_; have HO281 := n2_; have HB := n3_; clear n0_ n1_ n2_ n3_; (try clear hb); (try clear hkp); (try clear ho0); have hcv53 := own_string (P := Try.prog) Try.underlying51 Try.underlying5 Try.underlying9 (Kd.own_of_R HO281.out)) | ((with_reducible refine gate_callee (f := 22) rfl ?_); refine goesL_ (some 53) rfl rfl Try.func22 (by kernel_rfl) rfl #[.string (strOfNums t279)] rfl (by (try simp only [List.map_toArray, List.map_cons, List.map_nil]); first | done | rfl | (simp only [List.length_drop, List.length_take]; rfl) | (go_simp; simp [IntKind.wrap, IntKind.bits, IntKind.signed]; omega)) ?_; (with_reducible refine (frame_Write.calls k1 (strOfNums t279) t282 _ A46.out).mono ?_); rintro e w54 ⟨rfl, hb⟩; refine ⟨_, rfl, ?_⟩; have n0_ := Aside0.mk (Kd.R_below (by (with_reducible repeat (first | apply Kd.R_alloc | apply Kd.R_drewN | apply Kd.R_drew)); exact HO278.out) hb); have n1_ := Aside0.mk (Kd.R_below (by (with_reducible repeat (first | apply Kd.R_alloc | apply Kd.R_drewN | apply Kd.R_drew)); exact HO281.out) hb); have n2_ := Aside0.mk (blk_below (g := gb245) (o := .cells #[.slice A0_0 l0_0.length c0_0, .slice A0_1 l0_1.length c0_1, .int .i64 a0_2, .int .i64 a0_3] 32 (0, 0)) (by (with_reducible repeat (first | refine blk_drewN ?_ _ | refine blk_drew ?_ | refine blk_alloc ?_ _)); exact BK245.out) hb); have n3_ := Aside0.mk (below_step z7_ hb); clear HO278; clear HO281; clear BK245; clear HB; have HO278 := n0_; have HO281 := n1_; have BK245 := n2_; have HB := n3_; clear n0_ n1_ n2_ n3_; (try clear hb); (try clear hb2); (try clear hk); (try clear hi)))
     go_ret2
     exact ⟨z3_, z7_⟩
 ·replace c3 := Bool.eq_false_iff.mpr c3
  subst c3
  have H1 : (some ((⟨#[]⟩ : ByteArray), 1)) = some (r1, r2) := by rw [if_neg (show ¬ (false = true) by decide)] at H; exact H
  clear H
  have H := H1
  clear H1
  simp only [Option.some.injEq, Prod.mk.injEq] at H
  obtain ⟨rfl, rfl⟩ := H
  go_enter Try.func12, Try.ntmps12
  go_wp2_with (first | ((with_reducible refine gate_dst (N := 1) rfl ?_); refine box_event ?hg (N := 1) ?hd (cs := #[.slice A0_0 l0_0.length c0_0, .slice A0_1 l0_1.length c0_1, .int .i64 a0_2, .int .i64 a0_3]) (t := 32) ?hr ?_; (case hd => rfl); (case hg => rfl); (case hr => first | (go_simp; done) | (go_simp; rfl)); intro gb245 hg w55 hbox hb; have n0_ := Aside0.mk (below_step z0_ hb); have n1_ := Aside0.mk (hbox); have n2_ := Aside0.mk ((by rw [hg]; exact (below_size z0_) : w.heap.size ≤ gb245)); have n3_ := Aside0.mk ((by rw [hg]; exact (below_size z0_) : w.heap.size ≤ gb245)); clear HB; have HB := n0_; have BK245 := n1_; have GW245 := n2_; have GE245 := n3_; clear n0_ n1_ n2_ n3_; clear hb hbox hg; have hcz56_0 : w55.cell? ⟨gb245, 0, none⟩ = some (.slice A0_0 l0_0.length c0_0) := (blk_cell BK245.out 0).trans rfl; have hcz56_1 : w55.cell? ⟨gb245, 1, none⟩ = some (.slice A0_1 l0_1.length c0_1) := (blk_cell BK245.out 1).trans rfl; have hcz56_2 : w55.cell? ⟨gb245, 2, none⟩ = some (.int .i64 a0_2) := (blk_cell BK245.out 2).trans rfl; have hcz56_3 : w55.cell? ⟨gb245, 3, none⟩ = some (.int .i64 a0_3) := (blk_cell BK245.out 3).trans rfl; have hfz56_0 := blk_frozen BK245.out 0; have hfz56_1 := blk_frozen BK245.out 1; have hfz56_2 := blk_frozen BK245.out 2; have hfz56_3 := blk_frozen BK245.out 3) | ((with_reducible refine gate_callee (f := 18) rfl ?_); refine goesL_ (some 8) rfl rfl Try.func18 (by kernel_rfl) rfl #[.agg #[.slice A0_0 l0_0.length c0_0, .slice A0_1 l0_1.length c0_1, .int .i64 a0_2, .int .i64 a0_3]] rfl (by (try simp only [List.map_toArray, List.map_cons, List.map_nil]); first | done | rfl | (simp only [List.length_drop, List.length_take]; rfl) | (go_simp; simp [IntKind.wrap, IntKind.bits, IntKind.signed]; omega)) ?_; (with_reducible refine (manifest_right.calls _ _ l0_0 _ _ l0_1 a0_2 a0_3 false _ ?side1 ?side2 ?side3 ?side4 A2.out).mono ?_); (case side1 => repeat (first | exact (Kd.C_below HR0_0.out HB.out) | (with_reducible refine Kd.C_alloc ?_ _) | (with_reducible refine Kd.C_drewN ?_ _) | (with_reducible refine Kd.C_drew ?_))); (case side2 => exact HC0_0.out); (case side3 => repeat (first | exact (Kd.C_below HR0_1.out HB.out) | (with_reducible refine Kd.C_alloc ?_ _) | (with_reducible refine Kd.C_drewN ?_ _) | (with_reducible refine Kd.C_drew ?_))); (case side4 => exact HC0_1.out); rintro e w57 ⟨rfl, hb⟩; refine ⟨_, rfl, ?_⟩; have n0_ := Aside0.mk (blk_below (g := gb245) (o := .cells #[.slice A0_0 l0_0.length c0_0, .slice A0_1 l0_1.length c0_1, .int .i64 a0_2, .int .i64 a0_3] 32 (0, 0)) (by (with_reducible repeat (first | refine blk_drewN ?_ _ | refine blk_drew ?_ | refine blk_alloc ?_ _)); exact BK245.out) hb); have n1_ := Aside0.mk (below_step z7_ hb); clear BK245; clear HB; have BK245 := n0_; have HB := n1_; clear n0_ n1_; (try clear hb); (try clear hb2); (try clear hk); (try clear hi)))
  go_ret2
  exact ⟨z3_, z7_⟩
def tithebarnref16_number.f (a0 : Int) : Option (Bool) := if a0 ≥ 0 then (some (decide (a0 ≤ 999999999))) else (some false)
end Go.Proofs.Ytagokgijffpdnaa.G
namespace Go.Proofs.Ytagokgijffpdnaa.G
open Go.RowKit Go.Proofs.YtagokgijffpdnaaQ Go.Proofs.YtagokgijffpdnaaW.PrintWords Go.Proofs.YtagokgijffpdnaaW.PrintLast Go.Proofs.YtagokgijffpdnaaW.PrintMore
attribute [local go_sem] max2_int min2_int max_two min_two max_three min_three max_four min_four   -- for this text's walks alone
set_option linter.unusedVariables false
set_option linter.unusedSimpArgs false
def tithebarnref16_key.f (a0_0 : Bool) (a0_1 : Int) (a0_2 : ByteArray) : Option (Bool) := if a0_0 = true then (some false) else (some (decide ((a0_2.size : Int) ≤ 64)))
mutual
def tithebarnref02_ahead.l0 : Nat → ByteArray → ByteArray → Int → Option (Bool)
 | 0, _, _, _ => none
 | k + 1, x0, x1, x5 => if x5 < (x0.size : Int) then (tithebarnref02_ahead.j1 k x0 x1 x5 (decide (x5 < (x1.size : Int)))) else (tithebarnref02_ahead.j1 k x0 x1 x5 false)
def tithebarnref02_ahead.j1 : Nat → ByteArray → ByteArray → Int → Bool → Option (Bool)
 | 0, _, _, _, _ => none
 | k + 1, x0, x1, x5, x15 => if x15 = true then (if 0 ≤ x5 then (if x5 < (x0.size : Int) then (if x5 < (x1.size : Int) then (if (bt x0 x5) = (bt x1 x5) then (tithebarnref02_ahead.l0 k x0 x1 (wrap64 (x5 + 1))) else (some (decide ((bt x0 x5) < (bt x1 x5))))) else (none)) else (none)) else (none)) else (some (decide ((x0.size : Int) < (x1.size : Int))))
end
def tithebarnref02_ahead.f (k : Nat) (a0 : ByteArray) (a1 : ByteArray) : Option (Bool) := tithebarnref02_ahead.l0 k a0 a1 0
def tithebarnref02_Ahead.j0 : Nat → Bool → Bool → Int → ByteArray → Bool → Int → ByteArray → Option (Bool)
 | 0, _, _, _, _, _, _, _ => none
 | k + 1, x10, x285000, x285001, x285002, x286000, x286001, x286002 => if x10 = true then (if x285000 = true then (some (!x286000)) else (some false)) else (if x285001 = x286001 then ((tithebarnref02_ahead.f k x285002 x286002).bind fun t286 => (some t286)) else (some (decide (x285001 < x286001))))
def tithebarnref02_Ahead.f (k : Nat) (a0_0 : Bool) (a0_1 : Int) (a0_2 : ByteArray) (a1_0 : Bool) (a1_1 : Int) (a1_2 : ByteArray) : Option (Bool) := if a0_0 = true then (tithebarnref02_Ahead.j0 k true a0_0 a0_1 a0_2 a1_0 a1_1 a1_2) else (tithebarnref02_Ahead.j0 k a1_0 a0_0 a0_1 a0_2 a1_0 a1_1 a1_2)
def tithebarnref16_part.f (k : Nat) (a0_0 : Int) (a0_1 : Int) (a0_2 : Bool) (a0_3 : Int) (a0_4 : ByteArray) (a0_5 : Bool) (a0_6 : Int) (a0_7 : ByteArray) : Option (Bool) := (tithebarnref16_number.f a0_0).bind fun t288 => (if t288 = true then (if a0_1 ≥ 0 then (if a0_1 < 4 then ((tithebarnref16_key.f a0_2 a0_3 a0_4).bind fun t289 => (if t289 = true then ((tithebarnref16_key.f a0_5 a0_6 a0_7).bind fun t290 => (if t290 = true then ((tithebarnref02_Ahead.f k a0_5 a0_6 a0_7 a0_2 a0_3 a0_4).bind fun t291 => (some (!t291))) else (some false))) else (some false))) else (some false)) else (some false)) else (some false))
end Go.Proofs.Ytagokgijffpdnaa.G
namespace Go.Proofs.Ytagokgijffpdnaa.G
open Go.RowKit Go.Proofs.YtagokgijffpdnaaQ Go.Proofs.YtagokgijffpdnaaW.PrintWords Go.Proofs.YtagokgijffpdnaaW.PrintLast Go.Proofs.YtagokgijffpdnaaW.PrintMore
attribute [local go_sem] max2_int min2_int max_two min_two max_three min_three max_four min_four   -- for this text's walks alone
set_option linter.unusedVariables false
set_option linter.unusedSimpArgs false
mutual
def tithebarnref16_Right.j0 : Nat → Bool → List Int → List (S36) → Int → Int → Option (Bool)
 | 0, _, _, _, _, _ => none
 | k + 1, x26, x293000, x293001, x293002, x293003 => if x26 = true then (some false) else (tithebarnref16_Right.l0 k 0 x293000 x293001 x293002 x293003)
def tithebarnref16_Right.l0 : Nat → Int → List Int → List (S36) → Int → Int → Option (Bool)
 | 0, _, _, _, _, _ => none
 | k + 1, x3, x293000, x293001, x293002, x293003 => if x3 < (x293000.length : Int) then (if 0 ≤ x3 then ((tithebarnref16_number.f (rd x293000 x3)).bind fun t296 => (if t296 = true then (tithebarnref16_Right.l0 k (wrap64 (x3 + 1)) x293000 x293001 x293002 x293003) else (some false))) else (none)) else (tithebarnref16_Right.l1 k 0 x293000 x293001 x293002 x293003)
def tithebarnref16_Right.l1 : Nat → Int → List Int → List (S36) → Int → Int → Option (Bool)
 | 0, _, _, _, _, _ => none
 | k + 1, x4, x293000, x293001, x293002, x293003 => if x4 < (x293001.length : Int) then (if 0 ≤ x4 then ((tithebarnref16_part.f k ((rd_T36 x293001 x4).f0) ((rd_T36 x293001 x4).f1) ((rd_T36 x293001 x4).f2.f0) ((rd_T36 x293001 x4).f2.f1) ((rd_T36 x293001 x4).f2.f2) ((rd_T36 x293001 x4).f3.f0) ((rd_T36 x293001 x4).f3.f1) ((rd_T36 x293001 x4).f3.f2)).bind fun t298 => (if t298 = true then (tithebarnref16_Right.l1 k (wrap64 (x4 + 1)) x293000 x293001 x293002 x293003) else (some false))) else (none)) else (some true)
end
def tithebarnref16_Right.f (k : Nat) (l0_0 : List Int) (l0_1 : List (S36)) (a0_2 : Int) (a0_3 : Int) : Option (Bool) := if (l0_0.length : Int) > 1000 then (tithebarnref16_Right.j0 k true l0_0 l0_1 a0_2 a0_3) else (if (l0_1.length : Int) > 1000 then (tithebarnref16_Right.j0 k true l0_0 l0_1 a0_2 a0_3) else ((tithebarnref16_number.f a0_2).bind fun t293 => (if t293 = true then ((tithebarnref16_number.f a0_3).bind fun t294 => (tithebarnref16_Right.j0 k (!t294) l0_0 l0_1 a0_2 a0_3)) else (tithebarnref16_Right.j0 k true l0_0 l0_1 a0_2 a0_3))))
mutual
def tithebarnref01_Uint.j0 : Nat → Int → Int → Int → Option (ByteArray)
 | 0, _, _, _ => none
 | k + 1, x0, x3, x4 => tithebarnref01_Uint.l0 k x0 x3 x4 ([] : List Int) (wrap64 (x3 - 1))
def tithebarnref01_Uint.l0 : Nat → Int → Int → Int → List Int → Int → Option (ByteArray)
 | 0, _, _, _, _, _ => none
 | k + 1, x0, x3, x4, x5, x6 => if x6 ≥ 0 then (if x6 < 8 then (if 0 ≤ (IntKind.u64.wrap (wrap64 (8 * x6))) then (if x6 = (wrap64 (x3 - 1)) then (if x5.length < 140737488355328 then (tithebarnref01_Uint.l0 k x0 x3 x4 (x5 ++ [((shr .u64 x0 (IntKind.u64.wrap (wrap64 (8 * x6)))) + x4) % 256]) (wrap64 (x6 - 1))) else (none)) else (if x5.length < 140737488355328 then (tithebarnref01_Uint.l0 k x0 x3 x4 (x5 ++ [(shr .u64 x0 (IntKind.u64.wrap (wrap64 (8 * x6)))) % 256]) (wrap64 (x6 - 1))) else (none))) else (none)) else (if x6 = (wrap64 (x3 - 1)) then (if x5.length < 140737488355328 then (tithebarnref01_Uint.l0 k x0 x3 x4 (x5 ++ [(x4) % 256]) (wrap64 (x6 - 1))) else (none)) else (if x5.length < 140737488355328 then (tithebarnref01_Uint.l0 k x0 x3 x4 (x5 ++ [0]) (wrap64 (x6 - 1))) else (none)))) else (some (strOfNums x5))
end
def tithebarnref01_Uint.f (k : Nat) (a0 : Int) : Option (ByteArray) := if a0 < 64 then (tithebarnref01_Uint.j0 k a0 1 0) else (if a0 < 16384 then (tithebarnref01_Uint.j0 k a0 2 64) else (if a0 < 1073741824 then (tithebarnref01_Uint.j0 k a0 4 128) else (tithebarnref01_Uint.j0 k a0 9 192)))
end Go.Proofs.Ytagokgijffpdnaa.G
namespace Go.Proofs.Ytagokgijffpdnaa.G
open Go.RowKit Go.Proofs.YtagokgijffpdnaaQ Go.Proofs.YtagokgijffpdnaaW.PrintWords Go.Proofs.YtagokgijffpdnaaW.PrintLast Go.Proofs.YtagokgijffpdnaaW.PrintMore
set_option linter.unusedVariables false
set_option linter.unusedSimpArgs false
theorem bytesOf_map (a : ByteArray) : bytesOf a = a.toList.map fun x => (x.toNat : Int) := by rw [ByteArray.toList_eq]; rfl
end Go.Proofs.Ytagokgijffpdnaa.G
namespace Go.Proofs.Ytagokgijffpdnaa.G
open Go.RowKit Go.Proofs.YtagokgijffpdnaaQ Go.Proofs.YtagokgijffpdnaaW.PrintWords Go.Proofs.YtagokgijffpdnaaW.PrintLast Go.Proofs.YtagokgijffpdnaaW.PrintMore
set_option linter.unusedVariables false
set_option linter.unusedSimpArgs false
theorem w64' (x : Int) (h0 : -9223372036854775808 ≤ x) (h1 : x < 9223372036854775808) : wrap64 x = x := w64 h0 h1
theorem big_step (k : Nat) (l : List Int) (x : Int) (i : Nat) (hi : i ≤ 7) (hl : l.length < 140737488355328) :
  tally_big.l0 (k + 1) l x i = tally_big.l0 k (l ++ [x / 256 ^ i % 256]) x ((i : Int) - 1) := by
 simp only [tally_big.l0]
 rw [if_pos (by omega), w64' (8 * (i : Int)) (by omega) (by omega), if_pos (by omega), if_pos hl, w64' ((i : Int) - 1) (by omega) (by omega)]
 have e : (8 * (i : Int)) = ((8 * i : Nat) : Int) := by omega
 rw [e, shr_u64_lit x (8 * i) (by omega)]
 have e2 : (256 : Int) ^ i = 2 ^ (8 * i) := by rw [Int.pow_mul]; rfl
 rw [e2]
theorem big_end (k : Nat) (l : List Int) (x : Int) : tally_big.l0 (k + 1) l x (-1) = some l := by
 simp only [tally_big.l0]; rw [if_neg (by omega)]
def bigs (x : Int) : Nat → List Int
 | 0 => []
 | n + 1 => x / 256 ^ n % 256 :: bigs x n
theorem big_f (n : Nat) (hn : n ≤ 8) : ∀ (k : Nat) (l : List Int) (x : Int), n < k → l.length + n ≤ 140737488355328 → tally_big.l0 k l x ((n : Int) - 1) = some (l ++ bigs x n) := by
 induction n with
 | zero =>
  intro k l x hk hl
  obtain ⟨k, rfl⟩ : ∃ m, k = m + 1 := ⟨k - 1, by omega⟩
  have e : ((0 : Nat) : Int) - 1 = -1 := by omega
  rw [e, big_end]; simp [bigs]
 | succ n ih =>
  intro k l x hk hl
  obtain ⟨k, rfl⟩ : ∃ m, k = m + 1 := ⟨k - 1, by omega⟩
  have e : ((n + 1 : Nat) : Int) - 1 = (n : Int) := by omega
  rw [e, big_step k l x n (by omega) (by omega), ih (by omega) k _ x (by omega) (by simp; omega)]
  simp [bigs]
theorem Uint_f {k : Nat} (hk : 10 ≤ k) {l : List Int} (hl : l.length + 9 ≤ 140737488355328) {x : Int} (hx : u64 x) : tally_Uint.f k l x = some (l ++ encU x) := by
 obtain ⟨h0, h1⟩ := hx
 unfold tally_Uint.f encU
 by_cases c1 : x < 64
 ·rw [if_pos (by omega), if_pos (by omega), if_pos c1]
  simp; omega
 ·rw [if_neg (by omega), if_neg c1]
  by_cases c2 : x < 16384
  ·rw [if_pos (by omega), if_pos c2, or_join' 16384 x 14 (by omega) (by omega) (by omega) (by omega) (by decide) (by simp; omega)]
   unfold tally_big.f
   have e : wrap64 (2 - 1) = ((2 : Nat) : Int) - 1 := by unfold wrap64; decide
   rw [e, big_f 2 (by omega) k l _ (by omega) (by omega)]
   simp [bigs]; omega
  ·rw [if_neg (by omega), if_neg c2]
   by_cases c3 : x < 1073741824
   ·rw [if_pos (by omega), if_pos c3, or_join' 2147483648 x 30 (by omega) (by omega) (by omega) (by omega) (by decide) (by simp; omega)]
    unfold tally_big.f
    have e : wrap64 (4 - 1) = ((4 : Nat) : Int) - 1 := by unfold wrap64; decide
    rw [e, big_f 4 (by omega) k l _ (by omega) (by omega)]
    simp [bigs]; omega
   ·rw [if_neg (by omega), if_neg c3, if_pos (by omega)]
    unfold tally_big.f
    have e : wrap64 (8 - 1) = ((8 : Nat) : Int) - 1 := by unfold wrap64; decide
    rw [e, big_f 8 (by omega) k _ _ (by omega) (by simp; omega)]
    simp [bigs]
theorem Int_f {k : Nat} (hk : 10 ≤ k) {l : List Int} (hl : l.length + 9 ≤ 140737488355328) {x : Int} (hx : i64 x) : tally_Int.f k l x = some (l ++ encI x) := by
 unfold tally_Int.f
 rw [zig x hx, Uint_f hk hl (fold_u64 hx)]; rfl
theorem Text_f {k : Nat} (hk : 10 ≤ k) {l : List Int} {s : ByteArray} (hl : l.length + 9 + s.size < 140737488355328) : tally_Text.f k l s = some (l ++ encT (bytesOf s)) := by
 unfold tally_Text.f
 have hu : u64 (s.size : Int) := by unfold u64; omega
 rw [wu64 hu.1 hu.2, Uint_f hk (by omega) hu]
 have := encU_len (s.size : Int)
 simp only [Option.bind_some]
 rw [if_pos (by simp; omega)]
 simp [encT, bytesOf_size]
theorem put_f {k : Nat} (hk : 5 ≤ k) {l : List Int} (hl : l.length + 4 ≤ 140737488355328) (n : Int) : frame_put.f k l n = some (l ++ le4 n) := by
 obtain ⟨k, rfl⟩ : ∃ m, k = m + 5 := ⟨k - 5, by omega⟩
 unfold frame_put.f
 simp only [frame_put.l0]
 have e1 : wrap64 (0 + 1) = 1 := by unfold wrap64; decide
 have e2 : wrap64 (1 + 1) = 2 := by unfold wrap64; decide
 have e3 : wrap64 (2 + 1) = 3 := by unfold wrap64; decide
 have e4 : wrap64 (3 + 1) = 4 := by unfold wrap64; decide
 simp only [e1, e2, e3, e4, List.length_append, List.length_cons, List.length_nil]
 rw [if_pos (by omega), if_pos (by omega), if_pos (by omega), if_pos (by omega), if_pos (by omega), if_pos (by omega), if_pos (by omega), if_pos (by omega), if_neg (by omega)]
 have d1 : n / 256 / 256 = n / 65536 := by omega
 have d2 : n / 65536 / 256 = n / 16777216 := by omega
 rw [d1, d2]
 simp [le4]
theorem sum_f {s : ByteArray} (hs : s.size ≤ 4611686018427387904) : frame_Sum.f s = some ((crc (bytesOf s) : Nat) : Int) := by unfold frame_Sum.f; rw [if_pos hs]
theorem Write_f {k : Nat} (hk : 5 ≤ k) {s : ByteArray} (hs : s.size + 8 < 140737488355328) : frame_Write.f k s = some (strOfNums (frm (bytesOf s))) := by
 unfold frame_Write.f
 rw [put_f hk (by simp)]
 simp only [Option.bind_some, List.nil_append]
 rw [if_pos (by rw [le4_len]; omega), sum_f (by omega)]
 simp only [Option.bind_some]
 rw [put_f hk (by simp [le4_len, bytesOf_size]; omega)]
 simp only [Option.bind_some, frm, bytesOf_size]
def valB (v : SV) : List Int := encI v.f1 ++ encT (bytesOf v.f2)
def partB (p : SP) : List Int := encU p.f0 ++ (encU p.f1 ++ (valB p.f2 ++ valB p.f3))
def editB (d : List Int) (a : List SP) (fl nx : Int) : List Int := encU (d.length : Int) ++ (d.flatMap encU ++ (encU (a.length : Int) ++ (a.flatMap partB ++ (encU fl ++ encU nx))))
def writeL (d : List Int) (a : List SP) (fl nx : Int) : ByteArray × Int := if rightB d a fl nx = true then (strOfNums (frm (editB d a fl nx)), 0) else (⟨#[]⟩, 1)
theorem nums_l0 (l : List Int) (hl : l.length ≤ 1000) (hu : ∀ x ∈ l, u64 x) : ∀ (m i k : Nat) (b : List Int), i + m = l.length → m + 12 ≤ k → b.length + 9 * m + 9 ≤ 140737488355328 → manifest_nums.l0 k b l (l.length : Int) (i : Int) = some (b ++ (l.drop i).flatMap encU) := by
 intro m
 induction m with
 | zero =>
  intro i k b hi hk hb
  obtain ⟨k, rfl⟩ : ∃ m, k = m + 1 := ⟨k - 1, by omega⟩
  simp only [manifest_nums.l0]
  rw [if_neg (by omega), List.drop_eq_nil_of_le (show l.length ≤ i by omega)]; simp
 | succ m ih =>
  intro i k b hi hk hb
  obtain ⟨k, rfl⟩ : ∃ m, k = m + 1 := ⟨k - 1, by omega⟩
  simp only [manifest_nums.l0]
  have EW : Aside0 (wrap64 ((i : Int) + 1) = ((i + 1 : Nat) : Int)) := ⟨by rw [w64 (by omega) (by omega)]; omega⟩
  have hdr : l.drop i = rd l (i : Int) :: l.drop (i + 1) := by
   rw [List.drop_eq_getElem_cons (show i < l.length by omega)]
   unfold rd
   rw [Int.toNat_natCast, List.getD_eq_getElem?_getD, List.getElem?_eq_getElem (show i < l.length by omega)]; rfl
  have hx := hu (rd l (i : Int)) (by have := List.mem_of_mem_drop (hdr ▸ List.mem_cons_self : rd l (i : Int) ∈ l.drop i); exact this)
  have hw := wu64 hx.1 hx.2
  have he := (encU_len (rd l (i : Int))).2
  rw [if_pos (by omega), if_pos (by omega), if_pos (by omega), hw, Uint_f (by omega) (by omega) hx, Option.bind_some, EW.out, ih (i + 1) k _ (by omega) (by omega) (by rw [List.length_append]; omega), hdr]
  simp
theorem nums_f {l b : List Int} (hl : l.length ≤ 1000) (hu : ∀ x ∈ l, u64 x) (hb : b.length ≤ 100000000) {k : Nat} (hk : 1100 ≤ k) : manifest_nums.f k b l = some (b ++ l.flatMap encU) := by
 unfold manifest_nums.f
 have := nums_l0 l hl hu l.length 0 k b (by omega) (by omega) (by omega)
 rw [show ((0 : Nat) : Int) = 0 from rfl, List.drop_zero] at this
 exact this
theorem bounds_f {v u : SV} {b : List Int} (hv : i64 v.f1) (hu : i64 u.f1) (hvs : v.f2.size ≤ 64) (hus : u.f2.size ≤ 64) (hb : b.length ≤ 100000000) {k : Nat} (hk : 20 ≤ k) : manifest_bounds.f k b [v, u] = some (b ++ (valB v ++ valB u)) := by
 obtain ⟨k, rfl⟩ : ∃ m, k = m + 3 := ⟨k - 3, by omega⟩
 unfold manifest_bounds.f
 have e0 : wrap64 (0 + 1) = 1 := by unfold wrap64; decide
 have e1 : wrap64 (1 + 1) = 2 := by unfold wrap64; decide
 have r0 : rd_T34 [v, u] 0 = v := rfl
 have r1 : rd_T34 [v, u] 1 = u := rfl
 have lv : (encI v.f1).length ≤ 9 := (encU_len _).2
 have lu : (encI u.f1).length ≤ 9 := (encU_len _).2
 have lt : (encT (bytesOf v.f2)).length ≤ 73 := by have := (encU_len ((bytesOf v.f2).length : Int)).2; unfold encT; rw [List.length_append, bytesOf_size]; rw [bytesOf_size] at this; omega
 have h1 := Int_f (k := k + 2) (by omega) (l := b) (by omega) hv
 have h2 := Text_f (k := k + 2) (by omega) (l := b ++ encI v.f1) (s := v.f2) (by rw [List.length_append]; omega)
 have h3 := Int_f (k := k + 1) (by omega) (l := b ++ encI v.f1 ++ encT (bytesOf v.f2)) (by rw [List.length_append, List.length_append]; omega) hu
 have h4 := Text_f (k := k + 1) (by omega) (l := b ++ encI v.f1 ++ encT (bytesOf v.f2) ++ encI u.f1) (s := u.f2) (by rw [List.length_append, List.length_append, List.length_append]; omega)
 simp only [manifest_bounds.l0, List.length_cons, List.length_nil]
 rw [if_pos (by decide), if_pos (by decide), if_pos (by decide), r0, h1, Option.bind_some, h2, Option.bind_some, e0]
 rw [if_pos (by decide), if_pos (by decide), if_pos (by decide), r1, h3, Option.bind_some, h4, Option.bind_some, e1]
 rw [if_neg (by decide)]
 simp [valB]
theorem not_odd {n : Int} (h : oddI n = false) : u64 n := by unfold oddI at h; simp at h; unfold u64; omega
theorem not_oddP {p : SP} (h : oddP p = false) : u64 p.f0 ∧ u64 p.f1 ∧ p.f2.f2.size ≤ 64 ∧ p.f3.f2.size ≤ 64 := by
 unfold oddP badV at h
 simp only [Bool.or_eq_false_iff, decide_eq_false_iff_not] at h
 exact ⟨not_odd h.1, by unfold u64; omega, by omega, by omega⟩
theorem partB_len {p : SP} (h : oddP p = false) : (partB p).length ≤ 200 := by
 obtain ⟨h0, h1, h2, h3⟩ := not_oddP h
 have a0 := (encU_len p.f0).2
 have a1 := (encU_len p.f1).2
 have v : ∀ v : SV, v.f2.size ≤ 64 → (valB v).length ≤ 82 := fun v hv => by
  have b0 : (encI v.f1).length ≤ 9 := (encU_len _).2
  have b1 := (encU_len ((bytesOf v.f2).length : Int)).2
  unfold valB encT
  rw [List.length_append, List.length_append]
  have := bytesOf_size v.f2
  omega
 have v2 := v p.f2 h2
 have v3 := v p.f3 h3
 unfold partB
 rw [List.length_append, List.length_append, List.length_append]
 omega
theorem OkP.ints {p : SP} (h : OkP p) : i64 p.f2.f1 ∧ i64 p.f3.f1 := by
 have h1 := bounds_i64 h.2.2.1.1
 have h2 := bounds_i64 h.2.2.2.1
 unfold i64; omega
theorem flat_len (l : List Int) : (l.flatMap encU).length ≤ 9 * l.length := by
 induction l with
 | nil => simp
 | cons x l ih => have := (encU_len x).2; rw [List.flatMap_cons, List.length_append, List.length_cons]; omega
theorem flatP_len {a : List SP} (h : (a.all fun p => !oddP p) = true) : (a.flatMap partB).length ≤ 200 * a.length := by
 induction a with
 | nil => simp
 | cons p a ih =>
  simp only [List.all_cons, Bool.and_eq_true, Bool.not_eq_true'] at h
  have := partB_len h.1
  have := ih h.2
  rw [List.flatMap_cons, List.length_append, List.length_cons]; omega
theorem Write_l0 (d : List Int) (a : List SP) (fl nx : Int) (ha : a.length ≤ 1000) (hp : (a.all fun p => !oddP p) = true) (hok : ∀ p ∈ a, OkP p) (hfl : u64 fl) (hnx : u64 nx) : ∀ (m i k : Nat) (b : List Int), i + m = a.length → m + 1200 ≤ k → b.length + 200 * m ≤ 1000000 →
  manifest_Write.l0 k b a (a.length : Int) (i : Int) d a fl nx = some (strOfNums (frm (bytesOf (strOfNums (b ++ ((a.drop i).flatMap partB ++ (encU fl ++ encU nx)))))), 0) := by
 intro m
 induction m with
 | zero =>
  intro i k b hi hk hb
  obtain ⟨k, rfl⟩ : ∃ m, k = m + 1 := ⟨k - 1, by omega⟩
  simp only [manifest_Write.l0]
  have l1 := (encU_len fl).2
  have l2 := (encU_len nx).2
  rw [if_neg (by omega), nums_f (by simp) (by simp [hfl, hnx]) (by omega) (by omega), Option.bind_some, Write_f (by omega) (by rw [size_strOfNums]; simp; omega), Option.bind_some, List.drop_eq_nil_of_le (show a.length ≤ i by omega)]
  simp
 | succ m ih =>
  intro i k b hi hk hb
  obtain ⟨k, rfl⟩ : ∃ m, k = m + 1 := ⟨k - 1, by omega⟩
  simp only [manifest_Write.l0]
  have EW : Aside0 (wrap64 ((i : Int) + 1) = ((i + 1 : Nat) : Int)) := ⟨by rw [w64 (by omega) (by omega)]; omega⟩
  have hdr := rdP_drop (show i < a.length by omega)
  have hm : rd_T36 a (i : Int) ∈ a := List.mem_of_mem_drop (hdr ▸ List.mem_cons_self : rd_T36 a (i : Int) ∈ a.drop i)
  obtain ⟨p, hpe⟩ : ∃ p, rd_T36 a (i : Int) = p := ⟨_, rfl⟩
  rw [hpe] at hdr hm
  have hodd : oddP p = false := by have := List.all_eq_true.mp hp p hm; simpa using this
  obtain ⟨h0, h1, h2, h3⟩ := not_oddP hodd
  obtain ⟨g2, g3⟩ := (hok p hm).ints
  have l0 := (encU_len p.f0).2
  have l1 := (encU_len p.f1).2
  have lp := partB_len hodd
  have hn := nums_f (l := [p.f0, p.f1]) (b := b) (by simp) (by simp [h0, h1]) (by omega) (k := k) (by omega)
  have hbd := bounds_f (v := p.f2) (u := p.f3) (b := b ++ [p.f0, p.f1].flatMap encU) g2 g3 h2 h3 (by simp; omega) (k := k) (by omega)
  rw [if_pos (by omega), if_pos (by omega), if_pos (by omega), hpe, hn, Option.bind_some]
  refine (congrArg (fun o => Option.bind o _) hbd).trans ?_
  rw [Option.bind_some, EW.out, ih (i + 1) k _ (by omega) (by omega) (by
   have e : (b ++ [p.f0, p.f1].flatMap encU ++ (valB p.f2 ++ valB p.f3)).length = b.length + (partB p).length   := by simp [partB] <;> omega
   rw [e]; omega), hdr]
  simp [partB]
theorem editB_Bs {d : List Int} {a : List SP} {fl nx : Int} (h : rightB d a fl nx = true) (hok : ∀ p ∈ a, OkP p) : Bs (editB d a fl nx) := by
 unfold rightB at h
 simp only [Bool.and_eq_true, decide_eq_true_eq, Bool.not_eq_true', List.all_eq_true] at h
 obtain ⟨h1, h2, h3, h4, h5, h6⟩ := h
 have fm : ∀ {α : Type} (l : List α) (f : α → List Int), (∀ x ∈ l, Bs (f x)) → Bs (l.flatMap f) := fun l f hf y hy => by
  obtain ⟨x, hx, hy⟩ := List.mem_flatMap.mp hy
  exact hf x hx y hy
 have vb : ∀ v : SV, i64 v.f1 → v.f2.size ≤ 64 → Bs (valB v) := fun v hv hs => (encI_Bs hv).app ((encU_Bs (by unfold u64; rw [bytesOf_size]; omega)).app (Bs.bytesOf _))
 refine (encU_Bs (by unfold u64; omega)).app ((fm _ _ fun x hx => encU_Bs (not_odd (h5 x hx))).app ((encU_Bs (by unfold u64; omega)).app ((fm _ _ fun p hp => ?_).app ((encU_Bs (not_odd h3)).app (encU_Bs (not_odd h4))))))
 obtain ⟨q0, q1, q2, q3⟩ := not_oddP (h6 p hp)
 obtain ⟨g2, g3⟩ := (hok p hp).ints
 exact (encU_Bs q0).app ((encU_Bs q1).app ((vb _ g2 q2).app (vb _ g3 q3)))
theorem editB_len {d : List Int} {a : List SP} {fl nx : Int} (h : rightB d a fl nx = true) : (editB d a fl nx).length ≤ 300000 := by
 unfold rightB at h
 simp only [Bool.and_eq_true, decide_eq_true_eq] at h
 have l1 := (encU_len (d.length : Int)).2
 have l2 := (encU_len (a.length : Int)).2
 have l3 := (encU_len fl).2
 have l4 := (encU_len nx).2
 have l5 := flat_len d
 have l6 := flatP_len h.2.2.2.2.2
 unfold editB
 simp only [List.length_append]
 omega
theorem Write_is (d : List Int) (a : List SP) (fl nx : Int) (hok : ∀ p ∈ a, OkP p) {k : Nat} (hk : 3000 ≤ k) : manifest_Write.f k d a fl nx = some (writeL d a fl nx) := by
 unfold manifest_Write.f manifest_right.f writeL
 rw [Option.bind_some]
 cases hr : rightB d a fl nx
 ·rfl
 ·have hB := editB_Bs hr hok
  rw [if_pos rfl, if_pos rfl]
  have h := hr
  unfold rightB at h
  simp only [Bool.and_eq_true, decide_eq_true_eq, Bool.not_eq_true'] at h
  obtain ⟨h1, h2, h3, h4, h5, h6⟩ := h
  have l1 := (encU_len (d.length : Int)).2
  have l2 := (encU_len (a.length : Int)).2
  have l5 := flat_len d
  have hu : ∀ x ∈ d, u64 x := fun x hx => not_odd (by have := List.all_eq_true.mp h5 x hx; simpa using this)
  have n1 := nums_f (l := [(d.length : Int)]) (b := []) (by simp) (by simp [u64]; omega) (by simp) (k := k) (by omega)
  have n2 := nums_f (l := d) (b := [] ++ [(d.length : Int)].flatMap encU) h1 hu (by simp; omega) (k := k) (by omega)
  have n3 := nums_f (l := [(a.length : Int)]) (b := [] ++ [(d.length : Int)].flatMap encU ++ d.flatMap encU) (by simp) (by simp [u64]; omega) (by simp only [List.nil_append, List.flatMap_cons, List.flatMap_nil, List.append_nil, List.length_append]; omega) (k := k) (by omega)
  have w := Write_l0 d a fl nx h2 h6 hok (not_odd h3) (not_odd h4) a.length 0 k ([] ++ [(d.length : Int)].flatMap encU ++ d.flatMap encU ++ [(a.length : Int)].flatMap encU) (by omega) (by omega) (by simp only [List.nil_append, List.flatMap_cons, List.flatMap_nil, List.append_nil, List.length_append]; omega)
  rw [show ((0 : Nat) : Int) = 0 from rfl, List.drop_zero] at w
  rw [n1, Option.bind_some, n2, Option.bind_some, n3, Option.bind_some, w]
  have e : [] ++ [(d.length : Int)].flatMap encU ++ d.flatMap encU ++ [(a.length : Int)].flatMap encU ++ (a.flatMap partB ++ (encU fl ++ encU nx)) = editB d a fl nx := by simp [editB]
  rw [e, bytesOf_strOfNums hB]
end Go.Proofs.Ytagokgijffpdnaa.G
