import Derived.Test.YtagokgijffpdnaaZQA
import Derived.Test.YtagokgijffpdnaaZG3
import Derived.Test.YtagokgijffpdnaaZG5
namespace Go.Proofs.Ytagokgijffpdnaa.G
open Go.RowKit Go.Proofs.YtagokgijffpdnaaQ Go.Proofs.YtagokgijffpdnaaW.PrintWords Go.Proofs.YtagokgijffpdnaaW.PrintLast Go.Proofs.YtagokgijffpdnaaW.PrintMore
attribute [local go_sem] max2_int min2_int max_two min_two max_three min_three max_four min_four   -- for this text's walks alone
set_option linter.unusedVariables false
set_option linter.unusedSimpArgs false
def manifest_Write.l0 : Nat → List Int → List (S36) → Int → Int → List Int → List (S36) → Int → Int → Option (ByteArray × Int)
 | 0, _, _, _, _, _, _, _, _ => none
 | k + 1, x4, x25, x26, x27, x246000, x246001, x246002, x246003 => if x27 < x26 then (if 0 ≤ x27 then (if x27 < (x25.length : Int) then ((manifest_nums.f k x4 (([(rd_T36 x25 x27).f0, (rd_T36 x25 x27).f1] : List Int))).bind fun t267 => ((manifest_bounds.f k t267 (([(⟨(rd_T36 x25 x27).f2.f0, (rd_T36 x25 x27).f2.f1, (rd_T36 x25 x27).f2.f2⟩ : S34), (⟨(rd_T36 x25 x27).f3.f0, (rd_T36 x25 x27).f3.f1, (rd_T36 x25 x27).f3.f2⟩ : S34)] : List (S34)))).bind fun t273 => (manifest_Write.l0 k t273 x25 x26 (wrap64 (x27 + 1)) x246000 x246001 x246002 x246003))) else (none)) else (none)) else ((manifest_nums.f k x4 (([x246002, x246003] : List Int))).bind fun t279 => ((frame_Write.f k (strOfNums t279)).bind fun t282 => (some (t282, 0))))
def manifest_Write.f (k : Nat) (l0_0 : List Int) (l0_1 : List (S36)) (a0_2 : Int) (a0_3 : Int) : Option (ByteArray × Int) := (manifest_right.f l0_0 l0_1 a0_2 a0_3).bind fun t246 => (if t246 = true then ((manifest_nums.f k ([] : List Int) (([(l0_0.length : Int)] : List Int))).bind fun t250 => ((manifest_nums.f k t250 l0_0).bind fun t253 => ((manifest_nums.f k t253 (([(l0_1.length : Int)] : List Int))).bind fun t259 => (manifest_Write.l0 k t259 l0_1 (l0_1.length : Int) 0 l0_0 l0_1 a0_2 a0_3)))) else (some ((⟨#[]⟩ : ByteArray), 1)))
theorem manifest_Write.mono_l : ∀ k, (∀ y0 y1 y2 y3 y4 y5 y6 y7, LeO (manifest_Write.l0 k y0 y1 y2 y3 y4 y5 y6 y7) (manifest_Write.l0 (k + 1) y0 y1 y2 y3 y4 y5 y6 y7))
 | 0 => fun _ _ _ _ _ _ _ _ r h => by simp [manifest_Write.l0] at h
 | k + 1 => by
  have ih0 := manifest_Write.mono_l k
  ·intro y0 y1 y2 y3 y4 y5 y6 y7
   unfold manifest_Write.l0
   repeat' first
   | (with_reducible exact ih0 _ _ _ _ _ _ _ _)
   | (with_reducible exact frame_Write.mono _ _)
   | (with_reducible exact manifest_bounds.mono _ _ _)
   | (with_reducible exact manifest_nums.mono _ _ _)
   | (with_reducible exact LeO.refl _)
   | (with_reducible exact LeO.none _)
   | (with_reducible refine LeO.ite ?_ ?_)
   | (with_reducible refine LeO.bind ?_ (fun _ => ?_))
   | exact ih0 _ _ _ _ _ _ _ _
   | exact frame_Write.mono _ _
   | exact manifest_bounds.mono _ _ _
   | exact manifest_nums.mono _ _ _
   | exact LeO.none _
   | refine LeO.ite ?_ ?_
   | refine LeO.bind ?_ (fun _ => ?_)
theorem manifest_Write.mono : ∀ a0 a1 a2 a3 k, LeO (manifest_Write.f k a0 a1 a2 a3) (manifest_Write.f (k + 1) a0 a1 a2 a3) := by
 intro a0 a1 a2 a3 k
 have ih0 := manifest_Write.mono_l k
 unfold manifest_Write.f
 repeat' first
   | (with_reducible exact ih0 _ _ _ _ _ _ _ _)
   | (with_reducible exact frame_Write.mono _ _)
   | (with_reducible exact manifest_bounds.mono _ _ _)
   | (with_reducible exact manifest_nums.mono _ _ _)
   | (with_reducible exact LeO.refl _)
   | (with_reducible exact LeO.none _)
   | (with_reducible refine LeO.ite ?_ ?_)
   | (with_reducible refine LeO.bind ?_ (fun _ => ?_))
   | exact ih0 _ _ _ _ _ _ _ _
   | exact frame_Write.mono _ _
   | exact manifest_bounds.mono _ _ _
   | exact manifest_nums.mono _ _ _
   | exact LeO.none _
   | refine LeO.ite ?_ ?_
   | refine LeO.bind ?_ (fun _ => ?_)
def manifest_Write.T3 : Bool × List (List Nat × List Nat) := (true, [([], []), ([0], [0]), ([1], [1]), ([2], [2]), ([3], [3]), ([], []), ([5], [5]), ([4, 6, 4], [4, 6]), ([7, 7, 0, 1, 2, 3, 4, 5, 6, 7], [7])])
def manifest_Write.B3 : List Nat := [0, 1, 3, 7, 15, 0, 32, 127, 255]
theorem manifest_Write.tab3 : rtab .any (opsOf Try.f12 3) = manifest_Write.T3 := by kernel_rfl
theorem manifest_Write.bits3 : waitsOk manifest_Write.T3.2 manifest_Write.B3 = true := by kernel_rfl
def manifest_Write.T8 : Bool × List (List Nat × List Nat) := (true, [([], []), ([], []), ([1], [1]), ([], []), ([3], [3]), ([2, 4], [2, 4]), ([0, 5], [0, 5]), ([], []), ([7], [7]), ([], []), ([9], [9]), ([8, 10], [8, 10]), ([6, 11, 6], [6, 11]), ([12, 12, 0, 1, 2, 3, 4, 5, 6, 7, 8, 9, 10, 11, 12], [0, 12])])
def manifest_Write.B8 : List Nat := [0, 0, 2, 0, 8, 30, 63, 0, 128, 0, 512, 1920, 4095, 8191]
theorem manifest_Write.tab8 : rtab .any (opsOf Try.f12 8) = manifest_Write.T8 := by kernel_rfl
theorem manifest_Write.bits8 : waitsOk manifest_Write.T8.2 manifest_Write.B8 = true := by kernel_rfl
set_option maxHeartbeats 8000000 in
set_option maxRecDepth 100000 in
theorem manifest_Write.calls (k : Nat) (A0_0 : Option Addr) (c0_0 : Nat) (l0_0 : List Int) (A0_1 : Option Addr) (c0_1 : Nat) (l0_1 : List (S36)) (a0_2 : Int) (a0_3 : Int) (r1 : ByteArray) (r2 : Int) (w : World) (hr0_0 : Kd.C (Kd.int .i64) w A0_0 l0_0.length l0_0) (hc0_0 : l0_0.length ≤ c0_0) (hr0_1 : Kd.C k36 w A0_1 l0_1.length l0_1) (hc0_1 : l0_1.length ≤ c0_1) (h : manifest_Write.f k l0_0 l0_1 a0_2 a0_3 = some (r1, r2)) :
  Calls Try.prog 12 #[.agg #[.slice A0_0 l0_0.length c0_0, .slice A0_1 l0_1.length c0_1, .int .i64 a0_2, .int .i64 a0_3]] w fun e w' => e = .returned (.tuple #[.string r1, .int .i64 r2]) ∧ Below w.heap.size w w' := by
 have hu32 := Try.underlying32
 have hu36 := Try.underlying36
 have hu34 := Try.underlying34
 have HR0_0 := Aside0.mk hr0_0
 have HC0_0 := Aside0.mk hc0_0
 clear hr0_0 hc0_0
 have HR0_1 := Aside0.mk hr0_1
 have HC0_1 := Aside0.mk hc0_1
 clear hr0_1 hc0_1
 have HB := Aside0.mk (Below.refl w.heap.size w)
 have H : ((manifest_right.f l0_0 l0_1 a0_2 a0_3).bind fun t246 => (if t246 = true then ((manifest_nums.f k ([] : List Int) (([(l0_0.length : Int)] : List Int))).bind fun t250 => ((manifest_nums.f k t250 l0_0).bind fun t253 => ((manifest_nums.f k t253 (([(l0_1.length : Int)] : List Int))).bind fun t259 => (manifest_Write.l0 k t259 l0_1 (l0_1.length : Int) 0 l0_0 l0_1 a0_2 a0_3)))) else (some ((⟨#[]⟩ : ByteArray), 1)))) = some (r1, r2) := h
 clear h
 replace H := Option.bind_eq_some_iff.mp H
 obtain ⟨t246, A20, H⟩ := H
 replace H : (if t246 = true then ((manifest_nums.f k ([] : List Int) (([(l0_0.length : Int)] : List Int))).bind fun t250 => ((manifest_nums.f k t250 l0_0).bind fun t253 => ((manifest_nums.f k t253 (([(l0_1.length : Int)] : List Int))).bind fun t259 => (manifest_Write.l0 k t259 l0_1 (l0_1.length : Int) 0 l0_0 l0_1 a0_2 a0_3)))) else (some ((⟨#[]⟩ : ByteArray), 1))) = some (r1, r2) := H
 have A2 := Aside0.mk A20
 clear A20
 by_cases c3 : t246 = true
 ·subst c3
  have H1 : ((manifest_nums.f k ([] : List Int) (([(l0_0.length : Int)] : List Int))).bind fun t250 => ((manifest_nums.f k t250 l0_0).bind fun t253 => ((manifest_nums.f k t253 (([(l0_1.length : Int)] : List Int))).bind fun t259 => (manifest_Write.l0 k t259 l0_1 (l0_1.length : Int) 0 l0_0 l0_1 a0_2 a0_3)))) = some (r1, r2) := by rw [if_pos rfl] at H; exact H
  clear H
  have H := H1
  clear H1
  obtain ⟨y247, hy247⟩ : ∃ y_ : List Int, y_ = (([(l0_0.length : Int)] : List Int)) := ⟨_, rfl⟩
  replace H : ((manifest_nums.f k ([] : List Int) y247).bind fun t250 => ((manifest_nums.f k t250 l0_0).bind fun t253 => ((manifest_nums.f k t253 (([(l0_1.length : Int)] : List Int))).bind fun t259 => (manifest_Write.l0 k t259 l0_1 (l0_1.length : Int) 0 l0_0 l0_1 a0_2 a0_3)))) = some (r1, r2) := by first | (rw [hy247]; with_reducible exact H) | (have H2_ := (Option.bind_some _ _).symm.trans H; rw [hy247]; with_reducible exact H2_) | (have H2_ := (Option.bind_some _ _).symm.trans H; with_reducible exact H2_) | with_reducible exact H | (rw [hy247]; exact H) | exact H
  have Ny247 := Aside0.mk hy247
  clear hy247
  replace H := Option.bind_eq_some_iff.mp H
  obtain ⟨t250, A40, H⟩ := H
  replace H : ((manifest_nums.f k t250 l0_0).bind fun t253 => ((manifest_nums.f k t253 (([(l0_1.length : Int)] : List Int))).bind fun t259 => (manifest_Write.l0 k t259 l0_1 (l0_1.length : Int) 0 l0_0 l0_1 a0_2 a0_3))) = some (r1, r2) := H
  have A4 := Aside0.mk A40
  clear A40
  replace H := Option.bind_eq_some_iff.mp H
  obtain ⟨t253, A50, H⟩ := H
  replace H : ((manifest_nums.f k t253 (([(l0_1.length : Int)] : List Int))).bind fun t259 => (manifest_Write.l0 k t259 l0_1 (l0_1.length : Int) 0 l0_0 l0_1 a0_2 a0_3)) = some (r1, r2) := H
  have A5 := Aside0.mk A50
  clear A50
  obtain ⟨y256, hy256⟩ : ∃ y_ : List Int, y_ = (([(l0_1.length : Int)] : List Int)) := ⟨_, rfl⟩
  replace H : ((manifest_nums.f k t253 y256).bind fun t259 => (manifest_Write.l0 k t259 l0_1 (l0_1.length : Int) 0 l0_0 l0_1 a0_2 a0_3)) = some (r1, r2) := by first | (rw [hy256]; with_reducible exact H) | (have H2_ := (Option.bind_some _ _).symm.trans H; rw [hy256]; with_reducible exact H2_) | (have H2_ := (Option.bind_some _ _).symm.trans H; with_reducible exact H2_) | with_reducible exact H | (rw [hy256]; exact H) | exact H
  have Ny256 := Aside0.mk hy256
  clear hy256
  replace H := Option.bind_eq_some_iff.mp H
  obtain ⟨t259, A60, H⟩ := H
  replace H : (manifest_Write.l0 k t259 l0_1 (l0_1.length : Int) 0 l0_0 l0_1 a0_2 a0_3) = some (r1, r2) := H
  have A6 := Aside0.mk A60
  clear A60
  have H' := Aside0.mk H
  clear H
  go_enter Try.func12, Try.ntmps12
  try go_wp2_with (first | ((with_reducible refine gate_dst (N := 1) rfl ?_); refine box_event ?hg (N := 1) ?hd (cs := #[.slice A0_0 l0_0.length c0_0, .slice A0_1 l0_1.length c0_1, .int .i64 a0_2, .int .i64 a0_3]) (t := 32) ?hr ?_; (case hd => rfl); (case hg => rfl); (case hr => first | (go_simp; done) | (go_simp; rfl)); intro gb245 hg w7 hbox hb; have n0_ := Aside0.mk (below_step z0_ hb); have n1_ := Aside0.mk (hbox); have n2_ := Aside0.mk ((by rw [hg]; exact (below_size z0_) : w.heap.size ≤ gb245)); have n3_ := Aside0.mk ((by rw [hg]; exact (below_size z0_) : w.heap.size ≤ gb245)); clear HB; have HB := n0_; have BK245 := n1_; have GW245 := n2_; have GE245 := n3_; clear n0_ n1_ n2_ n3_; clear hb hbox hg; have hcz8_0 : w7.cell? ⟨gb245, 0, none⟩ = some (.slice A0_0 l0_0.length c0_0) := (blk_cell BK245.out 0).trans rfl; have hcz8_1 : w7.cell? ⟨gb245, 1, none⟩ = some (.slice A0_1 l0_1.length c0_1) := (blk_cell BK245.out 1).trans rfl; have hcz8_2 : w7.cell? ⟨gb245, 2, none⟩ = some (.int .i64 a0_2) := (blk_cell BK245.out 2).trans rfl; have hcz8_3 : w7.cell? ⟨gb245, 3, none⟩ = some (.int .i64 a0_3) := (blk_cell BK245.out 3).trans rfl; have hfz8_0 := blk_frozen BK245.out 0; have hfz8_1 := blk_frozen BK245.out 1; have hfz8_2 := blk_frozen BK245.out 2; have hfz8_3 := blk_frozen BK245.out 3) | ((with_reducible refine gate_callee (f := 18) rfl ?_); refine goesL_ (some 8) rfl rfl Try.func18 (by kernel_rfl) rfl #[.agg #[.slice A0_0 l0_0.length c0_0, .slice A0_1 l0_1.length c0_1, .int .i64 a0_2, .int .i64 a0_3]] rfl (by (try simp only [List.map_toArray, List.map_cons, List.map_nil]); first | done | rfl | (simp only [List.length_drop, List.length_take]; rfl) | (go_simp; simp [IntKind.wrap, IntKind.bits, IntKind.signed]; omega)) ?_; (with_reducible refine (manifest_right.calls _ _ l0_0 _ _ l0_1 a0_2 a0_3 true _ ?side1 ?side2 ?side3 ?side4 A2.out).mono ?_); (case side1 => repeat (first | exact (Kd.C_below HR0_0.out HB.out) | (with_reducible refine Kd.C_alloc ?_ _) | (with_reducible refine Kd.C_drewN ?_ _) | (with_reducible refine Kd.C_drew ?_))); (case side2 => exact HC0_0.out); (case side3 => repeat (first | exact (Kd.C_below HR0_1.out HB.out) | (with_reducible refine Kd.C_alloc ?_ _) | (with_reducible refine Kd.C_drewN ?_ _) | (with_reducible refine Kd.C_drew ?_))); (case side4 => exact HC0_1.out); rintro e w9 ⟨rfl, hb⟩; refine ⟨_, rfl, ?_⟩; have n0_ := Aside0.mk (blk_below (g := gb245) (o := .cells #[.slice A0_0 l0_0.length c0_0, .slice A0_1 l0_1.length c0_1, .int .i64 a0_2, .int .i64 a0_3] 32 (0, 0)) (by (with_reducible repeat (first | refine blk_drewN ?_ _ | refine blk_drew ?_ | refine blk_alloc ?_ _)); exact BK245.out) hb); have n1_ := Aside0.mk (below_step z7_ hb); clear BK245; clear HB; have BK245 := n0_; have HB := n1_; clear n0_ n1_; (try clear hb); (try clear hb2); (try clear hk); (try clear hi)))
  have n0_ := Aside0.mk (blk_drew BK245.out)
  have n1_ := Aside0.mk (below_drew1 HB.out)
  clear BK245
  clear HB
  have BK245 := n0_
  have HB := n1_
  clear n0_ n1_
  refine start_ (n := 9) (S := fun w' => w'.cell? ⟨gb245, 0, none⟩ = some (.slice A0_0 l0_0.length c0_0) ∧ w'.cell? ⟨gb245, 1, none⟩ = some (.slice A0_1 l0_1.length c0_1) ∧ w'.cell? ⟨gb245, 2, none⟩ = some (.int .i64 a0_2) ∧ w'.cell? ⟨gb245, 3, none⟩ = some (.int .i64 a0_3)) (ds := []) (bs_ 9 0) (by kernel_rfl) rfl rfl ⟨(blk_cell BK245.out 0).trans rfl, (blk_cell BK245.out 1).trans rfl, (blk_cell BK245.out 2).trans rfl, (blk_cell BK245.out 3).trans rfl⟩ (fun hHeld => ?_); refine with_tabW manifest_Write.tab3 manifest_Write.bits3 (fun HT_ HW_ => ?_)
  generalize w9.drew = w10 at BK245 HB hHeld ⊢
  refine pA_ 0 (some 10) (bs_ 9 1) HT_ ?_ ?_ ?_ ?_ ?_
  rotate_left; (intro w'; go_simp; with_reducible rfl); rotate_left; (simp only [PT_]; rfl)
  refine pA_ 5 (some 15) (bs_ 9 33) HT_ ?_ ?_ ?_ ?_ ?_
  rotate_left; (intro w'; go_simp; with_reducible rfl); rotate_left; (simp only [PT_]; rfl)
  refine take_ (i := 1) (N := some 11) (v := ?_) (a' := ?_) (bs_ 9 35) rfl rfl (take_ofW HT_.out HW_.out (by kernel_rfl)) (fun _ _ _ h => h) (Or.inl ⟨by rfl, ?_⟩) hHeld ?_ ?_
  rotate_left
  ·rintro w' ⟨s0, s1, s2, s3⟩
   go_simp
   with_reducible rfl
  rotate_left
  ·simp only [PT_]
   rfl
  refine pA_ 2 (some 12) (bs_ 9 39) HT_ ?_ ?_ ?_ ?_ ?_
  rotate_left; (intro w'; go_simp; with_reducible rfl); rotate_left; (simp only [PT_]; rfl)
  refine take_ (i := 6) (N := some 16) (v := ?_) (a' := ?_) (bs_ 9 103) rfl rfl (take_ofW HT_.out HW_.out (by kernel_rfl)) (fun _ _ _ h => h) (Or.inl ⟨by rfl, ?_⟩) hHeld ?_ ?_
  rotate_left
  ·rintro w' ⟨s0, s1, s2, s3⟩
   go_simp
   with_reducible rfl
  rotate_left
  ·simp only [PT_]
   rfl
  refine oA_ 3 (some 13) (bs_ 9 111) HT_ (fun K hK => ?_)
  refine Kd.R_lit_step (Kd.int .i64) _ 3 ?hg (N := 13) ?hd (xs := ([(l0_0.length : Int)] : List Int)) (inner := [.int .i64 (l0_0.length : Int)]) (ok := fun _ => True) (okp := fun _ => True) ?hr ?hp (fun _ hk => hk) trivial (Below.refl _ _) (Nat.le_refl _) (by simp) ?_; (case hd => rfl); (case hg => rfl); (case hr => first | (go_simp; done) | (go_simp; rfl)); (case hp => exact (Reps.one (show Kd.M (Kd.int .i64) _ _ _ (l0_0.length : Int) [.int .i64 (l0_0.length : Int)] from rfl) (Reps.none _ _)))
  intro v248 w11 ho12 hb hg_ hnew_
  clear hg_ hnew_
  (first | rw [← Ny247.out] at ho12 | (simp only [Int.reduceToNat] at ho12; rw [← Ny247.out] at ho12))
  have n0_ := Aside0.mk (Kd.R_lower ho12 (below_size z7_))
  have n1_ := Aside0.mk (blk_below (g := gb245) (o := .cells #[.slice A0_0 l0_0.length c0_0, .slice A0_1 l0_1.length c0_1, .int .i64 a0_2, .int .i64 a0_3] 32 (0, 0)) (by (with_reducible repeat (first | refine blk_drewN ?_ _ | refine blk_drew ?_ | refine blk_alloc ?_ _)); exact BK245.out) hb)
  have n2_ := Aside0.mk (below_step z7_ hb)
  clear BK245
  clear HB
  have HO249 := n0_
  have BK245 := n1_
  have HB := n2_
  clear n0_ n1_ n2_
  clear hb ho12
  obtain ⟨Ao13, co13, eo13⟩ := Kd.R_slice HO249.out
  (first | subst eo13 | (injection eo13 with f1_ f2_ f3_; have f4_ := f1_.symm; have f5_ := f3_.symm; clear f1_ f2_ f3_; subst f4_; subst f5_))
  refine hK.out _ _ ⟨(blk_cell BK245.out 0).trans rfl, (blk_cell BK245.out 1).trans rfl, (blk_cell BK245.out 2).trans rfl, (blk_cell BK245.out 3).trans rfl⟩ (fun hHeld => ?_)
  clear hK K
  refine norm_ (a' := ?_) ?_ ?_; rotate_left; (show Act.put _ (some 13) _ = _; simp only [PT_]; rfl)
  refine oA_ 4 (some 14) (bs_ 9 127) HT_ (fun K hK => ?_)
  refine goes_ Try.func20 (by kernel_rfl) rfl #[.slice none 0 0, .slice Ao13 y247.length co13] (by rfl) rfl rfl (by (try simp only [List.map_toArray, List.map_cons, List.map_nil]); first | done | rfl | (simp only [List.length_drop, List.length_take]; rfl)) ?_
  refine (manifest_nums.calls k (fun k_ => some k_ = (.slice none 0 0 : Value).ownBlock) (.slice none 0 0) ([] : List Int) _ _ y247 t250 w _ ?side1 ?side2 ?side3 ?side4 A4.out).mono ?_
  (case side1 => repeat (first | (with_reducible first | exact HB.out | apply below_alloc | apply pw_below_drewN | apply below_drew1 | refine below_set ?_ GE245.out) | exact HB.out))
  (case side2 => exact Kd.R_nil _ _ _ _ _)
  (case side3 => exact Kd.C_kept_own (HO249.out) (fun k_ hk_ hs_ => (fun e_ => by simp [Value.ownBlock] at e_) hs_))
  (case side4 => exact (Kd.R_reads' HO249.out).2.1)
  rintro e w14 ⟨v251, rfl, ho0, hb, hkp⟩
  refine ⟨_, rfl, ?_⟩
  have n0_ := Aside0.mk (blk_kept (by (with_reducible repeat (first | refine blk_drewN ?_ _ | refine blk_drew ?_ | refine blk_alloc ?_ _)); exact BK245.out) hkp (fun hs_ => (fun e_ => by simp [Value.ownBlock] at e_) hs_))
  have n1_ := Aside0.mk (Kd.R_mono (ok' := fun k_ => True) (Kd.R_keptB (HO249.out) hkp (fun k_ hk_ hs_ => (fun e_ => by simp [Value.ownBlock] at e_) hs_)) (fun k_ hk_ => trivial))
  have n2_ := Aside0.mk (Kd.R_mono (ok' := fun k_ => True) ho0 (fun k_ hk_ => trivial))
  have n3_ := Aside0.mk (hb)
  clear BK245
  clear HO249
  clear HB
  have BK245 := n0_
  have HO249 := n1_
  have HO252 := n2_
  have HB := n3_
  clear n0_ n1_ n2_ n3_
  (try clear hb)
  (try clear hkp)
  (try clear ho0)
  obtain ⟨Ao15, co15, eo15⟩ := Kd.R_slice HO252.out
  (first | subst eo15 | (injection eo15 with f1_ f2_ f3_; have f4_ := f1_.symm; have f5_ := f3_.symm; clear f1_ f2_ f3_; subst f4_; subst f5_))
  refine hK.out _ _ ⟨(blk_cell BK245.out 0).trans rfl, (blk_cell BK245.out 1).trans rfl, (blk_cell BK245.out 2).trans rfl, (blk_cell BK245.out 3).trans rfl⟩ (fun hHeld => ?_)
  clear hK K
  refine norm_ (a' := ?_) ?_ ?_; rotate_left; (show Act.put _ (some 14) _ = _; simp only [PT_]; rfl)
  refine oA_ 7 (some 17) (bs_ 9 255) HT_ (fun K hK => ?_)
  refine goes_ Try.func20 (by kernel_rfl) rfl #[.slice Ao15 t250.length co15, .slice A0_0 l0_0.length c0_0] (by rfl) rfl rfl (by (try simp only [List.map_toArray, List.map_cons, List.map_nil]); first | done | rfl | (simp only [List.length_drop, List.length_take]; rfl)) ?_
  with_reducible refine (manifest_nums.calls k (fun k_ => some k_ = (.slice Ao15 t250.length co15 : Value).ownBlock) (.slice Ao15 t250.length co15) t250 _ _ l0_0 t253 w _ ?side1 ?side2 ?side3 ?side4 A5.out).mono ?_
  (case side1 => repeat (first | (with_reducible first | exact HB.out | apply below_alloc | apply pw_below_drewN | apply below_drew1 | refine below_set ?_ GE245.out) | exact HB.out))
  (case side2 => exact Kd.R_tight rfl HO252.out)
  (case side3 => exact Kd.C_kept_came (Kd.heap_int .i64) HR0_0.out z7_ (fun k_ hs_ => (fun e_ => Kd.R_base HO252.out k_ e_.symm) hs_))
  (case side4 => exact HC0_0.out)
  rintro e w16 ⟨v254, rfl, ho0, hb, hkp⟩
  refine ⟨_, rfl, ?_⟩
  have n0_ := Aside0.mk (blk_kept (by (with_reducible repeat (first | refine blk_drewN ?_ _ | refine blk_drew ?_ | refine blk_alloc ?_ _)); exact BK245.out) hkp (fun hs_ => (fun e_ => (Kd.R_ne HO252.out BK245.out (by decide)) e_) hs_))
  have n1_ := Aside0.mk (Kd.R_mono (ok' := fun k_ => True) (Kd.R_keptB ((Kd.R_apart' HO249.out (Kd.R_typed HO252.out) (by decide))) hkp (fun k_ hk_ hs_ => (hk_.2) hs_)) (fun k_ hk_ => trivial))
  have n2_ := Aside0.mk (Kd.R_mono (ok' := fun k_ => True) ho0 (fun k_ hk_ => trivial))
  have n3_ := Aside0.mk (hb)
  clear BK245
  clear HO249
  clear HB
  clear HO252
  have BK245 := n0_
  have HO249 := n1_
  have HO255 := n2_
  have HB := n3_
  clear n0_ n1_ n2_ n3_
  (try clear hb)
  (try clear hkp)
  (try clear ho0)
  refine hK.out _ _ ⟨(blk_cell BK245.out 0).trans rfl, (blk_cell BK245.out 1).trans rfl, (blk_cell BK245.out 2).trans rfl, (blk_cell BK245.out 3).trans rfl⟩ (fun hHeld => ?_)
  clear hK K
  refine norm_ (a' := ?_) ?_ ?_; rotate_left; (show Act.put _ (some 17) _ = _; simp only [PT_]; rfl)
  refine pA_ 8 (some 4) (bs_ 9 511) HT_ ?_ ?_ ?_ ?_ ?_
  rotate_left; (intro w'; go_simp; with_reducible rfl); rotate_left; (simp only [PT_]; rfl)
  refine done_ (done_of HT_.out (by kernel_rfl)) ?_
  have hcz17_0 : w16.cell? ⟨gb245, 0, none⟩ = some (.slice A0_0 l0_0.length c0_0) := (blk_cell BK245.out 0).trans rfl
  have hcz17_1 : w16.cell? ⟨gb245, 1, none⟩ = some (.slice A0_1 l0_1.length c0_1) := (blk_cell BK245.out 1).trans rfl
  have hcz17_2 : w16.cell? ⟨gb245, 2, none⟩ = some (.int .i64 a0_2) := (blk_cell BK245.out 2).trans rfl
  have hcz17_3 : w16.cell? ⟨gb245, 3, none⟩ = some (.int .i64 a0_3) := (blk_cell BK245.out 3).trans rfl
  have hfz17_0 := blk_frozen BK245.out 0
  have hfz17_1 := blk_frozen BK245.out 1
  have hfz17_2 := blk_frozen BK245.out 2
  have hfz17_3 := blk_frozen BK245.out 3
  try go_wp2_with (first | ((with_reducible refine gate_dst (N := 22) rfl ?_); refine Kd.R_lit (Kd.int .i64) _ 3 ?hg (N := 22) ?hd (xs := ([(l0_1.length : Int)] : List Int)) (inner := [.int .i64 (l0_1.length : Int)]) (ok := fun _ => True) (okp := fun _ => True) ?hr ?hp (fun _ hk => hk) trivial (Below.refl _ _) (Nat.le_refl _) (by simp) ?_; (case hd => rfl); (case hg => rfl); (case hr => first | (go_simp; done) | (go_simp; rfl)); (case hp => exact (Reps.one (show Kd.M (Kd.int .i64) _ _ _ (l0_1.length : Int) [.int .i64 (l0_1.length : Int)] from rfl) (Reps.none _ _))); intro v257 w18 ho19 hb hg_ hnew_; clear hg_ hnew_; (first | rw [← Ny256.out] at ho19 | (simp only [Int.reduceToNat] at ho19; rw [← Ny256.out] at ho19)); have n0_ := Aside0.mk (Kd.R_elder' (by (with_reducible repeat (first | apply Kd.R_alloc | apply Kd.R_drewN | apply Kd.R_drew)); exact HO249.out) (Kd.R_base ho19) hb); have n1_ := Aside0.mk (Kd.R_below (by (with_reducible repeat (first | apply Kd.R_alloc | apply Kd.R_drewN | apply Kd.R_drew)); exact HO255.out) hb); have n2_ := Aside0.mk (Kd.R_lower (Kd.R_new' ho19 (Kd.R_lt (by (with_reducible repeat (first | apply Kd.R_alloc | apply Kd.R_drewN | apply Kd.R_drew)); exact HO249.out))) (below_size z7_)); have n3_ := Aside0.mk (blk_below (g := gb245) (o := .cells #[.slice A0_0 l0_0.length c0_0, .slice A0_1 l0_1.length c0_1, .int .i64 a0_2, .int .i64 a0_3] 32 (0, 0)) (by (with_reducible repeat (first | refine blk_drewN ?_ _ | refine blk_drew ?_ | refine blk_alloc ?_ _)); exact BK245.out) hb); have n4_ := Aside0.mk (below_step z7_ hb); clear HO249; clear HO255; clear BK245; clear HB; have HO249 := n0_; have HO255 := n1_; have HO258 := n2_; have BK245 := n3_; have HB := n4_; clear n0_ n1_ n2_ n3_ n4_; clear hb ho19; obtain ⟨Ao20, co20, eo20⟩ := Kd.R_slice HO255.out; subst eo20; obtain ⟨Ao21, co21, eo21⟩ := Kd.R_slice HO258.out; subst eo21) | ((with_reducible refine gate_callee (f := 20) rfl ?_); refine goesL_ (some 23) rfl rfl Try.func20 (by kernel_rfl) rfl #[.slice Ao20 t253.length co20, .slice Ao21 y256.length co21] rfl (by (try simp only [List.map_toArray, List.map_cons, List.map_nil]); first | done | rfl | (simp only [List.length_drop, List.length_take]; rfl) | (go_simp; simp [IntKind.wrap, IntKind.bits, IntKind.signed]; omega)) ?_; (with_reducible refine (manifest_nums.calls k (fun k_ => some k_ = (.slice Ao20 t253.length co20 : Value).ownBlock) (.slice Ao20 t253.length co20) t253 _ _ y256 t259 w _ ?side1 ?side2 ?side3 ?side4 A6.out).mono ?_); (case side1 => repeat (first | (with_reducible first | exact HB.out | apply below_alloc | apply pw_below_drewN | apply below_drew1 | refine below_set ?_ GE245.out) | exact HB.out)); (case side2 => exact Kd.R_tight rfl HO255.out); (case side3 => exact Kd.C_kept_own ((Kd.R_apart' HO258.out (Kd.R_typed HO255.out) (by decide))) (fun k_ hk_ hs_ => (hk_.2) hs_)); (case side4 => exact (Kd.R_reads' HO258.out).2.1); rintro e w22 ⟨v260, rfl, ho0, hb, hkp⟩; refine ⟨_, rfl, ?_⟩; have n0_ := Aside0.mk (blk_kept (by (with_reducible repeat (first | refine blk_drewN ?_ _ | refine blk_drew ?_ | refine blk_alloc ?_ _)); exact BK245.out) hkp (fun hs_ => (fun e_ => (Kd.R_ne HO255.out BK245.out (by decide)) e_) hs_)); have n1_ := Aside0.mk (Kd.R_mono (ok' := fun k_ => some k_ ≠ (.slice Ao21 y256.length co21 : Value).ownBlock) (Kd.R_keptB ((Kd.R_apart' HO249.out (Kd.R_typed HO255.out) (by decide))) hkp (fun k_ hk_ hs_ => (hk_.2) hs_)) (fun k_ hk_ => hk_.1.1.2)); have n2_ := Aside0.mk (Kd.R_mono (ok' := fun k_ => some k_ ≠ (.slice Ao13 y247.length co13 : Value).ownBlock) (Kd.R_keptB ((Kd.R_apart' HO258.out (Kd.R_typed HO255.out) (by decide))) hkp (fun k_ hk_ hs_ => (hk_.2) hs_)) (fun k_ hk_ => hk_.1.1.2)); have n3_ := Aside0.mk (Kd.R_mono (ok' := fun k_ => True) ho0 (fun k_ hk_ => trivial)); have n4_ := Aside0.mk (hb); clear BK245; clear HO249; clear HO258; clear HB; clear HO255; have BK245 := n0_; have HO249 := n1_; have HO258 := n2_; have HO261 := n3_; have HB := n4_; clear n0_ n1_ n2_ n3_ n4_; (try clear hb); (try clear hkp); (try clear ho0); have hcz23_0 : w22.cell? ⟨gb245, 0, none⟩ = some (.slice A0_0 l0_0.length c0_0) := (blk_cell BK245.out 0).trans rfl; have hcz23_1 : w22.cell? ⟨gb245, 1, none⟩ = some (.slice A0_1 l0_1.length c0_1) := (blk_cell BK245.out 1).trans rfl; have hcz23_2 : w22.cell? ⟨gb245, 2, none⟩ = some (.int .i64 a0_2) := (blk_cell BK245.out 2).trans rfl; have hcz23_3 : w22.cell? ⟨gb245, 3, none⟩ = some (.int .i64 a0_3) := (blk_cell BK245.out 3).trans rfl; have hfz23_0 := blk_frozen BK245.out 0; have hfz23_1 := blk_frozen BK245.out 1; have hfz23_2 := blk_frozen BK245.out 2; have hfz23_3 := blk_frozen BK245.out 3))
  go_loopg [4, 27] k (fun kq v4 v27 w' => ∃ (x4_1 : List Int) (x27_1 : Int), v27 = .int .i64 x27_1 ∧ Aside0 (manifest_Write.l0 kq x4_1 l0_1 (l0_1.length : Int) x27_1 l0_0 l0_1 a0_2 a0_3 = some (r1, r2)) ∧ Aside0 (kq ≤ k) ∧ Aside0 (Kd.R (Kd.int .u8) 5 w' w.heap.size (fun _ => True) v4 x4_1) ∧ Aside0 (w'.heap[gb245]? = some (.cells #[(.slice A0_0 l0_0.length c0_0), (.slice A0_1 l0_1.length c0_1), .int .i64 a0_2, .int .i64 a0_3] 32 (0, 0))) ∧ Aside0 (Below w.heap.size w w'))
  case atStart => exact ⟨(t259), (0), z4_, H', ⟨Nat.le_refl _⟩, ⟨by (with_reducible repeat (first | apply Kd.R_alloc | apply Kd.R_drewN | apply Kd.R_drew)); exact HO261.out⟩, ⟨by (with_reducible repeat (first | refine blk_drewN ?_ _ | refine blk_drew ?_ | refine blk_alloc ?_ _)); exact BK245.out⟩, ⟨z7_⟩⟩
  case round =>
   clear H'
   try clear c1
   try clear c2
   try clear p2
   try clear c3
   try clear c12
   try clear c18
   try clear c20
   try clear hcz17_0
   try clear hcz17_1
   try clear hcz17_2
   try clear hcz17_3
   try clear hcz23_0
   try clear hcz23_1
   try clear hcz23_2
   try clear hcz23_3
   try clear hcz8_0
   try clear hcz8_1
   try clear hcz8_2
   try clear hcz8_3
   try clear hfz17_0
   try clear hfz17_1
   try clear hfz17_2
   try clear hfz17_3
   try clear hfz23_0
   try clear hfz23_1
   try clear hfz23_2
   try clear hfz23_3
   try clear hfz8_0
   try clear hfz8_1
   try clear hfz8_2
   try clear hfz8_3
   obtain ⟨x4_1, x27_1, rfl, HA, HK1, HO_4, BK245, HB⟩ := hrel
   cases gk with
   | zero => exact absurd HA.out (by simp [manifest_Write.l0])
   | succ k1 =>
    have H := HA.out
    clear HA
    simp only [manifest_Write.l0] at H
    by_cases c24 : x27_1 < (l0_1.length : Int)
    ·rw [if_pos c24] at H
     have c24b0 : decide (x27_1 < (l0_1.length : Int)) = true := decide_eq_true c24
     clear c24
     by_cases c25 : 0 ≤ x27_1
     ·rw [if_pos c25] at H
      have c25b0 : decide (0 ≤ x27_1) = true := decide_eq_true c25
      clear c25
      by_cases c26 : x27_1 < (l0_1.length : Int)
      ·rw [if_pos c26] at H
       have c26b0 : decide (x27_1 < (l0_1.length : Int)) = true := decide_eq_true c26
       clear c26
       obtain ⟨y264, hy264⟩ : ∃ y_ : List Int, y_ = (([(rd_T36 l0_1 x27_1).f0, (rd_T36 l0_1 x27_1).f1] : List Int)) := ⟨_, rfl⟩
       replace H : ((manifest_nums.f k1 x4_1 y264).bind fun t267 => ((manifest_bounds.f k1 t267 (([(⟨(rd_T36 l0_1 x27_1).f2.f0, (rd_T36 l0_1 x27_1).f2.f1, (rd_T36 l0_1 x27_1).f2.f2⟩ : S34), (⟨(rd_T36 l0_1 x27_1).f3.f0, (rd_T36 l0_1 x27_1).f3.f1, (rd_T36 l0_1 x27_1).f3.f2⟩ : S34)] : List (S34)))).bind fun t273 => (manifest_Write.l0 k1 t273 l0_1 (l0_1.length : Int) (wrap64 (x27_1 + 1)) l0_0 l0_1 a0_2 a0_3))) = some (r1, r2) := by first | (rw [hy264]; with_reducible exact H) | (have H2_ := (Option.bind_some _ _).symm.trans H; rw [hy264]; with_reducible exact H2_) | (have H2_ := (Option.bind_some _ _).symm.trans H; with_reducible exact H2_) | with_reducible exact H | (rw [hy264]; exact H) | exact H
       have Ny264 := Aside0.mk hy264
       clear hy264
       replace H := Option.bind_eq_some_iff.mp H
       obtain ⟨t267, A270, H⟩ := H
       replace H : ((manifest_bounds.f k1 t267 (([(⟨(rd_T36 l0_1 x27_1).f2.f0, (rd_T36 l0_1 x27_1).f2.f1, (rd_T36 l0_1 x27_1).f2.f2⟩ : S34), (⟨(rd_T36 l0_1 x27_1).f3.f0, (rd_T36 l0_1 x27_1).f3.f1, (rd_T36 l0_1 x27_1).f3.f2⟩ : S34)] : List (S34)))).bind fun t273 => (manifest_Write.l0 k1 t273 l0_1 (l0_1.length : Int) (wrap64 (x27_1 + 1)) l0_0 l0_1 a0_2 a0_3)) = some (r1, r2) := H
       have A27 := Aside0.mk A270
       clear A270
       obtain ⟨y270, hy270⟩ : ∃ y_ : List (S34), y_ = (([(⟨(rd_T36 l0_1 x27_1).f2.f0, (rd_T36 l0_1 x27_1).f2.f1, (rd_T36 l0_1 x27_1).f2.f2⟩ : S34), (⟨(rd_T36 l0_1 x27_1).f3.f0, (rd_T36 l0_1 x27_1).f3.f1, (rd_T36 l0_1 x27_1).f3.f2⟩ : S34)] : List (S34))) := ⟨_, rfl⟩
       replace H : ((manifest_bounds.f k1 t267 y270).bind fun t273 => (manifest_Write.l0 k1 t273 l0_1 (l0_1.length : Int) (wrap64 (x27_1 + 1)) l0_0 l0_1 a0_2 a0_3)) = some (r1, r2) := by first | (rw [hy270]; with_reducible exact H) | (have H2_ := (Option.bind_some _ _).symm.trans H; rw [hy270]; with_reducible exact H2_) | (have H2_ := (Option.bind_some _ _).symm.trans H; with_reducible exact H2_) | with_reducible exact H | (rw [hy270]; exact H) | exact H
       have Ny270 := Aside0.mk hy270
       clear hy270
       replace H := Option.bind_eq_some_iff.mp H
       obtain ⟨t273, A280, H⟩ := H
       replace H : (manifest_Write.l0 k1 t273 l0_1 (l0_1.length : Int) (wrap64 (x27_1 + 1)) l0_0 l0_1 a0_2 a0_3) = some (r1, r2) := H
       have A28 := Aside0.mk A280
       clear A280
       have H' := Aside0.mk H
       clear H
       have p262 : 0 ≤ (x27_1 : Int) := of_decide_eq_true z5_
       have q262 : x27_1 < (l0_1.length : Int) := of_decide_eq_true z5_
       obtain ⟨ad262, e262, hx262_0, hx262_1, hx262_2, hx262_3, hx262_4, hx262_5, hx262_6, hx262_7⟩ := at_T36 HR0_1.out x27_1 p262 q262
       cases e262
       replace hx262_0 := (HB.out.cell (World.block_lt_of_cell? w _ hx262_0)).trans hx262_0
       replace hx262_1 := (HB.out.cell (World.block_lt_of_cell? w _ hx262_1)).trans hx262_1
       replace hx262_2 := (HB.out.cell (World.block_lt_of_cell? w _ hx262_2)).trans hx262_2
       replace hx262_3 := (HB.out.cell (World.block_lt_of_cell? w _ hx262_3)).trans hx262_3
       replace hx262_4 := (HB.out.cell (World.block_lt_of_cell? w _ hx262_4)).trans hx262_4
       replace hx262_5 := (HB.out.cell (World.block_lt_of_cell? w _ hx262_5)).trans hx262_5
       replace hx262_6 := (HB.out.cell (World.block_lt_of_cell? w _ hx262_6)).trans hx262_6
       replace hx262_7 := (HB.out.cell (World.block_lt_of_cell? w _ hx262_7)).trans hx262_7
       replace p262 := eq_true p262
       replace q262 := eq_true q262
       try go_wp2_with (first | ((with_reducible refine gate_dst (N := 6) rfl ?_); refine box_event ?hg (N := 6) ?hd (cs := #[.int .i64 0, .int .i64 0, .bool false, .int .i64 0, .string (⟨#[]⟩ : ByteArray), .bool false, .int .i64 0, .string (⟨#[]⟩ : ByteArray)]) (t := 36) ?hr ?_; (case hd => rfl); (case hg => rfl); (case hr => first | (go_simp; done) | (go_simp; rfl)); intro gb263 hg w29 hbox hb; have n0_ := Aside0.mk (Kd.R_below (by (with_reducible repeat (first | apply Kd.R_alloc | apply Kd.R_drewN | apply Kd.R_drew)); exact HO_4.out) hb); have n1_ := Aside0.mk (blk_below (g := gb245) (o := .cells #[.slice A0_0 l0_0.length c0_0, .slice (some ad262) l0_1.length c0_1, .int .i64 a0_2, .int .i64 a0_3] 32 (0, 0)) (by (with_reducible repeat (first | refine blk_drewN ?_ _ | refine blk_drew ?_ | refine blk_alloc ?_ _)); exact BK245.out) hb); have n2_ := Aside0.mk (below_step z7_ hb); have n3_ := Aside0.mk (hbox); have n4_ := Aside0.mk ((by rw [hg]; exact (below_size z7_) : w.heap.size ≤ gb263)); have n5_ := Aside0.mk ((by rw [hg]; exact (below_size z7_) : w.heap.size ≤ gb263)); have n6_ := Aside0.mk ((by rw [hg]; exact Nat.ne_of_lt (blk_lt (g := gb245) (o := .cells #[.slice A0_0 l0_0.length c0_0, .slice (some ad262) l0_1.length c0_1, .int .i64 a0_2, .int .i64 a0_3] 32 (0, 0)) (by (with_reducible repeat (first | refine blk_drewN ?_ _ | refine blk_drew ?_ | refine blk_alloc ?_ _)); exact BK245.out)) : gb245 ≠ gb263)); have n7_ := Aside0.mk ((by rw [hg]; exact Nat.ne_of_gt (blk_lt (g := gb245) (o := .cells #[.slice A0_0 l0_0.length c0_0, .slice (some ad262) l0_1.length c0_1, .int .i64 a0_2, .int .i64 a0_3] 32 (0, 0)) (by (with_reducible repeat (first | refine blk_drewN ?_ _ | refine blk_drew ?_ | refine blk_alloc ?_ _)); exact BK245.out)) : gb263 ≠ gb245)); clear HO_4; clear BK245; clear HB; have HO_4 := n0_; have BK245 := n1_; have HB := n2_; have BK263 := n3_; have GW263 := n4_; have GE263 := n5_; have NB245_263 := n6_; have NB263_245 := n7_; clear n0_ n1_ n2_ n3_ n4_ n5_ n6_ n7_; clear hb hbox hg; have hnb30 := NB263_245.out; have hnc30 := NB245_263.out; have hcz31_0 : w29.cell? ⟨gb263, 0, none⟩ = some (.int .i64 0) := (blk_cell BK263.out 0).trans rfl; have hcz31_1 : w29.cell? ⟨gb263, 1, none⟩ = some (.int .i64 0) := (blk_cell BK263.out 1).trans rfl; have hcz31_2 : w29.cell? ⟨gb263, 2, none⟩ = some (.bool false) := (blk_cell BK263.out 2).trans rfl; have hcz31_3 : w29.cell? ⟨gb263, 3, none⟩ = some (.int .i64 0) := (blk_cell BK263.out 3).trans rfl; have hcz31_4 : w29.cell? ⟨gb263, 4, none⟩ = some (.string (⟨#[]⟩ : ByteArray)) := (blk_cell BK263.out 4).trans rfl; have hcz31_5 : w29.cell? ⟨gb263, 5, none⟩ = some (.bool false) := (blk_cell BK263.out 5).trans rfl; have hcz31_6 : w29.cell? ⟨gb263, 6, none⟩ = some (.int .i64 0) := (blk_cell BK263.out 6).trans rfl; have hcz31_7 : w29.cell? ⟨gb263, 7, none⟩ = some (.string (⟨#[]⟩ : ByteArray)) := (blk_cell BK263.out 7).trans rfl; have hfz31_0 := blk_frozen BK263.out 0; have hfz31_1 := blk_frozen BK263.out 1; have hfz31_2 := blk_frozen BK263.out 2; have hfz31_3 := blk_frozen BK263.out 3; have hfz31_4 := blk_frozen BK263.out 4; have hfz31_5 := blk_frozen BK263.out 5; have hfz31_6 := blk_frozen BK263.out 6; have hfz31_7 := blk_frozen BK263.out 7; obtain ⟨Ao32, co32, eo32⟩ := Kd.R_slice HO_4.out; subst eo32))
       have n0_ : Aside0 (Kd.R (Kd.int .u8) 5 ((((((((w29.setCell ⟨gb263, 0, none⟩ (.int .i64 ((rd_T36 l0_1 x27_1).f0))).setCell ⟨gb263, 1, none⟩ (.int .i64 ((rd_T36 l0_1 x27_1).f1))).setCell ⟨gb263, 2, none⟩ (.bool ((rd_T36 l0_1 x27_1).f2.f0))).setCell ⟨gb263, 3, none⟩ (.int .i64 ((rd_T36 l0_1 x27_1).f2.f1))).setCell ⟨gb263, 4, none⟩ (.string ((rd_T36 l0_1 x27_1).f2.f2))).setCell ⟨gb263, 5, none⟩ (.bool ((rd_T36 l0_1 x27_1).f3.f0))).setCell ⟨gb263, 6, none⟩ (.int .i64 ((rd_T36 l0_1 x27_1).f3.f1))).setCell ⟨gb263, 7, none⟩ (.string ((rd_T36 l0_1 x27_1).f3.f2))) w.heap.size (fun _ => True) (.slice Ao32 x4_1.length co32) x4_1) := ⟨by (with_reducible repeat (first | apply Kd.R_alloc | apply Kd.R_drewN | apply Kd.R_drew)); exact Kd.R_mono (Kd.R_far (p := ⟨gb263, 7, none⟩) (Kd.R_far (p := ⟨gb263, 6, none⟩) (Kd.R_far (p := ⟨gb263, 5, none⟩) (Kd.R_far (p := ⟨gb263, 4, none⟩) (Kd.R_far (p := ⟨gb263, 3, none⟩) (Kd.R_far (p := ⟨gb263, 2, none⟩) (Kd.R_far (p := ⟨gb263, 1, none⟩) (Kd.R_far (p := ⟨gb263, 0, none⟩) (Kd.R_types HO_4.out BK263.out (by decide)) (fun _ hk => hk.2) (.int .i64 ((rd_T36 l0_1 x27_1).f0))) (fun _ hk => hk.2) (.int .i64 ((rd_T36 l0_1 x27_1).f1))) (fun _ hk => hk.2) (.bool ((rd_T36 l0_1 x27_1).f2.f0))) (fun _ hk => hk.2) (.int .i64 ((rd_T36 l0_1 x27_1).f2.f1))) (fun _ hk => hk.2) (.string ((rd_T36 l0_1 x27_1).f2.f2))) (fun _ hk => hk.2) (.bool ((rd_T36 l0_1 x27_1).f3.f0))) (fun _ hk => hk.2) (.int .i64 ((rd_T36 l0_1 x27_1).f3.f1))) (fun _ hk => hk.2) (.string ((rd_T36 l0_1 x27_1).f3.f2))) (fun _ hk => trivial)⟩
       have n1_ : Aside0 (((((((((w29.setCell ⟨gb263, 0, none⟩ (.int .i64 ((rd_T36 l0_1 x27_1).f0))).setCell ⟨gb263, 1, none⟩ (.int .i64 ((rd_T36 l0_1 x27_1).f1))).setCell ⟨gb263, 2, none⟩ (.bool ((rd_T36 l0_1 x27_1).f2.f0))).setCell ⟨gb263, 3, none⟩ (.int .i64 ((rd_T36 l0_1 x27_1).f2.f1))).setCell ⟨gb263, 4, none⟩ (.string ((rd_T36 l0_1 x27_1).f2.f2))).setCell ⟨gb263, 5, none⟩ (.bool ((rd_T36 l0_1 x27_1).f3.f0))).setCell ⟨gb263, 6, none⟩ (.int .i64 ((rd_T36 l0_1 x27_1).f3.f1))).setCell ⟨gb263, 7, none⟩ (.string ((rd_T36 l0_1 x27_1).f3.f2))).heap[gb245]? = some (.cells #[.slice A0_0 l0_0.length c0_0, .slice (some ad262) l0_1.length c0_1, .int .i64 a0_2, .int .i64 a0_3] 32 (0, 0))) := ⟨by (with_reducible repeat (first | refine blk_drewN ?_ _ | refine blk_drew ?_ | refine blk_alloc ?_ _)); refine blk_far ?_ NB245_263.out _; (with_reducible repeat (first | refine blk_drewN ?_ _ | refine blk_drew ?_ | refine blk_alloc ?_ _)); refine blk_far ?_ NB245_263.out _; (with_reducible repeat (first | refine blk_drewN ?_ _ | refine blk_drew ?_ | refine blk_alloc ?_ _)); refine blk_far ?_ NB245_263.out _; (with_reducible repeat (first | refine blk_drewN ?_ _ | refine blk_drew ?_ | refine blk_alloc ?_ _)); refine blk_far ?_ NB245_263.out _; (with_reducible repeat (first | refine blk_drewN ?_ _ | refine blk_drew ?_ | refine blk_alloc ?_ _)); refine blk_far ?_ NB245_263.out _; (with_reducible repeat (first | refine blk_drewN ?_ _ | refine blk_drew ?_ | refine blk_alloc ?_ _)); refine blk_far ?_ NB245_263.out _; (with_reducible repeat (first | refine blk_drewN ?_ _ | refine blk_drew ?_ | refine blk_alloc ?_ _)); refine blk_far ?_ NB245_263.out _; (with_reducible repeat (first | refine blk_drewN ?_ _ | refine blk_drew ?_ | refine blk_alloc ?_ _)); refine blk_far ?_ NB245_263.out _; (with_reducible repeat (first | refine blk_drewN ?_ _ | refine blk_drew ?_ | refine blk_alloc ?_ _)); exact BK245.out⟩
       have n2_ : Aside0 (((((((((w29.setCell ⟨gb263, 0, none⟩ (.int .i64 ((rd_T36 l0_1 x27_1).f0))).setCell ⟨gb263, 1, none⟩ (.int .i64 ((rd_T36 l0_1 x27_1).f1))).setCell ⟨gb263, 2, none⟩ (.bool ((rd_T36 l0_1 x27_1).f2.f0))).setCell ⟨gb263, 3, none⟩ (.int .i64 ((rd_T36 l0_1 x27_1).f2.f1))).setCell ⟨gb263, 4, none⟩ (.string ((rd_T36 l0_1 x27_1).f2.f2))).setCell ⟨gb263, 5, none⟩ (.bool ((rd_T36 l0_1 x27_1).f3.f0))).setCell ⟨gb263, 6, none⟩ (.int .i64 ((rd_T36 l0_1 x27_1).f3.f1))).setCell ⟨gb263, 7, none⟩ (.string ((rd_T36 l0_1 x27_1).f3.f2))).heap[gb263]? = some (.cells #[.int .i64 ((rd_T36 l0_1 x27_1).f0), .int .i64 ((rd_T36 l0_1 x27_1).f1), .bool ((rd_T36 l0_1 x27_1).f2.f0), .int .i64 ((rd_T36 l0_1 x27_1).f2.f1), .string ((rd_T36 l0_1 x27_1).f2.f2), .bool ((rd_T36 l0_1 x27_1).f3.f0), .int .i64 ((rd_T36 l0_1 x27_1).f3.f1), .string ((rd_T36 l0_1 x27_1).f3.f2)] 36 (0, 0))) := ⟨by (with_reducible repeat (first | refine blk_drewN ?_ _ | refine blk_drew ?_ | refine blk_alloc ?_ _)); refine blk_put (cs := #[.int .i64 ((rd_T36 l0_1 x27_1).f0), .int .i64 ((rd_T36 l0_1 x27_1).f1), .bool ((rd_T36 l0_1 x27_1).f2.f0), .int .i64 ((rd_T36 l0_1 x27_1).f2.f1), .string ((rd_T36 l0_1 x27_1).f2.f2), .bool ((rd_T36 l0_1 x27_1).f3.f0), .int .i64 ((rd_T36 l0_1 x27_1).f3.f1), .string (⟨#[]⟩ : ByteArray)]) ?_ 7 _ rfl; (with_reducible repeat (first | refine blk_drewN ?_ _ | refine blk_drew ?_ | refine blk_alloc ?_ _)); refine blk_put (cs := #[.int .i64 ((rd_T36 l0_1 x27_1).f0), .int .i64 ((rd_T36 l0_1 x27_1).f1), .bool ((rd_T36 l0_1 x27_1).f2.f0), .int .i64 ((rd_T36 l0_1 x27_1).f2.f1), .string ((rd_T36 l0_1 x27_1).f2.f2), .bool ((rd_T36 l0_1 x27_1).f3.f0), .int .i64 0, .string (⟨#[]⟩ : ByteArray)]) ?_ 6 _ rfl; (with_reducible repeat (first | refine blk_drewN ?_ _ | refine blk_drew ?_ | refine blk_alloc ?_ _)); refine blk_put (cs := #[.int .i64 ((rd_T36 l0_1 x27_1).f0), .int .i64 ((rd_T36 l0_1 x27_1).f1), .bool ((rd_T36 l0_1 x27_1).f2.f0), .int .i64 ((rd_T36 l0_1 x27_1).f2.f1), .string ((rd_T36 l0_1 x27_1).f2.f2), .bool false, .int .i64 0, .string (⟨#[]⟩ : ByteArray)]) ?_ 5 _ rfl; (with_reducible repeat (first | refine blk_drewN ?_ _ | refine blk_drew ?_ | refine blk_alloc ?_ _)); refine blk_put (cs := #[.int .i64 ((rd_T36 l0_1 x27_1).f0), .int .i64 ((rd_T36 l0_1 x27_1).f1), .bool ((rd_T36 l0_1 x27_1).f2.f0), .int .i64 ((rd_T36 l0_1 x27_1).f2.f1), .string (⟨#[]⟩ : ByteArray), .bool false, .int .i64 0, .string (⟨#[]⟩ : ByteArray)]) ?_ 4 _ rfl; (with_reducible repeat (first | refine blk_drewN ?_ _ | refine blk_drew ?_ | refine blk_alloc ?_ _)); refine blk_put (cs := #[.int .i64 ((rd_T36 l0_1 x27_1).f0), .int .i64 ((rd_T36 l0_1 x27_1).f1), .bool ((rd_T36 l0_1 x27_1).f2.f0), .int .i64 0, .string (⟨#[]⟩ : ByteArray), .bool false, .int .i64 0, .string (⟨#[]⟩ : ByteArray)]) ?_ 3 _ rfl; (with_reducible repeat (first | refine blk_drewN ?_ _ | refine blk_drew ?_ | refine blk_alloc ?_ _)); refine blk_put (cs := #[.int .i64 ((rd_T36 l0_1 x27_1).f0), .int .i64 ((rd_T36 l0_1 x27_1).f1), .bool false, .int .i64 0, .string (⟨#[]⟩ : ByteArray), .bool false, .int .i64 0, .string (⟨#[]⟩ : ByteArray)]) ?_ 2 _ rfl; (with_reducible repeat (first | refine blk_drewN ?_ _ | refine blk_drew ?_ | refine blk_alloc ?_ _)); refine blk_put (cs := #[.int .i64 ((rd_T36 l0_1 x27_1).f0), .int .i64 0, .bool false, .int .i64 0, .string (⟨#[]⟩ : ByteArray), .bool false, .int .i64 0, .string (⟨#[]⟩ : ByteArray)]) ?_ 1 _ rfl; (with_reducible repeat (first | refine blk_drewN ?_ _ | refine blk_drew ?_ | refine blk_alloc ?_ _)); refine blk_put (cs := #[.int .i64 0, .int .i64 0, .bool false, .int .i64 0, .string (⟨#[]⟩ : ByteArray), .bool false, .int .i64 0, .string (⟨#[]⟩ : ByteArray)]) ?_ 0 _ rfl; (with_reducible repeat (first | refine blk_drewN ?_ _ | refine blk_drew ?_ | refine blk_alloc ?_ _)); exact BK263.out⟩
       have n3_ : Aside0 (Below w.heap.size w ((((((((w29.setCell ⟨gb263, 0, none⟩ (.int .i64 ((rd_T36 l0_1 x27_1).f0))).setCell ⟨gb263, 1, none⟩ (.int .i64 ((rd_T36 l0_1 x27_1).f1))).setCell ⟨gb263, 2, none⟩ (.bool ((rd_T36 l0_1 x27_1).f2.f0))).setCell ⟨gb263, 3, none⟩ (.int .i64 ((rd_T36 l0_1 x27_1).f2.f1))).setCell ⟨gb263, 4, none⟩ (.string ((rd_T36 l0_1 x27_1).f2.f2))).setCell ⟨gb263, 5, none⟩ (.bool ((rd_T36 l0_1 x27_1).f3.f0))).setCell ⟨gb263, 6, none⟩ (.int .i64 ((rd_T36 l0_1 x27_1).f3.f1))).setCell ⟨gb263, 7, none⟩ (.string ((rd_T36 l0_1 x27_1).f3.f2)))) := ⟨z6_⟩
       (try clear HO_4)
       (try clear BK245)
       (try clear BK263)
       (try clear HB)
       generalize ((((((((w29.setCell ⟨gb263, 0, none⟩ (.int .i64 ((rd_T36 l0_1 x27_1).f0))).setCell ⟨gb263, 1, none⟩ (.int .i64 ((rd_T36 l0_1 x27_1).f1))).setCell ⟨gb263, 2, none⟩ (.bool ((rd_T36 l0_1 x27_1).f2.f0))).setCell ⟨gb263, 3, none⟩ (.int .i64 ((rd_T36 l0_1 x27_1).f2.f1))).setCell ⟨gb263, 4, none⟩ (.string ((rd_T36 l0_1 x27_1).f2.f2))).setCell ⟨gb263, 5, none⟩ (.bool ((rd_T36 l0_1 x27_1).f3.f0))).setCell ⟨gb263, 6, none⟩ (.int .i64 ((rd_T36 l0_1 x27_1).f3.f1))).setCell ⟨gb263, 7, none⟩ (.string ((rd_T36 l0_1 x27_1).f3.f2))) = w33 at n0_ n1_ n2_ n3_ ⊢
       have HO_4 := n0_
       have BK245 := n1_
       have BK263 := n2_
       have HB := n3_
       clear n0_ n1_ n2_ n3_
       have n0_ := Aside0.mk (Kd.R_drew HO_4.out)
       have n1_ := Aside0.mk (blk_drew BK245.out)
       have n2_ := Aside0.mk (blk_drew BK263.out)
       have n3_ := Aside0.mk (below_drew1 HB.out)
       clear HO_4
       clear BK245
       clear BK263
       clear HB
       have HO_4 := n0_
       have BK245 := n1_
       have BK263 := n2_
       have HB := n3_
       clear n0_ n1_ n2_ n3_
       refine start_ (n := 14) (S := fun w' => w'.cell? ⟨gb263, 0, none⟩ = some (.int .i64 ((rd_T36 l0_1 x27_1).f0)) ∧ w'.cell? ⟨gb263, 1, none⟩ = some (.int .i64 ((rd_T36 l0_1 x27_1).f1)) ∧ w'.cell? ⟨gb263, 2, none⟩ = some (.bool ((rd_T36 l0_1 x27_1).f2.f0)) ∧ w'.cell? ⟨gb263, 3, none⟩ = some (.int .i64 ((rd_T36 l0_1 x27_1).f2.f1)) ∧ w'.cell? ⟨gb263, 4, none⟩ = some (.string ((rd_T36 l0_1 x27_1).f2.f2)) ∧ w'.cell? ⟨gb263, 5, none⟩ = some (.bool ((rd_T36 l0_1 x27_1).f3.f0)) ∧ w'.cell? ⟨gb263, 6, none⟩ = some (.int .i64 ((rd_T36 l0_1 x27_1).f3.f1)) ∧ w'.cell? ⟨gb263, 7, none⟩ = some (.string ((rd_T36 l0_1 x27_1).f3.f2))) (ds := []) (bs_ 14 0) (by kernel_rfl) rfl rfl ⟨(blk_cell BK263.out 0).trans rfl, (blk_cell BK263.out 1).trans rfl, (blk_cell BK263.out 2).trans rfl, (blk_cell BK263.out 3).trans rfl, (blk_cell BK263.out 4).trans rfl, (blk_cell BK263.out 5).trans rfl, (blk_cell BK263.out 6).trans rfl, (blk_cell BK263.out 7).trans rfl⟩ (fun hHeld => ?_); refine with_tabW manifest_Write.tab8 manifest_Write.bits8 (fun HT_ HW_ => ?_)
       generalize w33.drew = w34 at HO_4 BK245 BK263 HB hHeld ⊢
       refine pA_ 0 (some 31) (bs_ 14 1) HT_ ?_ ?_ ?_ ?_ ?_
       rotate_left; (intro w'; go_simp; with_reducible rfl); rotate_left; (simp only [PT_]; rfl)
       refine pA_ 1 (some 32) (bs_ 14 3) HT_ ?_ ?_ ?_ ?_ ?_
       rotate_left; (intro w'; go_simp; with_reducible rfl); rotate_left; (simp only [PT_]; rfl)
       refine pA_ 3 (some 34) (bs_ 14 11) HT_ ?_ ?_ ?_ ?_ ?_
       rotate_left; (intro w'; go_simp; with_reducible rfl); rotate_left; (simp only [PT_]; rfl)
       refine pA_ 7 (some 38) (bs_ 14 139) HT_ ?_ ?_ ?_ ?_ ?_
       rotate_left; (intro w'; go_simp; with_reducible rfl); rotate_left; (simp only [PT_]; rfl)
       refine pA_ 9 (some 40) (bs_ 14 651) HT_ ?_ ?_ ?_ ?_ ?_
       rotate_left; (intro w'; go_simp; with_reducible rfl); rotate_left; (simp only [PT_]; rfl)
       refine take_ (i := 2) (N := some 33) (v := ?_) (a' := ?_) (bs_ 14 655) rfl rfl (take_ofW HT_.out HW_.out (by kernel_rfl)) (fun _ _ _ h => h) (Or.inl ⟨by rfl, ?_⟩) hHeld ?_ ?_
       rotate_left
       ·rintro w' ⟨s0, s1, s2, s3, s4, s5, s6, s7⟩
        go_simp
        with_reducible rfl
       rotate_left
       ·simp only [PT_]
        rfl
       refine take_ (i := 4) (N := some 35) (v := ?_) (a' := ?_) (bs_ 14 671) rfl rfl (take_ofW HT_.out HW_.out (by kernel_rfl)) (fun _ _ _ h => h) (Or.inl ⟨by rfl, ?_⟩) hHeld ?_ ?_
       rotate_left
       ·rintro w' ⟨s0, s1, s2, s3, s4, s5, s6, s7⟩
        go_simp
        with_reducible rfl
       rotate_left
       ·simp only [PT_]
        rfl
       refine take_ (i := 8) (N := some 39) (v := ?_) (a' := ?_) (bs_ 14 927) rfl rfl (take_ofW HT_.out HW_.out (by kernel_rfl)) (fun _ _ _ h => h) (Or.inl ⟨by rfl, ?_⟩) hHeld ?_ ?_
       rotate_left
       ·rintro w' ⟨s0, s1, s2, s3, s4, s5, s6, s7⟩
        go_simp
        with_reducible rfl
       rotate_left
       ·simp only [PT_]
        rfl
       refine take_ (i := 10) (N := some 41) (v := ?_) (a' := ?_) (bs_ 14 1951) rfl rfl (take_ofW HT_.out HW_.out (by kernel_rfl)) (fun _ _ _ h => h) (Or.inl ⟨by rfl, ?_⟩) hHeld ?_ ?_
       rotate_left
       ·rintro w' ⟨s0, s1, s2, s3, s4, s5, s6, s7⟩
        go_simp
        with_reducible rfl
       rotate_left
       ·simp only [PT_]
        rfl
       refine join_ (σ := Value × Value × Value) 2 (bs_ 14 4095) (fun s_ => [(36, s_.1), (37, s_.2.1), (42, s_.2.2)]) (fun s_ w' => (w'.cell? ⟨gb263, 0, none⟩ = some (.int .i64 ((rd_T36 l0_1 x27_1).f0)) ∧ w'.cell? ⟨gb263, 1, none⟩ = some (.int .i64 ((rd_T36 l0_1 x27_1).f1)) ∧ w'.cell? ⟨gb263, 2, none⟩ = some (.bool ((rd_T36 l0_1 x27_1).f2.f0)) ∧ w'.cell? ⟨gb263, 3, none⟩ = some (.int .i64 ((rd_T36 l0_1 x27_1).f2.f1)) ∧ w'.cell? ⟨gb263, 4, none⟩ = some (.string ((rd_T36 l0_1 x27_1).f2.f2)) ∧ w'.cell? ⟨gb263, 5, none⟩ = some (.bool ((rd_T36 l0_1 x27_1).f3.f0)) ∧ w'.cell? ⟨gb263, 6, none⟩ = some (.int .i64 ((rd_T36 l0_1 x27_1).f3.f1)) ∧ w'.cell? ⟨gb263, 7, none⟩ = some (.string ((rd_T36 l0_1 x27_1).f3.f2))) ∧ (Kd.R (Kd.int .i64) 3 w' w.heap.size (fun _ => True) s_.1 y264) ∧ (Kd.R (Kd.int .u8) 5 w' w.heap.size (fun _ => True) s_.2.1 t267) ∧ (Kd.R k34 34 w' w.heap.size (fun _ => True) s_.2.2 y270) ∧ (w'.heap[gb245]? = some (.cells #[.slice A0_0 l0_0.length c0_0, .slice (some ad262) l0_1.length c0_1, .int .i64 a0_2, .int .i64 a0_3] 32 (0, 0))) ∧ (w'.heap[gb263]? = some (.cells #[.int .i64 ((rd_T36 l0_1 x27_1).f0), .int .i64 ((rd_T36 l0_1 x27_1).f1), .bool ((rd_T36 l0_1 x27_1).f2.f0), .int .i64 ((rd_T36 l0_1 x27_1).f2.f1), .string ((rd_T36 l0_1 x27_1).f2.f2), .bool ((rd_T36 l0_1 x27_1).f3.f0), .int .i64 ((rd_T36 l0_1 x27_1).f3.f1), .string ((rd_T36 l0_1 x27_1).f3.f2)] 36 (0, 0))) ∧ (Below w.heap.size w w')) ?_ ?_
       rotate_left
       ·intro hCont
        refine two_ (i := 5) (j := 11) (Ni := some 36) (Nj := some 42) (bs_ 14 1983) (bs_ 14 3999) rfl rfl rfl rfl (two_of HT_.out (by kernel_rfl)) (by decide) (by decide) (fun K hK => ?_) (fun K hK => ?_)
        ·skip
         refine Kd.R_lit_step (Kd.int .i64) _ 3 ?hg (N := 36) ?hd (xs := ([(rd_T36 l0_1 x27_1).f0, (rd_T36 l0_1 x27_1).f1] : List Int)) (inner := [.int .i64 ((rd_T36 l0_1 x27_1).f0), .int .i64 ((rd_T36 l0_1 x27_1).f1)]) (ok := fun _ => True) (okp := fun _ => True) ?hr ?hp (fun _ hk => hk) trivial (Below.refl _ _) (Nat.le_refl _) (by simp) ?_; (case hd => rfl); (case hg => rfl); (case hr => first | (go_simp; done) | (go_simp; rfl)); (case hp => exact (Reps.one (show Kd.M (Kd.int .i64) _ _ _ ((rd_T36 l0_1 x27_1).f0) [.int .i64 ((rd_T36 l0_1 x27_1).f0)] from rfl) (Reps.one (show Kd.M (Kd.int .i64) _ _ _ ((rd_T36 l0_1 x27_1).f1) [.int .i64 ((rd_T36 l0_1 x27_1).f1)] from rfl) (Reps.none _ _))))
         intro v265 w35 ho36 hb hg_ hnew_
         clear hg_ hnew_
         (first | rw [← Ny264.out] at ho36 | (simp only [Int.reduceToNat] at ho36; rw [← Ny264.out] at ho36))
         have n0_ := Aside0.mk (Kd.R_below (by (with_reducible repeat (first | apply Kd.R_alloc | apply Kd.R_drewN | apply Kd.R_drew)); exact HO_4.out) hb)
         have n1_ := Aside0.mk (Kd.R_lower ho36 (below_size z6_))
         have n2_ := Aside0.mk (blk_below (g := gb245) (o := .cells #[.slice A0_0 l0_0.length c0_0, .slice (some ad262) l0_1.length c0_1, .int .i64 a0_2, .int .i64 a0_3] 32 (0, 0)) (by (with_reducible repeat (first | refine blk_drewN ?_ _ | refine blk_drew ?_ | refine blk_alloc ?_ _)); exact BK245.out) hb)
         have n3_ := Aside0.mk (blk_below (g := gb263) (o := .cells #[.int .i64 ((rd_T36 l0_1 x27_1).f0), .int .i64 ((rd_T36 l0_1 x27_1).f1), .bool ((rd_T36 l0_1 x27_1).f2.f0), .int .i64 ((rd_T36 l0_1 x27_1).f2.f1), .string ((rd_T36 l0_1 x27_1).f2.f2), .bool ((rd_T36 l0_1 x27_1).f3.f0), .int .i64 ((rd_T36 l0_1 x27_1).f3.f1), .string ((rd_T36 l0_1 x27_1).f3.f2)] 36 (0, 0)) (by (with_reducible repeat (first | refine blk_drewN ?_ _ | refine blk_drew ?_ | refine blk_alloc ?_ _)); exact BK263.out) hb)
         have n4_ := Aside0.mk (below_step z6_ hb)
         clear HO_4
         clear BK245
         clear BK263
         clear HB
         have HO_4 := n0_
         have HO266 := n1_
         have BK245 := n2_
         have BK263 := n3_
         have HB := n4_
         clear n0_ n1_ n2_ n3_ n4_
         clear hb ho36
         obtain ⟨Ao37, co37, eo37⟩ := Kd.R_slice HO266.out
         (first | subst eo37 | (injection eo37 with f1_ f2_ f3_; have f4_ := f1_.symm; have f5_ := f3_.symm; clear f1_ f2_ f3_; subst f4_; subst f5_))
         refine hK.out _ _ ⟨(blk_cell BK263.out 0).trans rfl, (blk_cell BK263.out 1).trans rfl, (blk_cell BK263.out 2).trans rfl, (blk_cell BK263.out 3).trans rfl, (blk_cell BK263.out 4).trans rfl, (blk_cell BK263.out 5).trans rfl, (blk_cell BK263.out 6).trans rfl, (blk_cell BK263.out 7).trans rfl⟩ (fun hHeld => ?_)
         clear hK K
         refine norm_ (a' := ?_) ?_ ?_; rotate_left; (show Act.put _ (some 36) _ = _; simp only [PT_]; rfl)
         refine two_ (i := 6) (j := 11) (Ni := some 37) (Nj := some 42) (bs_ 14 2047) (bs_ 14 4031) rfl rfl rfl rfl (two_of HT_.out (by kernel_rfl)) (by decide) (by decide) (fun K hK => ?_) (fun K hK => ?_)
         ·skip
          refine goes_ Try.func20 (by kernel_rfl) rfl #[.slice Ao32 x4_1.length co32, .slice Ao37 y264.length co37] (by rfl) rfl rfl (by (try simp only [List.map_toArray, List.map_cons, List.map_nil]); first | done | rfl | (simp only [List.length_drop, List.length_take]; rfl)) ?_
          with_reducible refine (manifest_nums.calls k1 (fun k_ => some k_ = (.slice Ao32 x4_1.length co32 : Value).ownBlock) (.slice Ao32 x4_1.length co32) x4_1 _ _ y264 t267 w _ ?side1 ?side2 ?side3 ?side4 A27.out).mono ?_
          (case side1 => repeat (first | (with_reducible first | exact HB.out | apply below_alloc | apply pw_below_drewN | apply below_drew1 | refine below_set ?_ GE245.out | refine below_set ?_ GE263.out) | exact HB.out))
          (case side2 => exact Kd.R_tight rfl HO_4.out)
          (case side3 => exact Kd.C_kept_own ((Kd.R_apart' HO266.out (Kd.R_typed HO_4.out) (by decide))) (fun k_ hk_ hs_ => (hk_.2) hs_))
          (case side4 => exact (Kd.R_reads' HO266.out).2.1)
          rintro e w38 ⟨v268, rfl, ho0, hb, hkp⟩
          refine ⟨_, rfl, ?_⟩
          have n0_ := Aside0.mk (blk_kept (by (with_reducible repeat (first | refine blk_drewN ?_ _ | refine blk_drew ?_ | refine blk_alloc ?_ _)); exact BK245.out) hkp (fun hs_ => (fun e_ => (Kd.R_ne HO_4.out BK245.out (by decide)) e_) hs_))
          have n1_ := Aside0.mk (blk_kept (by (with_reducible repeat (first | refine blk_drewN ?_ _ | refine blk_drew ?_ | refine blk_alloc ?_ _)); exact BK263.out) hkp (fun hs_ => (fun e_ => (Kd.R_ne HO_4.out BK263.out (by decide)) e_) hs_))
          have n2_ := Aside0.mk (Kd.R_mono (ok' := fun k_ => True) (Kd.R_keptB ((Kd.R_apart' HO266.out (Kd.R_typed HO_4.out) (by decide))) hkp (fun k_ hk_ hs_ => (hk_.2) hs_)) (fun k_ hk_ => trivial))
          have n3_ := Aside0.mk (Kd.R_mono (ok' := fun k_ => True) ho0 (fun k_ hk_ => trivial))
          have n4_ := Aside0.mk (hb)
          clear BK245
          clear BK263
          clear HO266
          clear HB
          clear HO_4
          have BK245 := n0_
          have BK263 := n1_
          have HO266 := n2_
          have HO269 := n3_
          have HB := n4_
          clear n0_ n1_ n2_ n3_ n4_
          (try clear hb)
          (try clear hkp)
          (try clear ho0)
          refine hK.out _ _ ⟨(blk_cell BK263.out 0).trans rfl, (blk_cell BK263.out 1).trans rfl, (blk_cell BK263.out 2).trans rfl, (blk_cell BK263.out 3).trans rfl, (blk_cell BK263.out 4).trans rfl, (blk_cell BK263.out 5).trans rfl, (blk_cell BK263.out 6).trans rfl, (blk_cell BK263.out 7).trans rfl⟩ (fun hHeld => ?_)
          clear hK K
          refine norm_ (a' := ?_) ?_ ?_; rotate_left; (show Act.put _ (some 37) _ = _; simp only [PT_]; rfl)
          refine oA_ 11 (some 42) (bs_ 14 4095) HT_ (fun K hK => ?_)
          refine Kd.R_lit_step k34 _ 34 ?hg (N := 42) ?hd (xs := ([(⟨(rd_T36 l0_1 x27_1).f2.f0, (rd_T36 l0_1 x27_1).f2.f1, (rd_T36 l0_1 x27_1).f2.f2⟩ : S34), (⟨(rd_T36 l0_1 x27_1).f3.f0, (rd_T36 l0_1 x27_1).f3.f1, (rd_T36 l0_1 x27_1).f3.f2⟩ : S34)] : List (S34))) (inner := [.bool ((rd_T36 l0_1 x27_1).f2.f0), .int .i64 ((rd_T36 l0_1 x27_1).f2.f1), .string ((rd_T36 l0_1 x27_1).f2.f2), .bool ((rd_T36 l0_1 x27_1).f3.f0), .int .i64 ((rd_T36 l0_1 x27_1).f3.f1), .string ((rd_T36 l0_1 x27_1).f3.f2)]) (ok := fun _ => True) (okp := fun _ => True) ?hr ?hp (fun _ hk => hk) trivial (Below.refl _ _) (Nat.le_refl _) (by simp) ?_; (case hd => rfl); (case hg => rfl); (case hr => first | (go_simp; done) | (go_simp; rfl)); (case hp => exact (Reps.c3 (show Kd.M k34 _ _ _ (⟨(rd_T36 l0_1 x27_1).f2.f0, (rd_T36 l0_1 x27_1).f2.f1, (rd_T36 l0_1 x27_1).f2.f2⟩ : S34) [.bool ((rd_T36 l0_1 x27_1).f2.f0), .int .i64 ((rd_T36 l0_1 x27_1).f2.f1), .string ((rd_T36 l0_1 x27_1).f2.f2)] from (k34_mkM _ _ _ (⟨(rd_T36 l0_1 x27_1).f2.f0, (rd_T36 l0_1 x27_1).f2.f1, (rd_T36 l0_1 x27_1).f2.f2⟩ : S34) )) (Reps.c3 (show Kd.M k34 _ _ _ (⟨(rd_T36 l0_1 x27_1).f3.f0, (rd_T36 l0_1 x27_1).f3.f1, (rd_T36 l0_1 x27_1).f3.f2⟩ : S34) [.bool ((rd_T36 l0_1 x27_1).f3.f0), .int .i64 ((rd_T36 l0_1 x27_1).f3.f1), .string ((rd_T36 l0_1 x27_1).f3.f2)] from (k34_mkM _ _ _ (⟨(rd_T36 l0_1 x27_1).f3.f0, (rd_T36 l0_1 x27_1).f3.f1, (rd_T36 l0_1 x27_1).f3.f2⟩ : S34) )) (Reps.none _ _))))
          intro v271 w39 ho40 hb hg_ hnew_
          clear hg_ hnew_
          (first | rw [← Ny270.out] at ho40 | (simp only [Int.reduceToNat] at ho40; rw [← Ny270.out] at ho40))
          have n0_ := Aside0.mk (Kd.R_below (by (with_reducible repeat (first | apply Kd.R_alloc | apply Kd.R_drewN | apply Kd.R_drew)); exact HO266.out) hb)
          have n1_ := Aside0.mk (Kd.R_below (by (with_reducible repeat (first | apply Kd.R_alloc | apply Kd.R_drewN | apply Kd.R_drew)); exact HO269.out) hb)
          have n2_ := Aside0.mk (Kd.R_lower ho40 (below_size z6_))
          have n3_ := Aside0.mk (blk_below (g := gb245) (o := .cells #[.slice A0_0 l0_0.length c0_0, .slice (some ad262) l0_1.length c0_1, .int .i64 a0_2, .int .i64 a0_3] 32 (0, 0)) (by (with_reducible repeat (first | refine blk_drewN ?_ _ | refine blk_drew ?_ | refine blk_alloc ?_ _)); exact BK245.out) hb)
          have n4_ := Aside0.mk (blk_below (g := gb263) (o := .cells #[.int .i64 ((rd_T36 l0_1 x27_1).f0), .int .i64 ((rd_T36 l0_1 x27_1).f1), .bool ((rd_T36 l0_1 x27_1).f2.f0), .int .i64 ((rd_T36 l0_1 x27_1).f2.f1), .string ((rd_T36 l0_1 x27_1).f2.f2), .bool ((rd_T36 l0_1 x27_1).f3.f0), .int .i64 ((rd_T36 l0_1 x27_1).f3.f1), .string ((rd_T36 l0_1 x27_1).f3.f2)] 36 (0, 0)) (by (with_reducible repeat (first | refine blk_drewN ?_ _ | refine blk_drew ?_ | refine blk_alloc ?_ _)); exact BK263.out) hb)
          have n5_ := Aside0.mk (below_step z6_ hb)
          clear HO266
          clear HO269
          clear BK245
          clear BK263
          clear HB
          have HO266 := n0_
          have HO269 := n1_
          have HO272 := n2_
          have BK245 := n3_
          have BK263 := n4_
          have HB := n5_
          clear n0_ n1_ n2_ n3_ n4_ n5_
          clear hb ho40
          refine hK.out _ _ ⟨(blk_cell BK263.out 0).trans rfl, (blk_cell BK263.out 1).trans rfl, (blk_cell BK263.out 2).trans rfl, (blk_cell BK263.out 3).trans rfl, (blk_cell BK263.out 4).trans rfl, (blk_cell BK263.out 5).trans rfl, (blk_cell BK263.out 6).trans rfl, (blk_cell BK263.out 7).trans rfl⟩ (fun hHeld => ?_)
          clear hK K
          refine norm_ (a' := ?_) ?_ ?_; rotate_left; (show Act.put _ (some 42) _ = _; simp only [PT_]; rfl)
          exact norm_ (by simp only [putAll, Act.put, List.setIfInBounds_toArray, List.set_cons_zero, List.set_cons_succ]) (hCont (.slice Ao37 y264.length co37, v268, v271) _ ⟨hHeld, (by (with_reducible repeat (first | apply Kd.R_alloc | apply Kd.R_drewN | apply Kd.R_drew)); exact HO266.out), (by (with_reducible repeat (first | apply Kd.R_alloc | apply Kd.R_drewN | apply Kd.R_drew)); exact HO269.out), (by (with_reducible repeat (first | apply Kd.R_alloc | apply Kd.R_drewN | apply Kd.R_drew)); exact HO272.out), (by (with_reducible repeat (first | refine blk_drewN ?_ _ | refine blk_drew ?_ | refine blk_alloc ?_ _)); exact BK245.out), (by (with_reducible repeat (first | refine blk_drewN ?_ _ | refine blk_drew ?_ | refine blk_alloc ?_ _)); exact BK263.out), z6_⟩)
         ·skip
          refine Kd.R_lit_step k34 _ 34 ?hg (N := 42) ?hd (xs := ([(⟨(rd_T36 l0_1 x27_1).f2.f0, (rd_T36 l0_1 x27_1).f2.f1, (rd_T36 l0_1 x27_1).f2.f2⟩ : S34), (⟨(rd_T36 l0_1 x27_1).f3.f0, (rd_T36 l0_1 x27_1).f3.f1, (rd_T36 l0_1 x27_1).f3.f2⟩ : S34)] : List (S34))) (inner := [.bool ((rd_T36 l0_1 x27_1).f2.f0), .int .i64 ((rd_T36 l0_1 x27_1).f2.f1), .string ((rd_T36 l0_1 x27_1).f2.f2), .bool ((rd_T36 l0_1 x27_1).f3.f0), .int .i64 ((rd_T36 l0_1 x27_1).f3.f1), .string ((rd_T36 l0_1 x27_1).f3.f2)]) (ok := fun _ => True) (okp := fun _ => True) ?hr ?hp (fun _ hk => hk) trivial (Below.refl _ _) (Nat.le_refl _) (by simp) ?_; (case hd => rfl); (case hg => rfl); (case hr => first | (go_simp; done) | (go_simp; rfl)); (case hp => exact (Reps.c3 (show Kd.M k34 _ _ _ (⟨(rd_T36 l0_1 x27_1).f2.f0, (rd_T36 l0_1 x27_1).f2.f1, (rd_T36 l0_1 x27_1).f2.f2⟩ : S34) [.bool ((rd_T36 l0_1 x27_1).f2.f0), .int .i64 ((rd_T36 l0_1 x27_1).f2.f1), .string ((rd_T36 l0_1 x27_1).f2.f2)] from (k34_mkM _ _ _ (⟨(rd_T36 l0_1 x27_1).f2.f0, (rd_T36 l0_1 x27_1).f2.f1, (rd_T36 l0_1 x27_1).f2.f2⟩ : S34) )) (Reps.c3 (show Kd.M k34 _ _ _ (⟨(rd_T36 l0_1 x27_1).f3.f0, (rd_T36 l0_1 x27_1).f3.f1, (rd_T36 l0_1 x27_1).f3.f2⟩ : S34) [.bool ((rd_T36 l0_1 x27_1).f3.f0), .int .i64 ((rd_T36 l0_1 x27_1).f3.f1), .string ((rd_T36 l0_1 x27_1).f3.f2)] from (k34_mkM _ _ _ (⟨(rd_T36 l0_1 x27_1).f3.f0, (rd_T36 l0_1 x27_1).f3.f1, (rd_T36 l0_1 x27_1).f3.f2⟩ : S34) )) (Reps.none _ _))))
          intro v271 w37 ho38 hb hg_ hnew_
          clear hg_ hnew_
          (first | rw [← Ny270.out] at ho38 | (simp only [Int.reduceToNat] at ho38; rw [← Ny270.out] at ho38))
          have n0_ := Aside0.mk (Kd.R_below (by (with_reducible repeat (first | apply Kd.R_alloc | apply Kd.R_drewN | apply Kd.R_drew)); exact HO_4.out) hb)
          have n1_ := Aside0.mk (Kd.R_below (by (with_reducible repeat (first | apply Kd.R_alloc | apply Kd.R_drewN | apply Kd.R_drew)); exact HO266.out) hb)
          have n2_ := Aside0.mk (Kd.R_lower ho38 (below_size z6_))
          have n3_ := Aside0.mk (blk_below (g := gb245) (o := .cells #[.slice A0_0 l0_0.length c0_0, .slice (some ad262) l0_1.length c0_1, .int .i64 a0_2, .int .i64 a0_3] 32 (0, 0)) (by (with_reducible repeat (first | refine blk_drewN ?_ _ | refine blk_drew ?_ | refine blk_alloc ?_ _)); exact BK245.out) hb)
          have n4_ := Aside0.mk (blk_below (g := gb263) (o := .cells #[.int .i64 ((rd_T36 l0_1 x27_1).f0), .int .i64 ((rd_T36 l0_1 x27_1).f1), .bool ((rd_T36 l0_1 x27_1).f2.f0), .int .i64 ((rd_T36 l0_1 x27_1).f2.f1), .string ((rd_T36 l0_1 x27_1).f2.f2), .bool ((rd_T36 l0_1 x27_1).f3.f0), .int .i64 ((rd_T36 l0_1 x27_1).f3.f1), .string ((rd_T36 l0_1 x27_1).f3.f2)] 36 (0, 0)) (by (with_reducible repeat (first | refine blk_drewN ?_ _ | refine blk_drew ?_ | refine blk_alloc ?_ _)); exact BK263.out) hb)
          have n5_ := Aside0.mk (below_step z6_ hb)
          clear HO_4
          clear HO266
          clear BK245
          clear BK263
          clear HB
          have HO_4 := n0_
          have HO266 := n1_
          have HO272 := n2_
          have BK245 := n3_
          have BK263 := n4_
          have HB := n5_
          clear n0_ n1_ n2_ n3_ n4_ n5_
          clear hb ho38
          obtain ⟨Ao39, co39, eo39⟩ := Kd.R_slice HO266.out
          (first | subst eo39 | (injection eo39 with f1_ f2_ f3_; have f4_ := f1_.symm; have f5_ := f3_.symm; clear f1_ f2_ f3_; subst f4_; subst f5_))
          refine hK.out _ _ ⟨(blk_cell BK263.out 0).trans rfl, (blk_cell BK263.out 1).trans rfl, (blk_cell BK263.out 2).trans rfl, (blk_cell BK263.out 3).trans rfl, (blk_cell BK263.out 4).trans rfl, (blk_cell BK263.out 5).trans rfl, (blk_cell BK263.out 6).trans rfl, (blk_cell BK263.out 7).trans rfl⟩ (fun hHeld => ?_)
          clear hK K
          refine norm_ (a' := ?_) ?_ ?_; rotate_left; (show Act.put _ (some 42) _ = _; simp only [PT_]; rfl)
          refine oA_ 6 (some 37) (bs_ 14 4095) HT_ (fun K hK => ?_)
          refine goes_ Try.func20 (by kernel_rfl) rfl #[.slice Ao32 x4_1.length co32, .slice Ao39 y264.length co39] (by rfl) rfl rfl (by (try simp only [List.map_toArray, List.map_cons, List.map_nil]); first | done | rfl | (simp only [List.length_drop, List.length_take]; rfl)) ?_
          with_reducible refine (manifest_nums.calls k1 (fun k_ => some k_ = (.slice Ao32 x4_1.length co32 : Value).ownBlock) (.slice Ao32 x4_1.length co32) x4_1 _ _ y264 t267 w _ ?side1 ?side2 ?side3 ?side4 A27.out).mono ?_
          (case side1 => repeat (first | (with_reducible first | exact HB.out | apply below_alloc | apply pw_below_drewN | apply below_drew1 | refine below_set ?_ GE245.out | refine below_set ?_ GE263.out) | exact HB.out))
          (case side2 => exact Kd.R_tight rfl HO_4.out)
          (case side3 => exact Kd.C_kept_own ((Kd.R_apart' HO266.out (Kd.R_typed HO_4.out) (by decide))) (fun k_ hk_ hs_ => (hk_.2) hs_))
          (case side4 => exact (Kd.R_reads' HO266.out).2.1)
          rintro e w40 ⟨v268, rfl, ho0, hb, hkp⟩
          refine ⟨_, rfl, ?_⟩
          have n0_ := Aside0.mk (blk_kept (by (with_reducible repeat (first | refine blk_drewN ?_ _ | refine blk_drew ?_ | refine blk_alloc ?_ _)); exact BK245.out) hkp (fun hs_ => (fun e_ => (Kd.R_ne HO_4.out BK245.out (by decide)) e_) hs_))
          have n1_ := Aside0.mk (blk_kept (by (with_reducible repeat (first | refine blk_drewN ?_ _ | refine blk_drew ?_ | refine blk_alloc ?_ _)); exact BK263.out) hkp (fun hs_ => (fun e_ => (Kd.R_ne HO_4.out BK263.out (by decide)) e_) hs_))
          have n2_ := Aside0.mk (Kd.R_mono (ok' := fun k_ => True) (Kd.R_keptB ((Kd.R_apart' HO266.out (Kd.R_typed HO_4.out) (by decide))) hkp (fun k_ hk_ hs_ => (hk_.2) hs_)) (fun k_ hk_ => trivial))
          have n3_ := Aside0.mk (Kd.R_mono (ok' := fun k_ => True) (Kd.R_keptB ((Kd.R_apart' HO272.out (Kd.R_typed HO_4.out) (by decide))) hkp (fun k_ hk_ hs_ => (hk_.2) hs_)) (fun k_ hk_ => trivial))
          have n4_ := Aside0.mk (Kd.R_mono (ok' := fun k_ => True) ho0 (fun k_ hk_ => trivial))
          have n5_ := Aside0.mk (hb)
          clear BK245
          clear BK263
          clear HO266
          clear HO272
          clear HB
          clear HO_4
          have BK245 := n0_
          have BK263 := n1_
          have HO266 := n2_
          have HO272 := n3_
          have HO269 := n4_
          have HB := n5_
          clear n0_ n1_ n2_ n3_ n4_ n5_
          (try clear hb)
          (try clear hkp)
          (try clear ho0)
          refine hK.out _ _ ⟨(blk_cell BK263.out 0).trans rfl, (blk_cell BK263.out 1).trans rfl, (blk_cell BK263.out 2).trans rfl, (blk_cell BK263.out 3).trans rfl, (blk_cell BK263.out 4).trans rfl, (blk_cell BK263.out 5).trans rfl, (blk_cell BK263.out 6).trans rfl, (blk_cell BK263.out 7).trans rfl⟩ (fun hHeld => ?_)
          clear hK K
          refine norm_ (a' := ?_) ?_ ?_; rotate_left; (show Act.put _ (some 37) _ = _; simp only [PT_]; rfl)
          exact norm_ (by simp only [putAll, Act.put, List.setIfInBounds_toArray, List.set_cons_zero, List.set_cons_succ]) (hCont (.slice Ao39 y264.length co39, v268, v271) _ ⟨hHeld, (by (with_reducible repeat (first | apply Kd.R_alloc | apply Kd.R_drewN | apply Kd.R_drew)); exact HO266.out), (by (with_reducible repeat (first | apply Kd.R_alloc | apply Kd.R_drewN | apply Kd.R_drew)); exact HO269.out), (by (with_reducible repeat (first | apply Kd.R_alloc | apply Kd.R_drewN | apply Kd.R_drew)); exact HO272.out), (by (with_reducible repeat (first | refine blk_drewN ?_ _ | refine blk_drew ?_ | refine blk_alloc ?_ _)); exact BK245.out), (by (with_reducible repeat (first | refine blk_drewN ?_ _ | refine blk_drew ?_ | refine blk_alloc ?_ _)); exact BK263.out), z6_⟩)
        ·skip
         refine Kd.R_lit_step k34 _ 34 ?hg (N := 42) ?hd (xs := ([(⟨(rd_T36 l0_1 x27_1).f2.f0, (rd_T36 l0_1 x27_1).f2.f1, (rd_T36 l0_1 x27_1).f2.f2⟩ : S34), (⟨(rd_T36 l0_1 x27_1).f3.f0, (rd_T36 l0_1 x27_1).f3.f1, (rd_T36 l0_1 x27_1).f3.f2⟩ : S34)] : List (S34))) (inner := [.bool ((rd_T36 l0_1 x27_1).f2.f0), .int .i64 ((rd_T36 l0_1 x27_1).f2.f1), .string ((rd_T36 l0_1 x27_1).f2.f2), .bool ((rd_T36 l0_1 x27_1).f3.f0), .int .i64 ((rd_T36 l0_1 x27_1).f3.f1), .string ((rd_T36 l0_1 x27_1).f3.f2)]) (ok := fun _ => True) (okp := fun _ => True) ?hr ?hp (fun _ hk => hk) trivial (Below.refl _ _) (Nat.le_refl _) (by simp) ?_; (case hd => rfl); (case hg => rfl); (case hr => first | (go_simp; done) | (go_simp; rfl)); (case hp => exact (Reps.c3 (show Kd.M k34 _ _ _ (⟨(rd_T36 l0_1 x27_1).f2.f0, (rd_T36 l0_1 x27_1).f2.f1, (rd_T36 l0_1 x27_1).f2.f2⟩ : S34) [.bool ((rd_T36 l0_1 x27_1).f2.f0), .int .i64 ((rd_T36 l0_1 x27_1).f2.f1), .string ((rd_T36 l0_1 x27_1).f2.f2)] from (k34_mkM _ _ _ (⟨(rd_T36 l0_1 x27_1).f2.f0, (rd_T36 l0_1 x27_1).f2.f1, (rd_T36 l0_1 x27_1).f2.f2⟩ : S34) )) (Reps.c3 (show Kd.M k34 _ _ _ (⟨(rd_T36 l0_1 x27_1).f3.f0, (rd_T36 l0_1 x27_1).f3.f1, (rd_T36 l0_1 x27_1).f3.f2⟩ : S34) [.bool ((rd_T36 l0_1 x27_1).f3.f0), .int .i64 ((rd_T36 l0_1 x27_1).f3.f1), .string ((rd_T36 l0_1 x27_1).f3.f2)] from (k34_mkM _ _ _ (⟨(rd_T36 l0_1 x27_1).f3.f0, (rd_T36 l0_1 x27_1).f3.f1, (rd_T36 l0_1 x27_1).f3.f2⟩ : S34) )) (Reps.none _ _))))
         intro v271 w35 ho36 hb hg_ hnew_
         clear hg_ hnew_
         (first | rw [← Ny270.out] at ho36 | (simp only [Int.reduceToNat] at ho36; rw [← Ny270.out] at ho36))
         have n0_ := Aside0.mk (Kd.R_below (by (with_reducible repeat (first | apply Kd.R_alloc | apply Kd.R_drewN | apply Kd.R_drew)); exact HO_4.out) hb)
         have n1_ := Aside0.mk (Kd.R_lower ho36 (below_size z6_))
         have n2_ := Aside0.mk (blk_below (g := gb245) (o := .cells #[.slice A0_0 l0_0.length c0_0, .slice (some ad262) l0_1.length c0_1, .int .i64 a0_2, .int .i64 a0_3] 32 (0, 0)) (by (with_reducible repeat (first | refine blk_drewN ?_ _ | refine blk_drew ?_ | refine blk_alloc ?_ _)); exact BK245.out) hb)
         have n3_ := Aside0.mk (blk_below (g := gb263) (o := .cells #[.int .i64 ((rd_T36 l0_1 x27_1).f0), .int .i64 ((rd_T36 l0_1 x27_1).f1), .bool ((rd_T36 l0_1 x27_1).f2.f0), .int .i64 ((rd_T36 l0_1 x27_1).f2.f1), .string ((rd_T36 l0_1 x27_1).f2.f2), .bool ((rd_T36 l0_1 x27_1).f3.f0), .int .i64 ((rd_T36 l0_1 x27_1).f3.f1), .string ((rd_T36 l0_1 x27_1).f3.f2)] 36 (0, 0)) (by (with_reducible repeat (first | refine blk_drewN ?_ _ | refine blk_drew ?_ | refine blk_alloc ?_ _)); exact BK263.out) hb)
         have n4_ := Aside0.mk (below_step z6_ hb)
         clear HO_4
         clear BK245
         clear BK263
         clear HB
         have HO_4 := n0_
         have HO272 := n1_
         have BK245 := n2_
         have BK263 := n3_
         have HB := n4_
         clear n0_ n1_ n2_ n3_ n4_
         clear hb ho36
         refine hK.out _ _ ⟨(blk_cell BK263.out 0).trans rfl, (blk_cell BK263.out 1).trans rfl, (blk_cell BK263.out 2).trans rfl, (blk_cell BK263.out 3).trans rfl, (blk_cell BK263.out 4).trans rfl, (blk_cell BK263.out 5).trans rfl, (blk_cell BK263.out 6).trans rfl, (blk_cell BK263.out 7).trans rfl⟩ (fun hHeld => ?_)
         clear hK K
         refine norm_ (a' := ?_) ?_ ?_; rotate_left; (show Act.put _ (some 42) _ = _; simp only [PT_]; rfl)
         refine oA_ 5 (some 36) (bs_ 14 4031) HT_ (fun K hK => ?_)
         refine Kd.R_lit_step (Kd.int .i64) _ 3 ?hg (N := 36) ?hd (xs := ([(rd_T36 l0_1 x27_1).f0, (rd_T36 l0_1 x27_1).f1] : List Int)) (inner := [.int .i64 ((rd_T36 l0_1 x27_1).f0), .int .i64 ((rd_T36 l0_1 x27_1).f1)]) (ok := fun _ => True) (okp := fun _ => True) ?hr ?hp (fun _ hk => hk) trivial (Below.refl _ _) (Nat.le_refl _) (by simp) ?_; (case hd => rfl); (case hg => rfl); (case hr => first | (go_simp; done) | (go_simp; rfl)); (case hp => exact (Reps.one (show Kd.M (Kd.int .i64) _ _ _ ((rd_T36 l0_1 x27_1).f0) [.int .i64 ((rd_T36 l0_1 x27_1).f0)] from rfl) (Reps.one (show Kd.M (Kd.int .i64) _ _ _ ((rd_T36 l0_1 x27_1).f1) [.int .i64 ((rd_T36 l0_1 x27_1).f1)] from rfl) (Reps.none _ _))))
         intro v265 w37 ho38 hb hg_ hnew_
         clear hg_ hnew_
         (first | rw [← Ny264.out] at ho38 | (simp only [Int.reduceToNat] at ho38; rw [← Ny264.out] at ho38))
         have n0_ := Aside0.mk (Kd.R_below (by (with_reducible repeat (first | apply Kd.R_alloc | apply Kd.R_drewN | apply Kd.R_drew)); exact HO_4.out) hb)
         have n1_ := Aside0.mk (Kd.R_below (by (with_reducible repeat (first | apply Kd.R_alloc | apply Kd.R_drewN | apply Kd.R_drew)); exact HO272.out) hb)
         have n2_ := Aside0.mk (Kd.R_lower ho38 (below_size z6_))
         have n3_ := Aside0.mk (blk_below (g := gb245) (o := .cells #[.slice A0_0 l0_0.length c0_0, .slice (some ad262) l0_1.length c0_1, .int .i64 a0_2, .int .i64 a0_3] 32 (0, 0)) (by (with_reducible repeat (first | refine blk_drewN ?_ _ | refine blk_drew ?_ | refine blk_alloc ?_ _)); exact BK245.out) hb)
         have n4_ := Aside0.mk (blk_below (g := gb263) (o := .cells #[.int .i64 ((rd_T36 l0_1 x27_1).f0), .int .i64 ((rd_T36 l0_1 x27_1).f1), .bool ((rd_T36 l0_1 x27_1).f2.f0), .int .i64 ((rd_T36 l0_1 x27_1).f2.f1), .string ((rd_T36 l0_1 x27_1).f2.f2), .bool ((rd_T36 l0_1 x27_1).f3.f0), .int .i64 ((rd_T36 l0_1 x27_1).f3.f1), .string ((rd_T36 l0_1 x27_1).f3.f2)] 36 (0, 0)) (by (with_reducible repeat (first | refine blk_drewN ?_ _ | refine blk_drew ?_ | refine blk_alloc ?_ _)); exact BK263.out) hb)
         have n5_ := Aside0.mk (below_step z6_ hb)
         clear HO_4
         clear HO272
         clear BK245
         clear BK263
         clear HB
         have HO_4 := n0_
         have HO272 := n1_
         have HO266 := n2_
         have BK245 := n3_
         have BK263 := n4_
         have HB := n5_
         clear n0_ n1_ n2_ n3_ n4_ n5_
         clear hb ho38
         obtain ⟨Ao39, co39, eo39⟩ := Kd.R_slice HO266.out
         (first | subst eo39 | (injection eo39 with f1_ f2_ f3_; have f4_ := f1_.symm; have f5_ := f3_.symm; clear f1_ f2_ f3_; subst f4_; subst f5_))
         refine hK.out _ _ ⟨(blk_cell BK263.out 0).trans rfl, (blk_cell BK263.out 1).trans rfl, (blk_cell BK263.out 2).trans rfl, (blk_cell BK263.out 3).trans rfl, (blk_cell BK263.out 4).trans rfl, (blk_cell BK263.out 5).trans rfl, (blk_cell BK263.out 6).trans rfl, (blk_cell BK263.out 7).trans rfl⟩ (fun hHeld => ?_)
         clear hK K
         refine norm_ (a' := ?_) ?_ ?_; rotate_left; (show Act.put _ (some 36) _ = _; simp only [PT_]; rfl)
         refine oA_ 6 (some 37) (bs_ 14 4095) HT_ (fun K hK => ?_)
         refine goes_ Try.func20 (by kernel_rfl) rfl #[.slice Ao32 x4_1.length co32, .slice Ao39 y264.length co39] (by rfl) rfl rfl (by (try simp only [List.map_toArray, List.map_cons, List.map_nil]); first | done | rfl | (simp only [List.length_drop, List.length_take]; rfl)) ?_
         with_reducible refine (manifest_nums.calls k1 (fun k_ => some k_ = (.slice Ao32 x4_1.length co32 : Value).ownBlock) (.slice Ao32 x4_1.length co32) x4_1 _ _ y264 t267 w _ ?side1 ?side2 ?side3 ?side4 A27.out).mono ?_
         (case side1 => repeat (first | (with_reducible first | exact HB.out | apply below_alloc | apply pw_below_drewN | apply below_drew1 | refine below_set ?_ GE245.out | refine below_set ?_ GE263.out) | exact HB.out))
         (case side2 => exact Kd.R_tight rfl HO_4.out)
         (case side3 => exact Kd.C_kept_own ((Kd.R_apart' HO266.out (Kd.R_typed HO_4.out) (by decide))) (fun k_ hk_ hs_ => (hk_.2) hs_))
         (case side4 => exact (Kd.R_reads' HO266.out).2.1)
         rintro e w40 ⟨v268, rfl, ho0, hb, hkp⟩
         refine ⟨_, rfl, ?_⟩
         have n0_ := Aside0.mk (blk_kept (by (with_reducible repeat (first | refine blk_drewN ?_ _ | refine blk_drew ?_ | refine blk_alloc ?_ _)); exact BK245.out) hkp (fun hs_ => (fun e_ => (Kd.R_ne HO_4.out BK245.out (by decide)) e_) hs_))
         have n1_ := Aside0.mk (blk_kept (by (with_reducible repeat (first | refine blk_drewN ?_ _ | refine blk_drew ?_ | refine blk_alloc ?_ _)); exact BK263.out) hkp (fun hs_ => (fun e_ => (Kd.R_ne HO_4.out BK263.out (by decide)) e_) hs_))
         have n2_ := Aside0.mk (Kd.R_mono (ok' := fun k_ => True) (Kd.R_keptB ((Kd.R_apart' HO272.out (Kd.R_typed HO_4.out) (by decide))) hkp (fun k_ hk_ hs_ => (hk_.2) hs_)) (fun k_ hk_ => trivial))
         have n3_ := Aside0.mk (Kd.R_mono (ok' := fun k_ => True) (Kd.R_keptB ((Kd.R_apart' HO266.out (Kd.R_typed HO_4.out) (by decide))) hkp (fun k_ hk_ hs_ => (hk_.2) hs_)) (fun k_ hk_ => trivial))
         have n4_ := Aside0.mk (Kd.R_mono (ok' := fun k_ => True) ho0 (fun k_ hk_ => trivial))
         have n5_ := Aside0.mk (hb)
         clear BK245
         clear BK263
         clear HO272
         clear HO266
         clear HB
         clear HO_4
         have BK245 := n0_
         have BK263 := n1_
         have HO272 := n2_
         have HO266 := n3_
         have HO269 := n4_
         have HB := n5_
         clear n0_ n1_ n2_ n3_ n4_ n5_
         (try clear hb)
         (try clear hkp)
         (try clear ho0)
         refine hK.out _ _ ⟨(blk_cell BK263.out 0).trans rfl, (blk_cell BK263.out 1).trans rfl, (blk_cell BK263.out 2).trans rfl, (blk_cell BK263.out 3).trans rfl, (blk_cell BK263.out 4).trans rfl, (blk_cell BK263.out 5).trans rfl, (blk_cell BK263.out 6).trans rfl, (blk_cell BK263.out 7).trans rfl⟩ (fun hHeld => ?_)
         clear hK K
         refine norm_ (a' := ?_) ?_ ?_; rotate_left; (show Act.put _ (some 37) _ = _; simp only [PT_]; rfl)
         exact norm_ (by simp only [putAll, Act.put, List.setIfInBounds_toArray, List.set_cons_zero, List.set_cons_succ]) (hCont (.slice Ao39 y264.length co39, v268, v271) _ ⟨hHeld, (by (with_reducible repeat (first | apply Kd.R_alloc | apply Kd.R_drewN | apply Kd.R_drew)); exact HO266.out), (by (with_reducible repeat (first | apply Kd.R_alloc | apply Kd.R_drewN | apply Kd.R_drew)); exact HO269.out), (by (with_reducible repeat (first | apply Kd.R_alloc | apply Kd.R_drewN | apply Kd.R_drew)); exact HO272.out), (by (with_reducible repeat (first | refine blk_drewN ?_ _ | refine blk_drew ?_ | refine blk_alloc ?_ _)); exact BK245.out), (by (with_reducible repeat (first | refine blk_drewN ?_ _ | refine blk_drew ?_ | refine blk_alloc ?_ _)); exact BK263.out), z6_⟩)
       rintro ⟨v265, v268, v271⟩ w41 ⟨hS_, h0_, h1_, h2_, h3_, h4_, h5_⟩
       have n0_ : Aside0 (Kd.R (Kd.int .i64) 3 w41 w.heap.size (fun _ => True) v265 y264) := ⟨h0_⟩
       have n1_ : Aside0 (Kd.R (Kd.int .u8) 5 w41 w.heap.size (fun _ => True) v268 t267) := ⟨h1_⟩
       have n2_ : Aside0 (Kd.R k34 34 w41 w.heap.size (fun _ => True) v271 y270) := ⟨h2_⟩
       have n3_ : Aside0 (w41.heap[gb245]? = some (.cells #[.slice A0_0 l0_0.length c0_0, .slice (some ad262) l0_1.length c0_1, .int .i64 a0_2, .int .i64 a0_3] 32 (0, 0))) := ⟨h3_⟩
       have n4_ : Aside0 (w41.heap[gb263]? = some (.cells #[.int .i64 ((rd_T36 l0_1 x27_1).f0), .int .i64 ((rd_T36 l0_1 x27_1).f1), .bool ((rd_T36 l0_1 x27_1).f2.f0), .int .i64 ((rd_T36 l0_1 x27_1).f2.f1), .string ((rd_T36 l0_1 x27_1).f2.f2), .bool ((rd_T36 l0_1 x27_1).f3.f0), .int .i64 ((rd_T36 l0_1 x27_1).f3.f1), .string ((rd_T36 l0_1 x27_1).f3.f2)] 36 (0, 0))) := ⟨h4_⟩
       have n5_ : Aside0 (Below w.heap.size w w41) := ⟨h5_⟩
       clear HO_4
       clear BK245
       clear BK263
       clear HB
       clear h0_ h1_ h2_ h3_ h4_ h5_
       have HO266 := n0_
       have HO269 := n1_
       have HO272 := n2_
       have BK245 := n3_
       have BK263 := n4_
       have HB := n5_
       clear n0_ n1_ n2_ n3_ n4_ n5_
       have hHeld : w41.cell? ⟨gb263, 0, none⟩ = some (.int .i64 ((rd_T36 l0_1 x27_1).f0)) ∧ w41.cell? ⟨gb263, 1, none⟩ = some (.int .i64 ((rd_T36 l0_1 x27_1).f1)) ∧ w41.cell? ⟨gb263, 2, none⟩ = some (.bool ((rd_T36 l0_1 x27_1).f2.f0)) ∧ w41.cell? ⟨gb263, 3, none⟩ = some (.int .i64 ((rd_T36 l0_1 x27_1).f2.f1)) ∧ w41.cell? ⟨gb263, 4, none⟩ = some (.string ((rd_T36 l0_1 x27_1).f2.f2)) ∧ w41.cell? ⟨gb263, 5, none⟩ = some (.bool ((rd_T36 l0_1 x27_1).f3.f0)) ∧ w41.cell? ⟨gb263, 6, none⟩ = some (.int .i64 ((rd_T36 l0_1 x27_1).f3.f1)) ∧ w41.cell? ⟨gb263, 7, none⟩ = some (.string ((rd_T36 l0_1 x27_1).f3.f2)) := hS_
       obtain ⟨Ao42, co42, eo42⟩ := Kd.R_slice HO269.out
       (first | subst eo42 | (injection eo42 with f1_ f2_ f3_; have f4_ := f1_.symm; have f5_ := f3_.symm; clear f1_ f2_ f3_; subst f4_; subst f5_))
       obtain ⟨Ao43, co43, eo43⟩ := Kd.R_slice HO272.out
       (first | subst eo43 | (injection eo43 with f1_ f2_ f3_; have f4_ := f1_.symm; have f5_ := f3_.symm; clear f1_ f2_ f3_; subst f4_; subst f5_))
       refine norm_ (a' := ?_) ?_ ?_
       rotate_left
       ·simp only [putAll, Act.put, List.setIfInBounds_toArray, List.set_cons_zero, List.set_cons_succ]
        rfl
       refine oA_ 12 (some 43) (bs_ 14 8191) HT_ (fun K hK => ?_)
       refine goes_ Try.func21 (by kernel_rfl) rfl #[.slice Ao42 t267.length co42, .slice Ao43 y270.length co43] (by rfl) rfl rfl (by (try simp only [List.map_toArray, List.map_cons, List.map_nil]); first | done | rfl | (simp only [List.length_drop, List.length_take]; rfl)) ?_
       with_reducible refine (manifest_bounds.calls k1 (fun k_ => some k_ = (.slice Ao42 t267.length co42 : Value).ownBlock) (.slice Ao42 t267.length co42) t267 _ _ y270 t273 w _ ?side1 ?side2 ?side3 ?side4 A28.out).mono ?_
       (case side1 => repeat (first | (with_reducible first | exact HB.out | apply below_alloc | apply pw_below_drewN | apply below_drew1 | refine below_set ?_ GE245.out | refine below_set ?_ GE263.out) | exact HB.out))
       (case side2 => exact Kd.R_tight rfl HO269.out)
       (case side3 => exact Kd.C_kept_own ((Kd.R_apart' HO272.out (Kd.R_typed HO269.out) (by decide))) (fun k_ hk_ hs_ => (hk_.2) hs_))
       (case side4 => exact (Kd.R_reads' HO272.out).2.1)
       rintro e w44 ⟨v274, rfl, ho0, hb, hkp⟩
       refine ⟨_, rfl, ?_⟩
       have n0_ := Aside0.mk (blk_kept (by (with_reducible repeat (first | refine blk_drewN ?_ _ | refine blk_drew ?_ | refine blk_alloc ?_ _)); exact BK245.out) hkp (fun hs_ => (fun e_ => (Kd.R_ne HO269.out BK245.out (by decide)) e_) hs_))
       have n1_ := Aside0.mk (blk_kept (by (with_reducible repeat (first | refine blk_drewN ?_ _ | refine blk_drew ?_ | refine blk_alloc ?_ _)); exact BK263.out) hkp (fun hs_ => (fun e_ => (Kd.R_ne HO269.out BK263.out (by decide)) e_) hs_))
       have n2_ := Aside0.mk (Kd.R_mono (ok' := fun k_ => True) (Kd.R_keptB ((Kd.R_apart' HO266.out (Kd.R_typed HO269.out) (by decide))) hkp (fun k_ hk_ hs_ => (hk_.2) hs_)) (fun k_ hk_ => trivial))
       have n3_ := Aside0.mk (Kd.R_mono (ok' := fun k_ => True) (Kd.R_keptB ((Kd.R_apart' HO272.out (Kd.R_typed HO269.out) (by decide))) hkp (fun k_ hk_ hs_ => (hk_.2) hs_)) (fun k_ hk_ => trivial))
       have n4_ := Aside0.mk (Kd.R_mono (ok' := fun k_ => True) ho0 (fun k_ hk_ => trivial))
       have n5_ := Aside0.mk (hb)
       clear BK245
       clear BK263
       clear HO266
       clear HO272
       clear HB
       clear HO269
       have BK245 := n0_
       have BK263 := n1_
       have HO266 := n2_
       have HO272 := n3_
       have HO275 := n4_
       have HB := n5_
       clear n0_ n1_ n2_ n3_ n4_ n5_
       (try clear hb)
       (try clear hkp)
       (try clear ho0)
       refine hK.out _ _ ⟨(blk_cell BK263.out 0).trans rfl, (blk_cell BK263.out 1).trans rfl, (blk_cell BK263.out 2).trans rfl, (blk_cell BK263.out 3).trans rfl, (blk_cell BK263.out 4).trans rfl, (blk_cell BK263.out 5).trans rfl, (blk_cell BK263.out 6).trans rfl, (blk_cell BK263.out 7).trans rfl⟩ (fun hHeld => ?_)
       clear hK K
       refine norm_ (a' := ?_) ?_ ?_; rotate_left; (show Act.put _ (some 43) _ = _; simp only [PT_]; rfl)
       refine pA_ 13 (some 4) (bs_ 14 16383) HT_ ?_ ?_ ?_ ?_ ?_
       rotate_left; (intro w'; go_simp; with_reducible rfl); rotate_left; (simp only [PT_]; rfl)
       refine done_ (done_of HT_.out (by kernel_rfl)) ?_
       try go_wp2
       go_roundg k1
       case measure => have := HK1.out; omega
       case rel => exact ⟨(t273), (wrap64 (x27_1 + 1)), z4_, H', ⟨by have := HK1.out; omega⟩, ⟨by (with_reducible repeat (first | apply Kd.R_alloc | apply Kd.R_drewN | apply Kd.R_drew)); exact HO275.out⟩, ⟨by (with_reducible repeat (first | refine blk_drewN ?_ _ | refine blk_drew ?_ | refine blk_alloc ?_ _)); exact BK245.out⟩, ⟨z6_⟩⟩
      ·rw [if_neg c26] at H
       exact absurd H (by simp)
     ·rw [if_neg c25] at H
      exact absurd H (by simp)
    ·rw [if_neg c24] at H
     have c24b0 : decide (x27_1 < (l0_1.length : Int)) = false := decide_eq_false c24
     clear c24
     obtain ⟨y276, hy276⟩ : ∃ y_ : List Int, y_ = (([a0_2, a0_3] : List Int)) := ⟨_, rfl⟩
     replace H : ((manifest_nums.f k1 x4_1 y276).bind fun t279 => ((frame_Write.f k1 (strOfNums t279)).bind fun t282 => (some (t282, 0)))) = some (r1, r2) := by first | (rw [hy276]; with_reducible exact H) | (have H2_ := (Option.bind_some _ _).symm.trans H; rw [hy276]; with_reducible exact H2_) | (have H2_ := (Option.bind_some _ _).symm.trans H; with_reducible exact H2_) | with_reducible exact H | (rw [hy276]; exact H) | exact H
     have Ny276 := Aside0.mk hy276
     clear hy276
     replace H := Option.bind_eq_some_iff.mp H
     obtain ⟨t279, A450, H⟩ := H
     replace H : ((frame_Write.f k1 (strOfNums t279)).bind fun t282 => (some (t282, 0))) = some (r1, r2) := H
     have A45 := Aside0.mk A450
     clear A450
     replace H := Option.bind_eq_some_iff.mp H
     obtain ⟨t282, A460, H⟩ := H
     replace H : (some (t282, 0)) = some (r1, r2) := H
     have A46 := Aside0.mk A460
     clear A460
     simp only [Option.some.injEq, Prod.mk.injEq] at H
     obtain ⟨rfl, rfl⟩ := H
     have hcz47_0 : wr.cell? ⟨gb245, 0, none⟩ = some (.slice A0_0 l0_0.length c0_0) := (blk_cell BK245.out 0).trans rfl
     have hcz47_1 : wr.cell? ⟨gb245, 1, none⟩ = some (.slice A0_1 l0_1.length c0_1) := (blk_cell BK245.out 1).trans rfl
     have hcz47_2 : wr.cell? ⟨gb245, 2, none⟩ = some (.int .i64 a0_2) := (blk_cell BK245.out 2).trans rfl
     have hcz47_3 : wr.cell? ⟨gb245, 3, none⟩ = some (.int .i64 a0_3) := (blk_cell BK245.out 3).trans rfl
     have hfz47_0 := blk_frozen BK245.out 0
     have hfz47_1 := blk_frozen BK245.out 1
     have hfz47_2 := blk_frozen BK245.out 2
     have hfz47_3 := blk_frozen BK245.out 3
     go_wp2_with (first | ((with_reducible refine gate_dst (N := 50) rfl ?_); refine Kd.R_lit (Kd.int .i64) _ 3 ?hg (N := 50) ?hd (xs := ([a0_2, a0_3] : List Int)) (inner := [.int .i64 a0_2, .int .i64 a0_3]) (ok := fun _ => True) (okp := fun _ => True) ?hr ?hp (fun _ hk => hk) trivial (Below.refl _ _) (Nat.le_refl _) (by simp) ?_; (case hd => rfl); (case hg => rfl); (case hr => first | (go_simp; done) | (go_simp; rfl)); (case hp => exact (Reps.one (show Kd.M (Kd.int .i64) _ _ _ a0_2 [.int .i64 a0_2] from rfl) (Reps.one (show Kd.M (Kd.int .i64) _ _ _ a0_3 [.int .i64 a0_3] from rfl) (Reps.none _ _)))); intro v277 w48 ho49 hb hg_ hnew_; clear hg_ hnew_; (first | rw [← Ny276.out] at ho49 | (simp only [Int.reduceToNat] at ho49; rw [← Ny276.out] at ho49)); have n0_ := Aside0.mk (Kd.R_below (by (with_reducible repeat (first | apply Kd.R_alloc | apply Kd.R_drewN | apply Kd.R_drew)); exact HO_4.out) hb); have n1_ := Aside0.mk (Kd.R_lower ho49 (below_size z7_)); have n2_ := Aside0.mk (blk_below (g := gb245) (o := .cells #[.slice A0_0 l0_0.length c0_0, .slice A0_1 l0_1.length c0_1, .int .i64 a0_2, .int .i64 a0_3] 32 (0, 0)) (by (with_reducible repeat (first | refine blk_drewN ?_ _ | refine blk_drew ?_ | refine blk_alloc ?_ _)); exact BK245.out) hb); have n3_ := Aside0.mk (below_step z7_ hb); clear HO_4; clear BK245; clear HB; have HO_4 := n0_; have HO278 := n1_; have BK245 := n2_; have HB := n3_; clear n0_ n1_ n2_ n3_; clear hb ho49; obtain ⟨Ao50, co50, eo50⟩ := Kd.R_slice HO_4.out; subst eo50; obtain ⟨Ao51, co51, eo51⟩ := Kd.R_slice HO278.out; subst eo51) | ((with_reducible refine gate_callee (f := 20) rfl ?_); refine goesL_ (some 51) rfl rfl Try.func20 (by kernel_rfl) rfl #[.slice Ao50 x4_1.length co50, .slice Ao51 y276.length co51] rfl (by (try simp only [List.map_toArray, List.map_cons, List.map_nil]); first | done | rfl | (simp only [List.length_drop, List.length_take]; rfl) | (go_simp; simp [IntKind.wrap, IntKind.bits, IntKind.signed]; omega)) ?_; (with_reducible refine (manifest_nums.calls k1 (fun k_ => some k_ = (.slice Ao50 x4_1.length co50 : Value).ownBlock) (.slice Ao50 x4_1.length co50) x4_1 _ _ y276 t279 w _ ?side1 ?side2 ?side3 ?side4 A45.out).mono ?_); (case side1 => repeat (first | (with_reducible first | exact HB.out | apply below_alloc | apply pw_below_drewN | apply below_drew1 | refine below_set ?_ GE245.out) | exact HB.out)); (case side2 => exact Kd.R_tight rfl HO_4.out); (case side3 => exact Kd.C_kept_own ((Kd.R_apart' HO278.out (Kd.R_typed HO_4.out) (by decide))) (fun k_ hk_ hs_ => (hk_.2) hs_)); (case side4 => exact (Kd.R_reads' HO278.out).2.1); rintro e w52 ⟨v280, rfl, ho0, hb, hkp⟩; refine ⟨_, rfl, ?_⟩; have n0_ := Aside0.mk (blk_kept (by (with_reducible repeat (first | refine blk_drewN ?_ _ | refine blk_drew ?_ | refine blk_alloc ?_ _)); exact BK245.out) hkp (fun hs_ => (fun e_ => (Kd.R_ne HO_4.out BK245.out (by decide)) e_) hs_)); have n1_ := Aside0.mk (Kd.R_mono (ok' := fun k_ => True) (Kd.R_keptB ((Kd.R_apart' HO278.out (Kd.R_typed HO_4.out) (by decide))) hkp (fun k_ hk_ hs_ => (hk_.2) hs_)) (fun k_ hk_ => trivial)); have n2_ := Aside0.mk (Kd.R_mono (ok' := fun k_ => True) ho0 (fun k_ hk_ => trivial)); have n3_ := Aside0.mk (hb); clear BK245; clear HO278; clear HB; clear HO_4; have BK245 := n0_; have HO278 := n1_; have HO281 := n2_; have HB := n3_; clear n0_ n1_ n2_ n3_; (try clear hb); (try clear hkp); (try clear ho0); have hcv53 := own_string (P := Try.prog) Try.underlying51 Try.underlying5 Try.underlying9 (Kd.own_of_R HO281.out)) | ((with_reducible refine gate_callee (f := 22) rfl ?_); refine goesL_ (some 53) rfl rfl Try.func22 (by kernel_rfl) rfl #[.string (strOfNums t279)] rfl (by (try simp only [List.map_toArray, List.map_cons, List.map_nil]); first | done | rfl | (simp only [List.length_drop, List.length_take]; rfl) | (go_simp; simp [IntKind.wrap, IntKind.bits, IntKind.signed]; omega)) ?_; (with_reducible refine (frame_Write.calls k1 (strOfNums t279) t282 _ A46.out).mono ?_); rintro e w54 ⟨rfl, hb⟩; refine ⟨_, rfl, ?_⟩; have n0_ := Aside0.mk (Kd.R_below (by (with_reducible repeat (first | apply Kd.R_alloc | apply Kd.R_drewN | apply Kd.R_drew)); exact HO278.out) hb); have n1_ := Aside0.mk (Kd.R_below (by (with_reducible repeat (first | apply Kd.R_alloc | apply Kd.R_drewN | apply Kd.R_drew)); exact HO281.out) hb); have n2_ := Aside0.mk (blk_below (g := gb245) (o := .cells #[.slice A0_0 l0_0.length c0_0, .slice A0_1 l0_1.length c0_1, .int .i64 a0_2, .int .i64 a0_3] 32 (0, 0)) (by (with_reducible repeat (first | refine blk_drewN ?_ _ | refine blk_drew ?_ | refine blk_alloc ?_ _)); exact BK245.out) hb); have n3_ := Aside0.mk (below_step z7_ hb); clear HO278; clear HO281; clear BK245; clear HB; have HO278 := n0_; have HO281 := n1_; have BK245 := n2_; have HB := n3_; clear n0_ n1_ n2_ n3_; (try clear hb); (try clear hb2); (try clear hk); (try clear hi)))
     go_ret2
     exact ⟨z2_, z7_⟩
 ·replace c3 := Bool.eq_false_iff.mpr c3
  subst c3
  have H1 : (some ((⟨#[]⟩ : ByteArray), 1)) = some (r1, r2) := by rw [if_neg (show ¬ (false = true) by decide)] at H; exact H
  clear H
  have H := H1
  clear H1
  simp only [Option.some.injEq, Prod.mk.injEq] at H
  obtain ⟨rfl, rfl⟩ := H
  go_enter Try.func12, Try.ntmps12
  go_wp2_with (first | ((with_reducible refine gate_dst (N := 1) rfl ?_); refine box_event ?hg (N := 1) ?hd (cs := #[.slice A0_0 l0_0.length c0_0, .slice A0_1 l0_1.length c0_1, .int .i64 a0_2, .int .i64 a0_3]) (t := 32) ?hr ?_; (case hd => rfl); (case hg => rfl); (case hr => first | (go_simp; done) | (go_simp; rfl)); intro gb245 hg w55 hbox hb; have n0_ := Aside0.mk (below_step z0_ hb); have n1_ := Aside0.mk (hbox); have n2_ := Aside0.mk ((by rw [hg]; exact (below_size z0_) : w.heap.size ≤ gb245)); have n3_ := Aside0.mk ((by rw [hg]; exact (below_size z0_) : w.heap.size ≤ gb245)); clear HB; have HB := n0_; have BK245 := n1_; have GW245 := n2_; have GE245 := n3_; clear n0_ n1_ n2_ n3_; clear hb hbox hg; have hcz56_0 : w55.cell? ⟨gb245, 0, none⟩ = some (.slice A0_0 l0_0.length c0_0) := (blk_cell BK245.out 0).trans rfl; have hcz56_1 : w55.cell? ⟨gb245, 1, none⟩ = some (.slice A0_1 l0_1.length c0_1) := (blk_cell BK245.out 1).trans rfl; have hcz56_2 : w55.cell? ⟨gb245, 2, none⟩ = some (.int .i64 a0_2) := (blk_cell BK245.out 2).trans rfl; have hcz56_3 : w55.cell? ⟨gb245, 3, none⟩ = some (.int .i64 a0_3) := (blk_cell BK245.out 3).trans rfl; have hfz56_0 := blk_frozen BK245.out 0; have hfz56_1 := blk_frozen BK245.out 1; have hfz56_2 := blk_frozen BK245.out 2; have hfz56_3 := blk_frozen BK245.out 3) | ((with_reducible refine gate_callee (f := 18) rfl ?_); refine goesL_ (some 8) rfl rfl Try.func18 (by kernel_rfl) rfl #[.agg #[.slice A0_0 l0_0.length c0_0, .slice A0_1 l0_1.length c0_1, .int .i64 a0_2, .int .i64 a0_3]] rfl (by (try simp only [List.map_toArray, List.map_cons, List.map_nil]); first | done | rfl | (simp only [List.length_drop, List.length_take]; rfl) | (go_simp; simp [IntKind.wrap, IntKind.bits, IntKind.signed]; omega)) ?_; (with_reducible refine (manifest_right.calls _ _ l0_0 _ _ l0_1 a0_2 a0_3 false _ ?side1 ?side2 ?side3 ?side4 A2.out).mono ?_); (case side1 => repeat (first | exact (Kd.C_below HR0_0.out HB.out) | (with_reducible refine Kd.C_alloc ?_ _) | (with_reducible refine Kd.C_drewN ?_ _) | (with_reducible refine Kd.C_drew ?_))); (case side2 => exact HC0_0.out); (case side3 => repeat (first | exact (Kd.C_below HR0_1.out HB.out) | (with_reducible refine Kd.C_alloc ?_ _) | (with_reducible refine Kd.C_drewN ?_ _) | (with_reducible refine Kd.C_drew ?_))); (case side4 => exact HC0_1.out); rintro e w57 ⟨rfl, hb⟩; refine ⟨_, rfl, ?_⟩; have n0_ := Aside0.mk (blk_below (g := gb245) (o := .cells #[.slice A0_0 l0_0.length c0_0, .slice A0_1 l0_1.length c0_1, .int .i64 a0_2, .int .i64 a0_3] 32 (0, 0)) (by (with_reducible repeat (first | refine blk_drewN ?_ _ | refine blk_drew ?_ | refine blk_alloc ?_ _)); exact BK245.out) hb); have n1_ := Aside0.mk (below_step z7_ hb); clear BK245; clear HB; have BK245 := n0_; have HB := n1_; clear n0_ n1_; (try clear hb); (try clear hb2); (try clear hk); (try clear hi)))
  go_ret2
  exact ⟨z2_, z7_⟩
def tithebarnref16_number.f (a0 : Int) : Option (Bool) := if a0 ≥ 0 then (some (decide (a0 ≤ 999999999))) else (some false)
set_option maxHeartbeats 8000000 in
set_option maxRecDepth 100000 in
theorem tithebarnref16_number.calls (a0 : Int) (r : Bool) (w : World) (h : tithebarnref16_number.f a0 = some r) :
  Calls Try.prog 43 #[.int .i64 a0] w fun e w' => e = .returned (.bool r) ∧ Drawn0 w w' := by
 have H : (if a0 ≥ 0 then (some (decide (a0 ≤ 999999999))) else (some false)) = some r := h
 clear h
 by_cases c2 : a0 ≥ 0
 ·rw [if_pos c2] at H
  have c2b0 : decide (0 ≤ a0) = true := decide_eq_true c2
  clear c2
  obtain rfl := Option.some.inj H
  go_enter Try.func43, Try.ntmps43
  go_wp2
  go_ret
  exact ⟨z4_, z11_⟩
 ·rw [if_neg c2] at H
  have c2b0 : decide (0 ≤ a0) = false := decide_eq_false c2
  clear c2
  obtain rfl := Option.some.inj H
  go_enter Try.func43, Try.ntmps43
  go_wp2
  go_ret
  exact ⟨z4_, z11_⟩
end Go.Proofs.Ytagokgijffpdnaa.G
namespace Go.Proofs.Ytagokgijffpdnaa.G
open Go.RowKit Go.Proofs.YtagokgijffpdnaaQ Go.Proofs.YtagokgijffpdnaaW.PrintWords Go.Proofs.YtagokgijffpdnaaW.PrintLast Go.Proofs.YtagokgijffpdnaaW.PrintMore
attribute [local go_sem] max2_int min2_int max_two min_two max_three min_three max_four min_four   -- for this text's walks alone
set_option linter.unusedVariables false
set_option linter.unusedSimpArgs false
def tithebarnref16_key.f (a0_0 : Bool) (a0_1 : Int) (a0_2 : ByteArray) : Option (Bool) := if a0_0 = true then (some false) else (some (decide ((a0_2.size : Int) ≤ 64)))
set_option maxHeartbeats 8000000 in
set_option maxRecDepth 100000 in
theorem tithebarnref16_key.calls (a0_0 : Bool) (a0_1 : Int) (a0_2 : ByteArray) (r : Bool) (w : World) (h : tithebarnref16_key.f a0_0 a0_1 a0_2 = some r) :
  Calls Try.prog 65 #[.agg #[.bool a0_0, .int .i64 a0_1, .string a0_2]] w fun e w' => e = .returned (.bool r) ∧ Below w.heap.size w w' := by
 have hu34 := Try.underlying34
 have HB := Aside0.mk (Below.refl w.heap.size w)
 have H : (if a0_0 = true then (some false) else (some (decide ((a0_2.size : Int) ≤ 64)))) = some r := h
 clear h
 by_cases c2 : a0_0 = true
 ·subst c2
  have H1 : (some false) = some r := by rw [if_pos rfl] at H; exact H
  clear H
  have H := H1
  clear H1
  obtain rfl := Option.some.inj H
  go_enter Try.func65, Try.ntmps65
  go_wp2_with (first | ((with_reducible refine gate_dst (N := 1) rfl ?_); (try (refine gate_guard (by rfl) ?_; dsimp only)); refine box_event ?hg (N := 1) ?hd (cs := #[.bool true, .int .i64 a0_1, .string a0_2]) (t := 34) ?hr ?_; (case hd => rfl); (case hg => rfl); (case hr => first | (go_simp; done) | (go_simp; rfl)); intro gb283 hg w3 hbox hb; have n0_ := Aside0.mk (below_step z0_ hb); have n1_ := Aside0.mk (hbox); have n2_ := Aside0.mk ((by rw [hg]; exact (below_size z0_) : w.heap.size ≤ gb283)); have n3_ := Aside0.mk ((by rw [hg]; exact (below_size z0_) : w.heap.size ≤ gb283)); clear HB; have HB := n0_; have BK283 := n1_; have GW283 := n2_; have GE283 := n3_; clear n0_ n1_ n2_ n3_; clear hb hbox hg; have hcz4_0 : w3.cell? ⟨gb283, 0, none⟩ = some (.bool true) := (blk_cell BK283.out 0).trans rfl; have hcz4_1 : w3.cell? ⟨gb283, 1, none⟩ = some (.int .i64 a0_1) := (blk_cell BK283.out 1).trans rfl; have hcz4_2 : w3.cell? ⟨gb283, 2, none⟩ = some (.string a0_2) := (blk_cell BK283.out 2).trans rfl; have hfz4_0 := blk_frozen BK283.out 0; have hfz4_1 := blk_frozen BK283.out 1; have hfz4_2 := blk_frozen BK283.out 2))
  go_ret
  exact ⟨z2_, by repeat (first | (with_reducible first | exact HB.out | apply below_alloc | apply pw_below_drewN | apply below_drew1 | refine below_set ?_ GE283.out) | exact HB.out)⟩
 ·replace c2 := Bool.eq_false_iff.mpr c2
  subst c2
  have H1 : (some (decide ((a0_2.size : Int) ≤ 64))) = some r := by rw [if_neg (show ¬ (false = true) by decide)] at H; exact H
  clear H
  have H := H1
  clear H1
  obtain rfl := Option.some.inj H
  go_enter Try.func65, Try.ntmps65
  go_wp2_with (first | ((with_reducible refine gate_dst (N := 1) rfl ?_); (try (refine gate_guard (by rfl) ?_; dsimp only)); refine box_event ?hg (N := 1) ?hd (cs := #[.bool false, .int .i64 a0_1, .string a0_2]) (t := 34) ?hr ?_; (case hd => rfl); (case hg => rfl); (case hr => first | (go_simp; done) | (go_simp; rfl)); intro gb283 hg w5 hbox hb; have n0_ := Aside0.mk (below_step z0_ hb); have n1_ := Aside0.mk (hbox); have n2_ := Aside0.mk ((by rw [hg]; exact (below_size z0_) : w.heap.size ≤ gb283)); have n3_ := Aside0.mk ((by rw [hg]; exact (below_size z0_) : w.heap.size ≤ gb283)); clear HB; have HB := n0_; have BK283 := n1_; have GW283 := n2_; have GE283 := n3_; clear n0_ n1_ n2_ n3_; clear hb hbox hg; have hcz6_0 : w5.cell? ⟨gb283, 0, none⟩ = some (.bool false) := (blk_cell BK283.out 0).trans rfl; have hcz6_1 : w5.cell? ⟨gb283, 1, none⟩ = some (.int .i64 a0_1) := (blk_cell BK283.out 1).trans rfl; have hcz6_2 : w5.cell? ⟨gb283, 2, none⟩ = some (.string a0_2) := (blk_cell BK283.out 2).trans rfl; have hfz6_0 := blk_frozen BK283.out 0; have hfz6_1 := blk_frozen BK283.out 1; have hfz6_2 := blk_frozen BK283.out 2))
  go_ret
  exact ⟨z2_, by repeat (first | (with_reducible first | exact HB.out | apply below_alloc | apply pw_below_drewN | apply below_drew1 | refine below_set ?_ GE283.out) | exact HB.out)⟩
mutual
def tithebarnref02_ahead.l0 : Nat → ByteArray → ByteArray → Int → Option (Bool)
 | 0, _, _, _ => none
 | k + 1, x0, x1, x5 => if x5 < (x0.size : Int) then (tithebarnref02_ahead.j1 k x0 x1 x5 (decide (x5 < (x1.size : Int)))) else (tithebarnref02_ahead.j1 k x0 x1 x5 false)
def tithebarnref02_ahead.j1 : Nat → ByteArray → ByteArray → Int → Bool → Option (Bool)
 | 0, _, _, _, _ => none
 | k + 1, x0, x1, x5, x15 => if x15 = true then (if 0 ≤ x5 then (if x5 < (x0.size : Int) then (if x5 < (x1.size : Int) then (if (bt x0 x5) = (bt x1 x5) then (tithebarnref02_ahead.l0 k x0 x1 (wrap64 (x5 + 1))) else (some (decide ((bt x0 x5) < (bt x1 x5))))) else (none)) else (none)) else (none)) else (some (decide ((x0.size : Int) < (x1.size : Int))))
end
def tithebarnref02_ahead.f (k : Nat) (a0 : ByteArray) (a1 : ByteArray) : Option (Bool) := tithebarnref02_ahead.l0 k a0 a1 0
theorem tithebarnref02_ahead.mono_l : ∀ k, (∀ y0 y1 y2, LeO (tithebarnref02_ahead.l0 k y0 y1 y2) (tithebarnref02_ahead.l0 (k + 1) y0 y1 y2)) ∧ (∀ y0 y1 y2 y3, LeO (tithebarnref02_ahead.j1 k y0 y1 y2 y3) (tithebarnref02_ahead.j1 (k + 1) y0 y1 y2 y3))
 | 0 => ⟨fun _ _ _ r h => by simp [tithebarnref02_ahead.l0] at h, fun _ _ _ _ r h => by simp [tithebarnref02_ahead.j1] at h⟩
 | k + 1 => by
  obtain ⟨ih0, ih1⟩ := tithebarnref02_ahead.mono_l k
  refine ⟨?_, ?_⟩
  ·intro y0 y1 y2
   unfold tithebarnref02_ahead.l0
   repeat' first
   | (with_reducible exact ih0 _ _ _)
   | (with_reducible exact ih1 _ _ _ _)
   | (with_reducible exact LeO.refl _)
   | (with_reducible exact LeO.none _)
   | (with_reducible refine LeO.ite ?_ ?_)
   | (with_reducible refine LeO.bind ?_ (fun _ => ?_))
   | exact ih0 _ _ _
   | exact ih1 _ _ _ _
   | exact LeO.none _
   | refine LeO.ite ?_ ?_
   | refine LeO.bind ?_ (fun _ => ?_)
  ·intro y0 y1 y2 y3
   unfold tithebarnref02_ahead.j1
   repeat' first
   | (with_reducible exact ih0 _ _ _)
   | (with_reducible exact ih1 _ _ _ _)
   | (with_reducible exact LeO.refl _)
   | (with_reducible exact LeO.none _)
   | (with_reducible refine LeO.ite ?_ ?_)
   | (with_reducible refine LeO.bind ?_ (fun _ => ?_))
   | exact ih0 _ _ _
   | exact ih1 _ _ _ _
   | exact LeO.none _
   | refine LeO.ite ?_ ?_
   | refine LeO.bind ?_ (fun _ => ?_)
theorem tithebarnref02_ahead.mono : ∀ a0 a1 k, LeO (tithebarnref02_ahead.f k a0 a1) (tithebarnref02_ahead.f (k + 1) a0 a1) := by
 intro a0 a1 k
 obtain ⟨ih0, ih1⟩ := tithebarnref02_ahead.mono_l k
 unfold tithebarnref02_ahead.f
 repeat' first
   | (with_reducible exact ih0 _ _ _)
   | (with_reducible exact ih1 _ _ _ _)
   | (with_reducible exact LeO.refl _)
   | (with_reducible exact LeO.none _)
   | (with_reducible refine LeO.ite ?_ ?_)
   | (with_reducible refine LeO.bind ?_ (fun _ => ?_))
   | exact ih0 _ _ _
   | exact ih1 _ _ _ _
   | exact LeO.none _
   | refine LeO.ite ?_ ?_
   | refine LeO.bind ?_ (fun _ => ?_)
set_option maxHeartbeats 8000000 in
set_option maxRecDepth 100000 in
theorem tithebarnref02_ahead.calls (k : Nat) (a0 : ByteArray) (a1 : ByteArray) (r : Bool) (w : World) (h : tithebarnref02_ahead.f k a0 a1 = some r) :
  Calls Try.prog 81 #[.string a0, .string a1] w fun e w' => e = .returned (.bool r) ∧ Drawn0 w w' := by
 have H : (tithebarnref02_ahead.l0 k a0 a1 0) = some r := h
 clear h
 have H' := Aside0.mk H
 clear H
 go_enter Try.func81, Try.ntmps81
 go_wp2
 repeat (go_quiet (fail); try go_wp2)
 go_loopg [5] k (fun kq v5 w' => ∃ (x5_1 : Int), v5 = .int .i64 x5_1 ∧ Aside0 (tithebarnref02_ahead.l0 kq a0 a1 x5_1 = some r) ∧ Aside0 (kq ≤ k) ∧ Drawn0 w w')
 case atStart => exact ⟨(0), z4_, H', ⟨Nat.le_refl _⟩, z11_⟩
 case round =>
  clear H'
  try clear p2
  obtain ⟨x5_1, rfl, HA, HK1, ⟨m1, rfl⟩⟩ := hrel
  cases gk with
  | zero => exact absurd HA.out (by simp [tithebarnref02_ahead.l0])
  | succ k1 =>
   have H := HA.out
   clear HA
   simp only [tithebarnref02_ahead.l0] at H
   have HC3 := Aside0.mk H
   clear H
   go_upto_region 2 with (fail)
   repeat (go_quiet (fail); go_upto_region 2 with (fail))
   go_cut [15] (fun v15 wc => ∃ (kq : Nat) (x15_2 : Bool), v15 = .bool x15_2 ∧ Aside0 (tithebarnref02_ahead.j1 kq a0 a1 x5_1 x15_2 = some r) ∧ Aside0 (kq ≤ k1) ∧ Drawn0 w wc)
   case first =>
    have H := HC3.out
    clear HC3
    by_cases c4 : x5_1 < (a0.size : Int)
    ·rw [if_pos c4] at H
     have c4b0 : decide (x5_1 < (a0.size : Int)) = true := decide_eq_true c4
     clear c4
     (first | rw [c4b0] | (simp only [i64_w, i32_w]; rw [c4b0]) | skip)
     have H' := Aside0.mk H
     clear H
     go_wp2
     repeat (go_quiet (fail); try go_wp2)
     go_meet
     case rel => exact ⟨_, (decide (x5_1 < (a1.size : Int))), z4_, H', ⟨by have := HK1.out; first | omega | exact Nat.le_refl _⟩, z11_⟩
    ·rw [if_neg c4] at H
     have c4b0 : decide (x5_1 < (a0.size : Int)) = false := decide_eq_false c4
     clear c4
     (first | rw [c4b0] | (simp only [i64_w, i32_w]; rw [c4b0]) | skip)
     have H' := Aside0.mk H
     clear H
     go_wp2
     repeat (go_quiet (fail); try go_wp2)
     go_meet
     case rel => exact ⟨_, (false), z4_, H', ⟨by have := HK1.out; first | omega | exact Nat.le_refl _⟩, z11_⟩
   case rest =>
    clear HC3
    try clear p2
    try clear c4
    try clear c4b0
    try clear p2
    obtain ⟨kq, x15_2, rfl, HA, HJ2, ⟨mc2, rfl⟩⟩ := hcut
    cases kq with
    | zero => exact absurd HA.out (by simp [tithebarnref02_ahead.j1])
    | succ kj2 =>
     have H := HA.out
     clear HA
     simp only [tithebarnref02_ahead.j1] at H
     by_cases c5 : x15_2 = true
     ·subst c5
      have H1 : (if 0 ≤ x5_1 then (if x5_1 < (a0.size : Int) then (if x5_1 < (a1.size : Int) then (if (bt a0 x5_1) = (bt a1 x5_1) then (tithebarnref02_ahead.l0 kj2 a0 a1 (wrap64 (x5_1 + 1))) else (some (decide ((bt a0 x5_1) < (bt a1 x5_1))))) else (none)) else (none)) else (none)) = some r := by rw [if_pos rfl] at H; exact H
      clear H
      have H := H1
      clear H1
      by_cases c6 : 0 ≤ x5_1
      ·rw [if_pos c6] at H
       have c6b0 : decide (0 ≤ x5_1) = true := decide_eq_true c6
       clear c6
       by_cases c7 : x5_1 < (a0.size : Int)
       ·rw [if_pos c7] at H
        have c7b0 : decide (x5_1 < (a0.size : Int)) = true := decide_eq_true c7
        clear c7
        by_cases c9 : x5_1 < (a1.size : Int)
        ·rw [if_pos c9] at H
         have c9b0 : decide (x5_1 < (a1.size : Int)) = true := decide_eq_true c9
         clear c9
         by_cases c11 : (bt a0 x5_1) = (bt a1 x5_1)
         ·rw [if_pos c11] at H
          have c11b0 : ((bt a0 x5_1) == (bt a1 x5_1)) = true := beq_iff_eq.mpr c11
          have c11b1 : ((bt a0 x5_1) != (bt a1 x5_1)) = false := bne_eq_false_iff_eq.mpr c11
          clear c11
          have H' := Aside0.mk H
          clear H
          have p8 : 0 ≤ (x5_1 : Int) := of_decide_eq_true z5_
          have q8 : x5_1 < (a0.size : Int) := of_decide_eq_true z5_
          have hx8 := bt_at a0 x5_1
          replace p8 := eq_true p8
          replace q8 := eq_true q8
          have p10 : 0 ≤ (x5_1 : Int) := of_decide_eq_true z5_
          have q10 : x5_1 < (a1.size : Int) := of_decide_eq_true z5_
          have hx10 := bt_at a1 x5_1
          replace p10 := eq_true p10
          replace q10 := eq_true q10
          go_wp2
          repeat (go_quiet (fail); try go_wp2)
          go_roundg kj2
          case measure => have := HK1.out; have := HJ2.out; omega
          case rel => exact ⟨(wrap64 (x5_1 + 1)), z4_, H', ⟨by have := HK1.out; have := HJ2.out; omega⟩, z11_⟩
         ·rw [if_neg c11] at H
          have c11b0 : ((bt a0 x5_1) == (bt a1 x5_1)) = false := beq_eq_false_iff_ne.mpr c11
          have c11b1 : ((bt a0 x5_1) != (bt a1 x5_1)) = true := bne_iff_ne.mpr c11
          obtain rfl := Option.some.inj H
          have p8 : 0 ≤ (x5_1 : Int) := of_decide_eq_true z5_
          have q8 : x5_1 < (a0.size : Int) := of_decide_eq_true z5_
          have hx8 := bt_at a0 x5_1
          replace p8 := eq_true p8
          replace q8 := eq_true q8
          have p10 : 0 ≤ (x5_1 : Int) := of_decide_eq_true z5_
          have q10 : x5_1 < (a1.size : Int) := of_decide_eq_true z5_
          have hx10 := bt_at a1 x5_1
          replace p10 := eq_true p10
          replace q10 := eq_true q10
          have p12 : 0 ≤ (x5_1 : Int) := of_decide_eq_true z5_
          have q12 : x5_1 < (a0.size : Int) := of_decide_eq_true z5_
          have hx12 := bt_at a0 x5_1
          replace p12 := eq_true p12
          replace q12 := eq_true q12
          have p13 : 0 ≤ (x5_1 : Int) := of_decide_eq_true z5_
          have q13 : x5_1 < (a1.size : Int) := of_decide_eq_true z5_
          have hx13 := bt_at a1 x5_1
          replace p13 := eq_true p13
          replace q13 := eq_true q13
          go_wp2
          repeat (go_quiet (fail); try go_wp2)
          go_ret
          exact ⟨z4_, z11_⟩
        ·rw [if_neg c9] at H
         exact absurd H (by simp)
       ·rw [if_neg c7] at H
        exact absurd H (by simp)
      ·rw [if_neg c6] at H
       exact absurd H (by simp)
     ·replace c5 := Bool.eq_false_iff.mpr c5
      subst c5
      have H1 : (some (decide ((a0.size : Int) < (a1.size : Int)))) = some r := by rw [if_neg (show ¬ (false = true) by decide)] at H; exact H
      clear H
      have H := H1
      clear H1
      obtain rfl := Option.some.inj H
      go_wp2
      repeat (go_quiet (fail); try go_wp2)
      go_ret
      exact ⟨z4_, z11_⟩
def tithebarnref02_Ahead.j0 : Nat → Bool → Bool → Int → ByteArray → Bool → Int → ByteArray → Option (Bool)
 | 0, _, _, _, _, _, _, _ => none
 | k + 1, x10, x285000, x285001, x285002, x286000, x286001, x286002 => if x10 = true then (if x285000 = true then (some (!x286000)) else (some false)) else (if x285001 = x286001 then ((tithebarnref02_ahead.f k x285002 x286002).bind fun t286 => (some t286)) else (some (decide (x285001 < x286001))))
def tithebarnref02_Ahead.f (k : Nat) (a0_0 : Bool) (a0_1 : Int) (a0_2 : ByteArray) (a1_0 : Bool) (a1_1 : Int) (a1_2 : ByteArray) : Option (Bool) := if a0_0 = true then (tithebarnref02_Ahead.j0 k true a0_0 a0_1 a0_2 a1_0 a1_1 a1_2) else (tithebarnref02_Ahead.j0 k a1_0 a0_0 a0_1 a0_2 a1_0 a1_1 a1_2)
theorem tithebarnref02_Ahead.mono_l : ∀ k, (∀ y0 y1 y2 y3 y4 y5 y6, LeO (tithebarnref02_Ahead.j0 k y0 y1 y2 y3 y4 y5 y6) (tithebarnref02_Ahead.j0 (k + 1) y0 y1 y2 y3 y4 y5 y6))
 | 0 => fun _ _ _ _ _ _ _ r h => by simp [tithebarnref02_Ahead.j0] at h
 | k + 1 => by
  have ih0 := tithebarnref02_Ahead.mono_l k
  ·intro y0 y1 y2 y3 y4 y5 y6
   unfold tithebarnref02_Ahead.j0
   repeat' first
   | (with_reducible exact ih0 _ _ _ _ _ _ _)
   | (with_reducible exact tithebarnref02_ahead.mono _ _ _)
   | (with_reducible exact LeO.refl _)
   | (with_reducible exact LeO.none _)
   | (with_reducible refine LeO.ite ?_ ?_)
   | (with_reducible refine LeO.bind ?_ (fun _ => ?_))
   | exact ih0 _ _ _ _ _ _ _
   | exact tithebarnref02_ahead.mono _ _ _
   | exact LeO.none _
   | refine LeO.ite ?_ ?_
   | refine LeO.bind ?_ (fun _ => ?_)
theorem tithebarnref02_Ahead.mono : ∀ a0 a1 a2 a3 a4 a5 k, LeO (tithebarnref02_Ahead.f k a0 a1 a2 a3 a4 a5) (tithebarnref02_Ahead.f (k + 1) a0 a1 a2 a3 a4 a5) := by
 intro a0 a1 a2 a3 a4 a5 k
 have ih0 := tithebarnref02_Ahead.mono_l k
 unfold tithebarnref02_Ahead.f
 repeat' first
   | (with_reducible exact ih0 _ _ _ _ _ _ _)
   | (with_reducible exact tithebarnref02_ahead.mono _ _ _)
   | (with_reducible exact LeO.refl _)
   | (with_reducible exact LeO.none _)
   | (with_reducible refine LeO.ite ?_ ?_)
   | (with_reducible refine LeO.bind ?_ (fun _ => ?_))
   | exact ih0 _ _ _ _ _ _ _
   | exact tithebarnref02_ahead.mono _ _ _
   | exact LeO.none _
   | refine LeO.ite ?_ ?_
   | refine LeO.bind ?_ (fun _ => ?_)
set_option maxHeartbeats 8000000 in
set_option maxRecDepth 100000 in
theorem tithebarnref02_Ahead.calls (k : Nat) (a0_0 : Bool) (a0_1 : Int) (a0_2 : ByteArray) (a1_0 : Bool) (a1_1 : Int) (a1_2 : ByteArray) (r : Bool) (w : World) (h : tithebarnref02_Ahead.f k a0_0 a0_1 a0_2 a1_0 a1_1 a1_2 = some r) :
  Calls Try.prog 66 #[.agg #[.bool a0_0, .int .i64 a0_1, .string a0_2], .agg #[.bool a1_0, .int .i64 a1_1, .string a1_2]] w fun e w' => e = .returned (.bool r) ∧ Below w.heap.size w w' := by
 have hu34 := Try.underlying34
 have HB := Aside0.mk (Below.refl w.heap.size w)
 have H : (if a0_0 = true then (tithebarnref02_Ahead.j0 k true a0_0 a0_1 a0_2 a1_0 a1_1 a1_2) else (tithebarnref02_Ahead.j0 k a1_0 a0_0 a0_1 a0_2 a1_0 a1_1 a1_2)) = some r := h
 clear h
 have HC3 := Aside0.mk H
 clear H
 go_enter Try.func66, Try.ntmps66
 go_upto_region 1 with (first | ((with_reducible refine gate_dst (N := 2) rfl ?_); refine box_event ?hg (N := 2) ?hd (cs := #[.bool a0_0, .int .i64 a0_1, .string a0_2]) (t := 34) ?hr ?_; (case hd => rfl); (case hg => rfl); (case hr => first | (go_simp; done) | (go_simp; rfl)); intro gb284 hg w4 hbox hb; have n0_ := Aside0.mk (below_step z0_ hb); have n1_ := Aside0.mk (hbox); have n2_ := Aside0.mk ((by rw [hg]; exact (below_size z0_) : w.heap.size ≤ gb284)); have n3_ := Aside0.mk ((by rw [hg]; exact (below_size z0_) : w.heap.size ≤ gb284)); clear HB; have HB := n0_; have BK284 := n1_; have GW284 := n2_; have GE284 := n3_; clear n0_ n1_ n2_ n3_; clear hb hbox hg) | ((with_reducible refine gate_dst (N := 3) rfl ?_); refine box_event ?hg (N := 3) ?hd (cs := #[.bool a1_0, .int .i64 a1_1, .string a1_2]) (t := 34) ?hr ?_; (case hd => rfl); (case hg => rfl); (case hr => first | (go_simp; done) | (go_simp; rfl)); intro gb285 hg w5 hbox hb; have n0_ := Aside0.mk (blk_below (g := gb284) (o := .cells #[.bool a0_0, .int .i64 a0_1, .string a0_2] 34 (0, 0)) (by (with_reducible repeat (first | refine blk_drewN ?_ _ | refine blk_drew ?_ | refine blk_alloc ?_ _)); exact BK284.out) hb); have n1_ := Aside0.mk (below_step z27_ hb); have n2_ := Aside0.mk (hbox); have n3_ := Aside0.mk ((by rw [hg]; exact (below_size z27_) : w.heap.size ≤ gb285)); have n4_ := Aside0.mk ((by rw [hg]; exact (below_size z27_) : w.heap.size ≤ gb285)); have n5_ := Aside0.mk ((by rw [hg]; exact Nat.ne_of_lt (blk_lt (g := gb284) (o := .cells #[.bool a0_0, .int .i64 a0_1, .string a0_2] 34 (0, 0)) (by (with_reducible repeat (first | refine blk_drewN ?_ _ | refine blk_drew ?_ | refine blk_alloc ?_ _)); exact BK284.out)) : gb284 ≠ gb285)); have n6_ := Aside0.mk ((by rw [hg]; exact Nat.ne_of_gt (blk_lt (g := gb284) (o := .cells #[.bool a0_0, .int .i64 a0_1, .string a0_2] 34 (0, 0)) (by (with_reducible repeat (first | refine blk_drewN ?_ _ | refine blk_drew ?_ | refine blk_alloc ?_ _)); exact BK284.out)) : gb285 ≠ gb284)); clear BK284; clear HB; have BK284 := n0_; have HB := n1_; have BK285 := n2_; have GW285 := n3_; have GE285 := n4_; have NB284_285 := n5_; have NB285_284 := n6_; clear n0_ n1_ n2_ n3_ n4_ n5_ n6_; clear hb hbox hg))
 (try simp only [Act.put, List.setIfInBounds_toArray, List.set_cons_zero, List.set_cons_succ])
 go_cut [10] (fun v10 wc => ∃ (kq : Nat) (x10_2 : Bool), v10 = .bool x10_2 ∧ Aside0 (tithebarnref02_Ahead.j0 kq x10_2 a0_0 a0_1 a0_2 a1_0 a1_1 a1_2 = some r) ∧ Aside0 (kq ≤ k) ∧ Aside0 (wc.heap[gb284]? = some (.cells #[.bool a0_0, .int .i64 a0_1, .string a0_2] 34 (0, 0))) ∧ Aside0 (wc.heap[gb285]? = some (.cells #[.bool a1_0, .int .i64 a1_1, .string a1_2] 34 (0, 0))) ∧ Aside0 (Below w.heap.size w wc))
 case first =>
  have H := HC3.out
  clear HC3
  by_cases c6 : a0_0 = true
  ·subst c6
   have H1 : (tithebarnref02_Ahead.j0 k true true a0_1 a0_2 a1_0 a1_1 a1_2) = some r := by rw [if_pos rfl] at H; exact H
   clear H
   have H := H1
   clear H1
   have H' := Aside0.mk H
   clear H
   have hnb7 := NB284_285.out
   have hnc7 := NB285_284.out
   have hcz8_0 : w5.cell? ⟨gb284, 0, none⟩ = some (.bool true) := (blk_cell BK284.out 0).trans rfl
   have hcz8_1 : w5.cell? ⟨gb284, 1, none⟩ = some (.int .i64 a0_1) := (blk_cell BK284.out 1).trans rfl
   have hcz8_2 : w5.cell? ⟨gb284, 2, none⟩ = some (.string a0_2) := (blk_cell BK284.out 2).trans rfl
   have hfz8_0 := blk_frozen BK284.out 0
   have hfz8_1 := blk_frozen BK284.out 1
   have hfz8_2 := blk_frozen BK284.out 2
   go_wp2
   go_meet
   case rel => exact ⟨_, (true), z4_, H', ⟨by first | omega | exact Nat.le_refl _⟩, ⟨by (with_reducible repeat (first | refine blk_drewN ?_ _ | refine blk_drew ?_ | refine blk_alloc ?_ _)); exact BK284.out⟩, ⟨by (with_reducible repeat (first | refine blk_drewN ?_ _ | refine blk_drew ?_ | refine blk_alloc ?_ _)); exact BK285.out⟩, ⟨z19_⟩⟩
  ·replace c6 := Bool.eq_false_iff.mpr c6
   subst c6
   have H1 : (tithebarnref02_Ahead.j0 k a1_0 false a0_1 a0_2 a1_0 a1_1 a1_2) = some r := by rw [if_neg (show ¬ (false = true) by decide)] at H; exact H
   clear H
   have H := H1
   clear H1
   have H' := Aside0.mk H
   clear H
   have hnb9 := NB284_285.out
   have hnc9 := NB285_284.out
   have hcz10_0 : w5.cell? ⟨gb284, 0, none⟩ = some (.bool false) := (blk_cell BK284.out 0).trans rfl
   have hcz10_1 : w5.cell? ⟨gb284, 1, none⟩ = some (.int .i64 a0_1) := (blk_cell BK284.out 1).trans rfl
   have hcz10_2 : w5.cell? ⟨gb284, 2, none⟩ = some (.string a0_2) := (blk_cell BK284.out 2).trans rfl
   have hfz10_0 := blk_frozen BK284.out 0
   have hfz10_1 := blk_frozen BK284.out 1
   have hfz10_2 := blk_frozen BK284.out 2
   have hcz11_0 : w5.cell? ⟨gb285, 0, none⟩ = some (.bool a1_0) := (blk_cell BK285.out 0).trans rfl
   have hcz11_1 : w5.cell? ⟨gb285, 1, none⟩ = some (.int .i64 a1_1) := (blk_cell BK285.out 1).trans rfl
   have hcz11_2 : w5.cell? ⟨gb285, 2, none⟩ = some (.string a1_2) := (blk_cell BK285.out 2).trans rfl
   have hfz11_0 := blk_frozen BK285.out 0
   have hfz11_1 := blk_frozen BK285.out 1
   have hfz11_2 := blk_frozen BK285.out 2
   go_wp2
   go_meet
   case rel => exact ⟨_, (a1_0), z4_, H', ⟨by first | omega | exact Nat.le_refl _⟩, ⟨by (with_reducible repeat (first | refine blk_drewN ?_ _ | refine blk_drew ?_ | refine blk_alloc ?_ _)); exact BK284.out⟩, ⟨by (with_reducible repeat (first | refine blk_drewN ?_ _ | refine blk_drew ?_ | refine blk_alloc ?_ _)); exact BK285.out⟩, ⟨z19_⟩⟩
 case rest =>
  clear HC3
  try clear p2
  try clear c6
  try clear c7
  try clear c9
  try clear hcz10_0
  try clear hcz10_1
  try clear hcz10_2
  try clear hcz11_0
  try clear hcz11_1
  try clear hcz11_2
  try clear hcz8_0
  try clear hcz8_1
  try clear hcz8_2
  try clear hfz10_0
  try clear hfz10_1
  try clear hfz10_2
  try clear hfz11_0
  try clear hfz11_1
  try clear hfz11_2
  try clear hfz8_0
  try clear hfz8_1
  try clear hfz8_2
  obtain ⟨kq, x10_2, rfl, HA, HJ2, BK284, BK285, HB⟩ := hcut
  cases kq with
  | zero => exact absurd HA.out (by simp [tithebarnref02_Ahead.j0])
  | succ kj2 =>
   have H := HA.out
   clear HA
   simp only [tithebarnref02_Ahead.j0] at H
   by_cases c12 : x10_2 = true
   ·subst c12
    have H1 : (if a0_0 = true then (some (!a1_0)) else (some false)) = some r := by rw [if_pos rfl] at H; exact H
    clear H
    have H := H1
    clear H1
    by_cases c13 : a0_0 = true
    ·subst c13
     have H1 : (some (!a1_0)) = some r := by rw [if_pos rfl] at H; exact H
     clear H
     have H := H1
     clear H1
     obtain rfl := Option.some.inj H
     have hnb14 := NB284_285.out
     have hnc14 := NB285_284.out
     have hcz15_0 : wc.cell? ⟨gb284, 0, none⟩ = some (.bool true) := (blk_cell BK284.out 0).trans rfl
     have hcz15_1 : wc.cell? ⟨gb284, 1, none⟩ = some (.int .i64 a0_1) := (blk_cell BK284.out 1).trans rfl
     have hcz15_2 : wc.cell? ⟨gb284, 2, none⟩ = some (.string a0_2) := (blk_cell BK284.out 2).trans rfl
     have hfz15_0 := blk_frozen BK284.out 0
     have hfz15_1 := blk_frozen BK284.out 1
     have hfz15_2 := blk_frozen BK284.out 2
     have hcz16_0 : wc.cell? ⟨gb285, 0, none⟩ = some (.bool a1_0) := (blk_cell BK285.out 0).trans rfl
     have hcz16_1 : wc.cell? ⟨gb285, 1, none⟩ = some (.int .i64 a1_1) := (blk_cell BK285.out 1).trans rfl
     have hcz16_2 : wc.cell? ⟨gb285, 2, none⟩ = some (.string a1_2) := (blk_cell BK285.out 2).trans rfl
     have hfz16_0 := blk_frozen BK285.out 0
     have hfz16_1 := blk_frozen BK285.out 1
     have hfz16_2 := blk_frozen BK285.out 2
     go_wp2
     go_ret
     exact ⟨z2_, z19_⟩
    ·replace c13 := Bool.eq_false_iff.mpr c13
     subst c13
     have H1 : (some false) = some r := by rw [if_neg (show ¬ (false = true) by decide)] at H; exact H
     clear H
     have H := H1
     clear H1
     obtain rfl := Option.some.inj H
     have hnb17 := NB284_285.out
     have hnc17 := NB285_284.out
     have hcz18_0 : wc.cell? ⟨gb284, 0, none⟩ = some (.bool false) := (blk_cell BK284.out 0).trans rfl
     have hcz18_1 : wc.cell? ⟨gb284, 1, none⟩ = some (.int .i64 a0_1) := (blk_cell BK284.out 1).trans rfl
     have hcz18_2 : wc.cell? ⟨gb284, 2, none⟩ = some (.string a0_2) := (blk_cell BK284.out 2).trans rfl
     have hfz18_0 := blk_frozen BK284.out 0
     have hfz18_1 := blk_frozen BK284.out 1
     have hfz18_2 := blk_frozen BK284.out 2
     go_wp2
     go_ret
     exact ⟨z2_, z19_⟩
   ·replace c12 := Bool.eq_false_iff.mpr c12
    subst c12
    have H1 : (if a0_1 = a1_1 then ((tithebarnref02_ahead.f kj2 a0_2 a1_2).bind fun t286 => (some t286)) else (some (decide (a0_1 < a1_1)))) = some r := by rw [if_neg (show ¬ (false = true) by decide)] at H; exact H
    clear H
    have H := H1
    clear H1
    by_cases c19 : a0_1 = a1_1
    ·rw [if_pos c19] at H
     have c19b0 : (a0_1 == a1_1) = true := beq_iff_eq.mpr c19
     have c19b1 : (a0_1 != a1_1) = false := bne_eq_false_iff_eq.mpr c19
     clear c19
     replace H := Option.bind_eq_some_iff.mp H
     obtain ⟨t286, A200, H⟩ := H
     replace H : (some t286) = some r := H
     have A20 := Aside0.mk A200
     clear A200
     obtain rfl := Option.some.inj H
     have hnb21 := NB284_285.out
     have hnc21 := NB285_284.out
     have hcz22_0 : wc.cell? ⟨gb284, 0, none⟩ = some (.bool a0_0) := (blk_cell BK284.out 0).trans rfl
     have hcz22_1 : wc.cell? ⟨gb284, 1, none⟩ = some (.int .i64 a0_1) := (blk_cell BK284.out 1).trans rfl
     have hcz22_2 : wc.cell? ⟨gb284, 2, none⟩ = some (.string a0_2) := (blk_cell BK284.out 2).trans rfl
     have hfz22_0 := blk_frozen BK284.out 0
     have hfz22_1 := blk_frozen BK284.out 1
     have hfz22_2 := blk_frozen BK284.out 2
     have hcz23_0 : wc.cell? ⟨gb285, 0, none⟩ = some (.bool a1_0) := (blk_cell BK285.out 0).trans rfl
     have hcz23_1 : wc.cell? ⟨gb285, 1, none⟩ = some (.int .i64 a1_1) := (blk_cell BK285.out 1).trans rfl
     have hcz23_2 : wc.cell? ⟨gb285, 2, none⟩ = some (.string a1_2) := (blk_cell BK285.out 2).trans rfl
     have hfz23_0 := blk_frozen BK285.out 0
     have hfz23_1 := blk_frozen BK285.out 1
     have hfz23_2 := blk_frozen BK285.out 2
     go_wp2_with (first | ((with_reducible refine gate_callee (f := 81) rfl ?_); refine goesL_ (some 32) rfl rfl Try.func81 (by kernel_rfl) rfl #[.string a0_2, .string a1_2] rfl (by (try simp only [List.map_toArray, List.map_cons, List.map_nil]); first | done | rfl | (simp only [List.length_drop, List.length_take]; rfl) | (go_simp; simp [IntKind.wrap, IntKind.bits, IntKind.signed]; omega)) ?_; (with_reducible refine (tithebarnref02_ahead.calls kj2 a0_2 a1_2 t286 _ A20.out).mono ?_); rintro e w' ⟨rfl, ⟨nd, rfl⟩⟩; refine ⟨_, rfl, ?_⟩))
     go_ret
     exact ⟨z2_, z19_⟩
    ·rw [if_neg c19] at H
     have c19b0 : (a0_1 == a1_1) = false := beq_eq_false_iff_ne.mpr c19
     have c19b1 : (a0_1 != a1_1) = true := bne_iff_ne.mpr c19
     obtain rfl := Option.some.inj H
     have hnb24 := NB284_285.out
     have hnc24 := NB285_284.out
     have hcz25_0 : wc.cell? ⟨gb284, 0, none⟩ = some (.bool a0_0) := (blk_cell BK284.out 0).trans rfl
     have hcz25_1 : wc.cell? ⟨gb284, 1, none⟩ = some (.int .i64 a0_1) := (blk_cell BK284.out 1).trans rfl
     have hcz25_2 : wc.cell? ⟨gb284, 2, none⟩ = some (.string a0_2) := (blk_cell BK284.out 2).trans rfl
     have hfz25_0 := blk_frozen BK284.out 0
     have hfz25_1 := blk_frozen BK284.out 1
     have hfz25_2 := blk_frozen BK284.out 2
     have hcz26_0 : wc.cell? ⟨gb285, 0, none⟩ = some (.bool a1_0) := (blk_cell BK285.out 0).trans rfl
     have hcz26_1 : wc.cell? ⟨gb285, 1, none⟩ = some (.int .i64 a1_1) := (blk_cell BK285.out 1).trans rfl
     have hcz26_2 : wc.cell? ⟨gb285, 2, none⟩ = some (.string a1_2) := (blk_cell BK285.out 2).trans rfl
     have hfz26_0 := blk_frozen BK285.out 0
     have hfz26_1 := blk_frozen BK285.out 1
     have hfz26_2 := blk_frozen BK285.out 2
     go_wp2
     go_ret
     exact ⟨z2_, z19_⟩
def tithebarnref16_part.f (k : Nat) (a0_0 : Int) (a0_1 : Int) (a0_2 : Bool) (a0_3 : Int) (a0_4 : ByteArray) (a0_5 : Bool) (a0_6 : Int) (a0_7 : ByteArray) : Option (Bool) := (tithebarnref16_number.f a0_0).bind fun t288 => (if t288 = true then (if a0_1 ≥ 0 then (if a0_1 < 4 then ((tithebarnref16_key.f a0_2 a0_3 a0_4).bind fun t289 => (if t289 = true then ((tithebarnref16_key.f a0_5 a0_6 a0_7).bind fun t290 => (if t290 = true then ((tithebarnref02_Ahead.f k a0_5 a0_6 a0_7 a0_2 a0_3 a0_4).bind fun t291 => (some (!t291))) else (some false))) else (some false))) else (some false)) else (some false)) else (some false))
theorem tithebarnref16_part.mono : ∀ a0 a1 a2 a3 a4 a5 a6 a7 k, LeO (tithebarnref16_part.f k a0 a1 a2 a3 a4 a5 a6 a7) (tithebarnref16_part.f (k + 1) a0 a1 a2 a3 a4 a5 a6 a7) := by
 intro a0 a1 a2 a3 a4 a5 a6 a7 k
 unfold tithebarnref16_part.f
 repeat' first
   | (with_reducible exact tithebarnref02_Ahead.mono _ _ _ _ _ _ _)
   | (with_reducible exact LeO.refl _)
   | (with_reducible exact LeO.none _)
   | (with_reducible refine LeO.ite ?_ ?_)
   | (with_reducible refine LeO.bind ?_ (fun _ => ?_))
   | exact tithebarnref02_Ahead.mono _ _ _ _ _ _ _
   | exact LeO.none _
   | refine LeO.ite ?_ ?_
   | refine LeO.bind ?_ (fun _ => ?_)
set_option maxHeartbeats 8000000 in
set_option maxRecDepth 100000 in
theorem tithebarnref16_part.calls (k : Nat) (a0_0 : Int) (a0_1 : Int) (a0_2 : Bool) (a0_3 : Int) (a0_4 : ByteArray) (a0_5 : Bool) (a0_6 : Int) (a0_7 : ByteArray) (r : Bool) (w : World) (h : tithebarnref16_part.f k a0_0 a0_1 a0_2 a0_3 a0_4 a0_5 a0_6 a0_7 = some r) :
  Calls Try.prog 44 #[.agg #[.int .i64 a0_0, .int .i64 a0_1, .bool a0_2, .int .i64 a0_3, .string a0_4, .bool a0_5, .int .i64 a0_6, .string a0_7]] w fun e w' => e = .returned (.bool r) ∧ Below w.heap.size w w' := by
 have hu36 := Try.underlying36
 have hu34 := Try.underlying34
 have HB := Aside0.mk (Below.refl w.heap.size w)
 have H : ((tithebarnref16_number.f a0_0).bind fun t288 => (if t288 = true then (if a0_1 ≥ 0 then (if a0_1 < 4 then ((tithebarnref16_key.f a0_2 a0_3 a0_4).bind fun t289 => (if t289 = true then ((tithebarnref16_key.f a0_5 a0_6 a0_7).bind fun t290 => (if t290 = true then ((tithebarnref02_Ahead.f k a0_5 a0_6 a0_7 a0_2 a0_3 a0_4).bind fun t291 => (some (!t291))) else (some false))) else (some false))) else (some false)) else (some false)) else (some false))) = some r := h
 clear h
 replace H := Option.bind_eq_some_iff.mp H
 obtain ⟨t288, A20, H⟩ := H
 replace H : (if t288 = true then (if a0_1 ≥ 0 then (if a0_1 < 4 then ((tithebarnref16_key.f a0_2 a0_3 a0_4).bind fun t289 => (if t289 = true then ((tithebarnref16_key.f a0_5 a0_6 a0_7).bind fun t290 => (if t290 = true then ((tithebarnref02_Ahead.f k a0_5 a0_6 a0_7 a0_2 a0_3 a0_4).bind fun t291 => (some (!t291))) else (some false))) else (some false))) else (some false)) else (some false)) else (some false)) = some r := H
 have A2 := Aside0.mk A20
 clear A20
 by_cases c3 : t288 = true
 ·subst c3
  have H1 : (if a0_1 ≥ 0 then (if a0_1 < 4 then ((tithebarnref16_key.f a0_2 a0_3 a0_4).bind fun t289 => (if t289 = true then ((tithebarnref16_key.f a0_5 a0_6 a0_7).bind fun t290 => (if t290 = true then ((tithebarnref02_Ahead.f k a0_5 a0_6 a0_7 a0_2 a0_3 a0_4).bind fun t291 => (some (!t291))) else (some false))) else (some false))) else (some false)) else (some false)) = some r := by rw [if_pos rfl] at H; exact H
  clear H
  have H := H1
  clear H1
  by_cases c4 : a0_1 ≥ 0
  ·rw [if_pos c4] at H
   have c4b0 : decide (0 ≤ a0_1) = true := decide_eq_true c4
   clear c4
   by_cases c5 : a0_1 < 4
   ·rw [if_pos c5] at H
    have c5b0 : decide (a0_1 < 4) = true := decide_eq_true c5
    clear c5
    replace H := Option.bind_eq_some_iff.mp H
    obtain ⟨t289, A60, H⟩ := H
    replace H : (if t289 = true then ((tithebarnref16_key.f a0_5 a0_6 a0_7).bind fun t290 => (if t290 = true then ((tithebarnref02_Ahead.f k a0_5 a0_6 a0_7 a0_2 a0_3 a0_4).bind fun t291 => (some (!t291))) else (some false))) else (some false)) = some r := H
    have A6 := Aside0.mk A60
    clear A60
    by_cases c7 : t289 = true
    ·subst c7
     have H1 : ((tithebarnref16_key.f a0_5 a0_6 a0_7).bind fun t290 => (if t290 = true then ((tithebarnref02_Ahead.f k a0_5 a0_6 a0_7 a0_2 a0_3 a0_4).bind fun t291 => (some (!t291))) else (some false))) = some r := by rw [if_pos rfl] at H; exact H
     clear H
     have H := H1
     clear H1
     replace H := Option.bind_eq_some_iff.mp H
     obtain ⟨t290, A80, H⟩ := H
     replace H : (if t290 = true then ((tithebarnref02_Ahead.f k a0_5 a0_6 a0_7 a0_2 a0_3 a0_4).bind fun t291 => (some (!t291))) else (some false)) = some r := H
     have A8 := Aside0.mk A80
     clear A80
     by_cases c9 : t290 = true
     ·subst c9
      have H1 : ((tithebarnref02_Ahead.f k a0_5 a0_6 a0_7 a0_2 a0_3 a0_4).bind fun t291 => (some (!t291))) = some r := by rw [if_pos rfl] at H; exact H
      clear H
      have H := H1
      clear H1
      replace H := Option.bind_eq_some_iff.mp H
      obtain ⟨t291, A100, H⟩ := H
      replace H : (some (!t291)) = some r := H
      have A10 := Aside0.mk A100
      clear A100
      obtain rfl := Option.some.inj H
      go_enter Try.func44, Try.ntmps44
      go_wp2_with (first | ((with_reducible refine gate_dst (N := 1) rfl ?_); refine box_event ?hg (N := 1) ?hd (cs := #[.int .i64 a0_0, .int .i64 a0_1, .bool a0_2, .int .i64 a0_3, .string a0_4, .bool a0_5, .int .i64 a0_6, .string a0_7]) (t := 36) ?hr ?_; (case hd => rfl); (case hg => rfl); (case hr => first | (go_simp; done) | (go_simp; rfl)); intro gb287 hg w11 hbox hb; have n0_ := Aside0.mk (below_step z0_ hb); have n1_ := Aside0.mk (hbox); have n2_ := Aside0.mk ((by rw [hg]; exact (below_size z0_) : w.heap.size ≤ gb287)); have n3_ := Aside0.mk ((by rw [hg]; exact (below_size z0_) : w.heap.size ≤ gb287)); clear HB; have HB := n0_; have BK287 := n1_; have GW287 := n2_; have GE287 := n3_; clear n0_ n1_ n2_ n3_; clear hb hbox hg; have hcz12_0 : w11.cell? ⟨gb287, 0, none⟩ = some (.int .i64 a0_0) := (blk_cell BK287.out 0).trans rfl; have hcz12_1 : w11.cell? ⟨gb287, 1, none⟩ = some (.int .i64 a0_1) := (blk_cell BK287.out 1).trans rfl; have hcz12_2 : w11.cell? ⟨gb287, 2, none⟩ = some (.bool a0_2) := (blk_cell BK287.out 2).trans rfl; have hcz12_3 : w11.cell? ⟨gb287, 3, none⟩ = some (.int .i64 a0_3) := (blk_cell BK287.out 3).trans rfl; have hcz12_4 : w11.cell? ⟨gb287, 4, none⟩ = some (.string a0_4) := (blk_cell BK287.out 4).trans rfl; have hcz12_5 : w11.cell? ⟨gb287, 5, none⟩ = some (.bool a0_5) := (blk_cell BK287.out 5).trans rfl; have hcz12_6 : w11.cell? ⟨gb287, 6, none⟩ = some (.int .i64 a0_6) := (blk_cell BK287.out 6).trans rfl; have hcz12_7 : w11.cell? ⟨gb287, 7, none⟩ = some (.string a0_7) := (blk_cell BK287.out 7).trans rfl; have hfz12_0 := blk_frozen BK287.out 0; have hfz12_1 := blk_frozen BK287.out 1; have hfz12_2 := blk_frozen BK287.out 2; have hfz12_3 := blk_frozen BK287.out 3; have hfz12_4 := blk_frozen BK287.out 4; have hfz12_5 := blk_frozen BK287.out 5; have hfz12_6 := blk_frozen BK287.out 6; have hfz12_7 := blk_frozen BK287.out 7) | ((with_reducible refine gate_callee (f := 43) rfl ?_); refine goesL_ (some 5) rfl rfl Try.func43 (by kernel_rfl) rfl #[.int .i64 a0_0] rfl (by (try simp only [List.map_toArray, List.map_cons, List.map_nil]); first | done | rfl | (simp only [List.length_drop, List.length_take]; rfl) | (go_simp; simp [IntKind.wrap, IntKind.bits, IntKind.signed]; omega)) ?_; (with_reducible refine (tithebarnref16_number.calls a0_0 true _ A2.out).mono ?_); rintro e w' ⟨rfl, ⟨nd, rfl⟩⟩; refine ⟨_, rfl, ?_⟩) | (go_at_call 65; (with_reducible refine (tithebarnref16_key.calls a0_2 a0_3 a0_4 true _ A6.out).mono ?_); rintro e w13 ⟨rfl, hb⟩; have n0_ := Aside0.mk (blk_below (g := gb287) (o := .cells #[.int .i64 a0_0, .int .i64 a0_1, .bool a0_2, .int .i64 a0_3, .string a0_4, .bool a0_5, .int .i64 a0_6, .string a0_7] 36 (0, 0)) (by (with_reducible repeat (first | refine blk_drewN ?_ _ | refine blk_drew ?_ | refine blk_alloc ?_ _)); exact BK287.out) hb); have n1_ := Aside0.mk (below_step z10_ hb); clear BK287; clear HB; have BK287 := n0_; have HB := n1_; clear n0_ n1_; (try clear hb); (try clear hb2); (try clear hk); (try clear hi); have hcz14_0 : w13.cell? ⟨gb287, 0, none⟩ = some (.int .i64 a0_0) := (blk_cell BK287.out 0).trans rfl; have hcz14_1 : w13.cell? ⟨gb287, 1, none⟩ = some (.int .i64 a0_1) := (blk_cell BK287.out 1).trans rfl; have hcz14_2 : w13.cell? ⟨gb287, 2, none⟩ = some (.bool a0_2) := (blk_cell BK287.out 2).trans rfl; have hcz14_3 : w13.cell? ⟨gb287, 3, none⟩ = some (.int .i64 a0_3) := (blk_cell BK287.out 3).trans rfl; have hcz14_4 : w13.cell? ⟨gb287, 4, none⟩ = some (.string a0_4) := (blk_cell BK287.out 4).trans rfl; have hcz14_5 : w13.cell? ⟨gb287, 5, none⟩ = some (.bool a0_5) := (blk_cell BK287.out 5).trans rfl; have hcz14_6 : w13.cell? ⟨gb287, 6, none⟩ = some (.int .i64 a0_6) := (blk_cell BK287.out 6).trans rfl; have hcz14_7 : w13.cell? ⟨gb287, 7, none⟩ = some (.string a0_7) := (blk_cell BK287.out 7).trans rfl; have hfz14_0 := blk_frozen BK287.out 0; have hfz14_1 := blk_frozen BK287.out 1; have hfz14_2 := blk_frozen BK287.out 2; have hfz14_3 := blk_frozen BK287.out 3; have hfz14_4 := blk_frozen BK287.out 4; have hfz14_5 := blk_frozen BK287.out 5; have hfz14_6 := blk_frozen BK287.out 6; have hfz14_7 := blk_frozen BK287.out 7) | (go_at_call 65; (with_reducible refine (tithebarnref16_key.calls a0_5 a0_6 a0_7 true _ A8.out).mono ?_); rintro e w15 ⟨rfl, hb⟩; have n0_ := Aside0.mk (blk_below (g := gb287) (o := .cells #[.int .i64 a0_0, .int .i64 a0_1, .bool a0_2, .int .i64 a0_3, .string a0_4, .bool a0_5, .int .i64 a0_6, .string a0_7] 36 (0, 0)) (by (with_reducible repeat (first | refine blk_drewN ?_ _ | refine blk_drew ?_ | refine blk_alloc ?_ _)); exact BK287.out) hb); have n1_ := Aside0.mk (below_step z10_ hb); clear BK287; clear HB; have BK287 := n0_; have HB := n1_; clear n0_ n1_; (try clear hb); (try clear hb2); (try clear hk); (try clear hi); have hcz16_0 : w15.cell? ⟨gb287, 0, none⟩ = some (.int .i64 a0_0) := (blk_cell BK287.out 0).trans rfl; have hcz16_1 : w15.cell? ⟨gb287, 1, none⟩ = some (.int .i64 a0_1) := (blk_cell BK287.out 1).trans rfl; have hcz16_2 : w15.cell? ⟨gb287, 2, none⟩ = some (.bool a0_2) := (blk_cell BK287.out 2).trans rfl; have hcz16_3 : w15.cell? ⟨gb287, 3, none⟩ = some (.int .i64 a0_3) := (blk_cell BK287.out 3).trans rfl; have hcz16_4 : w15.cell? ⟨gb287, 4, none⟩ = some (.string a0_4) := (blk_cell BK287.out 4).trans rfl; have hcz16_5 : w15.cell? ⟨gb287, 5, none⟩ = some (.bool a0_5) := (blk_cell BK287.out 5).trans rfl; have hcz16_6 : w15.cell? ⟨gb287, 6, none⟩ = some (.int .i64 a0_6) := (blk_cell BK287.out 6).trans rfl; have hcz16_7 : w15.cell? ⟨gb287, 7, none⟩ = some (.string a0_7) := (blk_cell BK287.out 7).trans rfl; have hfz16_0 := blk_frozen BK287.out 0; have hfz16_1 := blk_frozen BK287.out 1; have hfz16_2 := blk_frozen BK287.out 2; have hfz16_3 := blk_frozen BK287.out 3; have hfz16_4 := blk_frozen BK287.out 4; have hfz16_5 := blk_frozen BK287.out 5; have hfz16_6 := blk_frozen BK287.out 6; have hfz16_7 := blk_frozen BK287.out 7) | (go_at_call 66; (with_reducible refine (tithebarnref02_Ahead.calls k a0_5 a0_6 a0_7 a0_2 a0_3 a0_4 t291 _ A10.out).mono ?_); rintro e w17 ⟨rfl, hb⟩; have n0_ := Aside0.mk (blk_below (g := gb287) (o := .cells #[.int .i64 a0_0, .int .i64 a0_1, .bool a0_2, .int .i64 a0_3, .string a0_4, .bool a0_5, .int .i64 a0_6, .string a0_7] 36 (0, 0)) (by (with_reducible repeat (first | refine blk_drewN ?_ _ | refine blk_drew ?_ | refine blk_alloc ?_ _)); exact BK287.out) hb); have n1_ := Aside0.mk (below_step z10_ hb); clear BK287; clear HB; have BK287 := n0_; have HB := n1_; clear n0_ n1_; (try clear hb); (try clear hb2); (try clear hk); (try clear hi)))
      go_ret
      exact ⟨z2_, z10_⟩
     ·replace c9 := Bool.eq_false_iff.mpr c9
      subst c9
      have H1 : (some false) = some r := by rw [if_neg (show ¬ (false = true) by decide)] at H; exact H
      clear H
      have H := H1
      clear H1
      obtain rfl := Option.some.inj H
      go_enter Try.func44, Try.ntmps44
      go_wp2_with (first | ((with_reducible refine gate_dst (N := 1) rfl ?_); refine box_event ?hg (N := 1) ?hd (cs := #[.int .i64 a0_0, .int .i64 a0_1, .bool a0_2, .int .i64 a0_3, .string a0_4, .bool a0_5, .int .i64 a0_6, .string a0_7]) (t := 36) ?hr ?_; (case hd => rfl); (case hg => rfl); (case hr => first | (go_simp; done) | (go_simp; rfl)); intro gb287 hg w18 hbox hb; have n0_ := Aside0.mk (below_step z0_ hb); have n1_ := Aside0.mk (hbox); have n2_ := Aside0.mk ((by rw [hg]; exact (below_size z0_) : w.heap.size ≤ gb287)); have n3_ := Aside0.mk ((by rw [hg]; exact (below_size z0_) : w.heap.size ≤ gb287)); clear HB; have HB := n0_; have BK287 := n1_; have GW287 := n2_; have GE287 := n3_; clear n0_ n1_ n2_ n3_; clear hb hbox hg; have hcz19_0 : w18.cell? ⟨gb287, 0, none⟩ = some (.int .i64 a0_0) := (blk_cell BK287.out 0).trans rfl; have hcz19_1 : w18.cell? ⟨gb287, 1, none⟩ = some (.int .i64 a0_1) := (blk_cell BK287.out 1).trans rfl; have hcz19_2 : w18.cell? ⟨gb287, 2, none⟩ = some (.bool a0_2) := (blk_cell BK287.out 2).trans rfl; have hcz19_3 : w18.cell? ⟨gb287, 3, none⟩ = some (.int .i64 a0_3) := (blk_cell BK287.out 3).trans rfl; have hcz19_4 : w18.cell? ⟨gb287, 4, none⟩ = some (.string a0_4) := (blk_cell BK287.out 4).trans rfl; have hcz19_5 : w18.cell? ⟨gb287, 5, none⟩ = some (.bool a0_5) := (blk_cell BK287.out 5).trans rfl; have hcz19_6 : w18.cell? ⟨gb287, 6, none⟩ = some (.int .i64 a0_6) := (blk_cell BK287.out 6).trans rfl; have hcz19_7 : w18.cell? ⟨gb287, 7, none⟩ = some (.string a0_7) := (blk_cell BK287.out 7).trans rfl; have hfz19_0 := blk_frozen BK287.out 0; have hfz19_1 := blk_frozen BK287.out 1; have hfz19_2 := blk_frozen BK287.out 2; have hfz19_3 := blk_frozen BK287.out 3; have hfz19_4 := blk_frozen BK287.out 4; have hfz19_5 := blk_frozen BK287.out 5; have hfz19_6 := blk_frozen BK287.out 6; have hfz19_7 := blk_frozen BK287.out 7) | ((with_reducible refine gate_callee (f := 43) rfl ?_); refine goesL_ (some 5) rfl rfl Try.func43 (by kernel_rfl) rfl #[.int .i64 a0_0] rfl (by (try simp only [List.map_toArray, List.map_cons, List.map_nil]); first | done | rfl | (simp only [List.length_drop, List.length_take]; rfl) | (go_simp; simp [IntKind.wrap, IntKind.bits, IntKind.signed]; omega)) ?_; (with_reducible refine (tithebarnref16_number.calls a0_0 true _ A2.out).mono ?_); rintro e w' ⟨rfl, ⟨nd, rfl⟩⟩; refine ⟨_, rfl, ?_⟩) | (go_at_call 65; (with_reducible refine (tithebarnref16_key.calls a0_2 a0_3 a0_4 true _ A6.out).mono ?_); rintro e w20 ⟨rfl, hb⟩; have n0_ := Aside0.mk (blk_below (g := gb287) (o := .cells #[.int .i64 a0_0, .int .i64 a0_1, .bool a0_2, .int .i64 a0_3, .string a0_4, .bool a0_5, .int .i64 a0_6, .string a0_7] 36 (0, 0)) (by (with_reducible repeat (first | refine blk_drewN ?_ _ | refine blk_drew ?_ | refine blk_alloc ?_ _)); exact BK287.out) hb); have n1_ := Aside0.mk (below_step z10_ hb); clear BK287; clear HB; have BK287 := n0_; have HB := n1_; clear n0_ n1_; (try clear hb); (try clear hb2); (try clear hk); (try clear hi); have hcz21_0 : w20.cell? ⟨gb287, 0, none⟩ = some (.int .i64 a0_0) := (blk_cell BK287.out 0).trans rfl; have hcz21_1 : w20.cell? ⟨gb287, 1, none⟩ = some (.int .i64 a0_1) := (blk_cell BK287.out 1).trans rfl; have hcz21_2 : w20.cell? ⟨gb287, 2, none⟩ = some (.bool a0_2) := (blk_cell BK287.out 2).trans rfl; have hcz21_3 : w20.cell? ⟨gb287, 3, none⟩ = some (.int .i64 a0_3) := (blk_cell BK287.out 3).trans rfl; have hcz21_4 : w20.cell? ⟨gb287, 4, none⟩ = some (.string a0_4) := (blk_cell BK287.out 4).trans rfl; have hcz21_5 : w20.cell? ⟨gb287, 5, none⟩ = some (.bool a0_5) := (blk_cell BK287.out 5).trans rfl; have hcz21_6 : w20.cell? ⟨gb287, 6, none⟩ = some (.int .i64 a0_6) := (blk_cell BK287.out 6).trans rfl; have hcz21_7 : w20.cell? ⟨gb287, 7, none⟩ = some (.string a0_7) := (blk_cell BK287.out 7).trans rfl; have hfz21_0 := blk_frozen BK287.out 0; have hfz21_1 := blk_frozen BK287.out 1; have hfz21_2 := blk_frozen BK287.out 2; have hfz21_3 := blk_frozen BK287.out 3; have hfz21_4 := blk_frozen BK287.out 4; have hfz21_5 := blk_frozen BK287.out 5; have hfz21_6 := blk_frozen BK287.out 6; have hfz21_7 := blk_frozen BK287.out 7) | (go_at_call 65; (with_reducible refine (tithebarnref16_key.calls a0_5 a0_6 a0_7 false _ A8.out).mono ?_); rintro e w22 ⟨rfl, hb⟩; have n0_ := Aside0.mk (blk_below (g := gb287) (o := .cells #[.int .i64 a0_0, .int .i64 a0_1, .bool a0_2, .int .i64 a0_3, .string a0_4, .bool a0_5, .int .i64 a0_6, .string a0_7] 36 (0, 0)) (by (with_reducible repeat (first | refine blk_drewN ?_ _ | refine blk_drew ?_ | refine blk_alloc ?_ _)); exact BK287.out) hb); have n1_ := Aside0.mk (below_step z10_ hb); clear BK287; clear HB; have BK287 := n0_; have HB := n1_; clear n0_ n1_; (try clear hb); (try clear hb2); (try clear hk); (try clear hi)))
      go_ret
      exact ⟨z2_, z10_⟩
    ·replace c7 := Bool.eq_false_iff.mpr c7
     subst c7
     have H1 : (some false) = some r := by rw [if_neg (show ¬ (false = true) by decide)] at H; exact H
     clear H
     have H := H1
     clear H1
     obtain rfl := Option.some.inj H
     go_enter Try.func44, Try.ntmps44
     go_wp2_with (first | ((with_reducible refine gate_dst (N := 1) rfl ?_); refine box_event ?hg (N := 1) ?hd (cs := #[.int .i64 a0_0, .int .i64 a0_1, .bool a0_2, .int .i64 a0_3, .string a0_4, .bool a0_5, .int .i64 a0_6, .string a0_7]) (t := 36) ?hr ?_; (case hd => rfl); (case hg => rfl); (case hr => first | (go_simp; done) | (go_simp; rfl)); intro gb287 hg w23 hbox hb; have n0_ := Aside0.mk (below_step z0_ hb); have n1_ := Aside0.mk (hbox); have n2_ := Aside0.mk ((by rw [hg]; exact (below_size z0_) : w.heap.size ≤ gb287)); have n3_ := Aside0.mk ((by rw [hg]; exact (below_size z0_) : w.heap.size ≤ gb287)); clear HB; have HB := n0_; have BK287 := n1_; have GW287 := n2_; have GE287 := n3_; clear n0_ n1_ n2_ n3_; clear hb hbox hg; have hcz24_0 : w23.cell? ⟨gb287, 0, none⟩ = some (.int .i64 a0_0) := (blk_cell BK287.out 0).trans rfl; have hcz24_1 : w23.cell? ⟨gb287, 1, none⟩ = some (.int .i64 a0_1) := (blk_cell BK287.out 1).trans rfl; have hcz24_2 : w23.cell? ⟨gb287, 2, none⟩ = some (.bool a0_2) := (blk_cell BK287.out 2).trans rfl; have hcz24_3 : w23.cell? ⟨gb287, 3, none⟩ = some (.int .i64 a0_3) := (blk_cell BK287.out 3).trans rfl; have hcz24_4 : w23.cell? ⟨gb287, 4, none⟩ = some (.string a0_4) := (blk_cell BK287.out 4).trans rfl; have hcz24_5 : w23.cell? ⟨gb287, 5, none⟩ = some (.bool a0_5) := (blk_cell BK287.out 5).trans rfl; have hcz24_6 : w23.cell? ⟨gb287, 6, none⟩ = some (.int .i64 a0_6) := (blk_cell BK287.out 6).trans rfl; have hcz24_7 : w23.cell? ⟨gb287, 7, none⟩ = some (.string a0_7) := (blk_cell BK287.out 7).trans rfl; have hfz24_0 := blk_frozen BK287.out 0; have hfz24_1 := blk_frozen BK287.out 1; have hfz24_2 := blk_frozen BK287.out 2; have hfz24_3 := blk_frozen BK287.out 3; have hfz24_4 := blk_frozen BK287.out 4; have hfz24_5 := blk_frozen BK287.out 5; have hfz24_6 := blk_frozen BK287.out 6; have hfz24_7 := blk_frozen BK287.out 7) | ((with_reducible refine gate_callee (f := 43) rfl ?_); refine goesL_ (some 5) rfl rfl Try.func43 (by kernel_rfl) rfl #[.int .i64 a0_0] rfl (by (try simp only [List.map_toArray, List.map_cons, List.map_nil]); first | done | rfl | (simp only [List.length_drop, List.length_take]; rfl) | (go_simp; simp [IntKind.wrap, IntKind.bits, IntKind.signed]; omega)) ?_; (with_reducible refine (tithebarnref16_number.calls a0_0 true _ A2.out).mono ?_); rintro e w' ⟨rfl, ⟨nd, rfl⟩⟩; refine ⟨_, rfl, ?_⟩) | (go_at_call 65; (with_reducible refine (tithebarnref16_key.calls a0_2 a0_3 a0_4 false _ A6.out).mono ?_); rintro e w25 ⟨rfl, hb⟩; have n0_ := Aside0.mk (blk_below (g := gb287) (o := .cells #[.int .i64 a0_0, .int .i64 a0_1, .bool a0_2, .int .i64 a0_3, .string a0_4, .bool a0_5, .int .i64 a0_6, .string a0_7] 36 (0, 0)) (by (with_reducible repeat (first | refine blk_drewN ?_ _ | refine blk_drew ?_ | refine blk_alloc ?_ _)); exact BK287.out) hb); have n1_ := Aside0.mk (below_step z10_ hb); clear BK287; clear HB; have BK287 := n0_; have HB := n1_; clear n0_ n1_; (try clear hb); (try clear hb2); (try clear hk); (try clear hi)))
     go_ret
     exact ⟨z2_, z10_⟩
   ·rw [if_neg c5] at H
    have c5b0 : decide (a0_1 < 4) = false := decide_eq_false c5
    clear c5
    obtain rfl := Option.some.inj H
    go_enter Try.func44, Try.ntmps44
    go_wp2_with (first | ((with_reducible refine gate_dst (N := 1) rfl ?_); refine box_event ?hg (N := 1) ?hd (cs := #[.int .i64 a0_0, .int .i64 a0_1, .bool a0_2, .int .i64 a0_3, .string a0_4, .bool a0_5, .int .i64 a0_6, .string a0_7]) (t := 36) ?hr ?_; (case hd => rfl); (case hg => rfl); (case hr => first | (go_simp; done) | (go_simp; rfl)); intro gb287 hg w26 hbox hb; have n0_ := Aside0.mk (below_step z0_ hb); have n1_ := Aside0.mk (hbox); have n2_ := Aside0.mk ((by rw [hg]; exact (below_size z0_) : w.heap.size ≤ gb287)); have n3_ := Aside0.mk ((by rw [hg]; exact (below_size z0_) : w.heap.size ≤ gb287)); clear HB; have HB := n0_; have BK287 := n1_; have GW287 := n2_; have GE287 := n3_; clear n0_ n1_ n2_ n3_; clear hb hbox hg; have hcz27_0 : w26.cell? ⟨gb287, 0, none⟩ = some (.int .i64 a0_0) := (blk_cell BK287.out 0).trans rfl; have hcz27_1 : w26.cell? ⟨gb287, 1, none⟩ = some (.int .i64 a0_1) := (blk_cell BK287.out 1).trans rfl; have hcz27_2 : w26.cell? ⟨gb287, 2, none⟩ = some (.bool a0_2) := (blk_cell BK287.out 2).trans rfl; have hcz27_3 : w26.cell? ⟨gb287, 3, none⟩ = some (.int .i64 a0_3) := (blk_cell BK287.out 3).trans rfl; have hcz27_4 : w26.cell? ⟨gb287, 4, none⟩ = some (.string a0_4) := (blk_cell BK287.out 4).trans rfl; have hcz27_5 : w26.cell? ⟨gb287, 5, none⟩ = some (.bool a0_5) := (blk_cell BK287.out 5).trans rfl; have hcz27_6 : w26.cell? ⟨gb287, 6, none⟩ = some (.int .i64 a0_6) := (blk_cell BK287.out 6).trans rfl; have hcz27_7 : w26.cell? ⟨gb287, 7, none⟩ = some (.string a0_7) := (blk_cell BK287.out 7).trans rfl; have hfz27_0 := blk_frozen BK287.out 0; have hfz27_1 := blk_frozen BK287.out 1; have hfz27_2 := blk_frozen BK287.out 2; have hfz27_3 := blk_frozen BK287.out 3; have hfz27_4 := blk_frozen BK287.out 4; have hfz27_5 := blk_frozen BK287.out 5; have hfz27_6 := blk_frozen BK287.out 6; have hfz27_7 := blk_frozen BK287.out 7) | ((with_reducible refine gate_callee (f := 43) rfl ?_); refine goesL_ (some 5) rfl rfl Try.func43 (by kernel_rfl) rfl #[.int .i64 a0_0] rfl (by (try simp only [List.map_toArray, List.map_cons, List.map_nil]); first | done | rfl | (simp only [List.length_drop, List.length_take]; rfl) | (go_simp; simp [IntKind.wrap, IntKind.bits, IntKind.signed]; omega)) ?_; (with_reducible refine (tithebarnref16_number.calls a0_0 true _ A2.out).mono ?_); rintro e w' ⟨rfl, ⟨nd, rfl⟩⟩; refine ⟨_, rfl, ?_⟩))
    go_ret
    exact ⟨z2_, z10_⟩
  ·rw [if_neg c4] at H
   have c4b0 : decide (0 ≤ a0_1) = false := decide_eq_false c4
   clear c4
   obtain rfl := Option.some.inj H
   go_enter Try.func44, Try.ntmps44
   go_wp2_with (first | ((with_reducible refine gate_dst (N := 1) rfl ?_); refine box_event ?hg (N := 1) ?hd (cs := #[.int .i64 a0_0, .int .i64 a0_1, .bool a0_2, .int .i64 a0_3, .string a0_4, .bool a0_5, .int .i64 a0_6, .string a0_7]) (t := 36) ?hr ?_; (case hd => rfl); (case hg => rfl); (case hr => first | (go_simp; done) | (go_simp; rfl)); intro gb287 hg w28 hbox hb; have n0_ := Aside0.mk (below_step z0_ hb); have n1_ := Aside0.mk (hbox); have n2_ := Aside0.mk ((by rw [hg]; exact (below_size z0_) : w.heap.size ≤ gb287)); have n3_ := Aside0.mk ((by rw [hg]; exact (below_size z0_) : w.heap.size ≤ gb287)); clear HB; have HB := n0_; have BK287 := n1_; have GW287 := n2_; have GE287 := n3_; clear n0_ n1_ n2_ n3_; clear hb hbox hg; have hcz29_0 : w28.cell? ⟨gb287, 0, none⟩ = some (.int .i64 a0_0) := (blk_cell BK287.out 0).trans rfl; have hcz29_1 : w28.cell? ⟨gb287, 1, none⟩ = some (.int .i64 a0_1) := (blk_cell BK287.out 1).trans rfl; have hcz29_2 : w28.cell? ⟨gb287, 2, none⟩ = some (.bool a0_2) := (blk_cell BK287.out 2).trans rfl; have hcz29_3 : w28.cell? ⟨gb287, 3, none⟩ = some (.int .i64 a0_3) := (blk_cell BK287.out 3).trans rfl; have hcz29_4 : w28.cell? ⟨gb287, 4, none⟩ = some (.string a0_4) := (blk_cell BK287.out 4).trans rfl; have hcz29_5 : w28.cell? ⟨gb287, 5, none⟩ = some (.bool a0_5) := (blk_cell BK287.out 5).trans rfl; have hcz29_6 : w28.cell? ⟨gb287, 6, none⟩ = some (.int .i64 a0_6) := (blk_cell BK287.out 6).trans rfl; have hcz29_7 : w28.cell? ⟨gb287, 7, none⟩ = some (.string a0_7) := (blk_cell BK287.out 7).trans rfl; have hfz29_0 := blk_frozen BK287.out 0; have hfz29_1 := blk_frozen BK287.out 1; have hfz29_2 := blk_frozen BK287.out 2; have hfz29_3 := blk_frozen BK287.out 3; have hfz29_4 := blk_frozen BK287.out 4; have hfz29_5 := blk_frozen BK287.out 5; have hfz29_6 := blk_frozen BK287.out 6; have hfz29_7 := blk_frozen BK287.out 7) | ((with_reducible refine gate_callee (f := 43) rfl ?_); refine goesL_ (some 5) rfl rfl Try.func43 (by kernel_rfl) rfl #[.int .i64 a0_0] rfl (by (try simp only [List.map_toArray, List.map_cons, List.map_nil]); first | done | rfl | (simp only [List.length_drop, List.length_take]; rfl) | (go_simp; simp [IntKind.wrap, IntKind.bits, IntKind.signed]; omega)) ?_; (with_reducible refine (tithebarnref16_number.calls a0_0 true _ A2.out).mono ?_); rintro e w' ⟨rfl, ⟨nd, rfl⟩⟩; refine ⟨_, rfl, ?_⟩))
   go_ret
   exact ⟨z2_, z10_⟩
 ·replace c3 := Bool.eq_false_iff.mpr c3
  subst c3
  have H1 : (some false) = some r := by rw [if_neg (show ¬ (false = true) by decide)] at H; exact H
  clear H
  have H := H1
  clear H1
  obtain rfl := Option.some.inj H
  go_enter Try.func44, Try.ntmps44
  go_wp2_with (first | ((with_reducible refine gate_dst (N := 1) rfl ?_); refine box_event ?hg (N := 1) ?hd (cs := #[.int .i64 a0_0, .int .i64 a0_1, .bool a0_2, .int .i64 a0_3, .string a0_4, .bool a0_5, .int .i64 a0_6, .string a0_7]) (t := 36) ?hr ?_; (case hd => rfl); (case hg => rfl); (case hr => first | (go_simp; done) | (go_simp; rfl)); intro gb287 hg w30 hbox hb; have n0_ := Aside0.mk (below_step z0_ hb); have n1_ := Aside0.mk (hbox); have n2_ := Aside0.mk ((by rw [hg]; exact (below_size z0_) : w.heap.size ≤ gb287)); have n3_ := Aside0.mk ((by rw [hg]; exact (below_size z0_) : w.heap.size ≤ gb287)); clear HB; have HB := n0_; have BK287 := n1_; have GW287 := n2_; have GE287 := n3_; clear n0_ n1_ n2_ n3_; clear hb hbox hg; have hcz31_0 : w30.cell? ⟨gb287, 0, none⟩ = some (.int .i64 a0_0) := (blk_cell BK287.out 0).trans rfl; have hcz31_1 : w30.cell? ⟨gb287, 1, none⟩ = some (.int .i64 a0_1) := (blk_cell BK287.out 1).trans rfl; have hcz31_2 : w30.cell? ⟨gb287, 2, none⟩ = some (.bool a0_2) := (blk_cell BK287.out 2).trans rfl; have hcz31_3 : w30.cell? ⟨gb287, 3, none⟩ = some (.int .i64 a0_3) := (blk_cell BK287.out 3).trans rfl; have hcz31_4 : w30.cell? ⟨gb287, 4, none⟩ = some (.string a0_4) := (blk_cell BK287.out 4).trans rfl; have hcz31_5 : w30.cell? ⟨gb287, 5, none⟩ = some (.bool a0_5) := (blk_cell BK287.out 5).trans rfl; have hcz31_6 : w30.cell? ⟨gb287, 6, none⟩ = some (.int .i64 a0_6) := (blk_cell BK287.out 6).trans rfl; have hcz31_7 : w30.cell? ⟨gb287, 7, none⟩ = some (.string a0_7) := (blk_cell BK287.out 7).trans rfl; have hfz31_0 := blk_frozen BK287.out 0; have hfz31_1 := blk_frozen BK287.out 1; have hfz31_2 := blk_frozen BK287.out 2; have hfz31_3 := blk_frozen BK287.out 3; have hfz31_4 := blk_frozen BK287.out 4; have hfz31_5 := blk_frozen BK287.out 5; have hfz31_6 := blk_frozen BK287.out 6; have hfz31_7 := blk_frozen BK287.out 7) | ((with_reducible refine gate_callee (f := 43) rfl ?_); refine goesL_ (some 5) rfl rfl Try.func43 (by kernel_rfl) rfl #[.int .i64 a0_0] rfl (by (try simp only [List.map_toArray, List.map_cons, List.map_nil]); first | done | rfl | (simp only [List.length_drop, List.length_take]; rfl) | (go_simp; simp [IntKind.wrap, IntKind.bits, IntKind.signed]; omega)) ?_; (with_reducible refine (tithebarnref16_number.calls a0_0 false _ A2.out).mono ?_); rintro e w' ⟨rfl, ⟨nd, rfl⟩⟩; refine ⟨_, rfl, ?_⟩))
  go_ret
  exact ⟨z2_, z10_⟩
end Go.Proofs.Ytagokgijffpdnaa.G
