import Derived.Test.YtagokgijffpdnaaZQ2
namespace Go.Proofs.Ytagokgijffpdnaa.G
open Go.RowKit Go.Proofs.YtagokgijffpdnaaQ Go.Proofs.YtagokgijffpdnaaW.PrintWords Go.Proofs.YtagokgijffpdnaaW.PrintLast Go.Proofs.YtagokgijffpdnaaW.PrintMore
attribute [local go_sem] max2_int min2_int max_two min_two max_three min_three max_four min_four   -- for this text's walks alone
set_option linter.unusedVariables false
set_option linter.unusedSimpArgs false
def oddI (n : Int) : Bool := decide (n < 0) || decide (999999999 < n)
def cmpV (a b : S34) : Int := if a.f0 = true then (if b.f0 = true then 0 else -1) else if b.f0 = true then 1 else if a.f1 < b.f1 then -1 else if b.f1 < a.f1 then 1 else cmpStr a.f2 b.f2
def badV (v : S34) : Bool := v.f0 || decide (64 < v.f2.size)
def oddP (p : S36) : Bool := oddI p.f0 || (decide (p.f1 < 0) || (decide (4 ≤ p.f1) || (badV p.f2 || (badV p.f3 || decide (0 < cmpV p.f2 p.f3)))))
def rightB (d : List Int) (a : List S36) (fl nx : Int) : Bool := decide (d.length ≤ 1000) && (decide (a.length ≤ 1000) && (!oddI fl && (!oddI nx && ((d.all fun x => !oddI x) && (a.all fun x => !oddP x)))))
theorem odd_f (n : Int) : manifest_odd.f n = some (oddI n) := by
 unfold manifest_odd.f oddI
 by_cases h : n < 0 <;> simp [h]
theorem Or_two {k : Nat} (hk : 4 ≤ k) (a b : Int) : cmp_Or_int.f k [a, b] = some (if a = 0 then b else a) := by
 obtain ⟨k, rfl⟩ : ∃ m, k = m + 3 := ⟨k - 3, by omega⟩
 unfold cmp_Or_int.f
 simp only [cmp_Or_int.l0]
 by_cases h : a = 0
 ·by_cases h2 : b = 0
  ·simp [h, h2, rd, wrap64]
  ·simp [h, h2, rd, wrap64]
 ·simp [h, rd]
theorem cmpI (a b : Int) : cmp_Compare_int64.f a b = some (if a < b then -1 else if b < a then 1 else 0) := by
 unfold cmp_Compare_int64.f cmp_isNaN_int64.f
 simp
 split
 ·rfl
 ·split <;> rfl
theorem cmpS (a b : ByteArray) : cmp_Compare_string.f a b = some (cmpStr a b) := rfl
theorem cmp_f {k : Nat} (hk : 5 ≤ k) (a b : S34) : kinds_Compare.f k a.f0 a.f1 a.f2 b.f0 b.f1 b.f2 = some (cmpV a b) := by
 obtain ⟨k, rfl⟩ : ∃ m, k = m + 1 := ⟨k - 1, by omega⟩
 unfold kinds_Compare.f cmpV
 simp only [kinds_Compare.j0, cmpI, cmpS, Option.bind_some, Or_two (show 4 ≤ k by omega)]
 cases a.f0 <;> cases b.f0
 ·simp only [Bool.false_eq_true, if_false]
  by_cases h1 : a.f1 < b.f1
  ·simp [h1]
  ·by_cases h2 : b.f1 < a.f1
   ·simp [h1, h2]
   ·simp [h1, h2]
 ·rfl
 ·rfl
 ·rfl
set_option maxHeartbeats 1000000 in
set_option maxRecDepth 100000 in
theorem manifest_right.val (v : S34) (w : World) : Calls Try.prog 61 #[.agg #[.bool v.f0, .int .i64 v.f1, .string v.f2]] w fun e w' => e = .returned (.bool (badV v)) ∧ Below w.heap.size w w' := by
 unfold badV
 obtain ⟨b0, hb0⟩ : ∃ b0, v.f0 = b0 := ⟨_, rfl⟩
 rw [hb0]
 clear hb0
 obtain ⟨b1, hb1⟩ : ∃ b1, decide ((64 : Int) < (v.f2.size : Int)) = b1 := ⟨_, rfl⟩
 have hb2 : decide (64 < v.f2.size) = b1 := by rw [← hb1]; simp; omega
 rw [hb2]
 cases b0 <;> cases b1
 all_goals
  go_enter Try.func61, Try.ntmps61
  go_wp2
  go_ret
  exact ⟨rfl, by repeat (first | exact Below.refl _ _ | apply below_alloc)⟩
set_option maxHeartbeats 1000000 in
set_option maxRecDepth 100000 in
theorem manifest_right.part0 (p : S36) (w : World) (h0 : oddI p.f0 = true) : Calls Try.prog 37 #[.agg #[.int .i64 p.f0, .int .i64 p.f1, .bool p.f2.f0, .int .i64 p.f2.f1, .string p.f2.f2, .bool p.f3.f0, .int .i64 p.f3.f1, .string p.f3.f2]] w fun e w' => e = .returned (.bool true) ∧ Below w.heap.size w w' := by
 have H0 := Aside0.mk ((odd_f p.f0).trans (congrArg some h0)); clear h0
 have hA := below_alloc (Below.refl w.heap.size w) (.cells #[.int .i64 p.f0, .int .i64 p.f1, .bool p.f2.f0, .int .i64 p.f2.f1, .string p.f2.f2, .bool p.f3.f0, .int .i64 p.f3.f1, .string p.f3.f2] 36)
 have HB := Aside0.mk hA
 have HE : Aside0 ((w.alloc (.cells #[.int .i64 p.f0, .int .i64 p.f1, .bool p.f2.f0, .int .i64 p.f2.f1, .string p.f2.f2, .bool p.f3.f0, .int .i64 p.f3.f1, .string p.f3.f2] 36)).heap[w.heap.size]? = some (.cells #[.int .i64 p.f0, .int .i64 p.f1, .bool p.f2.f0, .int .i64 p.f2.f1, .string p.f2.f2, .bool p.f3.f0, .int .i64 p.f3.f1, .string p.f3.f2] 36 (0, 0))) := ⟨heap_alloc_new w _⟩
 clear hA
 go_enter Try.func37, Try.ntmps37
 go_upto_region 1 with (fail)
 generalize World.alloc w _ = w1 at HB HE ⊢
 have q0 : w1.cell? ⟨w.heap.size, 0, none⟩ = some (.int .i64 p.f0) := (blk_cell HE.out 0).trans rfl
 have q1 : w1.cell? ⟨w.heap.size, 1, none⟩ = some (.int .i64 p.f1) := (blk_cell HE.out 1).trans rfl
 have q2 : w1.cell? ⟨w.heap.size, 2, none⟩ = some (.bool p.f2.f0) := (blk_cell HE.out 2).trans rfl
 have q3 : w1.cell? ⟨w.heap.size, 3, none⟩ = some (.int .i64 p.f2.f1) := (blk_cell HE.out 3).trans rfl
 have q4 : w1.cell? ⟨w.heap.size, 4, none⟩ = some (.string p.f2.f2) := (blk_cell HE.out 4).trans rfl
 have q5 : w1.cell? ⟨w.heap.size, 5, none⟩ = some (.bool p.f3.f0) := (blk_cell HE.out 5).trans rfl
 have q6 : w1.cell? ⟨w.heap.size, 6, none⟩ = some (.int .i64 p.f3.f1) := (blk_cell HE.out 6).trans rfl
 have q7 : w1.cell? ⟨w.heap.size, 7, none⟩ = some (.string p.f3.f2) := (blk_cell HE.out 7).trans rfl
 go_wp2_with fail
 refine (manifest_odd.calls p.f0 _ _ H0.out).mono ?_; rintro e w2 ⟨rfl, hb⟩
 replace hb := hb.below
 have HE2 := Aside0.mk ((hb.block _ (blk_lt HE.out)).trans HE.out); have HB2 := Aside0.mk (below_then HB.out HB.out.size hb); clear hb
 clear q0 q1 q2 q3 q4 q5 q6 q7
 have q0 : w2.cell? ⟨w.heap.size, 0, none⟩ = some (.int .i64 p.f0) := (blk_cell HE2.out 0).trans rfl
 have q1 : w2.cell? ⟨w.heap.size, 1, none⟩ = some (.int .i64 p.f1) := (blk_cell HE2.out 1).trans rfl
 have q2 : w2.cell? ⟨w.heap.size, 2, none⟩ = some (.bool p.f2.f0) := (blk_cell HE2.out 2).trans rfl
 have q3 : w2.cell? ⟨w.heap.size, 3, none⟩ = some (.int .i64 p.f2.f1) := (blk_cell HE2.out 3).trans rfl
 have q4 : w2.cell? ⟨w.heap.size, 4, none⟩ = some (.string p.f2.f2) := (blk_cell HE2.out 4).trans rfl
 have q5 : w2.cell? ⟨w.heap.size, 5, none⟩ = some (.bool p.f3.f0) := (blk_cell HE2.out 5).trans rfl
 have q6 : w2.cell? ⟨w.heap.size, 6, none⟩ = some (.int .i64 p.f3.f1) := (blk_cell HE2.out 6).trans rfl
 have q7 : w2.cell? ⟨w.heap.size, 7, none⟩ = some (.string p.f3.f2) := (blk_cell HE2.out 7).trans rfl
 go_wp2
 go_ret
 exact ⟨by first | rfl | (simp; omega), HB2.out⟩
set_option maxHeartbeats 1000000 in
set_option maxRecDepth 100000 in
theorem manifest_right.part1 (p : S36) (w : World) (h0 : oddI p.f0 = false) (h1 : decide (p.f1 < 0) = true) : Calls Try.prog 37 #[.agg #[.int .i64 p.f0, .int .i64 p.f1, .bool p.f2.f0, .int .i64 p.f2.f1, .string p.f2.f2, .bool p.f3.f0, .int .i64 p.f3.f1, .string p.f3.f2]] w fun e w' => e = .returned (.bool true) ∧ Below w.heap.size w w' := by
 have H0 := Aside0.mk ((odd_f p.f0).trans (congrArg some h0)); clear h0
 have hA := below_alloc (Below.refl w.heap.size w) (.cells #[.int .i64 p.f0, .int .i64 p.f1, .bool p.f2.f0, .int .i64 p.f2.f1, .string p.f2.f2, .bool p.f3.f0, .int .i64 p.f3.f1, .string p.f3.f2] 36)
 have HB := Aside0.mk hA
 have HE : Aside0 ((w.alloc (.cells #[.int .i64 p.f0, .int .i64 p.f1, .bool p.f2.f0, .int .i64 p.f2.f1, .string p.f2.f2, .bool p.f3.f0, .int .i64 p.f3.f1, .string p.f3.f2] 36)).heap[w.heap.size]? = some (.cells #[.int .i64 p.f0, .int .i64 p.f1, .bool p.f2.f0, .int .i64 p.f2.f1, .string p.f2.f2, .bool p.f3.f0, .int .i64 p.f3.f1, .string p.f3.f2] 36 (0, 0))) := ⟨heap_alloc_new w _⟩
 clear hA
 go_enter Try.func37, Try.ntmps37
 go_upto_region 1 with (fail)
 generalize World.alloc w _ = w1 at HB HE ⊢
 have q0 : w1.cell? ⟨w.heap.size, 0, none⟩ = some (.int .i64 p.f0) := (blk_cell HE.out 0).trans rfl
 have q1 : w1.cell? ⟨w.heap.size, 1, none⟩ = some (.int .i64 p.f1) := (blk_cell HE.out 1).trans rfl
 have q2 : w1.cell? ⟨w.heap.size, 2, none⟩ = some (.bool p.f2.f0) := (blk_cell HE.out 2).trans rfl
 have q3 : w1.cell? ⟨w.heap.size, 3, none⟩ = some (.int .i64 p.f2.f1) := (blk_cell HE.out 3).trans rfl
 have q4 : w1.cell? ⟨w.heap.size, 4, none⟩ = some (.string p.f2.f2) := (blk_cell HE.out 4).trans rfl
 have q5 : w1.cell? ⟨w.heap.size, 5, none⟩ = some (.bool p.f3.f0) := (blk_cell HE.out 5).trans rfl
 have q6 : w1.cell? ⟨w.heap.size, 6, none⟩ = some (.int .i64 p.f3.f1) := (blk_cell HE.out 6).trans rfl
 have q7 : w1.cell? ⟨w.heap.size, 7, none⟩ = some (.string p.f3.f2) := (blk_cell HE.out 7).trans rfl
 go_wp2_with fail
 refine (manifest_odd.calls p.f0 _ _ H0.out).mono ?_; rintro e w2 ⟨rfl, hb⟩
 replace hb := hb.below
 have HE2 := Aside0.mk ((hb.block _ (blk_lt HE.out)).trans HE.out); have HB2 := Aside0.mk (below_then HB.out HB.out.size hb); clear hb
 clear q0 q1 q2 q3 q4 q5 q6 q7
 have q0 : w2.cell? ⟨w.heap.size, 0, none⟩ = some (.int .i64 p.f0) := (blk_cell HE2.out 0).trans rfl
 have q1 : w2.cell? ⟨w.heap.size, 1, none⟩ = some (.int .i64 p.f1) := (blk_cell HE2.out 1).trans rfl
 have q2 : w2.cell? ⟨w.heap.size, 2, none⟩ = some (.bool p.f2.f0) := (blk_cell HE2.out 2).trans rfl
 have q3 : w2.cell? ⟨w.heap.size, 3, none⟩ = some (.int .i64 p.f2.f1) := (blk_cell HE2.out 3).trans rfl
 have q4 : w2.cell? ⟨w.heap.size, 4, none⟩ = some (.string p.f2.f2) := (blk_cell HE2.out 4).trans rfl
 have q5 : w2.cell? ⟨w.heap.size, 5, none⟩ = some (.bool p.f3.f0) := (blk_cell HE2.out 5).trans rfl
 have q6 : w2.cell? ⟨w.heap.size, 6, none⟩ = some (.int .i64 p.f3.f1) := (blk_cell HE2.out 6).trans rfl
 have q7 : w2.cell? ⟨w.heap.size, 7, none⟩ = some (.string p.f3.f2) := (blk_cell HE2.out 7).trans rfl
 go_wp2
 go_ret
 exact ⟨by first | rfl | (simp; omega), HB2.out⟩
set_option maxHeartbeats 1000000 in
set_option maxRecDepth 100000 in
theorem manifest_right.part2 (p : S36) (w : World) (h0 : oddI p.f0 = false) (h1 : decide (p.f1 < 0) = false) (h2 : decide (4 ≤ p.f1) = true) : Calls Try.prog 37 #[.agg #[.int .i64 p.f0, .int .i64 p.f1, .bool p.f2.f0, .int .i64 p.f2.f1, .string p.f2.f2, .bool p.f3.f0, .int .i64 p.f3.f1, .string p.f3.f2]] w fun e w' => e = .returned (.bool true) ∧ Below w.heap.size w w' := by
 have H0 := Aside0.mk ((odd_f p.f0).trans (congrArg some h0)); clear h0
 have hA := below_alloc (Below.refl w.heap.size w) (.cells #[.int .i64 p.f0, .int .i64 p.f1, .bool p.f2.f0, .int .i64 p.f2.f1, .string p.f2.f2, .bool p.f3.f0, .int .i64 p.f3.f1, .string p.f3.f2] 36)
 have HB := Aside0.mk hA
 have HE : Aside0 ((w.alloc (.cells #[.int .i64 p.f0, .int .i64 p.f1, .bool p.f2.f0, .int .i64 p.f2.f1, .string p.f2.f2, .bool p.f3.f0, .int .i64 p.f3.f1, .string p.f3.f2] 36)).heap[w.heap.size]? = some (.cells #[.int .i64 p.f0, .int .i64 p.f1, .bool p.f2.f0, .int .i64 p.f2.f1, .string p.f2.f2, .bool p.f3.f0, .int .i64 p.f3.f1, .string p.f3.f2] 36 (0, 0))) := ⟨heap_alloc_new w _⟩
 clear hA
 go_enter Try.func37, Try.ntmps37
 go_upto_region 1 with (fail)
 generalize World.alloc w _ = w1 at HB HE ⊢
 have q0 : w1.cell? ⟨w.heap.size, 0, none⟩ = some (.int .i64 p.f0) := (blk_cell HE.out 0).trans rfl
 have q1 : w1.cell? ⟨w.heap.size, 1, none⟩ = some (.int .i64 p.f1) := (blk_cell HE.out 1).trans rfl
 have q2 : w1.cell? ⟨w.heap.size, 2, none⟩ = some (.bool p.f2.f0) := (blk_cell HE.out 2).trans rfl
 have q3 : w1.cell? ⟨w.heap.size, 3, none⟩ = some (.int .i64 p.f2.f1) := (blk_cell HE.out 3).trans rfl
 have q4 : w1.cell? ⟨w.heap.size, 4, none⟩ = some (.string p.f2.f2) := (blk_cell HE.out 4).trans rfl
 have q5 : w1.cell? ⟨w.heap.size, 5, none⟩ = some (.bool p.f3.f0) := (blk_cell HE.out 5).trans rfl
 have q6 : w1.cell? ⟨w.heap.size, 6, none⟩ = some (.int .i64 p.f3.f1) := (blk_cell HE.out 6).trans rfl
 have q7 : w1.cell? ⟨w.heap.size, 7, none⟩ = some (.string p.f3.f2) := (blk_cell HE.out 7).trans rfl
 go_wp2_with fail
 refine (manifest_odd.calls p.f0 _ _ H0.out).mono ?_; rintro e w2 ⟨rfl, hb⟩
 replace hb := hb.below
 have HE2 := Aside0.mk ((hb.block _ (blk_lt HE.out)).trans HE.out); have HB2 := Aside0.mk (below_then HB.out HB.out.size hb); clear hb
 clear q0 q1 q2 q3 q4 q5 q6 q7
 have q0 : w2.cell? ⟨w.heap.size, 0, none⟩ = some (.int .i64 p.f0) := (blk_cell HE2.out 0).trans rfl
 have q1 : w2.cell? ⟨w.heap.size, 1, none⟩ = some (.int .i64 p.f1) := (blk_cell HE2.out 1).trans rfl
 have q2 : w2.cell? ⟨w.heap.size, 2, none⟩ = some (.bool p.f2.f0) := (blk_cell HE2.out 2).trans rfl
 have q3 : w2.cell? ⟨w.heap.size, 3, none⟩ = some (.int .i64 p.f2.f1) := (blk_cell HE2.out 3).trans rfl
 have q4 : w2.cell? ⟨w.heap.size, 4, none⟩ = some (.string p.f2.f2) := (blk_cell HE2.out 4).trans rfl
 have q5 : w2.cell? ⟨w.heap.size, 5, none⟩ = some (.bool p.f3.f0) := (blk_cell HE2.out 5).trans rfl
 have q6 : w2.cell? ⟨w.heap.size, 6, none⟩ = some (.int .i64 p.f3.f1) := (blk_cell HE2.out 6).trans rfl
 have q7 : w2.cell? ⟨w.heap.size, 7, none⟩ = some (.string p.f3.f2) := (blk_cell HE2.out 7).trans rfl
 go_wp2
 go_ret
 exact ⟨by first | rfl | (simp; omega), HB2.out⟩
set_option maxHeartbeats 1000000 in
set_option maxRecDepth 100000 in
theorem manifest_right.part3 (p : S36) (w : World) (h0 : oddI p.f0 = false) (h1 : decide (p.f1 < 0) = false) (h2 : decide (4 ≤ p.f1) = false) (h3 : badV p.f2 = true) : Calls Try.prog 37 #[.agg #[.int .i64 p.f0, .int .i64 p.f1, .bool p.f2.f0, .int .i64 p.f2.f1, .string p.f2.f2, .bool p.f3.f0, .int .i64 p.f3.f1, .string p.f3.f2]] w fun e w' => e = .returned (.bool true) ∧ Below w.heap.size w w' := by
 have H0 := Aside0.mk ((odd_f p.f0).trans (congrArg some h0)); clear h0
 have H3 := Aside0.mk h3; clear h3
 have hA := below_alloc (Below.refl w.heap.size w) (.cells #[.int .i64 p.f0, .int .i64 p.f1, .bool p.f2.f0, .int .i64 p.f2.f1, .string p.f2.f2, .bool p.f3.f0, .int .i64 p.f3.f1, .string p.f3.f2] 36)
 have HB := Aside0.mk hA
 have HE : Aside0 ((w.alloc (.cells #[.int .i64 p.f0, .int .i64 p.f1, .bool p.f2.f0, .int .i64 p.f2.f1, .string p.f2.f2, .bool p.f3.f0, .int .i64 p.f3.f1, .string p.f3.f2] 36)).heap[w.heap.size]? = some (.cells #[.int .i64 p.f0, .int .i64 p.f1, .bool p.f2.f0, .int .i64 p.f2.f1, .string p.f2.f2, .bool p.f3.f0, .int .i64 p.f3.f1, .string p.f3.f2] 36 (0, 0))) := ⟨heap_alloc_new w _⟩
 clear hA
 go_enter Try.func37, Try.ntmps37
 go_upto_region 1 with (fail)
 generalize World.alloc w _ = w1 at HB HE ⊢
 have q0 : w1.cell? ⟨w.heap.size, 0, none⟩ = some (.int .i64 p.f0) := (blk_cell HE.out 0).trans rfl
 have q1 : w1.cell? ⟨w.heap.size, 1, none⟩ = some (.int .i64 p.f1) := (blk_cell HE.out 1).trans rfl
 have q2 : w1.cell? ⟨w.heap.size, 2, none⟩ = some (.bool p.f2.f0) := (blk_cell HE.out 2).trans rfl
 have q3 : w1.cell? ⟨w.heap.size, 3, none⟩ = some (.int .i64 p.f2.f1) := (blk_cell HE.out 3).trans rfl
 have q4 : w1.cell? ⟨w.heap.size, 4, none⟩ = some (.string p.f2.f2) := (blk_cell HE.out 4).trans rfl
 have q5 : w1.cell? ⟨w.heap.size, 5, none⟩ = some (.bool p.f3.f0) := (blk_cell HE.out 5).trans rfl
 have q6 : w1.cell? ⟨w.heap.size, 6, none⟩ = some (.int .i64 p.f3.f1) := (blk_cell HE.out 6).trans rfl
 have q7 : w1.cell? ⟨w.heap.size, 7, none⟩ = some (.string p.f3.f2) := (blk_cell HE.out 7).trans rfl
 go_wp2_with fail
 refine (manifest_odd.calls p.f0 _ _ H0.out).mono ?_; rintro e w2 ⟨rfl, hb⟩
 replace hb := hb.below
 have HE2 := Aside0.mk ((hb.block _ (blk_lt HE.out)).trans HE.out); have HB2 := Aside0.mk (below_then HB.out HB.out.size hb); clear hb
 clear q0 q1 q2 q3 q4 q5 q6 q7
 have q0 : w2.cell? ⟨w.heap.size, 0, none⟩ = some (.int .i64 p.f0) := (blk_cell HE2.out 0).trans rfl
 have q1 : w2.cell? ⟨w.heap.size, 1, none⟩ = some (.int .i64 p.f1) := (blk_cell HE2.out 1).trans rfl
 have q2 : w2.cell? ⟨w.heap.size, 2, none⟩ = some (.bool p.f2.f0) := (blk_cell HE2.out 2).trans rfl
 have q3 : w2.cell? ⟨w.heap.size, 3, none⟩ = some (.int .i64 p.f2.f1) := (blk_cell HE2.out 3).trans rfl
 have q4 : w2.cell? ⟨w.heap.size, 4, none⟩ = some (.string p.f2.f2) := (blk_cell HE2.out 4).trans rfl
 have q5 : w2.cell? ⟨w.heap.size, 5, none⟩ = some (.bool p.f3.f0) := (blk_cell HE2.out 5).trans rfl
 have q6 : w2.cell? ⟨w.heap.size, 6, none⟩ = some (.int .i64 p.f3.f1) := (blk_cell HE2.out 6).trans rfl
 have q7 : w2.cell? ⟨w.heap.size, 7, none⟩ = some (.string p.f3.f2) := (blk_cell HE2.out 7).trans rfl
 go_wp2_with fail
 refine (manifest_right.val p.f2 _).mono ?_; rintro e w3 ⟨rfl, hb⟩
 rw [H3.out]
 have HE3 := Aside0.mk ((hb.block _ (blk_lt HE2.out)).trans HE2.out); have HB3 := Aside0.mk (below_then HB2.out HB2.out.size hb); clear hb
 clear q0 q1 q2 q3 q4 q5 q6 q7
 have q0 : w3.cell? ⟨w.heap.size, 0, none⟩ = some (.int .i64 p.f0) := (blk_cell HE3.out 0).trans rfl
 have q1 : w3.cell? ⟨w.heap.size, 1, none⟩ = some (.int .i64 p.f1) := (blk_cell HE3.out 1).trans rfl
 have q2 : w3.cell? ⟨w.heap.size, 2, none⟩ = some (.bool p.f2.f0) := (blk_cell HE3.out 2).trans rfl
 have q3 : w3.cell? ⟨w.heap.size, 3, none⟩ = some (.int .i64 p.f2.f1) := (blk_cell HE3.out 3).trans rfl
 have q4 : w3.cell? ⟨w.heap.size, 4, none⟩ = some (.string p.f2.f2) := (blk_cell HE3.out 4).trans rfl
 have q5 : w3.cell? ⟨w.heap.size, 5, none⟩ = some (.bool p.f3.f0) := (blk_cell HE3.out 5).trans rfl
 have q6 : w3.cell? ⟨w.heap.size, 6, none⟩ = some (.int .i64 p.f3.f1) := (blk_cell HE3.out 6).trans rfl
 have q7 : w3.cell? ⟨w.heap.size, 7, none⟩ = some (.string p.f3.f2) := (blk_cell HE3.out 7).trans rfl
 go_wp2
 go_ret
 exact ⟨by first | rfl | (simp; omega), HB3.out⟩
set_option maxHeartbeats 1000000 in
set_option maxRecDepth 100000 in
theorem manifest_right.part4 (p : S36) (w : World) (h0 : oddI p.f0 = false) (h1 : decide (p.f1 < 0) = false) (h2 : decide (4 ≤ p.f1) = false) (h3 : badV p.f2 = false) (h4 : badV p.f3 = true) : Calls Try.prog 37 #[.agg #[.int .i64 p.f0, .int .i64 p.f1, .bool p.f2.f0, .int .i64 p.f2.f1, .string p.f2.f2, .bool p.f3.f0, .int .i64 p.f3.f1, .string p.f3.f2]] w fun e w' => e = .returned (.bool true) ∧ Below w.heap.size w w' := by
 have H0 := Aside0.mk ((odd_f p.f0).trans (congrArg some h0)); clear h0
 have H3 := Aside0.mk h3; clear h3
 have H4 := Aside0.mk h4; clear h4
 have hA := below_alloc (Below.refl w.heap.size w) (.cells #[.int .i64 p.f0, .int .i64 p.f1, .bool p.f2.f0, .int .i64 p.f2.f1, .string p.f2.f2, .bool p.f3.f0, .int .i64 p.f3.f1, .string p.f3.f2] 36)
 have HB := Aside0.mk hA
 have HE : Aside0 ((w.alloc (.cells #[.int .i64 p.f0, .int .i64 p.f1, .bool p.f2.f0, .int .i64 p.f2.f1, .string p.f2.f2, .bool p.f3.f0, .int .i64 p.f3.f1, .string p.f3.f2] 36)).heap[w.heap.size]? = some (.cells #[.int .i64 p.f0, .int .i64 p.f1, .bool p.f2.f0, .int .i64 p.f2.f1, .string p.f2.f2, .bool p.f3.f0, .int .i64 p.f3.f1, .string p.f3.f2] 36 (0, 0))) := ⟨heap_alloc_new w _⟩
 clear hA
 go_enter Try.func37, Try.ntmps37
 go_upto_region 1 with (fail)
 generalize World.alloc w _ = w1 at HB HE ⊢
 have q0 : w1.cell? ⟨w.heap.size, 0, none⟩ = some (.int .i64 p.f0) := (blk_cell HE.out 0).trans rfl
 have q1 : w1.cell? ⟨w.heap.size, 1, none⟩ = some (.int .i64 p.f1) := (blk_cell HE.out 1).trans rfl
 have q2 : w1.cell? ⟨w.heap.size, 2, none⟩ = some (.bool p.f2.f0) := (blk_cell HE.out 2).trans rfl
 have q3 : w1.cell? ⟨w.heap.size, 3, none⟩ = some (.int .i64 p.f2.f1) := (blk_cell HE.out 3).trans rfl
 have q4 : w1.cell? ⟨w.heap.size, 4, none⟩ = some (.string p.f2.f2) := (blk_cell HE.out 4).trans rfl
 have q5 : w1.cell? ⟨w.heap.size, 5, none⟩ = some (.bool p.f3.f0) := (blk_cell HE.out 5).trans rfl
 have q6 : w1.cell? ⟨w.heap.size, 6, none⟩ = some (.int .i64 p.f3.f1) := (blk_cell HE.out 6).trans rfl
 have q7 : w1.cell? ⟨w.heap.size, 7, none⟩ = some (.string p.f3.f2) := (blk_cell HE.out 7).trans rfl
 go_wp2_with fail
 refine (manifest_odd.calls p.f0 _ _ H0.out).mono ?_; rintro e w2 ⟨rfl, hb⟩
 replace hb := hb.below
 have HE2 := Aside0.mk ((hb.block _ (blk_lt HE.out)).trans HE.out); have HB2 := Aside0.mk (below_then HB.out HB.out.size hb); clear hb
 clear q0 q1 q2 q3 q4 q5 q6 q7
 have q0 : w2.cell? ⟨w.heap.size, 0, none⟩ = some (.int .i64 p.f0) := (blk_cell HE2.out 0).trans rfl
 have q1 : w2.cell? ⟨w.heap.size, 1, none⟩ = some (.int .i64 p.f1) := (blk_cell HE2.out 1).trans rfl
 have q2 : w2.cell? ⟨w.heap.size, 2, none⟩ = some (.bool p.f2.f0) := (blk_cell HE2.out 2).trans rfl
 have q3 : w2.cell? ⟨w.heap.size, 3, none⟩ = some (.int .i64 p.f2.f1) := (blk_cell HE2.out 3).trans rfl
 have q4 : w2.cell? ⟨w.heap.size, 4, none⟩ = some (.string p.f2.f2) := (blk_cell HE2.out 4).trans rfl
 have q5 : w2.cell? ⟨w.heap.size, 5, none⟩ = some (.bool p.f3.f0) := (blk_cell HE2.out 5).trans rfl
 have q6 : w2.cell? ⟨w.heap.size, 6, none⟩ = some (.int .i64 p.f3.f1) := (blk_cell HE2.out 6).trans rfl
 have q7 : w2.cell? ⟨w.heap.size, 7, none⟩ = some (.string p.f3.f2) := (blk_cell HE2.out 7).trans rfl
 go_wp2_with fail
 refine (manifest_right.val p.f2 _).mono ?_; rintro e w3 ⟨rfl, hb⟩
 rw [H3.out]
 have HE3 := Aside0.mk ((hb.block _ (blk_lt HE2.out)).trans HE2.out); have HB3 := Aside0.mk (below_then HB2.out HB2.out.size hb); clear hb
 clear q0 q1 q2 q3 q4 q5 q6 q7
 have q0 : w3.cell? ⟨w.heap.size, 0, none⟩ = some (.int .i64 p.f0) := (blk_cell HE3.out 0).trans rfl
 have q1 : w3.cell? ⟨w.heap.size, 1, none⟩ = some (.int .i64 p.f1) := (blk_cell HE3.out 1).trans rfl
 have q2 : w3.cell? ⟨w.heap.size, 2, none⟩ = some (.bool p.f2.f0) := (blk_cell HE3.out 2).trans rfl
 have q3 : w3.cell? ⟨w.heap.size, 3, none⟩ = some (.int .i64 p.f2.f1) := (blk_cell HE3.out 3).trans rfl
 have q4 : w3.cell? ⟨w.heap.size, 4, none⟩ = some (.string p.f2.f2) := (blk_cell HE3.out 4).trans rfl
 have q5 : w3.cell? ⟨w.heap.size, 5, none⟩ = some (.bool p.f3.f0) := (blk_cell HE3.out 5).trans rfl
 have q6 : w3.cell? ⟨w.heap.size, 6, none⟩ = some (.int .i64 p.f3.f1) := (blk_cell HE3.out 6).trans rfl
 have q7 : w3.cell? ⟨w.heap.size, 7, none⟩ = some (.string p.f3.f2) := (blk_cell HE3.out 7).trans rfl
 go_wp2_with fail
 refine (manifest_right.val p.f3 _).mono ?_; rintro e w4 ⟨rfl, hb⟩
 rw [H4.out]
 have HE4 := Aside0.mk ((hb.block _ (blk_lt HE3.out)).trans HE3.out); have HB4 := Aside0.mk (below_then HB3.out HB3.out.size hb); clear hb
 clear q0 q1 q2 q3 q4 q5 q6 q7
 have q0 : w4.cell? ⟨w.heap.size, 0, none⟩ = some (.int .i64 p.f0) := (blk_cell HE4.out 0).trans rfl
 have q1 : w4.cell? ⟨w.heap.size, 1, none⟩ = some (.int .i64 p.f1) := (blk_cell HE4.out 1).trans rfl
 have q2 : w4.cell? ⟨w.heap.size, 2, none⟩ = some (.bool p.f2.f0) := (blk_cell HE4.out 2).trans rfl
 have q3 : w4.cell? ⟨w.heap.size, 3, none⟩ = some (.int .i64 p.f2.f1) := (blk_cell HE4.out 3).trans rfl
 have q4 : w4.cell? ⟨w.heap.size, 4, none⟩ = some (.string p.f2.f2) := (blk_cell HE4.out 4).trans rfl
 have q5 : w4.cell? ⟨w.heap.size, 5, none⟩ = some (.bool p.f3.f0) := (blk_cell HE4.out 5).trans rfl
 have q6 : w4.cell? ⟨w.heap.size, 6, none⟩ = some (.int .i64 p.f3.f1) := (blk_cell HE4.out 6).trans rfl
 have q7 : w4.cell? ⟨w.heap.size, 7, none⟩ = some (.string p.f3.f2) := (blk_cell HE4.out 7).trans rfl
 go_wp2
 go_ret
 exact ⟨by first | rfl | (simp; omega), HB4.out⟩
set_option maxHeartbeats 1000000 in
set_option maxRecDepth 100000 in
theorem manifest_right.part5 (p : S36) (w : World) (h0 : oddI p.f0 = false) (h1 : decide (p.f1 < 0) = false) (h2 : decide (4 ≤ p.f1) = false) (h3 : badV p.f2 = false) (h4 : badV p.f3 = false) (h5 : decide (0 < cmpV p.f2 p.f3) = true) : Calls Try.prog 37 #[.agg #[.int .i64 p.f0, .int .i64 p.f1, .bool p.f2.f0, .int .i64 p.f2.f1, .string p.f2.f2, .bool p.f3.f0, .int .i64 p.f3.f1, .string p.f3.f2]] w fun e w' => e = .returned (.bool true) ∧ Below w.heap.size w w' := by
 have H0 := Aside0.mk ((odd_f p.f0).trans (congrArg some h0)); clear h0
 have H3 := Aside0.mk h3; clear h3
 have H4 := Aside0.mk h4; clear h4
 obtain ⟨c, hc⟩ : ∃ c, cmpV p.f2 p.f3 = c := ⟨_, rfl⟩
 rw [hc] at h5
 have H5 := Aside0.mk ((cmp_f (k := 5) (by omega) p.f2 p.f3).trans (congrArg some hc)); clear hc
 have hA := below_alloc (Below.refl w.heap.size w) (.cells #[.int .i64 p.f0, .int .i64 p.f1, .bool p.f2.f0, .int .i64 p.f2.f1, .string p.f2.f2, .bool p.f3.f0, .int .i64 p.f3.f1, .string p.f3.f2] 36)
 have HB := Aside0.mk hA
 have HE : Aside0 ((w.alloc (.cells #[.int .i64 p.f0, .int .i64 p.f1, .bool p.f2.f0, .int .i64 p.f2.f1, .string p.f2.f2, .bool p.f3.f0, .int .i64 p.f3.f1, .string p.f3.f2] 36)).heap[w.heap.size]? = some (.cells #[.int .i64 p.f0, .int .i64 p.f1, .bool p.f2.f0, .int .i64 p.f2.f1, .string p.f2.f2, .bool p.f3.f0, .int .i64 p.f3.f1, .string p.f3.f2] 36 (0, 0))) := ⟨heap_alloc_new w _⟩
 clear hA
 go_enter Try.func37, Try.ntmps37
 go_upto_region 1 with (fail)
 generalize World.alloc w _ = w1 at HB HE ⊢
 have q0 : w1.cell? ⟨w.heap.size, 0, none⟩ = some (.int .i64 p.f0) := (blk_cell HE.out 0).trans rfl
 have q1 : w1.cell? ⟨w.heap.size, 1, none⟩ = some (.int .i64 p.f1) := (blk_cell HE.out 1).trans rfl
 have q2 : w1.cell? ⟨w.heap.size, 2, none⟩ = some (.bool p.f2.f0) := (blk_cell HE.out 2).trans rfl
 have q3 : w1.cell? ⟨w.heap.size, 3, none⟩ = some (.int .i64 p.f2.f1) := (blk_cell HE.out 3).trans rfl
 have q4 : w1.cell? ⟨w.heap.size, 4, none⟩ = some (.string p.f2.f2) := (blk_cell HE.out 4).trans rfl
 have q5 : w1.cell? ⟨w.heap.size, 5, none⟩ = some (.bool p.f3.f0) := (blk_cell HE.out 5).trans rfl
 have q6 : w1.cell? ⟨w.heap.size, 6, none⟩ = some (.int .i64 p.f3.f1) := (blk_cell HE.out 6).trans rfl
 have q7 : w1.cell? ⟨w.heap.size, 7, none⟩ = some (.string p.f3.f2) := (blk_cell HE.out 7).trans rfl
 go_wp2_with fail
 refine (manifest_odd.calls p.f0 _ _ H0.out).mono ?_; rintro e w2 ⟨rfl, hb⟩
 replace hb := hb.below
 have HE2 := Aside0.mk ((hb.block _ (blk_lt HE.out)).trans HE.out); have HB2 := Aside0.mk (below_then HB.out HB.out.size hb); clear hb
 clear q0 q1 q2 q3 q4 q5 q6 q7
 have q0 : w2.cell? ⟨w.heap.size, 0, none⟩ = some (.int .i64 p.f0) := (blk_cell HE2.out 0).trans rfl
 have q1 : w2.cell? ⟨w.heap.size, 1, none⟩ = some (.int .i64 p.f1) := (blk_cell HE2.out 1).trans rfl
 have q2 : w2.cell? ⟨w.heap.size, 2, none⟩ = some (.bool p.f2.f0) := (blk_cell HE2.out 2).trans rfl
 have q3 : w2.cell? ⟨w.heap.size, 3, none⟩ = some (.int .i64 p.f2.f1) := (blk_cell HE2.out 3).trans rfl
 have q4 : w2.cell? ⟨w.heap.size, 4, none⟩ = some (.string p.f2.f2) := (blk_cell HE2.out 4).trans rfl
 have q5 : w2.cell? ⟨w.heap.size, 5, none⟩ = some (.bool p.f3.f0) := (blk_cell HE2.out 5).trans rfl
 have q6 : w2.cell? ⟨w.heap.size, 6, none⟩ = some (.int .i64 p.f3.f1) := (blk_cell HE2.out 6).trans rfl
 have q7 : w2.cell? ⟨w.heap.size, 7, none⟩ = some (.string p.f3.f2) := (blk_cell HE2.out 7).trans rfl
 go_wp2_with fail
 refine (manifest_right.val p.f2 _).mono ?_; rintro e w3 ⟨rfl, hb⟩
 rw [H3.out]
 have HE3 := Aside0.mk ((hb.block _ (blk_lt HE2.out)).trans HE2.out); have HB3 := Aside0.mk (below_then HB2.out HB2.out.size hb); clear hb
 clear q0 q1 q2 q3 q4 q5 q6 q7
 have q0 : w3.cell? ⟨w.heap.size, 0, none⟩ = some (.int .i64 p.f0) := (blk_cell HE3.out 0).trans rfl
 have q1 : w3.cell? ⟨w.heap.size, 1, none⟩ = some (.int .i64 p.f1) := (blk_cell HE3.out 1).trans rfl
 have q2 : w3.cell? ⟨w.heap.size, 2, none⟩ = some (.bool p.f2.f0) := (blk_cell HE3.out 2).trans rfl
 have q3 : w3.cell? ⟨w.heap.size, 3, none⟩ = some (.int .i64 p.f2.f1) := (blk_cell HE3.out 3).trans rfl
 have q4 : w3.cell? ⟨w.heap.size, 4, none⟩ = some (.string p.f2.f2) := (blk_cell HE3.out 4).trans rfl
 have q5 : w3.cell? ⟨w.heap.size, 5, none⟩ = some (.bool p.f3.f0) := (blk_cell HE3.out 5).trans rfl
 have q6 : w3.cell? ⟨w.heap.size, 6, none⟩ = some (.int .i64 p.f3.f1) := (blk_cell HE3.out 6).trans rfl
 have q7 : w3.cell? ⟨w.heap.size, 7, none⟩ = some (.string p.f3.f2) := (blk_cell HE3.out 7).trans rfl
 go_wp2_with fail
 refine (manifest_right.val p.f3 _).mono ?_; rintro e w4 ⟨rfl, hb⟩
 rw [H4.out]
 have HE4 := Aside0.mk ((hb.block _ (blk_lt HE3.out)).trans HE3.out); have HB4 := Aside0.mk (below_then HB3.out HB3.out.size hb); clear hb
 clear q0 q1 q2 q3 q4 q5 q6 q7
 have q0 : w4.cell? ⟨w.heap.size, 0, none⟩ = some (.int .i64 p.f0) := (blk_cell HE4.out 0).trans rfl
 have q1 : w4.cell? ⟨w.heap.size, 1, none⟩ = some (.int .i64 p.f1) := (blk_cell HE4.out 1).trans rfl
 have q2 : w4.cell? ⟨w.heap.size, 2, none⟩ = some (.bool p.f2.f0) := (blk_cell HE4.out 2).trans rfl
 have q3 : w4.cell? ⟨w.heap.size, 3, none⟩ = some (.int .i64 p.f2.f1) := (blk_cell HE4.out 3).trans rfl
 have q4 : w4.cell? ⟨w.heap.size, 4, none⟩ = some (.string p.f2.f2) := (blk_cell HE4.out 4).trans rfl
 have q5 : w4.cell? ⟨w.heap.size, 5, none⟩ = some (.bool p.f3.f0) := (blk_cell HE4.out 5).trans rfl
 have q6 : w4.cell? ⟨w.heap.size, 6, none⟩ = some (.int .i64 p.f3.f1) := (blk_cell HE4.out 6).trans rfl
 have q7 : w4.cell? ⟨w.heap.size, 7, none⟩ = some (.string p.f3.f2) := (blk_cell HE4.out 7).trans rfl
 go_wp2_with fail
 refine (kinds_Compare.calls 5 _ _ _ _ _ _ _ _ H5.out).mono ?_; rintro e w5 ⟨rfl, hb⟩
 have HE5 := Aside0.mk ((hb.block _ (blk_lt HE4.out)).trans HE4.out); have HB5 := Aside0.mk (below_then HB4.out HB4.out.size hb); clear hb
 clear q0 q1 q2 q3 q4 q5 q6 q7
 have q0 : w5.cell? ⟨w.heap.size, 0, none⟩ = some (.int .i64 p.f0) := (blk_cell HE5.out 0).trans rfl
 have q1 : w5.cell? ⟨w.heap.size, 1, none⟩ = some (.int .i64 p.f1) := (blk_cell HE5.out 1).trans rfl
 have q2 : w5.cell? ⟨w.heap.size, 2, none⟩ = some (.bool p.f2.f0) := (blk_cell HE5.out 2).trans rfl
 have q3 : w5.cell? ⟨w.heap.size, 3, none⟩ = some (.int .i64 p.f2.f1) := (blk_cell HE5.out 3).trans rfl
 have q4 : w5.cell? ⟨w.heap.size, 4, none⟩ = some (.string p.f2.f2) := (blk_cell HE5.out 4).trans rfl
 have q5 : w5.cell? ⟨w.heap.size, 5, none⟩ = some (.bool p.f3.f0) := (blk_cell HE5.out 5).trans rfl
 have q6 : w5.cell? ⟨w.heap.size, 6, none⟩ = some (.int .i64 p.f3.f1) := (blk_cell HE5.out 6).trans rfl
 have q7 : w5.cell? ⟨w.heap.size, 7, none⟩ = some (.string p.f3.f2) := (blk_cell HE5.out 7).trans rfl
 go_wp2
 go_ret
 exact ⟨by first | rfl | (simp; omega), HB5.out⟩
set_option maxHeartbeats 1000000 in
set_option maxRecDepth 100000 in
theorem manifest_right.part6 (p : S36) (w : World) (h0 : oddI p.f0 = false) (h1 : decide (p.f1 < 0) = false) (h2 : decide (4 ≤ p.f1) = false) (h3 : badV p.f2 = false) (h4 : badV p.f3 = false) (h5 : decide (0 < cmpV p.f2 p.f3) = false) : Calls Try.prog 37 #[.agg #[.int .i64 p.f0, .int .i64 p.f1, .bool p.f2.f0, .int .i64 p.f2.f1, .string p.f2.f2, .bool p.f3.f0, .int .i64 p.f3.f1, .string p.f3.f2]] w fun e w' => e = .returned (.bool false) ∧ Below w.heap.size w w' := by
 have H0 := Aside0.mk ((odd_f p.f0).trans (congrArg some h0)); clear h0
 have H3 := Aside0.mk h3; clear h3
 have H4 := Aside0.mk h4; clear h4
 obtain ⟨c, hc⟩ : ∃ c, cmpV p.f2 p.f3 = c := ⟨_, rfl⟩
 rw [hc] at h5
 have H5 := Aside0.mk ((cmp_f (k := 5) (by omega) p.f2 p.f3).trans (congrArg some hc)); clear hc
 have hA := below_alloc (Below.refl w.heap.size w) (.cells #[.int .i64 p.f0, .int .i64 p.f1, .bool p.f2.f0, .int .i64 p.f2.f1, .string p.f2.f2, .bool p.f3.f0, .int .i64 p.f3.f1, .string p.f3.f2] 36)
 have HB := Aside0.mk hA
 have HE : Aside0 ((w.alloc (.cells #[.int .i64 p.f0, .int .i64 p.f1, .bool p.f2.f0, .int .i64 p.f2.f1, .string p.f2.f2, .bool p.f3.f0, .int .i64 p.f3.f1, .string p.f3.f2] 36)).heap[w.heap.size]? = some (.cells #[.int .i64 p.f0, .int .i64 p.f1, .bool p.f2.f0, .int .i64 p.f2.f1, .string p.f2.f2, .bool p.f3.f0, .int .i64 p.f3.f1, .string p.f3.f2] 36 (0, 0))) := ⟨heap_alloc_new w _⟩
 clear hA
 go_enter Try.func37, Try.ntmps37
 go_upto_region 1 with (fail)
 generalize World.alloc w _ = w1 at HB HE ⊢
 have q0 : w1.cell? ⟨w.heap.size, 0, none⟩ = some (.int .i64 p.f0) := (blk_cell HE.out 0).trans rfl
 have q1 : w1.cell? ⟨w.heap.size, 1, none⟩ = some (.int .i64 p.f1) := (blk_cell HE.out 1).trans rfl
 have q2 : w1.cell? ⟨w.heap.size, 2, none⟩ = some (.bool p.f2.f0) := (blk_cell HE.out 2).trans rfl
 have q3 : w1.cell? ⟨w.heap.size, 3, none⟩ = some (.int .i64 p.f2.f1) := (blk_cell HE.out 3).trans rfl
 have q4 : w1.cell? ⟨w.heap.size, 4, none⟩ = some (.string p.f2.f2) := (blk_cell HE.out 4).trans rfl
 have q5 : w1.cell? ⟨w.heap.size, 5, none⟩ = some (.bool p.f3.f0) := (blk_cell HE.out 5).trans rfl
 have q6 : w1.cell? ⟨w.heap.size, 6, none⟩ = some (.int .i64 p.f3.f1) := (blk_cell HE.out 6).trans rfl
 have q7 : w1.cell? ⟨w.heap.size, 7, none⟩ = some (.string p.f3.f2) := (blk_cell HE.out 7).trans rfl
 go_wp2_with fail
 refine (manifest_odd.calls p.f0 _ _ H0.out).mono ?_; rintro e w2 ⟨rfl, hb⟩
 replace hb := hb.below
 have HE2 := Aside0.mk ((hb.block _ (blk_lt HE.out)).trans HE.out); have HB2 := Aside0.mk (below_then HB.out HB.out.size hb); clear hb
 clear q0 q1 q2 q3 q4 q5 q6 q7
 have q0 : w2.cell? ⟨w.heap.size, 0, none⟩ = some (.int .i64 p.f0) := (blk_cell HE2.out 0).trans rfl
 have q1 : w2.cell? ⟨w.heap.size, 1, none⟩ = some (.int .i64 p.f1) := (blk_cell HE2.out 1).trans rfl
 have q2 : w2.cell? ⟨w.heap.size, 2, none⟩ = some (.bool p.f2.f0) := (blk_cell HE2.out 2).trans rfl
 have q3 : w2.cell? ⟨w.heap.size, 3, none⟩ = some (.int .i64 p.f2.f1) := (blk_cell HE2.out 3).trans rfl
 have q4 : w2.cell? ⟨w.heap.size, 4, none⟩ = some (.string p.f2.f2) := (blk_cell HE2.out 4).trans rfl
 have q5 : w2.cell? ⟨w.heap.size, 5, none⟩ = some (.bool p.f3.f0) := (blk_cell HE2.out 5).trans rfl
 have q6 : w2.cell? ⟨w.heap.size, 6, none⟩ = some (.int .i64 p.f3.f1) := (blk_cell HE2.out 6).trans rfl
 have q7 : w2.cell? ⟨w.heap.size, 7, none⟩ = some (.string p.f3.f2) := (blk_cell HE2.out 7).trans rfl
 go_wp2_with fail
 refine (manifest_right.val p.f2 _).mono ?_; rintro e w3 ⟨rfl, hb⟩
 rw [H3.out]
 have HE3 := Aside0.mk ((hb.block _ (blk_lt HE2.out)).trans HE2.out); have HB3 := Aside0.mk (below_then HB2.out HB2.out.size hb); clear hb
 clear q0 q1 q2 q3 q4 q5 q6 q7
 have q0 : w3.cell? ⟨w.heap.size, 0, none⟩ = some (.int .i64 p.f0) := (blk_cell HE3.out 0).trans rfl
 have q1 : w3.cell? ⟨w.heap.size, 1, none⟩ = some (.int .i64 p.f1) := (blk_cell HE3.out 1).trans rfl
 have q2 : w3.cell? ⟨w.heap.size, 2, none⟩ = some (.bool p.f2.f0) := (blk_cell HE3.out 2).trans rfl
 have q3 : w3.cell? ⟨w.heap.size, 3, none⟩ = some (.int .i64 p.f2.f1) := (blk_cell HE3.out 3).trans rfl
 have q4 : w3.cell? ⟨w.heap.size, 4, none⟩ = some (.string p.f2.f2) := (blk_cell HE3.out 4).trans rfl
 have q5 : w3.cell? ⟨w.heap.size, 5, none⟩ = some (.bool p.f3.f0) := (blk_cell HE3.out 5).trans rfl
 have q6 : w3.cell? ⟨w.heap.size, 6, none⟩ = some (.int .i64 p.f3.f1) := (blk_cell HE3.out 6).trans rfl
 have q7 : w3.cell? ⟨w.heap.size, 7, none⟩ = some (.string p.f3.f2) := (blk_cell HE3.out 7).trans rfl
 go_wp2_with fail
 refine (manifest_right.val p.f3 _).mono ?_; rintro e w4 ⟨rfl, hb⟩
 rw [H4.out]
 have HE4 := Aside0.mk ((hb.block _ (blk_lt HE3.out)).trans HE3.out); have HB4 := Aside0.mk (below_then HB3.out HB3.out.size hb); clear hb
 clear q0 q1 q2 q3 q4 q5 q6 q7
 have q0 : w4.cell? ⟨w.heap.size, 0, none⟩ = some (.int .i64 p.f0) := (blk_cell HE4.out 0).trans rfl
 have q1 : w4.cell? ⟨w.heap.size, 1, none⟩ = some (.int .i64 p.f1) := (blk_cell HE4.out 1).trans rfl
 have q2 : w4.cell? ⟨w.heap.size, 2, none⟩ = some (.bool p.f2.f0) := (blk_cell HE4.out 2).trans rfl
 have q3 : w4.cell? ⟨w.heap.size, 3, none⟩ = some (.int .i64 p.f2.f1) := (blk_cell HE4.out 3).trans rfl
 have q4 : w4.cell? ⟨w.heap.size, 4, none⟩ = some (.string p.f2.f2) := (blk_cell HE4.out 4).trans rfl
 have q5 : w4.cell? ⟨w.heap.size, 5, none⟩ = some (.bool p.f3.f0) := (blk_cell HE4.out 5).trans rfl
 have q6 : w4.cell? ⟨w.heap.size, 6, none⟩ = some (.int .i64 p.f3.f1) := (blk_cell HE4.out 6).trans rfl
 have q7 : w4.cell? ⟨w.heap.size, 7, none⟩ = some (.string p.f3.f2) := (blk_cell HE4.out 7).trans rfl
 go_wp2_with fail
 refine (kinds_Compare.calls 5 _ _ _ _ _ _ _ _ H5.out).mono ?_; rintro e w5 ⟨rfl, hb⟩
 have HE5 := Aside0.mk ((hb.block _ (blk_lt HE4.out)).trans HE4.out); have HB5 := Aside0.mk (below_then HB4.out HB4.out.size hb); clear hb
 clear q0 q1 q2 q3 q4 q5 q6 q7
 have q0 : w5.cell? ⟨w.heap.size, 0, none⟩ = some (.int .i64 p.f0) := (blk_cell HE5.out 0).trans rfl
 have q1 : w5.cell? ⟨w.heap.size, 1, none⟩ = some (.int .i64 p.f1) := (blk_cell HE5.out 1).trans rfl
 have q2 : w5.cell? ⟨w.heap.size, 2, none⟩ = some (.bool p.f2.f0) := (blk_cell HE5.out 2).trans rfl
 have q3 : w5.cell? ⟨w.heap.size, 3, none⟩ = some (.int .i64 p.f2.f1) := (blk_cell HE5.out 3).trans rfl
 have q4 : w5.cell? ⟨w.heap.size, 4, none⟩ = some (.string p.f2.f2) := (blk_cell HE5.out 4).trans rfl
 have q5 : w5.cell? ⟨w.heap.size, 5, none⟩ = some (.bool p.f3.f0) := (blk_cell HE5.out 5).trans rfl
 have q6 : w5.cell? ⟨w.heap.size, 6, none⟩ = some (.int .i64 p.f3.f1) := (blk_cell HE5.out 6).trans rfl
 have q7 : w5.cell? ⟨w.heap.size, 7, none⟩ = some (.string p.f3.f2) := (blk_cell HE5.out 7).trans rfl
 go_wp2
 go_ret
 exact ⟨by first | rfl | (simp; omega), HB5.out⟩
theorem manifest_right.part (p : S36) (w : World) : Calls Try.prog 37 #[.agg #[.int .i64 p.f0, .int .i64 p.f1, .bool p.f2.f0, .int .i64 p.f2.f1, .string p.f2.f2, .bool p.f3.f0, .int .i64 p.f3.f1, .string p.f3.f2]] w fun e w' => e = .returned (.bool (oddP p)) ∧ Below w.heap.size w w' := by
 cases h0 : oddI p.f0
 ·cases h1 : decide (p.f1 < 0)
  ·cases h2 : decide (4 ≤ p.f1)
   ·cases h3 : badV p.f2
    ·cases h4 : badV p.f3
     ·cases h5 : decide (0 < cmpV p.f2 p.f3)
      ·have e : oddP p = false := by unfold oddP; rw [h0, h1, h2, h3, h4, h5]; rfl
       rw [e]; exact manifest_right.part6 p w h0 h1 h2 h3 h4 h5
      ·have e : oddP p = true := by unfold oddP; rw [h0, h1, h2, h3, h4, h5]; rfl
       rw [e]; exact manifest_right.part5 p w h0 h1 h2 h3 h4 h5
     ·have e : oddP p = true := by unfold oddP; rw [h0, h1, h2, h3, h4]; rfl
      rw [e]; exact manifest_right.part4 p w h0 h1 h2 h3 h4
    ·have e : oddP p = true := by unfold oddP; rw [h0, h1, h2, h3]; rfl
     rw [e]; exact manifest_right.part3 p w h0 h1 h2 h3
   ·have e : oddP p = true := by unfold oddP; rw [h0, h1, h2]; rfl
    rw [e]; exact manifest_right.part2 p w h0 h1 h2
  ·have e : oddP p = true := by unfold oddP; rw [h0, h1]; rfl
   rw [e]; exact manifest_right.part1 p w h0 h1
 ·have e : oddP p = true := by unfold oddP; rw [h0]; rfl
  rw [e]; exact manifest_right.part0 p w h0
def manifest_right.AtI (w0 : World) (l : List Int) (e : Ending) (w' : World) : Prop := ∃ j : Int, e = .returned (.int .i64 j) ∧ decide (0 ≤ j) = !(l.all fun x => !oddI x) ∧ Below w0.heap.size w0 w'
theorem manifest_right.allI {l : List Int} {n : Nat} (hn : n = l.length) (h : ∀ k : Nat, k < n → oddI (rd l (k : Int)) = false) : (l.all fun x => !oddI x) = true := by
 rw [List.all_eq_true]
 intro x hx
 obtain ⟨k, hk, rfl⟩ := List.getElem_of_mem hx
 have := h k (by omega)
 unfold rd at this
 rw [Int.toNat_natCast, List.getD_eq_getElem?_getD, List.getElem?_eq_getElem hk] at this
 simpa using this
theorem manifest_right.notI {l : List Int} {k : Nat} (hk : k < l.length) (h : oddI (rd l (k : Int)) = true) : (l.all fun x => !oddI x) = false := by
 rw [List.all_eq_false]
 refine ⟨l[k], List.getElem_mem hk, ?_⟩
 unfold rd at h
 rw [Int.toNat_natCast, List.getD_eq_getElem?_getD, List.getElem?_eq_getElem hk] at h
 have h2 : oddI l[k] = true := h
 rw [h2]; decide
set_option maxHeartbeats 1000000 in
set_option maxRecDepth 100000 in
theorem manifest_right.idxI (A : Option Addr) (c : Nat) (l : List Int) (w0 w : World) (hr : (Kd.int .i64).C w A l.length l) (hl : l.length ≤ 1000) (hB : Below w0.heap.size w0 w) : Calls Try.prog 59 #[.slice A l.length c, .func (.func 34) #[] #[]] w (manifest_right.AtI w0 l) := by
 have HR := Aside0.mk hr; have HB := Aside0.mk hB
 clear hr hB
 go_enter Try.func59, Try.ntmps59
 go_wp2_with fail
 go_loopg [8] l.length (fun gq s8 wx => ∃ i : Nat, i ≤ l.length ∧ gq = l.length - i ∧ s8 = .int .i64 (i : Int) ∧ Aside0 (∀ k : Nat, k < i → oddI (rd l (k : Int)) = false) ∧ Aside0 (Below w.heap.size w wx) ∧ Aside0 (Below w0.heap.size w0 wx))
 case atStart => exact ⟨0, by omega, by omega, rfl, ⟨fun k hk => by omega⟩, ⟨Below.refl _ _⟩, HB⟩
 case round =>
  clear HB
  obtain ⟨i, hi, rfl, rfl, HN, HW, HB⟩ := hrel
  by_cases hlt : i < l.length
  ·obtain ⟨g1, hg1⟩ : ∃ g1, l.length - i = g1 + 1 := ⟨l.length - i - 1, by omega⟩
   have k2 : decide ((i : Int) < (l.length : Int)) = true := decide_eq_true (by omega)
   have k2' : decide (i < l.length) = true := decide_eq_true hlt
   obtain ⟨ad, hA, hx0⟩ := Kd.at_int (Kd.C_below HR.out HW.out) (i : Int) (by omega) (by omega)
   rw [Int.toNat_natCast] at hx0
   cases hA
   have i1 : (0 : Int) ≤ (i : Int) := by omega
   have i2 : (i : Int) < (l.length : Int) := by omega
   replace i1 := eq_true i1; replace i2 := eq_true i2
   have hno := manifest_right.notI (l := l) hlt
   obtain ⟨x, hx⟩ : ∃ x, rd l (i : Int) = x := ⟨_, rfl⟩
   rw [hx] at hx0 hno
   have HX := Aside0.mk hx; have HLT := Aside0.mk hlt; have HNO := Aside0.mk hno
   clear hx hlt hno
   cases hb : oddI x
   ·have HO := Aside0.mk hb; clear hb
    go_wp2_with fail
    refine (manifest_odd.calls x _ _ (odd_f x)).mono ?_; rintro e w2 ⟨rfl, hb2⟩
    replace hb2 := hb2.below
    rw [HO.out]
    have HW2 := Aside0.mk (below_then HW.out HW.out.size hb2); have HB2 := Aside0.mk (below_then HB.out HB.out.size hb2)
    clear hb2 HW HB
    go_wp2
    go_roundg g1
    case measure => omega
    case rel => exact ⟨i + 1, by have := HLT.out; omega, by omega, by go_num, ⟨fun k hk => by
     by_cases e : k = i
     ·subst e; rw [HX.out]; exact HO.out
     ·exact HN.out k (by omega)⟩, HW2, HB2⟩
   ·have HO := Aside0.mk hb; clear hb
    go_wp2_with fail
    refine (manifest_odd.calls x _ _ (odd_f x)).mono ?_; rintro e w2 ⟨rfl, hb2⟩
    replace hb2 := hb2.below
    rw [HO.out]
    have HB2 := Aside0.mk (below_then HB.out HB.out.size hb2)
    clear hb2 HW HB
    go_wp2
    go_ret
    exact ⟨(i : Int), rfl, by rw [HNO.out HO.out]; exact decide_eq_true (by omega), HB2.out⟩
  ·have k2 : decide ((i : Int) < (l.length : Int)) = false := decide_eq_false (by omega)
   have k2' : decide (i < l.length) = false := decide_eq_false hlt
   have HE := Aside0.mk (show i = l.length by omega)
   clear hlt hi
   go_wp2
   go_ret
   exact ⟨-1, rfl, by rw [manifest_right.allI HE.out HN.out]; rfl, HB.out⟩
set_option maxHeartbeats 1000000 in
set_option maxRecDepth 100000 in
theorem manifest_right.contI (A : Option Addr) (c : Nat) (l : List Int) (w0 w : World) (hr : (Kd.int .i64).C w A l.length l) (hl : l.length ≤ 1000) (hB : Below w0.heap.size w0 w) : Calls Try.prog 35 #[.slice A l.length c, .func (.func 34) #[] #[]] w fun e w' => e = .returned (.bool (!(l.all fun x => !oddI x))) ∧ Below w0.heap.size w0 w' := by
 have HI := Aside0.mk (manifest_right.idxI A c l w0 w hr hl hB)
 obtain ⟨fl, hf⟩ : ∃ fl, (l.all fun x => !oddI x) = fl := ⟨_, rfl⟩
 rw [hf]
 have HF := Aside0.mk hf
 clear hf
 go_enter Try.func35, Try.ntmps35
 go_wp2_with fail
 refine HI.out.mono ?_; rintro e w2 ⟨j, rfl, hj, hb2⟩
 rw [HF.out] at hj
 go_wp2
 go_ret
 exact ⟨rfl, hb2⟩
def manifest_right.AtP (w0 : World) (l : List S36) (e : Ending) (w' : World) : Prop := ∃ j : Int, e = .returned (.int .i64 j) ∧ decide (0 ≤ j) = !(l.all fun x => !oddP x) ∧ Below w0.heap.size w0 w'
theorem manifest_right.allP {l : List S36} {n : Nat} (hn : n = l.length) (h : ∀ k : Nat, k < n → oddP (rd_T36 l (k : Int)) = false) : (l.all fun x => !oddP x) = true := by
 rw [List.all_eq_true]
 intro x hx
 obtain ⟨k, hk, rfl⟩ := List.getElem_of_mem hx
 have := h k (by omega)
 unfold rd_T36 at this
 rw [Int.toNat_natCast, List.getD_eq_getElem?_getD, List.getElem?_eq_getElem hk] at this
 simpa using this
theorem manifest_right.notP {l : List S36} {k : Nat} (hk : k < l.length) (h : oddP (rd_T36 l (k : Int)) = true) : (l.all fun x => !oddP x) = false := by
 rw [List.all_eq_false]
 refine ⟨l[k], List.getElem_mem hk, ?_⟩
 unfold rd_T36 at h
 rw [Int.toNat_natCast, List.getD_eq_getElem?_getD, List.getElem?_eq_getElem hk] at h
 have h2 : oddP l[k] = true := h
 rw [h2]; decide
set_option maxHeartbeats 1000000 in
set_option maxRecDepth 100000 in
theorem manifest_right.idxP (A : Option Addr) (c : Nat) (l : List S36) (w0 w : World) (hr : k36.C w A l.length l) (hl : l.length ≤ 1000) (hB : Below w0.heap.size w0 w) : Calls Try.prog 60 #[.slice A l.length c, .func (.func 37) #[] #[]] w (manifest_right.AtP w0 l) := by
 have HR := Aside0.mk hr; have HB := Aside0.mk hB
 clear hr hB
 go_enter Try.func60, Try.ntmps60
 go_wp2_with fail
 go_loopg [8] l.length (fun gq s8 wx => ∃ i : Nat, i ≤ l.length ∧ gq = l.length - i ∧ s8 = .int .i64 (i : Int) ∧ Aside0 (∀ k : Nat, k < i → oddP (rd_T36 l (k : Int)) = false) ∧ Aside0 (Below w.heap.size w wx) ∧ Aside0 (Below w0.heap.size w0 wx))
 case atStart => exact ⟨0, by omega, by omega, rfl, ⟨fun k hk => by omega⟩, ⟨Below.refl _ _⟩, HB⟩
 case round =>
  clear HB
  obtain ⟨i, hi, rfl, rfl, HN, HW, HB⟩ := hrel
  by_cases hlt : i < l.length
  ·obtain ⟨g1, hg1⟩ : ∃ g1, l.length - i = g1 + 1 := ⟨l.length - i - 1, by omega⟩
   have k2 : decide ((i : Int) < (l.length : Int)) = true := decide_eq_true (by omega)
   have k2' : decide (i < l.length) = true := decide_eq_true hlt
   obtain ⟨ad, hA, hx0, hx1, hx2, hx3, hx4, hx5, hx6, hx7⟩ := at_T36 (Kd.C_below HR.out HW.out) (i : Int) (by omega) (by omega)
   rw [Int.toNat_natCast] at hx0 hx1 hx2 hx3 hx4 hx5 hx6 hx7
   cases hA
   have i1 : (0 : Int) ≤ (i : Int) := by omega
   have i2 : (i : Int) < (l.length : Int) := by omega
   replace i1 := eq_true i1; replace i2 := eq_true i2
   have hno := manifest_right.notP (l := l) hlt
   obtain ⟨x, hx⟩ : ∃ x, rd_T36 l (i : Int) = x := ⟨_, rfl⟩
   rw [hx] at hx0 hx1 hx2 hx3 hx4 hx5 hx6 hx7 hno
   have HX := Aside0.mk hx; have HLT := Aside0.mk hlt; have HNO := Aside0.mk hno
   clear hx hlt hno
   cases hb : oddP x
   ·have HO := Aside0.mk hb; clear hb
    go_wp2_with fail
    refine (manifest_right.part x _).mono ?_; rintro e w2 ⟨rfl, hb2⟩
    skip
    rw [HO.out]
    have HW2 := Aside0.mk (below_then HW.out HW.out.size hb2); have HB2 := Aside0.mk (below_then HB.out HB.out.size hb2)
    clear hb2 HW HB
    go_wp2
    go_roundg g1
    case measure => omega
    case rel => exact ⟨i + 1, by have := HLT.out; omega, by omega, by go_num, ⟨fun k hk => by
     by_cases e : k = i
     ·subst e; rw [HX.out]; exact HO.out
     ·exact HN.out k (by omega)⟩, HW2, HB2⟩
   ·have HO := Aside0.mk hb; clear hb
    go_wp2_with fail
    refine (manifest_right.part x _).mono ?_; rintro e w2 ⟨rfl, hb2⟩
    skip
    rw [HO.out]
    have HB2 := Aside0.mk (below_then HB.out HB.out.size hb2)
    clear hb2 HW HB
    go_wp2
    go_ret
    exact ⟨(i : Int), rfl, by rw [HNO.out HO.out]; exact decide_eq_true (by omega), HB2.out⟩
  ·have k2 : decide ((i : Int) < (l.length : Int)) = false := decide_eq_false (by omega)
   have k2' : decide (i < l.length) = false := decide_eq_false hlt
   have HE := Aside0.mk (show i = l.length by omega)
   clear hlt hi
   go_wp2
   go_ret
   exact ⟨-1, rfl, by rw [manifest_right.allP HE.out HN.out]; rfl, HB.out⟩
set_option maxHeartbeats 1000000 in
set_option maxRecDepth 100000 in
theorem manifest_right.contP (A : Option Addr) (c : Nat) (l : List S36) (w0 w : World) (hr : k36.C w A l.length l) (hl : l.length ≤ 1000) (hB : Below w0.heap.size w0 w) : Calls Try.prog 36 #[.slice A l.length c, .func (.func 37) #[] #[]] w fun e w' => e = .returned (.bool (!(l.all fun x => !oddP x))) ∧ Below w0.heap.size w0 w' := by
 have HI := Aside0.mk (manifest_right.idxP A c l w0 w hr hl hB)
 obtain ⟨fl, hf⟩ : ∃ fl, (l.all fun x => !oddP x) = fl := ⟨_, rfl⟩
 rw [hf]
 have HF := Aside0.mk hf
 clear hf
 go_enter Try.func36, Try.ntmps36
 go_wp2_with fail
 refine HI.out.mono ?_; rintro e w2 ⟨j, rfl, hj, hb2⟩
 rw [HF.out] at hj
 go_wp2
 go_ret
 exact ⟨rfl, hb2⟩
set_option maxHeartbeats 2000000 in
set_option maxRecDepth 100000 in
theorem manifest_right.way0 (A0 : Option Addr) (c0 : Nat) (d : List Int) (A1 : Option Addr) (c1 : Nat) (a : List S36) (fl nx : Int) (w : World) (hr0 : (Kd.int .i64).C w A0 d.length d) (hr1 : k36.C w A1 a.length a) (h0 : decide (d.length ≤ 1000) = false) :
  Calls Try.prog 18 #[.agg #[.slice A0 d.length c0, .slice A1 a.length c1, .int .i64 fl, .int .i64 nx]] w fun e w' => e = .returned (.bool false) ∧ Below w.heap.size w w' := by
 have g0 : decide ((d.length : Int) ≤ 1000) = false := by rw [← h0]; simp; omega
 have HR0 := Aside0.mk hr0; have HR1 := Aside0.mk hr1; clear hr0 hr1
 have hA := below_alloc (Below.refl w.heap.size w) (.cells #[.slice A0 d.length c0, .slice A1 a.length c1, .int .i64 fl, .int .i64 nx] 32)
 have HB := Aside0.mk hA
 have HE : Aside0 ((w.alloc (.cells #[.slice A0 d.length c0, .slice A1 a.length c1, .int .i64 fl, .int .i64 nx] 32)).heap[w.heap.size]? = some (.cells #[.slice A0 d.length c0, .slice A1 a.length c1, .int .i64 fl, .int .i64 nx] 32 (0, 0))) := ⟨heap_alloc_new w _⟩
 clear hA
 go_enter Try.func18, Try.ntmps18
 go_upto_region 1 with (fail)
 generalize World.alloc w _ = w1 at HB HE ⊢
 have q0 : w1.cell? ⟨w.heap.size, 0, none⟩ = some (.slice A0 d.length c0) := (blk_cell HE.out 0).trans rfl
 have q1 : w1.cell? ⟨w.heap.size, 1, none⟩ = some (.slice A1 a.length c1) := (blk_cell HE.out 1).trans rfl
 have q2 : w1.cell? ⟨w.heap.size, 2, none⟩ = some (.int .i64 fl) := (blk_cell HE.out 2).trans rfl
 have q3 : w1.cell? ⟨w.heap.size, 3, none⟩ = some (.int .i64 nx) := (blk_cell HE.out 3).trans rfl
 go_wp2
 go_ret
 exact ⟨rfl, HB.out⟩
set_option maxHeartbeats 2000000 in
set_option maxRecDepth 100000 in
theorem manifest_right.way1 (A0 : Option Addr) (c0 : Nat) (d : List Int) (A1 : Option Addr) (c1 : Nat) (a : List S36) (fl nx : Int) (w : World) (hr0 : (Kd.int .i64).C w A0 d.length d) (hr1 : k36.C w A1 a.length a) (h0 : decide (d.length ≤ 1000) = true) (h1 : decide (a.length ≤ 1000) = false) :
  Calls Try.prog 18 #[.agg #[.slice A0 d.length c0, .slice A1 a.length c1, .int .i64 fl, .int .i64 nx]] w fun e w' => e = .returned (.bool false) ∧ Below w.heap.size w w' := by
 have g0 : decide ((d.length : Int) ≤ 1000) = true := by rw [← h0]; simp; omega
 have g1 : decide ((a.length : Int) ≤ 1000) = false := by rw [← h1]; simp; omega
 have HR0 := Aside0.mk hr0; have HR1 := Aside0.mk hr1; clear hr0 hr1
 have hA := below_alloc (Below.refl w.heap.size w) (.cells #[.slice A0 d.length c0, .slice A1 a.length c1, .int .i64 fl, .int .i64 nx] 32)
 have HB := Aside0.mk hA
 have HE : Aside0 ((w.alloc (.cells #[.slice A0 d.length c0, .slice A1 a.length c1, .int .i64 fl, .int .i64 nx] 32)).heap[w.heap.size]? = some (.cells #[.slice A0 d.length c0, .slice A1 a.length c1, .int .i64 fl, .int .i64 nx] 32 (0, 0))) := ⟨heap_alloc_new w _⟩
 clear hA
 go_enter Try.func18, Try.ntmps18
 go_upto_region 1 with (fail)
 generalize World.alloc w _ = w1 at HB HE ⊢
 have q0 : w1.cell? ⟨w.heap.size, 0, none⟩ = some (.slice A0 d.length c0) := (blk_cell HE.out 0).trans rfl
 have q1 : w1.cell? ⟨w.heap.size, 1, none⟩ = some (.slice A1 a.length c1) := (blk_cell HE.out 1).trans rfl
 have q2 : w1.cell? ⟨w.heap.size, 2, none⟩ = some (.int .i64 fl) := (blk_cell HE.out 2).trans rfl
 have q3 : w1.cell? ⟨w.heap.size, 3, none⟩ = some (.int .i64 nx) := (blk_cell HE.out 3).trans rfl
 go_wp2
 go_ret
 exact ⟨rfl, HB.out⟩
set_option maxHeartbeats 2000000 in
set_option maxRecDepth 100000 in
theorem manifest_right.way2 (A0 : Option Addr) (c0 : Nat) (d : List Int) (A1 : Option Addr) (c1 : Nat) (a : List S36) (fl nx : Int) (w : World) (hr0 : (Kd.int .i64).C w A0 d.length d) (hr1 : k36.C w A1 a.length a) (h0 : decide (d.length ≤ 1000) = true) (h1 : decide (a.length ≤ 1000) = true) (h2 : oddI fl = true) :
  Calls Try.prog 18 #[.agg #[.slice A0 d.length c0, .slice A1 a.length c1, .int .i64 fl, .int .i64 nx]] w fun e w' => e = .returned (.bool false) ∧ Below w.heap.size w w' := by
 have g0 : decide ((d.length : Int) ≤ 1000) = true := by rw [← h0]; simp; omega
 have g1 : decide ((a.length : Int) ≤ 1000) = true := by rw [← h1]; simp; omega
 have H2 := Aside0.mk ((odd_f fl).trans (congrArg some h2)); clear h2
 have HR0 := Aside0.mk hr0; have HR1 := Aside0.mk hr1; clear hr0 hr1
 have hA := below_alloc (Below.refl w.heap.size w) (.cells #[.slice A0 d.length c0, .slice A1 a.length c1, .int .i64 fl, .int .i64 nx] 32)
 have HB := Aside0.mk hA
 have HE : Aside0 ((w.alloc (.cells #[.slice A0 d.length c0, .slice A1 a.length c1, .int .i64 fl, .int .i64 nx] 32)).heap[w.heap.size]? = some (.cells #[.slice A0 d.length c0, .slice A1 a.length c1, .int .i64 fl, .int .i64 nx] 32 (0, 0))) := ⟨heap_alloc_new w _⟩
 clear hA
 go_enter Try.func18, Try.ntmps18
 go_upto_region 1 with (fail)
 generalize World.alloc w _ = w1 at HB HE ⊢
 have q0 : w1.cell? ⟨w.heap.size, 0, none⟩ = some (.slice A0 d.length c0) := (blk_cell HE.out 0).trans rfl
 have q1 : w1.cell? ⟨w.heap.size, 1, none⟩ = some (.slice A1 a.length c1) := (blk_cell HE.out 1).trans rfl
 have q2 : w1.cell? ⟨w.heap.size, 2, none⟩ = some (.int .i64 fl) := (blk_cell HE.out 2).trans rfl
 have q3 : w1.cell? ⟨w.heap.size, 3, none⟩ = some (.int .i64 nx) := (blk_cell HE.out 3).trans rfl
 go_wp2_with fail
 refine (manifest_odd.calls fl _ _ H2.out).mono ?_; rintro e w2 ⟨rfl, hb⟩
 replace hb := hb.below
 have HE2 := Aside0.mk ((hb.block _ (blk_lt HE.out)).trans HE.out); have HB2 := Aside0.mk (below_then HB.out HB.out.size hb); clear hb
 clear q0 q1 q2 q3
 have q0 : w2.cell? ⟨w.heap.size, 0, none⟩ = some (.slice A0 d.length c0) := (blk_cell HE2.out 0).trans rfl
 have q1 : w2.cell? ⟨w.heap.size, 1, none⟩ = some (.slice A1 a.length c1) := (blk_cell HE2.out 1).trans rfl
 have q2 : w2.cell? ⟨w.heap.size, 2, none⟩ = some (.int .i64 fl) := (blk_cell HE2.out 2).trans rfl
 have q3 : w2.cell? ⟨w.heap.size, 3, none⟩ = some (.int .i64 nx) := (blk_cell HE2.out 3).trans rfl
 go_wp2
 go_ret
 exact ⟨rfl, HB2.out⟩
set_option maxHeartbeats 2000000 in
set_option maxRecDepth 100000 in
theorem manifest_right.way3 (A0 : Option Addr) (c0 : Nat) (d : List Int) (A1 : Option Addr) (c1 : Nat) (a : List S36) (fl nx : Int) (w : World) (hr0 : (Kd.int .i64).C w A0 d.length d) (hr1 : k36.C w A1 a.length a) (h0 : decide (d.length ≤ 1000) = true) (h1 : decide (a.length ≤ 1000) = true) (h2 : oddI fl = false) (h3 : oddI nx = true) :
  Calls Try.prog 18 #[.agg #[.slice A0 d.length c0, .slice A1 a.length c1, .int .i64 fl, .int .i64 nx]] w fun e w' => e = .returned (.bool false) ∧ Below w.heap.size w w' := by
 have g0 : decide ((d.length : Int) ≤ 1000) = true := by rw [← h0]; simp; omega
 have g1 : decide ((a.length : Int) ≤ 1000) = true := by rw [← h1]; simp; omega
 have H2 := Aside0.mk ((odd_f fl).trans (congrArg some h2)); clear h2
 have H3 := Aside0.mk ((odd_f nx).trans (congrArg some h3)); clear h3
 have HR0 := Aside0.mk hr0; have HR1 := Aside0.mk hr1; clear hr0 hr1
 have hA := below_alloc (Below.refl w.heap.size w) (.cells #[.slice A0 d.length c0, .slice A1 a.length c1, .int .i64 fl, .int .i64 nx] 32)
 have HB := Aside0.mk hA
 have HE : Aside0 ((w.alloc (.cells #[.slice A0 d.length c0, .slice A1 a.length c1, .int .i64 fl, .int .i64 nx] 32)).heap[w.heap.size]? = some (.cells #[.slice A0 d.length c0, .slice A1 a.length c1, .int .i64 fl, .int .i64 nx] 32 (0, 0))) := ⟨heap_alloc_new w _⟩
 clear hA
 go_enter Try.func18, Try.ntmps18
 go_upto_region 1 with (fail)
 generalize World.alloc w _ = w1 at HB HE ⊢
 have q0 : w1.cell? ⟨w.heap.size, 0, none⟩ = some (.slice A0 d.length c0) := (blk_cell HE.out 0).trans rfl
 have q1 : w1.cell? ⟨w.heap.size, 1, none⟩ = some (.slice A1 a.length c1) := (blk_cell HE.out 1).trans rfl
 have q2 : w1.cell? ⟨w.heap.size, 2, none⟩ = some (.int .i64 fl) := (blk_cell HE.out 2).trans rfl
 have q3 : w1.cell? ⟨w.heap.size, 3, none⟩ = some (.int .i64 nx) := (blk_cell HE.out 3).trans rfl
 go_wp2_with fail
 refine (manifest_odd.calls fl _ _ H2.out).mono ?_; rintro e w2 ⟨rfl, hb⟩
 replace hb := hb.below
 have HE2 := Aside0.mk ((hb.block _ (blk_lt HE.out)).trans HE.out); have HB2 := Aside0.mk (below_then HB.out HB.out.size hb); clear hb
 clear q0 q1 q2 q3
 have q0 : w2.cell? ⟨w.heap.size, 0, none⟩ = some (.slice A0 d.length c0) := (blk_cell HE2.out 0).trans rfl
 have q1 : w2.cell? ⟨w.heap.size, 1, none⟩ = some (.slice A1 a.length c1) := (blk_cell HE2.out 1).trans rfl
 have q2 : w2.cell? ⟨w.heap.size, 2, none⟩ = some (.int .i64 fl) := (blk_cell HE2.out 2).trans rfl
 have q3 : w2.cell? ⟨w.heap.size, 3, none⟩ = some (.int .i64 nx) := (blk_cell HE2.out 3).trans rfl
 go_wp2_with fail
 refine (manifest_odd.calls nx _ _ H3.out).mono ?_; rintro e w3 ⟨rfl, hb⟩
 replace hb := hb.below
 have HE3 := Aside0.mk ((hb.block _ (blk_lt HE2.out)).trans HE2.out); have HB3 := Aside0.mk (below_then HB2.out HB2.out.size hb); clear hb
 clear q0 q1 q2 q3
 have q0 : w3.cell? ⟨w.heap.size, 0, none⟩ = some (.slice A0 d.length c0) := (blk_cell HE3.out 0).trans rfl
 have q1 : w3.cell? ⟨w.heap.size, 1, none⟩ = some (.slice A1 a.length c1) := (blk_cell HE3.out 1).trans rfl
 have q2 : w3.cell? ⟨w.heap.size, 2, none⟩ = some (.int .i64 fl) := (blk_cell HE3.out 2).trans rfl
 have q3 : w3.cell? ⟨w.heap.size, 3, none⟩ = some (.int .i64 nx) := (blk_cell HE3.out 3).trans rfl
 go_wp2
 go_ret
 exact ⟨rfl, HB3.out⟩
set_option maxHeartbeats 2000000 in
set_option maxRecDepth 100000 in
theorem manifest_right.way4 (A0 : Option Addr) (c0 : Nat) (d : List Int) (A1 : Option Addr) (c1 : Nat) (a : List S36) (fl nx : Int) (w : World) (hr0 : (Kd.int .i64).C w A0 d.length d) (hr1 : k36.C w A1 a.length a) (h0 : decide (d.length ≤ 1000) = true) (h1 : decide (a.length ≤ 1000) = true) (h2 : oddI fl = false) (h3 : oddI nx = false) (h4 : (d.all fun x => !oddI x) = false) :
  Calls Try.prog 18 #[.agg #[.slice A0 d.length c0, .slice A1 a.length c1, .int .i64 fl, .int .i64 nx]] w fun e w' => e = .returned (.bool false) ∧ Below w.heap.size w w' := by
 have g0 : decide ((d.length : Int) ≤ 1000) = true := by rw [← h0]; simp; omega
 have g1 : decide ((a.length : Int) ≤ 1000) = true := by rw [← h1]; simp; omega
 have H2 := Aside0.mk ((odd_f fl).trans (congrArg some h2)); clear h2
 have H3 := Aside0.mk ((odd_f nx).trans (congrArg some h3)); clear h3
 have HR0 := Aside0.mk hr0; have HR1 := Aside0.mk hr1; clear hr0 hr1
 have H4 := Aside0.mk h4; have HL0 := Aside0.mk (of_decide_eq_true h0); clear h4
 have hA := below_alloc (Below.refl w.heap.size w) (.cells #[.slice A0 d.length c0, .slice A1 a.length c1, .int .i64 fl, .int .i64 nx] 32)
 have HB := Aside0.mk hA
 have HE : Aside0 ((w.alloc (.cells #[.slice A0 d.length c0, .slice A1 a.length c1, .int .i64 fl, .int .i64 nx] 32)).heap[w.heap.size]? = some (.cells #[.slice A0 d.length c0, .slice A1 a.length c1, .int .i64 fl, .int .i64 nx] 32 (0, 0))) := ⟨heap_alloc_new w _⟩
 clear hA
 go_enter Try.func18, Try.ntmps18
 go_upto_region 1 with (fail)
 generalize World.alloc w _ = w1 at HB HE ⊢
 have q0 : w1.cell? ⟨w.heap.size, 0, none⟩ = some (.slice A0 d.length c0) := (blk_cell HE.out 0).trans rfl
 have q1 : w1.cell? ⟨w.heap.size, 1, none⟩ = some (.slice A1 a.length c1) := (blk_cell HE.out 1).trans rfl
 have q2 : w1.cell? ⟨w.heap.size, 2, none⟩ = some (.int .i64 fl) := (blk_cell HE.out 2).trans rfl
 have q3 : w1.cell? ⟨w.heap.size, 3, none⟩ = some (.int .i64 nx) := (blk_cell HE.out 3).trans rfl
 go_wp2_with fail
 refine (manifest_odd.calls fl _ _ H2.out).mono ?_; rintro e w2 ⟨rfl, hb⟩
 replace hb := hb.below
 have HE2 := Aside0.mk ((hb.block _ (blk_lt HE.out)).trans HE.out); have HB2 := Aside0.mk (below_then HB.out HB.out.size hb); clear hb
 clear q0 q1 q2 q3
 have q0 : w2.cell? ⟨w.heap.size, 0, none⟩ = some (.slice A0 d.length c0) := (blk_cell HE2.out 0).trans rfl
 have q1 : w2.cell? ⟨w.heap.size, 1, none⟩ = some (.slice A1 a.length c1) := (blk_cell HE2.out 1).trans rfl
 have q2 : w2.cell? ⟨w.heap.size, 2, none⟩ = some (.int .i64 fl) := (blk_cell HE2.out 2).trans rfl
 have q3 : w2.cell? ⟨w.heap.size, 3, none⟩ = some (.int .i64 nx) := (blk_cell HE2.out 3).trans rfl
 go_wp2_with fail
 refine (manifest_odd.calls nx _ _ H3.out).mono ?_; rintro e w3 ⟨rfl, hb⟩
 replace hb := hb.below
 have HE3 := Aside0.mk ((hb.block _ (blk_lt HE2.out)).trans HE2.out); have HB3 := Aside0.mk (below_then HB2.out HB2.out.size hb); clear hb
 clear q0 q1 q2 q3
 have q0 : w3.cell? ⟨w.heap.size, 0, none⟩ = some (.slice A0 d.length c0) := (blk_cell HE3.out 0).trans rfl
 have q1 : w3.cell? ⟨w.heap.size, 1, none⟩ = some (.slice A1 a.length c1) := (blk_cell HE3.out 1).trans rfl
 have q2 : w3.cell? ⟨w.heap.size, 2, none⟩ = some (.int .i64 fl) := (blk_cell HE3.out 2).trans rfl
 have q3 : w3.cell? ⟨w.heap.size, 3, none⟩ = some (.int .i64 nx) := (blk_cell HE3.out 3).trans rfl
 go_wp2_with fail
 refine (manifest_right.contI A0 c0 d w3 w3 (Kd.C_below HR0.out HB3.out) HL0.out (Below.refl _ _)).mono ?_; rintro e w4 ⟨rfl, hb⟩
 rw [H4.out]
 have HE4 := Aside0.mk ((hb.block _ (blk_lt HE3.out)).trans HE3.out); have HB4 := Aside0.mk (below_then HB3.out HB3.out.size hb); clear hb
 clear q0 q1 q2 q3
 have q0 : w4.cell? ⟨w.heap.size, 0, none⟩ = some (.slice A0 d.length c0) := (blk_cell HE4.out 0).trans rfl
 have q1 : w4.cell? ⟨w.heap.size, 1, none⟩ = some (.slice A1 a.length c1) := (blk_cell HE4.out 1).trans rfl
 have q2 : w4.cell? ⟨w.heap.size, 2, none⟩ = some (.int .i64 fl) := (blk_cell HE4.out 2).trans rfl
 have q3 : w4.cell? ⟨w.heap.size, 3, none⟩ = some (.int .i64 nx) := (blk_cell HE4.out 3).trans rfl
 go_wp2
 go_ret
 exact ⟨rfl, HB4.out⟩
set_option maxHeartbeats 2000000 in
set_option maxRecDepth 100000 in
theorem manifest_right.way5 (A0 : Option Addr) (c0 : Nat) (d : List Int) (A1 : Option Addr) (c1 : Nat) (a : List S36) (fl nx : Int) (w : World) (hr0 : (Kd.int .i64).C w A0 d.length d) (hr1 : k36.C w A1 a.length a) (h0 : decide (d.length ≤ 1000) = true) (h1 : decide (a.length ≤ 1000) = true) (h2 : oddI fl = false) (h3 : oddI nx = false) (h4 : (d.all fun x => !oddI x) = true) (h5 : (a.all fun x => !oddP x) = false) :
  Calls Try.prog 18 #[.agg #[.slice A0 d.length c0, .slice A1 a.length c1, .int .i64 fl, .int .i64 nx]] w fun e w' => e = .returned (.bool false) ∧ Below w.heap.size w w' := by
 have g0 : decide ((d.length : Int) ≤ 1000) = true := by rw [← h0]; simp; omega
 have g1 : decide ((a.length : Int) ≤ 1000) = true := by rw [← h1]; simp; omega
 have H2 := Aside0.mk ((odd_f fl).trans (congrArg some h2)); clear h2
 have H3 := Aside0.mk ((odd_f nx).trans (congrArg some h3)); clear h3
 have HR0 := Aside0.mk hr0; have HR1 := Aside0.mk hr1; clear hr0 hr1
 have H4 := Aside0.mk h4; have HL0 := Aside0.mk (of_decide_eq_true h0); clear h4
 have H5 := Aside0.mk h5; have HL1 := Aside0.mk (of_decide_eq_true h1); clear h5
 have hA := below_alloc (Below.refl w.heap.size w) (.cells #[.slice A0 d.length c0, .slice A1 a.length c1, .int .i64 fl, .int .i64 nx] 32)
 have HB := Aside0.mk hA
 have HE : Aside0 ((w.alloc (.cells #[.slice A0 d.length c0, .slice A1 a.length c1, .int .i64 fl, .int .i64 nx] 32)).heap[w.heap.size]? = some (.cells #[.slice A0 d.length c0, .slice A1 a.length c1, .int .i64 fl, .int .i64 nx] 32 (0, 0))) := ⟨heap_alloc_new w _⟩
 clear hA
 go_enter Try.func18, Try.ntmps18
 go_upto_region 1 with (fail)
 generalize World.alloc w _ = w1 at HB HE ⊢
 have q0 : w1.cell? ⟨w.heap.size, 0, none⟩ = some (.slice A0 d.length c0) := (blk_cell HE.out 0).trans rfl
 have q1 : w1.cell? ⟨w.heap.size, 1, none⟩ = some (.slice A1 a.length c1) := (blk_cell HE.out 1).trans rfl
 have q2 : w1.cell? ⟨w.heap.size, 2, none⟩ = some (.int .i64 fl) := (blk_cell HE.out 2).trans rfl
 have q3 : w1.cell? ⟨w.heap.size, 3, none⟩ = some (.int .i64 nx) := (blk_cell HE.out 3).trans rfl
 go_wp2_with fail
 refine (manifest_odd.calls fl _ _ H2.out).mono ?_; rintro e w2 ⟨rfl, hb⟩
 replace hb := hb.below
 have HE2 := Aside0.mk ((hb.block _ (blk_lt HE.out)).trans HE.out); have HB2 := Aside0.mk (below_then HB.out HB.out.size hb); clear hb
 clear q0 q1 q2 q3
 have q0 : w2.cell? ⟨w.heap.size, 0, none⟩ = some (.slice A0 d.length c0) := (blk_cell HE2.out 0).trans rfl
 have q1 : w2.cell? ⟨w.heap.size, 1, none⟩ = some (.slice A1 a.length c1) := (blk_cell HE2.out 1).trans rfl
 have q2 : w2.cell? ⟨w.heap.size, 2, none⟩ = some (.int .i64 fl) := (blk_cell HE2.out 2).trans rfl
 have q3 : w2.cell? ⟨w.heap.size, 3, none⟩ = some (.int .i64 nx) := (blk_cell HE2.out 3).trans rfl
 go_wp2_with fail
 refine (manifest_odd.calls nx _ _ H3.out).mono ?_; rintro e w3 ⟨rfl, hb⟩
 replace hb := hb.below
 have HE3 := Aside0.mk ((hb.block _ (blk_lt HE2.out)).trans HE2.out); have HB3 := Aside0.mk (below_then HB2.out HB2.out.size hb); clear hb
 clear q0 q1 q2 q3
 have q0 : w3.cell? ⟨w.heap.size, 0, none⟩ = some (.slice A0 d.length c0) := (blk_cell HE3.out 0).trans rfl
 have q1 : w3.cell? ⟨w.heap.size, 1, none⟩ = some (.slice A1 a.length c1) := (blk_cell HE3.out 1).trans rfl
 have q2 : w3.cell? ⟨w.heap.size, 2, none⟩ = some (.int .i64 fl) := (blk_cell HE3.out 2).trans rfl
 have q3 : w3.cell? ⟨w.heap.size, 3, none⟩ = some (.int .i64 nx) := (blk_cell HE3.out 3).trans rfl
 go_wp2_with fail
 refine (manifest_right.contI A0 c0 d w3 w3 (Kd.C_below HR0.out HB3.out) HL0.out (Below.refl _ _)).mono ?_; rintro e w4 ⟨rfl, hb⟩
 rw [H4.out]
 have HE4 := Aside0.mk ((hb.block _ (blk_lt HE3.out)).trans HE3.out); have HB4 := Aside0.mk (below_then HB3.out HB3.out.size hb); clear hb
 clear q0 q1 q2 q3
 have q0 : w4.cell? ⟨w.heap.size, 0, none⟩ = some (.slice A0 d.length c0) := (blk_cell HE4.out 0).trans rfl
 have q1 : w4.cell? ⟨w.heap.size, 1, none⟩ = some (.slice A1 a.length c1) := (blk_cell HE4.out 1).trans rfl
 have q2 : w4.cell? ⟨w.heap.size, 2, none⟩ = some (.int .i64 fl) := (blk_cell HE4.out 2).trans rfl
 have q3 : w4.cell? ⟨w.heap.size, 3, none⟩ = some (.int .i64 nx) := (blk_cell HE4.out 3).trans rfl
 go_wp2_with fail
 refine (manifest_right.contP A1 c1 a w4 w4 (Kd.C_below HR1.out HB4.out) HL1.out (Below.refl _ _)).mono ?_; rintro e w5 ⟨rfl, hb⟩
 rw [H5.out]
 have HE5 := Aside0.mk ((hb.block _ (blk_lt HE4.out)).trans HE4.out); have HB5 := Aside0.mk (below_then HB4.out HB4.out.size hb); clear hb
 clear q0 q1 q2 q3
 have q0 : w5.cell? ⟨w.heap.size, 0, none⟩ = some (.slice A0 d.length c0) := (blk_cell HE5.out 0).trans rfl
 have q1 : w5.cell? ⟨w.heap.size, 1, none⟩ = some (.slice A1 a.length c1) := (blk_cell HE5.out 1).trans rfl
 have q2 : w5.cell? ⟨w.heap.size, 2, none⟩ = some (.int .i64 fl) := (blk_cell HE5.out 2).trans rfl
 have q3 : w5.cell? ⟨w.heap.size, 3, none⟩ = some (.int .i64 nx) := (blk_cell HE5.out 3).trans rfl
 go_wp2
 go_ret
 exact ⟨rfl, HB5.out⟩
set_option maxHeartbeats 2000000 in
set_option maxRecDepth 100000 in
theorem manifest_right.way6 (A0 : Option Addr) (c0 : Nat) (d : List Int) (A1 : Option Addr) (c1 : Nat) (a : List S36) (fl nx : Int) (w : World) (hr0 : (Kd.int .i64).C w A0 d.length d) (hr1 : k36.C w A1 a.length a) (h0 : decide (d.length ≤ 1000) = true) (h1 : decide (a.length ≤ 1000) = true) (h2 : oddI fl = false) (h3 : oddI nx = false) (h4 : (d.all fun x => !oddI x) = true) (h5 : (a.all fun x => !oddP x) = true) :
  Calls Try.prog 18 #[.agg #[.slice A0 d.length c0, .slice A1 a.length c1, .int .i64 fl, .int .i64 nx]] w fun e w' => e = .returned (.bool true) ∧ Below w.heap.size w w' := by
 have g0 : decide ((d.length : Int) ≤ 1000) = true := by rw [← h0]; simp; omega
 have g1 : decide ((a.length : Int) ≤ 1000) = true := by rw [← h1]; simp; omega
 have H2 := Aside0.mk ((odd_f fl).trans (congrArg some h2)); clear h2
 have H3 := Aside0.mk ((odd_f nx).trans (congrArg some h3)); clear h3
 have HR0 := Aside0.mk hr0; have HR1 := Aside0.mk hr1; clear hr0 hr1
 have H4 := Aside0.mk h4; have HL0 := Aside0.mk (of_decide_eq_true h0); clear h4
 have H5 := Aside0.mk h5; have HL1 := Aside0.mk (of_decide_eq_true h1); clear h5
 have hA := below_alloc (Below.refl w.heap.size w) (.cells #[.slice A0 d.length c0, .slice A1 a.length c1, .int .i64 fl, .int .i64 nx] 32)
 have HB := Aside0.mk hA
 have HE : Aside0 ((w.alloc (.cells #[.slice A0 d.length c0, .slice A1 a.length c1, .int .i64 fl, .int .i64 nx] 32)).heap[w.heap.size]? = some (.cells #[.slice A0 d.length c0, .slice A1 a.length c1, .int .i64 fl, .int .i64 nx] 32 (0, 0))) := ⟨heap_alloc_new w _⟩
 clear hA
 go_enter Try.func18, Try.ntmps18
 go_upto_region 1 with (fail)
 generalize World.alloc w _ = w1 at HB HE ⊢
 have q0 : w1.cell? ⟨w.heap.size, 0, none⟩ = some (.slice A0 d.length c0) := (blk_cell HE.out 0).trans rfl
 have q1 : w1.cell? ⟨w.heap.size, 1, none⟩ = some (.slice A1 a.length c1) := (blk_cell HE.out 1).trans rfl
 have q2 : w1.cell? ⟨w.heap.size, 2, none⟩ = some (.int .i64 fl) := (blk_cell HE.out 2).trans rfl
 have q3 : w1.cell? ⟨w.heap.size, 3, none⟩ = some (.int .i64 nx) := (blk_cell HE.out 3).trans rfl
 go_wp2_with fail
 refine (manifest_odd.calls fl _ _ H2.out).mono ?_; rintro e w2 ⟨rfl, hb⟩
 replace hb := hb.below
 have HE2 := Aside0.mk ((hb.block _ (blk_lt HE.out)).trans HE.out); have HB2 := Aside0.mk (below_then HB.out HB.out.size hb); clear hb
 clear q0 q1 q2 q3
 have q0 : w2.cell? ⟨w.heap.size, 0, none⟩ = some (.slice A0 d.length c0) := (blk_cell HE2.out 0).trans rfl
 have q1 : w2.cell? ⟨w.heap.size, 1, none⟩ = some (.slice A1 a.length c1) := (blk_cell HE2.out 1).trans rfl
 have q2 : w2.cell? ⟨w.heap.size, 2, none⟩ = some (.int .i64 fl) := (blk_cell HE2.out 2).trans rfl
 have q3 : w2.cell? ⟨w.heap.size, 3, none⟩ = some (.int .i64 nx) := (blk_cell HE2.out 3).trans rfl
 go_wp2_with fail
 refine (manifest_odd.calls nx _ _ H3.out).mono ?_; rintro e w3 ⟨rfl, hb⟩
 replace hb := hb.below
 have HE3 := Aside0.mk ((hb.block _ (blk_lt HE2.out)).trans HE2.out); have HB3 := Aside0.mk (below_then HB2.out HB2.out.size hb); clear hb
 clear q0 q1 q2 q3
 have q0 : w3.cell? ⟨w.heap.size, 0, none⟩ = some (.slice A0 d.length c0) := (blk_cell HE3.out 0).trans rfl
 have q1 : w3.cell? ⟨w.heap.size, 1, none⟩ = some (.slice A1 a.length c1) := (blk_cell HE3.out 1).trans rfl
 have q2 : w3.cell? ⟨w.heap.size, 2, none⟩ = some (.int .i64 fl) := (blk_cell HE3.out 2).trans rfl
 have q3 : w3.cell? ⟨w.heap.size, 3, none⟩ = some (.int .i64 nx) := (blk_cell HE3.out 3).trans rfl
 go_wp2_with fail
 refine (manifest_right.contI A0 c0 d w3 w3 (Kd.C_below HR0.out HB3.out) HL0.out (Below.refl _ _)).mono ?_; rintro e w4 ⟨rfl, hb⟩
 rw [H4.out]
 have HE4 := Aside0.mk ((hb.block _ (blk_lt HE3.out)).trans HE3.out); have HB4 := Aside0.mk (below_then HB3.out HB3.out.size hb); clear hb
 clear q0 q1 q2 q3
 have q0 : w4.cell? ⟨w.heap.size, 0, none⟩ = some (.slice A0 d.length c0) := (blk_cell HE4.out 0).trans rfl
 have q1 : w4.cell? ⟨w.heap.size, 1, none⟩ = some (.slice A1 a.length c1) := (blk_cell HE4.out 1).trans rfl
 have q2 : w4.cell? ⟨w.heap.size, 2, none⟩ = some (.int .i64 fl) := (blk_cell HE4.out 2).trans rfl
 have q3 : w4.cell? ⟨w.heap.size, 3, none⟩ = some (.int .i64 nx) := (blk_cell HE4.out 3).trans rfl
 go_wp2_with fail
 refine (manifest_right.contP A1 c1 a w4 w4 (Kd.C_below HR1.out HB4.out) HL1.out (Below.refl _ _)).mono ?_; rintro e w5 ⟨rfl, hb⟩
 rw [H5.out]
 have HE5 := Aside0.mk ((hb.block _ (blk_lt HE4.out)).trans HE4.out); have HB5 := Aside0.mk (below_then HB4.out HB4.out.size hb); clear hb
 clear q0 q1 q2 q3
 have q0 : w5.cell? ⟨w.heap.size, 0, none⟩ = some (.slice A0 d.length c0) := (blk_cell HE5.out 0).trans rfl
 have q1 : w5.cell? ⟨w.heap.size, 1, none⟩ = some (.slice A1 a.length c1) := (blk_cell HE5.out 1).trans rfl
 have q2 : w5.cell? ⟨w.heap.size, 2, none⟩ = some (.int .i64 fl) := (blk_cell HE5.out 2).trans rfl
 have q3 : w5.cell? ⟨w.heap.size, 3, none⟩ = some (.int .i64 nx) := (blk_cell HE5.out 3).trans rfl
 go_wp2
 go_ret
 exact ⟨rfl, HB5.out⟩
def manifest_right.f (l0_0 : List Int) (l0_1 : List S36) (a0_2 a0_3 : Int) : Option Bool := some (rightB l0_0 l0_1 a0_2 a0_3)
theorem manifest_right.calls (A0_0 : Option Addr) (c0_0 : Nat) (l0_0 : List Int) (A0_1 : Option Addr) (c0_1 : Nat) (l0_1 : List S36) (a0_2 : Int) (a0_3 : Int) (r : Bool) (w : World) (hr0_0 : Kd.C (Kd.int .i64) w A0_0 l0_0.length l0_0) (hc0_0 : l0_0.length ≤ c0_0) (hr0_1 : Kd.C k36 w A0_1 l0_1.length l0_1) (hc0_1 : l0_1.length ≤ c0_1) (h : manifest_right.f l0_0 l0_1 a0_2 a0_3 = some r) :
  Calls Try.prog 18 #[.agg #[.slice A0_0 l0_0.length c0_0, .slice A0_1 l0_1.length c0_1, .int .i64 a0_2, .int .i64 a0_3]] w fun e w' => e = .returned (.bool r) ∧ Below w.heap.size w w' := by
 unfold manifest_right.f at h
 obtain rfl := Option.some.inj h
 cases h0 : decide (l0_0.length ≤ 1000)
 ·have e : rightB l0_0 l0_1 a0_2 a0_3 = false := by unfold rightB; rw [h0]; rfl
  rw [e]; exact manifest_right.way0 A0_0 c0_0 l0_0 A0_1 c0_1 l0_1 a0_2 a0_3 w hr0_0 hr0_1 h0
 ·cases h1 : decide (l0_1.length ≤ 1000)
  ·have e : rightB l0_0 l0_1 a0_2 a0_3 = false := by unfold rightB; rw [h0, h1]; rfl
   rw [e]; exact manifest_right.way1 A0_0 c0_0 l0_0 A0_1 c0_1 l0_1 a0_2 a0_3 w hr0_0 hr0_1 h0 h1
  ·cases h2 : oddI a0_2
   ·cases h3 : oddI a0_3
    ·cases h4 : (l0_0.all fun x => !oddI x)
     ·have e : rightB l0_0 l0_1 a0_2 a0_3 = false := by unfold rightB; rw [h0, h1, h2, h3, h4]; rfl
      rw [e]; exact manifest_right.way4 A0_0 c0_0 l0_0 A0_1 c0_1 l0_1 a0_2 a0_3 w hr0_0 hr0_1 h0 h1 h2 h3 h4
     ·cases h5 : (l0_1.all fun x => !oddP x)
      ·have e : rightB l0_0 l0_1 a0_2 a0_3 = false := by unfold rightB; rw [h0, h1, h2, h3, h4, h5]; rfl
       rw [e]; exact manifest_right.way5 A0_0 c0_0 l0_0 A0_1 c0_1 l0_1 a0_2 a0_3 w hr0_0 hr0_1 h0 h1 h2 h3 h4 h5
      ·have e : rightB l0_0 l0_1 a0_2 a0_3 = true := by unfold rightB; rw [h0, h1, h2, h3, h4, h5]; rfl
       rw [e]; exact manifest_right.way6 A0_0 c0_0 l0_0 A0_1 c0_1 l0_1 a0_2 a0_3 w hr0_0 hr0_1 h0 h1 h2 h3 h4 h5
    ·have e : rightB l0_0 l0_1 a0_2 a0_3 = false := by unfold rightB; rw [h0, h1, h2, h3]; rfl
     rw [e]; exact manifest_right.way3 A0_0 c0_0 l0_0 A0_1 c0_1 l0_1 a0_2 a0_3 w hr0_0 hr0_1 h0 h1 h2 h3
   ·have e : rightB l0_0 l0_1 a0_2 a0_3 = false := by unfold rightB; rw [h0, h1, h2]; rfl
    rw [e]; exact manifest_right.way2 A0_0 c0_0 l0_0 A0_1 c0_1 l0_1 a0_2 a0_3 w hr0_0 hr0_1 h0 h1 h2
end Go.Proofs.Ytagokgijffpdnaa.G
namespace Go.Proofs.Ytagokgijffpdnaa.G
open Go.RowKit Go.Proofs.YtagokgijffpdnaaQ Go.Proofs.YtagokgijffpdnaaW.PrintWords Go.Proofs.YtagokgijffpdnaaW.PrintLast Go.Proofs.YtagokgijffpdnaaW.PrintMore
attribute [local go_sem] max2_int min2_int max_two min_two max_three min_three max_four min_four   -- for this text's walks alone
set_option linter.unusedVariables false
set_option linter.unusedSimpArgs false
def manifest_bounds.B4 : List Nat := [0, 0, 2, 7, 0, 16, 63, 127]
end Go.Proofs.Ytagokgijffpdnaa.G
namespace Go.Proofs.Ytagokgijffpdnaa.G
open Go.RowKit Go.Proofs.YtagokgijffpdnaaQ Go.Proofs.YtagokgijffpdnaaW.PrintWords Go.Proofs.YtagokgijffpdnaaW.PrintLast Go.Proofs.YtagokgijffpdnaaW.PrintMore
attribute [local go_sem] max2_int min2_int max_two min_two max_three min_three max_four min_four   -- for this text's walks alone
set_option linter.unusedVariables false
set_option linter.unusedSimpArgs false
def tithebarnref16_number.f (a0 : Int) : Option (Bool) := if a0 ≥ 0 then (some (decide (a0 ≤ 999999999))) else (some false)
set_option maxHeartbeats 8000000 in
set_option maxRecDepth 100000 in
theorem tithebarnref16_number.calls (a0 : Int) (r : Bool) (w : World) (h : tithebarnref16_number.f a0 = some r) :
  Calls Try.prog 43 #[.int .i64 a0] w fun e w' => e = .returned (.bool r) ∧ Drawn0 w w' := by
 have H : (if a0 ≥ 0 then (some (decide (a0 ≤ 999999999))) else (some false)) = some r := h
 clear h
 by_cases c2 : a0 ≥ 0
 ·rw [if_pos c2] at H
  have c2b0 : decide (0 ≤ a0) = true := decide_eq_true c2
  clear c2
  obtain rfl := Option.some.inj H
  go_enter Try.func43, Try.ntmps43
  go_wp2
  go_ret
  exact ⟨z7_, z12_⟩
 ·rw [if_neg c2] at H
  have c2b0 : decide (0 ≤ a0) = false := decide_eq_false c2
  clear c2
  obtain rfl := Option.some.inj H
  go_enter Try.func43, Try.ntmps43
  go_wp2
  go_ret
  exact ⟨z7_, z12_⟩
end Go.Proofs.Ytagokgijffpdnaa.G
namespace Go.Proofs.Ytagokgijffpdnaa.G
open Go.RowKit Go.Proofs.YtagokgijffpdnaaQ Go.Proofs.YtagokgijffpdnaaW.PrintWords Go.Proofs.YtagokgijffpdnaaW.PrintLast Go.Proofs.YtagokgijffpdnaaW.PrintMore
attribute [local go_sem] max2_int min2_int max_two min_two max_three min_three max_four min_four   -- for this text's walks alone
set_option linter.unusedVariables false
set_option linter.unusedSimpArgs false
def tithebarnref16_key.f (a0_0 : Bool) (a0_1 : Int) (a0_2 : ByteArray) : Option (Bool) := if a0_0 = true then (some false) else (some (decide ((a0_2.size : Int) ≤ 64)))
set_option maxHeartbeats 8000000 in
set_option maxRecDepth 100000 in
theorem tithebarnref16_key.calls (a0_0 : Bool) (a0_1 : Int) (a0_2 : ByteArray) (r : Bool) (w : World) (h : tithebarnref16_key.f a0_0 a0_1 a0_2 = some r) :
  Calls Try.prog 65 #[.agg #[.bool a0_0, .int .i64 a0_1, .string a0_2]] w fun e w' => e = .returned (.bool r) ∧ Below w.heap.size w w' := by
 have hu34 := Try.underlying34
 have HB := Aside0.mk (Below.refl w.heap.size w)
 have H : (if a0_0 = true then (some false) else (some (decide ((a0_2.size : Int) ≤ 64)))) = some r := h
 clear h
 by_cases c2 : a0_0 = true
 ·subst c2
  have H1 : (some false) = some r := by rw [if_pos rfl] at H; exact H
  clear H
  have H := H1
  clear H1
  obtain rfl := Option.some.inj H
  go_enter Try.func65, Try.ntmps65
  go_wp2_with (first | ((with_reducible refine gate_dst (N := 1) rfl ?_); (try (refine gate_guard (by rfl) ?_; dsimp only)); refine box_event ?hg (N := 1) ?hd (cs := #[.bool true, .int .i64 a0_1, .string a0_2]) (t := 34) ?hr ?_; (case hd => rfl); (case hg => rfl); (case hr => first | (go_simp; done) | (go_simp; rfl)); intro gb283 hg w3 hbox hb; have n0_ := Aside0.mk (below_step z1_ hb); have n1_ := Aside0.mk (hbox); have n2_ := Aside0.mk ((by rw [hg]; exact (below_size z1_) : w.heap.size ≤ gb283)); have n3_ := Aside0.mk ((by rw [hg]; exact (below_size z1_) : w.heap.size ≤ gb283)); clear HB; have HB := n0_; have BK283 := n1_; have GW283 := n2_; have GE283 := n3_; clear n0_ n1_ n2_ n3_; clear hb hbox hg; have hcz4_0 : w3.cell? ⟨gb283, 0, none⟩ = some (.bool true) := (blk_cell BK283.out 0).trans rfl; have hcz4_1 : w3.cell? ⟨gb283, 1, none⟩ = some (.int .i64 a0_1) := (blk_cell BK283.out 1).trans rfl; have hcz4_2 : w3.cell? ⟨gb283, 2, none⟩ = some (.string a0_2) := (blk_cell BK283.out 2).trans rfl; have hfz4_0 := blk_frozen BK283.out 0; have hfz4_1 := blk_frozen BK283.out 1; have hfz4_2 := blk_frozen BK283.out 2))
  go_ret
  exact ⟨z2_, by repeat (first | (with_reducible first | exact HB.out | apply below_alloc | apply pw_below_drewN | apply below_drew1 | refine below_set ?_ GE283.out) | exact HB.out)⟩
 ·replace c2 := Bool.eq_false_iff.mpr c2
  subst c2
  have H1 : (some (decide ((a0_2.size : Int) ≤ 64))) = some r := by rw [if_neg (show ¬ (false = true) by decide)] at H; exact H
  clear H
  have H := H1
  clear H1
  obtain rfl := Option.some.inj H
  go_enter Try.func65, Try.ntmps65
  go_wp2_with (first | ((with_reducible refine gate_dst (N := 1) rfl ?_); (try (refine gate_guard (by rfl) ?_; dsimp only)); refine box_event ?hg (N := 1) ?hd (cs := #[.bool false, .int .i64 a0_1, .string a0_2]) (t := 34) ?hr ?_; (case hd => rfl); (case hg => rfl); (case hr => first | (go_simp; done) | (go_simp; rfl)); intro gb283 hg w5 hbox hb; have n0_ := Aside0.mk (below_step z1_ hb); have n1_ := Aside0.mk (hbox); have n2_ := Aside0.mk ((by rw [hg]; exact (below_size z1_) : w.heap.size ≤ gb283)); have n3_ := Aside0.mk ((by rw [hg]; exact (below_size z1_) : w.heap.size ≤ gb283)); clear HB; have HB := n0_; have BK283 := n1_; have GW283 := n2_; have GE283 := n3_; clear n0_ n1_ n2_ n3_; clear hb hbox hg; have hcz6_0 : w5.cell? ⟨gb283, 0, none⟩ = some (.bool false) := (blk_cell BK283.out 0).trans rfl; have hcz6_1 : w5.cell? ⟨gb283, 1, none⟩ = some (.int .i64 a0_1) := (blk_cell BK283.out 1).trans rfl; have hcz6_2 : w5.cell? ⟨gb283, 2, none⟩ = some (.string a0_2) := (blk_cell BK283.out 2).trans rfl; have hfz6_0 := blk_frozen BK283.out 0; have hfz6_1 := blk_frozen BK283.out 1; have hfz6_2 := blk_frozen BK283.out 2))
  go_ret
  exact ⟨z2_, by repeat (first | (with_reducible first | exact HB.out | apply below_alloc | apply pw_below_drewN | apply below_drew1 | refine below_set ?_ GE283.out) | exact HB.out)⟩
mutual
def tithebarnref02_ahead.l0 : Nat → ByteArray → ByteArray → Int → Option (Bool)
 | 0, _, _, _ => none
 | k + 1, x0, x1, x5 => if x5 < (x0.size : Int) then (tithebarnref02_ahead.j1 k x0 x1 x5 (decide (x5 < (x1.size : Int)))) else (tithebarnref02_ahead.j1 k x0 x1 x5 false)
def tithebarnref02_ahead.j1 : Nat → ByteArray → ByteArray → Int → Bool → Option (Bool)
 | 0, _, _, _, _ => none
 | k + 1, x0, x1, x5, x15 => if x15 = true then (if 0 ≤ x5 then (if x5 < (x0.size : Int) then (if x5 < (x1.size : Int) then (if (bt x0 x5) = (bt x1 x5) then (tithebarnref02_ahead.l0 k x0 x1 (wrap64 (x5 + 1))) else (some (decide ((bt x0 x5) < (bt x1 x5))))) else (none)) else (none)) else (none)) else (some (decide ((x0.size : Int) < (x1.size : Int))))
end
def tithebarnref02_ahead.f (k : Nat) (a0 : ByteArray) (a1 : ByteArray) : Option (Bool) := tithebarnref02_ahead.l0 k a0 a1 0
theorem tithebarnref02_ahead.mono_l : ∀ k, (∀ y0 y1 y2, LeO (tithebarnref02_ahead.l0 k y0 y1 y2) (tithebarnref02_ahead.l0 (k + 1) y0 y1 y2)) ∧ (∀ y0 y1 y2 y3, LeO (tithebarnref02_ahead.j1 k y0 y1 y2 y3) (tithebarnref02_ahead.j1 (k + 1) y0 y1 y2 y3))
 | 0 => ⟨fun _ _ _ r h => by simp [tithebarnref02_ahead.l0] at h, fun _ _ _ _ r h => by simp [tithebarnref02_ahead.j1] at h⟩
 | k + 1 => by
  obtain ⟨ih0, ih1⟩ := tithebarnref02_ahead.mono_l k
  refine ⟨?_, ?_⟩
  ·intro y0 y1 y2
   unfold tithebarnref02_ahead.l0
   repeat' first
   | (with_reducible exact ih0 _ _ _)
   | (with_reducible exact ih1 _ _ _ _)
   | (with_reducible exact LeO.refl _)
   | (with_reducible exact LeO.none _)
   | (with_reducible refine LeO.ite ?_ ?_)
   | (with_reducible refine LeO.bind ?_ (fun _ => ?_))
   | exact ih0 _ _ _
   | exact ih1 _ _ _ _
   | exact LeO.none _
   | refine LeO.ite ?_ ?_
   | refine LeO.bind ?_ (fun _ => ?_)
  ·intro y0 y1 y2 y3
   unfold tithebarnref02_ahead.j1
   repeat' first
   | (with_reducible exact ih0 _ _ _)
   | (with_reducible exact ih1 _ _ _ _)
   | (with_reducible exact LeO.refl _)
   | (with_reducible exact LeO.none _)
   | (with_reducible refine LeO.ite ?_ ?_)
   | (with_reducible refine LeO.bind ?_ (fun _ => ?_))
   | exact ih0 _ _ _
   | exact ih1 _ _ _ _
   | exact LeO.none _
   | refine LeO.ite ?_ ?_
   | refine LeO.bind ?_ (fun _ => ?_)
theorem tithebarnref02_ahead.mono : ∀ a0 a1 k, LeO (tithebarnref02_ahead.f k a0 a1) (tithebarnref02_ahead.f (k + 1) a0 a1) := by
 intro a0 a1 k
 obtain ⟨ih0, ih1⟩ := tithebarnref02_ahead.mono_l k
 unfold tithebarnref02_ahead.f
 repeat' first
   | (with_reducible exact ih0 _ _ _)
   | (with_reducible exact ih1 _ _ _ _)
   | (with_reducible exact LeO.refl _)
   | (with_reducible exact LeO.none _)
   | (with_reducible refine LeO.ite ?_ ?_)
   | (with_reducible refine LeO.bind ?_ (fun _ => ?_))
   | exact ih0 _ _ _
   | exact ih1 _ _ _ _
   | exact LeO.none _
   | refine LeO.ite ?_ ?_
   | refine LeO.bind ?_ (fun _ => ?_)
set_option maxHeartbeats 8000000 in
set_option maxRecDepth 100000 in
theorem tithebarnref02_ahead.calls (k : Nat) (a0 : ByteArray) (a1 : ByteArray) (r : Bool) (w : World) (h : tithebarnref02_ahead.f k a0 a1 = some r) :
  Calls Try.prog 81 #[.string a0, .string a1] w fun e w' => e = .returned (.bool r) ∧ Drawn0 w w' := by
 have H : (tithebarnref02_ahead.l0 k a0 a1 0) = some r := h
 clear h
 have H' := Aside0.mk H
 clear H
 go_enter Try.func81, Try.ntmps81
 go_wp2
 repeat (go_quiet (fail); try go_wp2)
 go_loopg [5] k (fun kq v5 w' => ∃ (x5_1 : Int), v5 = .int .i64 x5_1 ∧ Aside0 (tithebarnref02_ahead.l0 kq a0 a1 x5_1 = some r) ∧ Aside0 (kq ≤ k) ∧ Drawn0 w w')
 case atStart => exact ⟨(0), z7_, H', ⟨Nat.le_refl _⟩, z12_⟩
 case round =>
  clear H'
  try clear p2
  obtain ⟨x5_1, rfl, HA, HK1, ⟨m1, rfl⟩⟩ := hrel
  cases gk with
  | zero => exact absurd HA.out (by simp [tithebarnref02_ahead.l0])
  | succ k1 =>
   have H := HA.out
   clear HA
   simp only [tithebarnref02_ahead.l0] at H
   have HC3 := Aside0.mk H
   clear H
   go_upto_region 2 with (fail)
   repeat (go_quiet (fail); go_upto_region 2 with (fail))
   go_cut [15] (fun v15 wc => ∃ (kq : Nat) (x15_2 : Bool), v15 = .bool x15_2 ∧ Aside0 (tithebarnref02_ahead.j1 kq a0 a1 x5_1 x15_2 = some r) ∧ Aside0 (kq ≤ k1) ∧ Drawn0 w wc)
   case first =>
    have H := HC3.out
    clear HC3
    by_cases c4 : x5_1 < (a0.size : Int)
    ·rw [if_pos c4] at H
     have c4b0 : decide (x5_1 < (a0.size : Int)) = true := decide_eq_true c4
     clear c4
     (first | rw [c4b0] | (simp only [i64_w, i32_w]; rw [c4b0]) | skip)
     have H' := Aside0.mk H
     clear H
     go_wp2
     repeat (go_quiet (fail); try go_wp2)
     go_meet
     case rel => exact ⟨_, (decide (x5_1 < (a1.size : Int))), z7_, H', ⟨by have := HK1.out; first | omega | exact Nat.le_refl _⟩, z12_⟩
    ·rw [if_neg c4] at H
     have c4b0 : decide (x5_1 < (a0.size : Int)) = false := decide_eq_false c4
     clear c4
     (first | rw [c4b0] | (simp only [i64_w, i32_w]; rw [c4b0]) | skip)
     have H' := Aside0.mk H
     clear H
     go_wp2
     repeat (go_quiet (fail); try go_wp2)
     go_meet
     case rel => exact ⟨_, (false), z7_, H', ⟨by have := HK1.out; first | omega | exact Nat.le_refl _⟩, z12_⟩
   case rest =>
    clear HC3
    try clear p2
    try clear c4
    try clear c4b0
    try clear p2
    obtain ⟨kq, x15_2, rfl, HA, HJ2, ⟨mc2, rfl⟩⟩ := hcut
    cases kq with
    | zero => exact absurd HA.out (by simp [tithebarnref02_ahead.j1])
    | succ kj2 =>
     have H := HA.out
     clear HA
     simp only [tithebarnref02_ahead.j1] at H
     by_cases c5 : x15_2 = true
     ·subst c5
      have H1 : (if 0 ≤ x5_1 then (if x5_1 < (a0.size : Int) then (if x5_1 < (a1.size : Int) then (if (bt a0 x5_1) = (bt a1 x5_1) then (tithebarnref02_ahead.l0 kj2 a0 a1 (wrap64 (x5_1 + 1))) else (some (decide ((bt a0 x5_1) < (bt a1 x5_1))))) else (none)) else (none)) else (none)) = some r := by rw [if_pos rfl] at H; exact H
      clear H
      have H := H1
      clear H1
      by_cases c6 : 0 ≤ x5_1
      ·rw [if_pos c6] at H
       have c6b0 : decide (0 ≤ x5_1) = true := decide_eq_true c6
       clear c6
       by_cases c7 : x5_1 < (a0.size : Int)
       ·rw [if_pos c7] at H
        have c7b0 : decide (x5_1 < (a0.size : Int)) = true := decide_eq_true c7
        clear c7
        by_cases c9 : x5_1 < (a1.size : Int)
        ·rw [if_pos c9] at H
         have c9b0 : decide (x5_1 < (a1.size : Int)) = true := decide_eq_true c9
         clear c9
         by_cases c11 : (bt a0 x5_1) = (bt a1 x5_1)
         ·rw [if_pos c11] at H
          have c11b0 : ((bt a0 x5_1) == (bt a1 x5_1)) = true := beq_iff_eq.mpr c11
          have c11b1 : ((bt a0 x5_1) != (bt a1 x5_1)) = false := bne_eq_false_iff_eq.mpr c11
          clear c11
          have H' := Aside0.mk H
          clear H
          have p8 : 0 ≤ (x5_1 : Int) := of_decide_eq_true z6_
          have q8 : x5_1 < (a0.size : Int) := of_decide_eq_true z6_
          have hx8 := bt_at a0 x5_1
          replace p8 := eq_true p8
          replace q8 := eq_true q8
          have p10 : 0 ≤ (x5_1 : Int) := of_decide_eq_true z6_
          have q10 : x5_1 < (a1.size : Int) := of_decide_eq_true z6_
          have hx10 := bt_at a1 x5_1
          replace p10 := eq_true p10
          replace q10 := eq_true q10
          go_wp2
          repeat (go_quiet (fail); try go_wp2)
          go_roundg kj2
          case measure => have := HK1.out; have := HJ2.out; omega
          case rel => exact ⟨(wrap64 (x5_1 + 1)), z7_, H', ⟨by have := HK1.out; have := HJ2.out; omega⟩, z12_⟩
         ·rw [if_neg c11] at H
          have c11b0 : ((bt a0 x5_1) == (bt a1 x5_1)) = false := beq_eq_false_iff_ne.mpr c11
          have c11b1 : ((bt a0 x5_1) != (bt a1 x5_1)) = true := bne_iff_ne.mpr c11
          obtain rfl := Option.some.inj H
          have p8 : 0 ≤ (x5_1 : Int) := of_decide_eq_true z6_
          have q8 : x5_1 < (a0.size : Int) := of_decide_eq_true z6_
          have hx8 := bt_at a0 x5_1
          replace p8 := eq_true p8
          replace q8 := eq_true q8
          have p10 : 0 ≤ (x5_1 : Int) := of_decide_eq_true z6_
          have q10 : x5_1 < (a1.size : Int) := of_decide_eq_true z6_
          have hx10 := bt_at a1 x5_1
          replace p10 := eq_true p10
          replace q10 := eq_true q10
          have p12 : 0 ≤ (x5_1 : Int) := of_decide_eq_true z6_
          have q12 : x5_1 < (a0.size : Int) := of_decide_eq_true z6_
          have hx12 := bt_at a0 x5_1
          replace p12 := eq_true p12
          replace q12 := eq_true q12
          have p13 : 0 ≤ (x5_1 : Int) := of_decide_eq_true z6_
          have q13 : x5_1 < (a1.size : Int) := of_decide_eq_true z6_
          have hx13 := bt_at a1 x5_1
          replace p13 := eq_true p13
          replace q13 := eq_true q13
          go_wp2
          repeat (go_quiet (fail); try go_wp2)
          go_ret
          exact ⟨z7_, z12_⟩
        ·rw [if_neg c9] at H
         exact absurd H (by simp)
       ·rw [if_neg c7] at H
        exact absurd H (by simp)
      ·rw [if_neg c6] at H
       exact absurd H (by simp)
     ·replace c5 := Bool.eq_false_iff.mpr c5
      subst c5
      have H1 : (some (decide ((a0.size : Int) < (a1.size : Int)))) = some r := by rw [if_neg (show ¬ (false = true) by decide)] at H; exact H
      clear H
      have H := H1
      clear H1
      obtain rfl := Option.some.inj H
      go_wp2
      repeat (go_quiet (fail); try go_wp2)
      go_ret
      exact ⟨z7_, z12_⟩
def tithebarnref02_Ahead.j0 : Nat → Bool → Bool → Int → ByteArray → Bool → Int → ByteArray → Option (Bool)
 | 0, _, _, _, _, _, _, _ => none
 | k + 1, x10, x285000, x285001, x285002, x286000, x286001, x286002 => if x10 = true then (if x285000 = true then (some (!x286000)) else (some false)) else (if x285001 = x286001 then ((tithebarnref02_ahead.f k x285002 x286002).bind fun t286 => (some t286)) else (some (decide (x285001 < x286001))))
def tithebarnref02_Ahead.f (k : Nat) (a0_0 : Bool) (a0_1 : Int) (a0_2 : ByteArray) (a1_0 : Bool) (a1_1 : Int) (a1_2 : ByteArray) : Option (Bool) := if a0_0 = true then (tithebarnref02_Ahead.j0 k true a0_0 a0_1 a0_2 a1_0 a1_1 a1_2) else (tithebarnref02_Ahead.j0 k a1_0 a0_0 a0_1 a0_2 a1_0 a1_1 a1_2)
theorem tithebarnref02_Ahead.mono_l : ∀ k, (∀ y0 y1 y2 y3 y4 y5 y6, LeO (tithebarnref02_Ahead.j0 k y0 y1 y2 y3 y4 y5 y6) (tithebarnref02_Ahead.j0 (k + 1) y0 y1 y2 y3 y4 y5 y6))
 | 0 => fun _ _ _ _ _ _ _ r h => by simp [tithebarnref02_Ahead.j0] at h
 | k + 1 => by
  have ih0 := tithebarnref02_Ahead.mono_l k
  ·intro y0 y1 y2 y3 y4 y5 y6
   unfold tithebarnref02_Ahead.j0
   repeat' first
   | (with_reducible exact ih0 _ _ _ _ _ _ _)
   | (with_reducible exact tithebarnref02_ahead.mono _ _ _)
   | (with_reducible exact LeO.refl _)
   | (with_reducible exact LeO.none _)
   | (with_reducible refine LeO.ite ?_ ?_)
   | (with_reducible refine LeO.bind ?_ (fun _ => ?_))
   | exact ih0 _ _ _ _ _ _ _
   | exact tithebarnref02_ahead.mono _ _ _
   | exact LeO.none _
   | refine LeO.ite ?_ ?_
   | refine LeO.bind ?_ (fun _ => ?_)
theorem tithebarnref02_Ahead.mono : ∀ a0 a1 a2 a3 a4 a5 k, LeO (tithebarnref02_Ahead.f k a0 a1 a2 a3 a4 a5) (tithebarnref02_Ahead.f (k + 1) a0 a1 a2 a3 a4 a5) := by
 intro a0 a1 a2 a3 a4 a5 k
 have ih0 := tithebarnref02_Ahead.mono_l k
 unfold tithebarnref02_Ahead.f
 repeat' first
   | (with_reducible exact ih0 _ _ _ _ _ _ _)
   | (with_reducible exact tithebarnref02_ahead.mono _ _ _)
   | (with_reducible exact LeO.refl _)
   | (with_reducible exact LeO.none _)
   | (with_reducible refine LeO.ite ?_ ?_)
   | (with_reducible refine LeO.bind ?_ (fun _ => ?_))
   | exact ih0 _ _ _ _ _ _ _
   | exact tithebarnref02_ahead.mono _ _ _
   | exact LeO.none _
   | refine LeO.ite ?_ ?_
   | refine LeO.bind ?_ (fun _ => ?_)
set_option maxHeartbeats 8000000 in
set_option maxRecDepth 100000 in
theorem tithebarnref02_Ahead.calls (k : Nat) (a0_0 : Bool) (a0_1 : Int) (a0_2 : ByteArray) (a1_0 : Bool) (a1_1 : Int) (a1_2 : ByteArray) (r : Bool) (w : World) (h : tithebarnref02_Ahead.f k a0_0 a0_1 a0_2 a1_0 a1_1 a1_2 = some r) :
  Calls Try.prog 66 #[.agg #[.bool a0_0, .int .i64 a0_1, .string a0_2], .agg #[.bool a1_0, .int .i64 a1_1, .string a1_2]] w fun e w' => e = .returned (.bool r) ∧ Below w.heap.size w w' := by
 have hu34 := Try.underlying34
 have HB := Aside0.mk (Below.refl w.heap.size w)
 have H : (if a0_0 = true then (tithebarnref02_Ahead.j0 k true a0_0 a0_1 a0_2 a1_0 a1_1 a1_2) else (tithebarnref02_Ahead.j0 k a1_0 a0_0 a0_1 a0_2 a1_0 a1_1 a1_2)) = some r := h
 clear h
 have HC3 := Aside0.mk H
 clear H
 go_enter Try.func66, Try.ntmps66
 go_upto_region 1 with (first | ((with_reducible refine gate_dst (N := 2) rfl ?_); refine box_event ?hg (N := 2) ?hd (cs := #[.bool a0_0, .int .i64 a0_1, .string a0_2]) (t := 34) ?hr ?_; (case hd => rfl); (case hg => rfl); (case hr => first | (go_simp; done) | (go_simp; rfl)); intro gb284 hg w4 hbox hb; have n0_ := Aside0.mk (below_step z1_ hb); have n1_ := Aside0.mk (hbox); have n2_ := Aside0.mk ((by rw [hg]; exact (below_size z1_) : w.heap.size ≤ gb284)); have n3_ := Aside0.mk ((by rw [hg]; exact (below_size z1_) : w.heap.size ≤ gb284)); clear HB; have HB := n0_; have BK284 := n1_; have GW284 := n2_; have GE284 := n3_; clear n0_ n1_ n2_ n3_; clear hb hbox hg) | ((with_reducible refine gate_dst (N := 3) rfl ?_); refine box_event ?hg (N := 3) ?hd (cs := #[.bool a1_0, .int .i64 a1_1, .string a1_2]) (t := 34) ?hr ?_; (case hd => rfl); (case hg => rfl); (case hr => first | (go_simp; done) | (go_simp; rfl)); intro gb285 hg w5 hbox hb; have n0_ := Aside0.mk (blk_below (g := gb284) (o := .cells #[.bool a0_0, .int .i64 a0_1, .string a0_2] 34 (0, 0)) (by (with_reducible repeat (first | refine blk_drewN ?_ _ | refine blk_drew ?_ | refine blk_alloc ?_ _)); exact BK284.out) hb); have n1_ := Aside0.mk (below_step z30_ hb); have n2_ := Aside0.mk (hbox); have n3_ := Aside0.mk ((by rw [hg]; exact (below_size z30_) : w.heap.size ≤ gb285)); have n4_ := Aside0.mk ((by rw [hg]; exact (below_size z30_) : w.heap.size ≤ gb285)); have n5_ := Aside0.mk ((by rw [hg]; exact Nat.ne_of_lt (blk_lt (g := gb284) (o := .cells #[.bool a0_0, .int .i64 a0_1, .string a0_2] 34 (0, 0)) (by (with_reducible repeat (first | refine blk_drewN ?_ _ | refine blk_drew ?_ | refine blk_alloc ?_ _)); exact BK284.out)) : gb284 ≠ gb285)); have n6_ := Aside0.mk ((by rw [hg]; exact Nat.ne_of_gt (blk_lt (g := gb284) (o := .cells #[.bool a0_0, .int .i64 a0_1, .string a0_2] 34 (0, 0)) (by (with_reducible repeat (first | refine blk_drewN ?_ _ | refine blk_drew ?_ | refine blk_alloc ?_ _)); exact BK284.out)) : gb285 ≠ gb284)); clear BK284; clear HB; have BK284 := n0_; have HB := n1_; have BK285 := n2_; have GW285 := n3_; have GE285 := n4_; have NB284_285 := n5_; have NB285_284 := n6_; clear n0_ n1_ n2_ n3_ n4_ n5_ n6_; clear hb hbox hg))
 (try simp only [Act.put, List.setIfInBounds_toArray, List.set_cons_zero, List.set_cons_succ])
 go_cut [10] (fun v10 wc => ∃ (kq : Nat) (x10_2 : Bool), v10 = .bool x10_2 ∧ Aside0 (tithebarnref02_Ahead.j0 kq x10_2 a0_0 a0_1 a0_2 a1_0 a1_1 a1_2 = some r) ∧ Aside0 (kq ≤ k) ∧ Aside0 (wc.heap[gb284]? = some (.cells #[.bool a0_0, .int .i64 a0_1, .string a0_2] 34 (0, 0))) ∧ Aside0 (wc.heap[gb285]? = some (.cells #[.bool a1_0, .int .i64 a1_1, .string a1_2] 34 (0, 0))) ∧ Aside0 (Below w.heap.size w wc))
 case first =>
  have H := HC3.out
  clear HC3
  by_cases c6 : a0_0 = true
  ·subst c6
   have H1 : (tithebarnref02_Ahead.j0 k true true a0_1 a0_2 a1_0 a1_1 a1_2) = some r := by rw [if_pos rfl] at H; exact H
   clear H
   have H := H1
   clear H1
   have H' := Aside0.mk H
   clear H
   have hnb7 := NB284_285.out
   have hnc7 := NB285_284.out
   have hcz8_0 : w5.cell? ⟨gb284, 0, none⟩ = some (.bool true) := (blk_cell BK284.out 0).trans rfl
   have hcz8_1 : w5.cell? ⟨gb284, 1, none⟩ = some (.int .i64 a0_1) := (blk_cell BK284.out 1).trans rfl
   have hcz8_2 : w5.cell? ⟨gb284, 2, none⟩ = some (.string a0_2) := (blk_cell BK284.out 2).trans rfl
   have hfz8_0 := blk_frozen BK284.out 0
   have hfz8_1 := blk_frozen BK284.out 1
   have hfz8_2 := blk_frozen BK284.out 2
   go_wp2
   go_meet
   case rel => exact ⟨_, (true), z7_, H', ⟨by first | omega | exact Nat.le_refl _⟩, ⟨by (with_reducible repeat (first | refine blk_drewN ?_ _ | refine blk_drew ?_ | refine blk_alloc ?_ _)); exact BK284.out⟩, ⟨by (with_reducible repeat (first | refine blk_drewN ?_ _ | refine blk_drew ?_ | refine blk_alloc ?_ _)); exact BK285.out⟩, ⟨z23_⟩⟩
  ·replace c6 := Bool.eq_false_iff.mpr c6
   subst c6
   have H1 : (tithebarnref02_Ahead.j0 k a1_0 false a0_1 a0_2 a1_0 a1_1 a1_2) = some r := by rw [if_neg (show ¬ (false = true) by decide)] at H; exact H
   clear H
   have H := H1
   clear H1
   have H' := Aside0.mk H
   clear H
   have hnb9 := NB284_285.out
   have hnc9 := NB285_284.out
   have hcz10_0 : w5.cell? ⟨gb284, 0, none⟩ = some (.bool false) := (blk_cell BK284.out 0).trans rfl
   have hcz10_1 : w5.cell? ⟨gb284, 1, none⟩ = some (.int .i64 a0_1) := (blk_cell BK284.out 1).trans rfl
   have hcz10_2 : w5.cell? ⟨gb284, 2, none⟩ = some (.string a0_2) := (blk_cell BK284.out 2).trans rfl
   have hfz10_0 := blk_frozen BK284.out 0
   have hfz10_1 := blk_frozen BK284.out 1
   have hfz10_2 := blk_frozen BK284.out 2
   have hcz11_0 : w5.cell? ⟨gb285, 0, none⟩ = some (.bool a1_0) := (blk_cell BK285.out 0).trans rfl
   have hcz11_1 : w5.cell? ⟨gb285, 1, none⟩ = some (.int .i64 a1_1) := (blk_cell BK285.out 1).trans rfl
   have hcz11_2 : w5.cell? ⟨gb285, 2, none⟩ = some (.string a1_2) := (blk_cell BK285.out 2).trans rfl
   have hfz11_0 := blk_frozen BK285.out 0
   have hfz11_1 := blk_frozen BK285.out 1
   have hfz11_2 := blk_frozen BK285.out 2
   go_wp2
   go_meet
   case rel => exact ⟨_, (a1_0), z7_, H', ⟨by first | omega | exact Nat.le_refl _⟩, ⟨by (with_reducible repeat (first | refine blk_drewN ?_ _ | refine blk_drew ?_ | refine blk_alloc ?_ _)); exact BK284.out⟩, ⟨by (with_reducible repeat (first | refine blk_drewN ?_ _ | refine blk_drew ?_ | refine blk_alloc ?_ _)); exact BK285.out⟩, ⟨z23_⟩⟩
 case rest =>
  clear HC3
  try clear p2
  try clear c6
  try clear c7
  try clear c9
  try clear hcz10_0
  try clear hcz10_1
  try clear hcz10_2
  try clear hcz11_0
  try clear hcz11_1
  try clear hcz11_2
  try clear hcz8_0
  try clear hcz8_1
  try clear hcz8_2
  try clear hfz10_0
  try clear hfz10_1
  try clear hfz10_2
  try clear hfz11_0
  try clear hfz11_1
  try clear hfz11_2
  try clear hfz8_0
  try clear hfz8_1
  try clear hfz8_2
  obtain ⟨kq, x10_2, rfl, HA, HJ2, BK284, BK285, HB⟩ := hcut
  cases kq with
  | zero => exact absurd HA.out (by simp [tithebarnref02_Ahead.j0])
  | succ kj2 =>
   have H := HA.out
   clear HA
   simp only [tithebarnref02_Ahead.j0] at H
   by_cases c12 : x10_2 = true
   ·subst c12
    have H1 : (if a0_0 = true then (some (!a1_0)) else (some false)) = some r := by rw [if_pos rfl] at H; exact H
    clear H
    have H := H1
    clear H1
    by_cases c13 : a0_0 = true
    ·subst c13
     have H1 : (some (!a1_0)) = some r := by rw [if_pos rfl] at H; exact H
     clear H
     have H := H1
     clear H1
     obtain rfl := Option.some.inj H
     have hnb14 := NB284_285.out
     have hnc14 := NB285_284.out
     have hcz15_0 : wc.cell? ⟨gb284, 0, none⟩ = some (.bool true) := (blk_cell BK284.out 0).trans rfl
     have hcz15_1 : wc.cell? ⟨gb284, 1, none⟩ = some (.int .i64 a0_1) := (blk_cell BK284.out 1).trans rfl
     have hcz15_2 : wc.cell? ⟨gb284, 2, none⟩ = some (.string a0_2) := (blk_cell BK284.out 2).trans rfl
     have hfz15_0 := blk_frozen BK284.out 0
     have hfz15_1 := blk_frozen BK284.out 1
     have hfz15_2 := blk_frozen BK284.out 2
     have hcz16_0 : wc.cell? ⟨gb285, 0, none⟩ = some (.bool a1_0) := (blk_cell BK285.out 0).trans rfl
     have hcz16_1 : wc.cell? ⟨gb285, 1, none⟩ = some (.int .i64 a1_1) := (blk_cell BK285.out 1).trans rfl
     have hcz16_2 : wc.cell? ⟨gb285, 2, none⟩ = some (.string a1_2) := (blk_cell BK285.out 2).trans rfl
     have hfz16_0 := blk_frozen BK285.out 0
     have hfz16_1 := blk_frozen BK285.out 1
     have hfz16_2 := blk_frozen BK285.out 2
     go_wp2
     go_ret
     exact ⟨z2_, z23_⟩
    ·replace c13 := Bool.eq_false_iff.mpr c13
     subst c13
     have H1 : (some false) = some r := by rw [if_neg (show ¬ (false = true) by decide)] at H; exact H
     clear H
     have H := H1
     clear H1
     obtain rfl := Option.some.inj H
     have hnb17 := NB284_285.out
     have hnc17 := NB285_284.out
     have hcz18_0 : wc.cell? ⟨gb284, 0, none⟩ = some (.bool false) := (blk_cell BK284.out 0).trans rfl
     have hcz18_1 : wc.cell? ⟨gb284, 1, none⟩ = some (.int .i64 a0_1) := (blk_cell BK284.out 1).trans rfl
     have hcz18_2 : wc.cell? ⟨gb284, 2, none⟩ = some (.string a0_2) := (blk_cell BK284.out 2).trans rfl
     have hfz18_0 := blk_frozen BK284.out 0
     have hfz18_1 := blk_frozen BK284.out 1
     have hfz18_2 := blk_frozen BK284.out 2
     go_wp2
     go_ret
     exact ⟨z2_, z23_⟩
   ·replace c12 := Bool.eq_false_iff.mpr c12
    subst c12
    have H1 : (if a0_1 = a1_1 then ((tithebarnref02_ahead.f kj2 a0_2 a1_2).bind fun t286 => (some t286)) else (some (decide (a0_1 < a1_1)))) = some r := by rw [if_neg (show ¬ (false = true) by decide)] at H; exact H
    clear H
    have H := H1
    clear H1
    by_cases c19 : a0_1 = a1_1
    ·rw [if_pos c19] at H
     have c19b0 : (a0_1 == a1_1) = true := beq_iff_eq.mpr c19
     have c19b1 : (a0_1 != a1_1) = false := bne_eq_false_iff_eq.mpr c19
     clear c19
     replace H := Option.bind_eq_some_iff.mp H
     obtain ⟨t286, A200, H⟩ := H
     replace H : (some t286) = some r := H
     have A20 := Aside0.mk A200
     clear A200
     obtain rfl := Option.some.inj H
     have hnb21 := NB284_285.out
     have hnc21 := NB285_284.out
     have hcz22_0 : wc.cell? ⟨gb284, 0, none⟩ = some (.bool a0_0) := (blk_cell BK284.out 0).trans rfl
     have hcz22_1 : wc.cell? ⟨gb284, 1, none⟩ = some (.int .i64 a0_1) := (blk_cell BK284.out 1).trans rfl
     have hcz22_2 : wc.cell? ⟨gb284, 2, none⟩ = some (.string a0_2) := (blk_cell BK284.out 2).trans rfl
     have hfz22_0 := blk_frozen BK284.out 0
     have hfz22_1 := blk_frozen BK284.out 1
     have hfz22_2 := blk_frozen BK284.out 2
     have hcz23_0 : wc.cell? ⟨gb285, 0, none⟩ = some (.bool a1_0) := (blk_cell BK285.out 0).trans rfl
     have hcz23_1 : wc.cell? ⟨gb285, 1, none⟩ = some (.int .i64 a1_1) := (blk_cell BK285.out 1).trans rfl
     have hcz23_2 : wc.cell? ⟨gb285, 2, none⟩ = some (.string a1_2) := (blk_cell BK285.out 2).trans rfl
     have hfz23_0 := blk_frozen BK285.out 0
     have hfz23_1 := blk_frozen BK285.out 1
     have hfz23_2 := blk_frozen BK285.out 2
     go_wp2_with (first | ((with_reducible refine gate_callee (f := 81) rfl ?_); refine goesL_ (some 32) rfl rfl Try.func81 (by kernel_rfl) rfl #[.string a0_2, .string a1_2] rfl (by (try simp only [List.map_toArray, List.map_cons, List.map_nil]); first | done | rfl | (simp only [List.length_drop, List.length_take]; rfl) | (go_simp; simp [IntKind.wrap, IntKind.bits, IntKind.signed]; omega)) ?_; (with_reducible refine (tithebarnref02_ahead.calls kj2 a0_2 a1_2 t286 _ A20.out).mono ?_); rintro e w' ⟨rfl, ⟨nd, rfl⟩⟩; refine ⟨_, rfl, ?_⟩))
     go_ret
     exact ⟨z2_, z23_⟩
    ·rw [if_neg c19] at H
     have c19b0 : (a0_1 == a1_1) = false := beq_eq_false_iff_ne.mpr c19
     have c19b1 : (a0_1 != a1_1) = true := bne_iff_ne.mpr c19
     obtain rfl := Option.some.inj H
     have hnb24 := NB284_285.out
     have hnc24 := NB285_284.out
     have hcz25_0 : wc.cell? ⟨gb284, 0, none⟩ = some (.bool a0_0) := (blk_cell BK284.out 0).trans rfl
     have hcz25_1 : wc.cell? ⟨gb284, 1, none⟩ = some (.int .i64 a0_1) := (blk_cell BK284.out 1).trans rfl
     have hcz25_2 : wc.cell? ⟨gb284, 2, none⟩ = some (.string a0_2) := (blk_cell BK284.out 2).trans rfl
     have hfz25_0 := blk_frozen BK284.out 0
     have hfz25_1 := blk_frozen BK284.out 1
     have hfz25_2 := blk_frozen BK284.out 2
     have hcz26_0 : wc.cell? ⟨gb285, 0, none⟩ = some (.bool a1_0) := (blk_cell BK285.out 0).trans rfl
     have hcz26_1 : wc.cell? ⟨gb285, 1, none⟩ = some (.int .i64 a1_1) := (blk_cell BK285.out 1).trans rfl
     have hcz26_2 : wc.cell? ⟨gb285, 2, none⟩ = some (.string a1_2) := (blk_cell BK285.out 2).trans rfl
     have hfz26_0 := blk_frozen BK285.out 0
     have hfz26_1 := blk_frozen BK285.out 1
     have hfz26_2 := blk_frozen BK285.out 2
     go_wp2
     go_ret
     exact ⟨z2_, z23_⟩
def tithebarnref16_part.f (k : Nat) (a0_0 : Int) (a0_1 : Int) (a0_2 : Bool) (a0_3 : Int) (a0_4 : ByteArray) (a0_5 : Bool) (a0_6 : Int) (a0_7 : ByteArray) : Option (Bool) := (tithebarnref16_number.f a0_0).bind fun t288 => (if t288 = true then (if a0_1 ≥ 0 then (if a0_1 < 4 then ((tithebarnref16_key.f a0_2 a0_3 a0_4).bind fun t289 => (if t289 = true then ((tithebarnref16_key.f a0_5 a0_6 a0_7).bind fun t290 => (if t290 = true then ((tithebarnref02_Ahead.f k a0_5 a0_6 a0_7 a0_2 a0_3 a0_4).bind fun t291 => (some (!t291))) else (some false))) else (some false))) else (some false)) else (some false)) else (some false))
theorem tithebarnref16_part.mono : ∀ a0 a1 a2 a3 a4 a5 a6 a7 k, LeO (tithebarnref16_part.f k a0 a1 a2 a3 a4 a5 a6 a7) (tithebarnref16_part.f (k + 1) a0 a1 a2 a3 a4 a5 a6 a7) := by
 intro a0 a1 a2 a3 a4 a5 a6 a7 k
 unfold tithebarnref16_part.f
 repeat' first
   | (with_reducible exact tithebarnref02_Ahead.mono _ _ _ _ _ _ _)
   | (with_reducible exact LeO.refl _)
   | (with_reducible exact LeO.none _)
   | (with_reducible refine LeO.ite ?_ ?_)
   | (with_reducible refine LeO.bind ?_ (fun _ => ?_))
   | exact tithebarnref02_Ahead.mono _ _ _ _ _ _ _
   | exact LeO.none _
   | refine LeO.ite ?_ ?_
   | refine LeO.bind ?_ (fun _ => ?_)
set_option maxHeartbeats 8000000 in
set_option maxRecDepth 100000 in
theorem tithebarnref16_part.calls (k : Nat) (a0_0 : Int) (a0_1 : Int) (a0_2 : Bool) (a0_3 : Int) (a0_4 : ByteArray) (a0_5 : Bool) (a0_6 : Int) (a0_7 : ByteArray) (r : Bool) (w : World) (h : tithebarnref16_part.f k a0_0 a0_1 a0_2 a0_3 a0_4 a0_5 a0_6 a0_7 = some r) :
  Calls Try.prog 44 #[.agg #[.int .i64 a0_0, .int .i64 a0_1, .bool a0_2, .int .i64 a0_3, .string a0_4, .bool a0_5, .int .i64 a0_6, .string a0_7]] w fun e w' => e = .returned (.bool r) ∧ Below w.heap.size w w' := by
 have hu36 := Try.underlying36
 have hu34 := Try.underlying34
 have HB := Aside0.mk (Below.refl w.heap.size w)
 have H : ((tithebarnref16_number.f a0_0).bind fun t288 => (if t288 = true then (if a0_1 ≥ 0 then (if a0_1 < 4 then ((tithebarnref16_key.f a0_2 a0_3 a0_4).bind fun t289 => (if t289 = true then ((tithebarnref16_key.f a0_5 a0_6 a0_7).bind fun t290 => (if t290 = true then ((tithebarnref02_Ahead.f k a0_5 a0_6 a0_7 a0_2 a0_3 a0_4).bind fun t291 => (some (!t291))) else (some false))) else (some false))) else (some false)) else (some false)) else (some false))) = some r := h
 clear h
 replace H := Option.bind_eq_some_iff.mp H
 obtain ⟨t288, A20, H⟩ := H
 replace H : (if t288 = true then (if a0_1 ≥ 0 then (if a0_1 < 4 then ((tithebarnref16_key.f a0_2 a0_3 a0_4).bind fun t289 => (if t289 = true then ((tithebarnref16_key.f a0_5 a0_6 a0_7).bind fun t290 => (if t290 = true then ((tithebarnref02_Ahead.f k a0_5 a0_6 a0_7 a0_2 a0_3 a0_4).bind fun t291 => (some (!t291))) else (some false))) else (some false))) else (some false)) else (some false)) else (some false)) = some r := H
 have A2 := Aside0.mk A20
 clear A20
 by_cases c3 : t288 = true
 ·subst c3
  have H1 : (if a0_1 ≥ 0 then (if a0_1 < 4 then ((tithebarnref16_key.f a0_2 a0_3 a0_4).bind fun t289 => (if t289 = true then ((tithebarnref16_key.f a0_5 a0_6 a0_7).bind fun t290 => (if t290 = true then ((tithebarnref02_Ahead.f k a0_5 a0_6 a0_7 a0_2 a0_3 a0_4).bind fun t291 => (some (!t291))) else (some false))) else (some false))) else (some false)) else (some false)) = some r := by rw [if_pos rfl] at H; exact H
  clear H
  have H := H1
  clear H1
  by_cases c4 : a0_1 ≥ 0
  ·rw [if_pos c4] at H
   have c4b0 : decide (0 ≤ a0_1) = true := decide_eq_true c4
   clear c4
   by_cases c5 : a0_1 < 4
   ·rw [if_pos c5] at H
    have c5b0 : decide (a0_1 < 4) = true := decide_eq_true c5
    clear c5
    replace H := Option.bind_eq_some_iff.mp H
    obtain ⟨t289, A60, H⟩ := H
    replace H : (if t289 = true then ((tithebarnref16_key.f a0_5 a0_6 a0_7).bind fun t290 => (if t290 = true then ((tithebarnref02_Ahead.f k a0_5 a0_6 a0_7 a0_2 a0_3 a0_4).bind fun t291 => (some (!t291))) else (some false))) else (some false)) = some r := H
    have A6 := Aside0.mk A60
    clear A60
    by_cases c7 : t289 = true
    ·subst c7
     have H1 : ((tithebarnref16_key.f a0_5 a0_6 a0_7).bind fun t290 => (if t290 = true then ((tithebarnref02_Ahead.f k a0_5 a0_6 a0_7 a0_2 a0_3 a0_4).bind fun t291 => (some (!t291))) else (some false))) = some r := by rw [if_pos rfl] at H; exact H
     clear H
     have H := H1
     clear H1
     replace H := Option.bind_eq_some_iff.mp H
     obtain ⟨t290, A80, H⟩ := H
     replace H : (if t290 = true then ((tithebarnref02_Ahead.f k a0_5 a0_6 a0_7 a0_2 a0_3 a0_4).bind fun t291 => (some (!t291))) else (some false)) = some r := H
     have A8 := Aside0.mk A80
     clear A80
     by_cases c9 : t290 = true
     ·subst c9
      have H1 : ((tithebarnref02_Ahead.f k a0_5 a0_6 a0_7 a0_2 a0_3 a0_4).bind fun t291 => (some (!t291))) = some r := by rw [if_pos rfl] at H; exact H
      clear H
      have H := H1
      clear H1
      replace H := Option.bind_eq_some_iff.mp H
      obtain ⟨t291, A100, H⟩ := H
      replace H : (some (!t291)) = some r := H
      have A10 := Aside0.mk A100
      clear A100
      obtain rfl := Option.some.inj H
      go_enter Try.func44, Try.ntmps44
      go_wp2_with (first | ((with_reducible refine gate_dst (N := 1) rfl ?_); refine box_event ?hg (N := 1) ?hd (cs := #[.int .i64 a0_0, .int .i64 a0_1, .bool a0_2, .int .i64 a0_3, .string a0_4, .bool a0_5, .int .i64 a0_6, .string a0_7]) (t := 36) ?hr ?_; (case hd => rfl); (case hg => rfl); (case hr => first | (go_simp; done) | (go_simp; rfl)); intro gb287 hg w11 hbox hb; have n0_ := Aside0.mk (below_step z1_ hb); have n1_ := Aside0.mk (hbox); have n2_ := Aside0.mk ((by rw [hg]; exact (below_size z1_) : w.heap.size ≤ gb287)); have n3_ := Aside0.mk ((by rw [hg]; exact (below_size z1_) : w.heap.size ≤ gb287)); clear HB; have HB := n0_; have BK287 := n1_; have GW287 := n2_; have GE287 := n3_; clear n0_ n1_ n2_ n3_; clear hb hbox hg; have hcz12_0 : w11.cell? ⟨gb287, 0, none⟩ = some (.int .i64 a0_0) := (blk_cell BK287.out 0).trans rfl; have hcz12_1 : w11.cell? ⟨gb287, 1, none⟩ = some (.int .i64 a0_1) := (blk_cell BK287.out 1).trans rfl; have hcz12_2 : w11.cell? ⟨gb287, 2, none⟩ = some (.bool a0_2) := (blk_cell BK287.out 2).trans rfl; have hcz12_3 : w11.cell? ⟨gb287, 3, none⟩ = some (.int .i64 a0_3) := (blk_cell BK287.out 3).trans rfl; have hcz12_4 : w11.cell? ⟨gb287, 4, none⟩ = some (.string a0_4) := (blk_cell BK287.out 4).trans rfl; have hcz12_5 : w11.cell? ⟨gb287, 5, none⟩ = some (.bool a0_5) := (blk_cell BK287.out 5).trans rfl; have hcz12_6 : w11.cell? ⟨gb287, 6, none⟩ = some (.int .i64 a0_6) := (blk_cell BK287.out 6).trans rfl; have hcz12_7 : w11.cell? ⟨gb287, 7, none⟩ = some (.string a0_7) := (blk_cell BK287.out 7).trans rfl; have hfz12_0 := blk_frozen BK287.out 0; have hfz12_1 := blk_frozen BK287.out 1; have hfz12_2 := blk_frozen BK287.out 2; have hfz12_3 := blk_frozen BK287.out 3; have hfz12_4 := blk_frozen BK287.out 4; have hfz12_5 := blk_frozen BK287.out 5; have hfz12_6 := blk_frozen BK287.out 6; have hfz12_7 := blk_frozen BK287.out 7) | ((with_reducible refine gate_callee (f := 43) rfl ?_); refine goesL_ (some 5) rfl rfl Try.func43 (by kernel_rfl) rfl #[.int .i64 a0_0] rfl (by (try simp only [List.map_toArray, List.map_cons, List.map_nil]); first | done | rfl | (simp only [List.length_drop, List.length_take]; rfl) | (go_simp; simp [IntKind.wrap, IntKind.bits, IntKind.signed]; omega)) ?_; (with_reducible refine (tithebarnref16_number.calls a0_0 true _ A2.out).mono ?_); rintro e w' ⟨rfl, ⟨nd, rfl⟩⟩; refine ⟨_, rfl, ?_⟩) | (go_at_call 65; (with_reducible refine (tithebarnref16_key.calls a0_2 a0_3 a0_4 true _ A6.out).mono ?_); rintro e w13 ⟨rfl, hb⟩; have n0_ := Aside0.mk (blk_below (g := gb287) (o := .cells #[.int .i64 a0_0, .int .i64 a0_1, .bool a0_2, .int .i64 a0_3, .string a0_4, .bool a0_5, .int .i64 a0_6, .string a0_7] 36 (0, 0)) (by (with_reducible repeat (first | refine blk_drewN ?_ _ | refine blk_drew ?_ | refine blk_alloc ?_ _)); exact BK287.out) hb); have n1_ := Aside0.mk (below_step z14_ hb); clear BK287; clear HB; have BK287 := n0_; have HB := n1_; clear n0_ n1_; (try clear hb); (try clear hb2); (try clear hk); (try clear hi); have hcz14_0 : w13.cell? ⟨gb287, 0, none⟩ = some (.int .i64 a0_0) := (blk_cell BK287.out 0).trans rfl; have hcz14_1 : w13.cell? ⟨gb287, 1, none⟩ = some (.int .i64 a0_1) := (blk_cell BK287.out 1).trans rfl; have hcz14_2 : w13.cell? ⟨gb287, 2, none⟩ = some (.bool a0_2) := (blk_cell BK287.out 2).trans rfl; have hcz14_3 : w13.cell? ⟨gb287, 3, none⟩ = some (.int .i64 a0_3) := (blk_cell BK287.out 3).trans rfl; have hcz14_4 : w13.cell? ⟨gb287, 4, none⟩ = some (.string a0_4) := (blk_cell BK287.out 4).trans rfl; have hcz14_5 : w13.cell? ⟨gb287, 5, none⟩ = some (.bool a0_5) := (blk_cell BK287.out 5).trans rfl; have hcz14_6 : w13.cell? ⟨gb287, 6, none⟩ = some (.int .i64 a0_6) := (blk_cell BK287.out 6).trans rfl; have hcz14_7 : w13.cell? ⟨gb287, 7, none⟩ = some (.string a0_7) := (blk_cell BK287.out 7).trans rfl; have hfz14_0 := blk_frozen BK287.out 0; have hfz14_1 := blk_frozen BK287.out 1; have hfz14_2 := blk_frozen BK287.out 2; have hfz14_3 := blk_frozen BK287.out 3; have hfz14_4 := blk_frozen BK287.out 4; have hfz14_5 := blk_frozen BK287.out 5; have hfz14_6 := blk_frozen BK287.out 6; have hfz14_7 := blk_frozen BK287.out 7) | (go_at_call 65; (with_reducible refine (tithebarnref16_key.calls a0_5 a0_6 a0_7 true _ A8.out).mono ?_); rintro e w15 ⟨rfl, hb⟩; have n0_ := Aside0.mk (blk_below (g := gb287) (o := .cells #[.int .i64 a0_0, .int .i64 a0_1, .bool a0_2, .int .i64 a0_3, .string a0_4, .bool a0_5, .int .i64 a0_6, .string a0_7] 36 (0, 0)) (by (with_reducible repeat (first | refine blk_drewN ?_ _ | refine blk_drew ?_ | refine blk_alloc ?_ _)); exact BK287.out) hb); have n1_ := Aside0.mk (below_step z14_ hb); clear BK287; clear HB; have BK287 := n0_; have HB := n1_; clear n0_ n1_; (try clear hb); (try clear hb2); (try clear hk); (try clear hi); have hcz16_0 : w15.cell? ⟨gb287, 0, none⟩ = some (.int .i64 a0_0) := (blk_cell BK287.out 0).trans rfl; have hcz16_1 : w15.cell? ⟨gb287, 1, none⟩ = some (.int .i64 a0_1) := (blk_cell BK287.out 1).trans rfl; have hcz16_2 : w15.cell? ⟨gb287, 2, none⟩ = some (.bool a0_2) := (blk_cell BK287.out 2).trans rfl; have hcz16_3 : w15.cell? ⟨gb287, 3, none⟩ = some (.int .i64 a0_3) := (blk_cell BK287.out 3).trans rfl; have hcz16_4 : w15.cell? ⟨gb287, 4, none⟩ = some (.string a0_4) := (blk_cell BK287.out 4).trans rfl; have hcz16_5 : w15.cell? ⟨gb287, 5, none⟩ = some (.bool a0_5) := (blk_cell BK287.out 5).trans rfl; have hcz16_6 : w15.cell? ⟨gb287, 6, none⟩ = some (.int .i64 a0_6) := (blk_cell BK287.out 6).trans rfl; have hcz16_7 : w15.cell? ⟨gb287, 7, none⟩ = some (.string a0_7) := (blk_cell BK287.out 7).trans rfl; have hfz16_0 := blk_frozen BK287.out 0; have hfz16_1 := blk_frozen BK287.out 1; have hfz16_2 := blk_frozen BK287.out 2; have hfz16_3 := blk_frozen BK287.out 3; have hfz16_4 := blk_frozen BK287.out 4; have hfz16_5 := blk_frozen BK287.out 5; have hfz16_6 := blk_frozen BK287.out 6; have hfz16_7 := blk_frozen BK287.out 7) | (go_at_call 66; (with_reducible refine (tithebarnref02_Ahead.calls k a0_5 a0_6 a0_7 a0_2 a0_3 a0_4 t291 _ A10.out).mono ?_); rintro e w17 ⟨rfl, hb⟩; have n0_ := Aside0.mk (blk_below (g := gb287) (o := .cells #[.int .i64 a0_0, .int .i64 a0_1, .bool a0_2, .int .i64 a0_3, .string a0_4, .bool a0_5, .int .i64 a0_6, .string a0_7] 36 (0, 0)) (by (with_reducible repeat (first | refine blk_drewN ?_ _ | refine blk_drew ?_ | refine blk_alloc ?_ _)); exact BK287.out) hb); have n1_ := Aside0.mk (below_step z14_ hb); clear BK287; clear HB; have BK287 := n0_; have HB := n1_; clear n0_ n1_; (try clear hb); (try clear hb2); (try clear hk); (try clear hi)))
      go_ret
      exact ⟨z2_, z14_⟩
     ·replace c9 := Bool.eq_false_iff.mpr c9
      subst c9
      have H1 : (some false) = some r := by rw [if_neg (show ¬ (false = true) by decide)] at H; exact H
      clear H
      have H := H1
      clear H1
      obtain rfl := Option.some.inj H
      go_enter Try.func44, Try.ntmps44
      go_wp2_with (first | ((with_reducible refine gate_dst (N := 1) rfl ?_); refine box_event ?hg (N := 1) ?hd (cs := #[.int .i64 a0_0, .int .i64 a0_1, .bool a0_2, .int .i64 a0_3, .string a0_4, .bool a0_5, .int .i64 a0_6, .string a0_7]) (t := 36) ?hr ?_; (case hd => rfl); (case hg => rfl); (case hr => first | (go_simp; done) | (go_simp; rfl)); intro gb287 hg w18 hbox hb; have n0_ := Aside0.mk (below_step z1_ hb); have n1_ := Aside0.mk (hbox); have n2_ := Aside0.mk ((by rw [hg]; exact (below_size z1_) : w.heap.size ≤ gb287)); have n3_ := Aside0.mk ((by rw [hg]; exact (below_size z1_) : w.heap.size ≤ gb287)); clear HB; have HB := n0_; have BK287 := n1_; have GW287 := n2_; have GE287 := n3_; clear n0_ n1_ n2_ n3_; clear hb hbox hg; have hcz19_0 : w18.cell? ⟨gb287, 0, none⟩ = some (.int .i64 a0_0) := (blk_cell BK287.out 0).trans rfl; have hcz19_1 : w18.cell? ⟨gb287, 1, none⟩ = some (.int .i64 a0_1) := (blk_cell BK287.out 1).trans rfl; have hcz19_2 : w18.cell? ⟨gb287, 2, none⟩ = some (.bool a0_2) := (blk_cell BK287.out 2).trans rfl; have hcz19_3 : w18.cell? ⟨gb287, 3, none⟩ = some (.int .i64 a0_3) := (blk_cell BK287.out 3).trans rfl; have hcz19_4 : w18.cell? ⟨gb287, 4, none⟩ = some (.string a0_4) := (blk_cell BK287.out 4).trans rfl; have hcz19_5 : w18.cell? ⟨gb287, 5, none⟩ = some (.bool a0_5) := (blk_cell BK287.out 5).trans rfl; have hcz19_6 : w18.cell? ⟨gb287, 6, none⟩ = some (.int .i64 a0_6) := (blk_cell BK287.out 6).trans rfl; have hcz19_7 : w18.cell? ⟨gb287, 7, none⟩ = some (.string a0_7) := (blk_cell BK287.out 7).trans rfl; have hfz19_0 := blk_frozen BK287.out 0; have hfz19_1 := blk_frozen BK287.out 1; have hfz19_2 := blk_frozen BK287.out 2; have hfz19_3 := blk_frozen BK287.out 3; have hfz19_4 := blk_frozen BK287.out 4; have hfz19_5 := blk_frozen BK287.out 5; have hfz19_6 := blk_frozen BK287.out 6; have hfz19_7 := blk_frozen BK287.out 7) | ((with_reducible refine gate_callee (f := 43) rfl ?_); refine goesL_ (some 5) rfl rfl Try.func43 (by kernel_rfl) rfl #[.int .i64 a0_0] rfl (by (try simp only [List.map_toArray, List.map_cons, List.map_nil]); first | done | rfl | (simp only [List.length_drop, List.length_take]; rfl) | (go_simp; simp [IntKind.wrap, IntKind.bits, IntKind.signed]; omega)) ?_; (with_reducible refine (tithebarnref16_number.calls a0_0 true _ A2.out).mono ?_); rintro e w' ⟨rfl, ⟨nd, rfl⟩⟩; refine ⟨_, rfl, ?_⟩) | (go_at_call 65; (with_reducible refine (tithebarnref16_key.calls a0_2 a0_3 a0_4 true _ A6.out).mono ?_); rintro e w20 ⟨rfl, hb⟩; have n0_ := Aside0.mk (blk_below (g := gb287) (o := .cells #[.int .i64 a0_0, .int .i64 a0_1, .bool a0_2, .int .i64 a0_3, .string a0_4, .bool a0_5, .int .i64 a0_6, .string a0_7] 36 (0, 0)) (by (with_reducible repeat (first | refine blk_drewN ?_ _ | refine blk_drew ?_ | refine blk_alloc ?_ _)); exact BK287.out) hb); have n1_ := Aside0.mk (below_step z14_ hb); clear BK287; clear HB; have BK287 := n0_; have HB := n1_; clear n0_ n1_; (try clear hb); (try clear hb2); (try clear hk); (try clear hi); have hcz21_0 : w20.cell? ⟨gb287, 0, none⟩ = some (.int .i64 a0_0) := (blk_cell BK287.out 0).trans rfl; have hcz21_1 : w20.cell? ⟨gb287, 1, none⟩ = some (.int .i64 a0_1) := (blk_cell BK287.out 1).trans rfl; have hcz21_2 : w20.cell? ⟨gb287, 2, none⟩ = some (.bool a0_2) := (blk_cell BK287.out 2).trans rfl; have hcz21_3 : w20.cell? ⟨gb287, 3, none⟩ = some (.int .i64 a0_3) := (blk_cell BK287.out 3).trans rfl; have hcz21_4 : w20.cell? ⟨gb287, 4, none⟩ = some (.string a0_4) := (blk_cell BK287.out 4).trans rfl; have hcz21_5 : w20.cell? ⟨gb287, 5, none⟩ = some (.bool a0_5) := (blk_cell BK287.out 5).trans rfl; have hcz21_6 : w20.cell? ⟨gb287, 6, none⟩ = some (.int .i64 a0_6) := (blk_cell BK287.out 6).trans rfl; have hcz21_7 : w20.cell? ⟨gb287, 7, none⟩ = some (.string a0_7) := (blk_cell BK287.out 7).trans rfl; have hfz21_0 := blk_frozen BK287.out 0; have hfz21_1 := blk_frozen BK287.out 1; have hfz21_2 := blk_frozen BK287.out 2; have hfz21_3 := blk_frozen BK287.out 3; have hfz21_4 := blk_frozen BK287.out 4; have hfz21_5 := blk_frozen BK287.out 5; have hfz21_6 := blk_frozen BK287.out 6; have hfz21_7 := blk_frozen BK287.out 7) | (go_at_call 65; (with_reducible refine (tithebarnref16_key.calls a0_5 a0_6 a0_7 false _ A8.out).mono ?_); rintro e w22 ⟨rfl, hb⟩; have n0_ := Aside0.mk (blk_below (g := gb287) (o := .cells #[.int .i64 a0_0, .int .i64 a0_1, .bool a0_2, .int .i64 a0_3, .string a0_4, .bool a0_5, .int .i64 a0_6, .string a0_7] 36 (0, 0)) (by (with_reducible repeat (first | refine blk_drewN ?_ _ | refine blk_drew ?_ | refine blk_alloc ?_ _)); exact BK287.out) hb); have n1_ := Aside0.mk (below_step z14_ hb); clear BK287; clear HB; have BK287 := n0_; have HB := n1_; clear n0_ n1_; (try clear hb); (try clear hb2); (try clear hk); (try clear hi)))
      go_ret
      exact ⟨z2_, z14_⟩
    ·replace c7 := Bool.eq_false_iff.mpr c7
     subst c7
     have H1 : (some false) = some r := by rw [if_neg (show ¬ (false = true) by decide)] at H; exact H
     clear H
     have H := H1
     clear H1
     obtain rfl := Option.some.inj H
     go_enter Try.func44, Try.ntmps44
     go_wp2_with (first | ((with_reducible refine gate_dst (N := 1) rfl ?_); refine box_event ?hg (N := 1) ?hd (cs := #[.int .i64 a0_0, .int .i64 a0_1, .bool a0_2, .int .i64 a0_3, .string a0_4, .bool a0_5, .int .i64 a0_6, .string a0_7]) (t := 36) ?hr ?_; (case hd => rfl); (case hg => rfl); (case hr => first | (go_simp; done) | (go_simp; rfl)); intro gb287 hg w23 hbox hb; have n0_ := Aside0.mk (below_step z1_ hb); have n1_ := Aside0.mk (hbox); have n2_ := Aside0.mk ((by rw [hg]; exact (below_size z1_) : w.heap.size ≤ gb287)); have n3_ := Aside0.mk ((by rw [hg]; exact (below_size z1_) : w.heap.size ≤ gb287)); clear HB; have HB := n0_; have BK287 := n1_; have GW287 := n2_; have GE287 := n3_; clear n0_ n1_ n2_ n3_; clear hb hbox hg; have hcz24_0 : w23.cell? ⟨gb287, 0, none⟩ = some (.int .i64 a0_0) := (blk_cell BK287.out 0).trans rfl; have hcz24_1 : w23.cell? ⟨gb287, 1, none⟩ = some (.int .i64 a0_1) := (blk_cell BK287.out 1).trans rfl; have hcz24_2 : w23.cell? ⟨gb287, 2, none⟩ = some (.bool a0_2) := (blk_cell BK287.out 2).trans rfl; have hcz24_3 : w23.cell? ⟨gb287, 3, none⟩ = some (.int .i64 a0_3) := (blk_cell BK287.out 3).trans rfl; have hcz24_4 : w23.cell? ⟨gb287, 4, none⟩ = some (.string a0_4) := (blk_cell BK287.out 4).trans rfl; have hcz24_5 : w23.cell? ⟨gb287, 5, none⟩ = some (.bool a0_5) := (blk_cell BK287.out 5).trans rfl; have hcz24_6 : w23.cell? ⟨gb287, 6, none⟩ = some (.int .i64 a0_6) := (blk_cell BK287.out 6).trans rfl; have hcz24_7 : w23.cell? ⟨gb287, 7, none⟩ = some (.string a0_7) := (blk_cell BK287.out 7).trans rfl; have hfz24_0 := blk_frozen BK287.out 0; have hfz24_1 := blk_frozen BK287.out 1; have hfz24_2 := blk_frozen BK287.out 2; have hfz24_3 := blk_frozen BK287.out 3; have hfz24_4 := blk_frozen BK287.out 4; have hfz24_5 := blk_frozen BK287.out 5; have hfz24_6 := blk_frozen BK287.out 6; have hfz24_7 := blk_frozen BK287.out 7) | ((with_reducible refine gate_callee (f := 43) rfl ?_); refine goesL_ (some 5) rfl rfl Try.func43 (by kernel_rfl) rfl #[.int .i64 a0_0] rfl (by (try simp only [List.map_toArray, List.map_cons, List.map_nil]); first | done | rfl | (simp only [List.length_drop, List.length_take]; rfl) | (go_simp; simp [IntKind.wrap, IntKind.bits, IntKind.signed]; omega)) ?_; (with_reducible refine (tithebarnref16_number.calls a0_0 true _ A2.out).mono ?_); rintro e w' ⟨rfl, ⟨nd, rfl⟩⟩; refine ⟨_, rfl, ?_⟩) | (go_at_call 65; (with_reducible refine (tithebarnref16_key.calls a0_2 a0_3 a0_4 false _ A6.out).mono ?_); rintro e w25 ⟨rfl, hb⟩; have n0_ := Aside0.mk (blk_below (g := gb287) (o := .cells #[.int .i64 a0_0, .int .i64 a0_1, .bool a0_2, .int .i64 a0_3, .string a0_4, .bool a0_5, .int .i64 a0_6, .string a0_7] 36 (0, 0)) (by (with_reducible repeat (first | refine blk_drewN ?_ _ | refine blk_drew ?_ | refine blk_alloc ?_ _)); exact BK287.out) hb); have n1_ := Aside0.mk (below_step z14_ hb); clear BK287; clear HB; have BK287 := n0_; have HB := n1_; clear n0_ n1_; (try clear hb); (try clear hb2); (try clear hk); (try clear hi)))
     go_ret
     exact ⟨z2_, z14_⟩
   ·rw [if_neg c5] at H
    have c5b0 : decide (a0_1 < 4) = false := decide_eq_false c5
    clear c5
    obtain rfl := Option.some.inj H
    go_enter Try.func44, Try.ntmps44
    go_wp2_with (first | ((with_reducible refine gate_dst (N := 1) rfl ?_); refine box_event ?hg (N := 1) ?hd (cs := #[.int .i64 a0_0, .int .i64 a0_1, .bool a0_2, .int .i64 a0_3, .string a0_4, .bool a0_5, .int .i64 a0_6, .string a0_7]) (t := 36) ?hr ?_; (case hd => rfl); (case hg => rfl); (case hr => first | (go_simp; done) | (go_simp; rfl)); intro gb287 hg w26 hbox hb; have n0_ := Aside0.mk (below_step z1_ hb); have n1_ := Aside0.mk (hbox); have n2_ := Aside0.mk ((by rw [hg]; exact (below_size z1_) : w.heap.size ≤ gb287)); have n3_ := Aside0.mk ((by rw [hg]; exact (below_size z1_) : w.heap.size ≤ gb287)); clear HB; have HB := n0_; have BK287 := n1_; have GW287 := n2_; have GE287 := n3_; clear n0_ n1_ n2_ n3_; clear hb hbox hg; have hcz27_0 : w26.cell? ⟨gb287, 0, none⟩ = some (.int .i64 a0_0) := (blk_cell BK287.out 0).trans rfl; have hcz27_1 : w26.cell? ⟨gb287, 1, none⟩ = some (.int .i64 a0_1) := (blk_cell BK287.out 1).trans rfl; have hcz27_2 : w26.cell? ⟨gb287, 2, none⟩ = some (.bool a0_2) := (blk_cell BK287.out 2).trans rfl; have hcz27_3 : w26.cell? ⟨gb287, 3, none⟩ = some (.int .i64 a0_3) := (blk_cell BK287.out 3).trans rfl; have hcz27_4 : w26.cell? ⟨gb287, 4, none⟩ = some (.string a0_4) := (blk_cell BK287.out 4).trans rfl; have hcz27_5 : w26.cell? ⟨gb287, 5, none⟩ = some (.bool a0_5) := (blk_cell BK287.out 5).trans rfl; have hcz27_6 : w26.cell? ⟨gb287, 6, none⟩ = some (.int .i64 a0_6) := (blk_cell BK287.out 6).trans rfl; have hcz27_7 : w26.cell? ⟨gb287, 7, none⟩ = some (.string a0_7) := (blk_cell BK287.out 7).trans rfl; have hfz27_0 := blk_frozen BK287.out 0; have hfz27_1 := blk_frozen BK287.out 1; have hfz27_2 := blk_frozen BK287.out 2; have hfz27_3 := blk_frozen BK287.out 3; have hfz27_4 := blk_frozen BK287.out 4; have hfz27_5 := blk_frozen BK287.out 5; have hfz27_6 := blk_frozen BK287.out 6; have hfz27_7 := blk_frozen BK287.out 7) | ((with_reducible refine gate_callee (f := 43) rfl ?_); refine goesL_ (some 5) rfl rfl Try.func43 (by kernel_rfl) rfl #[.int .i64 a0_0] rfl (by (try simp only [List.map_toArray, List.map_cons, List.map_nil]); first | done | rfl | (simp only [List.length_drop, List.length_take]; rfl) | (go_simp; simp [IntKind.wrap, IntKind.bits, IntKind.signed]; omega)) ?_; (with_reducible refine (tithebarnref16_number.calls a0_0 true _ A2.out).mono ?_); rintro e w' ⟨rfl, ⟨nd, rfl⟩⟩; refine ⟨_, rfl, ?_⟩))
    go_ret
    exact ⟨z2_, z14_⟩
  ·rw [if_neg c4] at H
   have c4b0 : decide (0 ≤ a0_1) = false := decide_eq_false c4
   clear c4
   obtain rfl := Option.some.inj H
   go_enter Try.func44, Try.ntmps44
   go_wp2_with (first | ((with_reducible refine gate_dst (N := 1) rfl ?_); refine box_event ?hg (N := 1) ?hd (cs := #[.int .i64 a0_0, .int .i64 a0_1, .bool a0_2, .int .i64 a0_3, .string a0_4, .bool a0_5, .int .i64 a0_6, .string a0_7]) (t := 36) ?hr ?_; (case hd => rfl); (case hg => rfl); (case hr => first | (go_simp; done) | (go_simp; rfl)); intro gb287 hg w28 hbox hb; have n0_ := Aside0.mk (below_step z1_ hb); have n1_ := Aside0.mk (hbox); have n2_ := Aside0.mk ((by rw [hg]; exact (below_size z1_) : w.heap.size ≤ gb287)); have n3_ := Aside0.mk ((by rw [hg]; exact (below_size z1_) : w.heap.size ≤ gb287)); clear HB; have HB := n0_; have BK287 := n1_; have GW287 := n2_; have GE287 := n3_; clear n0_ n1_ n2_ n3_; clear hb hbox hg; have hcz29_0 : w28.cell? ⟨gb287, 0, none⟩ = some (.int .i64 a0_0) := (blk_cell BK287.out 0).trans rfl; have hcz29_1 : w28.cell? ⟨gb287, 1, none⟩ = some (.int .i64 a0_1) := (blk_cell BK287.out 1).trans rfl; have hcz29_2 : w28.cell? ⟨gb287, 2, none⟩ = some (.bool a0_2) := (blk_cell BK287.out 2).trans rfl; have hcz29_3 : w28.cell? ⟨gb287, 3, none⟩ = some (.int .i64 a0_3) := (blk_cell BK287.out 3).trans rfl; have hcz29_4 : w28.cell? ⟨gb287, 4, none⟩ = some (.string a0_4) := (blk_cell BK287.out 4).trans rfl; have hcz29_5 : w28.cell? ⟨gb287, 5, none⟩ = some (.bool a0_5) := (blk_cell BK287.out 5).trans rfl; have hcz29_6 : w28.cell? ⟨gb287, 6, none⟩ = some (.int .i64 a0_6) := (blk_cell BK287.out 6).trans rfl; have hcz29_7 : w28.cell? ⟨gb287, 7, none⟩ = some (.string a0_7) := (blk_cell BK287.out 7).trans rfl; have hfz29_0 := blk_frozen BK287.out 0; have hfz29_1 := blk_frozen BK287.out 1; have hfz29_2 := blk_frozen BK287.out 2; have hfz29_3 := blk_frozen BK287.out 3; have hfz29_4 := blk_frozen BK287.out 4; have hfz29_5 := blk_frozen BK287.out 5; have hfz29_6 := blk_frozen BK287.out 6; have hfz29_7 := blk_frozen BK287.out 7) | ((with_reducible refine gate_callee (f := 43) rfl ?_); refine goesL_ (some 5) rfl rfl Try.func43 (by kernel_rfl) rfl #[.int .i64 a0_0] rfl (by (try simp only [List.map_toArray, List.map_cons, List.map_nil]); first | done | rfl | (simp only [List.length_drop, List.length_take]; rfl) | (go_simp; simp [IntKind.wrap, IntKind.bits, IntKind.signed]; omega)) ?_; (with_reducible refine (tithebarnref16_number.calls a0_0 true _ A2.out).mono ?_); rintro e w' ⟨rfl, ⟨nd, rfl⟩⟩; refine ⟨_, rfl, ?_⟩))
   go_ret
   exact ⟨z2_, z14_⟩
 ·replace c3 := Bool.eq_false_iff.mpr c3
  subst c3
  have H1 : (some false) = some r := by rw [if_neg (show ¬ (false = true) by decide)] at H; exact H
  clear H
  have H := H1
  clear H1
  obtain rfl := Option.some.inj H
  go_enter Try.func44, Try.ntmps44
  go_wp2_with (first | ((with_reducible refine gate_dst (N := 1) rfl ?_); refine box_event ?hg (N := 1) ?hd (cs := #[.int .i64 a0_0, .int .i64 a0_1, .bool a0_2, .int .i64 a0_3, .string a0_4, .bool a0_5, .int .i64 a0_6, .string a0_7]) (t := 36) ?hr ?_; (case hd => rfl); (case hg => rfl); (case hr => first | (go_simp; done) | (go_simp; rfl)); intro gb287 hg w30 hbox hb; have n0_ := Aside0.mk (below_step z1_ hb); have n1_ := Aside0.mk (hbox); have n2_ := Aside0.mk ((by rw [hg]; exact (below_size z1_) : w.heap.size ≤ gb287)); have n3_ := Aside0.mk ((by rw [hg]; exact (below_size z1_) : w.heap.size ≤ gb287)); clear HB; have HB := n0_; have BK287 := n1_; have GW287 := n2_; have GE287 := n3_; clear n0_ n1_ n2_ n3_; clear hb hbox hg; have hcz31_0 : w30.cell? ⟨gb287, 0, none⟩ = some (.int .i64 a0_0) := (blk_cell BK287.out 0).trans rfl; have hcz31_1 : w30.cell? ⟨gb287, 1, none⟩ = some (.int .i64 a0_1) := (blk_cell BK287.out 1).trans rfl; have hcz31_2 : w30.cell? ⟨gb287, 2, none⟩ = some (.bool a0_2) := (blk_cell BK287.out 2).trans rfl; have hcz31_3 : w30.cell? ⟨gb287, 3, none⟩ = some (.int .i64 a0_3) := (blk_cell BK287.out 3).trans rfl; have hcz31_4 : w30.cell? ⟨gb287, 4, none⟩ = some (.string a0_4) := (blk_cell BK287.out 4).trans rfl; have hcz31_5 : w30.cell? ⟨gb287, 5, none⟩ = some (.bool a0_5) := (blk_cell BK287.out 5).trans rfl; have hcz31_6 : w30.cell? ⟨gb287, 6, none⟩ = some (.int .i64 a0_6) := (blk_cell BK287.out 6).trans rfl; have hcz31_7 : w30.cell? ⟨gb287, 7, none⟩ = some (.string a0_7) := (blk_cell BK287.out 7).trans rfl; have hfz31_0 := blk_frozen BK287.out 0; have hfz31_1 := blk_frozen BK287.out 1; have hfz31_2 := blk_frozen BK287.out 2; have hfz31_3 := blk_frozen BK287.out 3; have hfz31_4 := blk_frozen BK287.out 4; have hfz31_5 := blk_frozen BK287.out 5; have hfz31_6 := blk_frozen BK287.out 6; have hfz31_7 := blk_frozen BK287.out 7) | ((with_reducible refine gate_callee (f := 43) rfl ?_); refine goesL_ (some 5) rfl rfl Try.func43 (by kernel_rfl) rfl #[.int .i64 a0_0] rfl (by (try simp only [List.map_toArray, List.map_cons, List.map_nil]); first | done | rfl | (simp only [List.length_drop, List.length_take]; rfl) | (go_simp; simp [IntKind.wrap, IntKind.bits, IntKind.signed]; omega)) ?_; (with_reducible refine (tithebarnref16_number.calls a0_0 false _ A2.out).mono ?_); rintro e w' ⟨rfl, ⟨nd, rfl⟩⟩; refine ⟨_, rfl, ?_⟩))
  go_ret
  exact ⟨z2_, z14_⟩
end Go.Proofs.Ytagokgijffpdnaa.G
namespace Go.Proofs.Ytagokgijffpdnaa.G
open Go.RowKit Go.Proofs.YtagokgijffpdnaaQ Go.Proofs.YtagokgijffpdnaaW.PrintWords Go.Proofs.YtagokgijffpdnaaW.PrintLast Go.Proofs.YtagokgijffpdnaaW.PrintMore
attribute [local go_sem] max2_int min2_int max_two min_two max_three min_three max_four min_four   -- for this text's walks alone
set_option linter.unusedVariables false
set_option linter.unusedSimpArgs false
mutual
def tithebarnref16_Right.j0 : Nat → Bool → List Int → List (S36) → Int → Int → Option (Bool)
 | 0, _, _, _, _, _ => none
 | k + 1, x26, x293000, x293001, x293002, x293003 => if x26 = true then (some false) else (tithebarnref16_Right.l0 k 0 x293000 x293001 x293002 x293003)
def tithebarnref16_Right.l0 : Nat → Int → List Int → List (S36) → Int → Int → Option (Bool)
 | 0, _, _, _, _, _ => none
 | k + 1, x3, x293000, x293001, x293002, x293003 => if x3 < (x293000.length : Int) then (if 0 ≤ x3 then ((tithebarnref16_number.f (rd x293000 x3)).bind fun t296 => (if t296 = true then (tithebarnref16_Right.l0 k (wrap64 (x3 + 1)) x293000 x293001 x293002 x293003) else (some false))) else (none)) else (tithebarnref16_Right.l1 k 0 x293000 x293001 x293002 x293003)
def tithebarnref16_Right.l1 : Nat → Int → List Int → List (S36) → Int → Int → Option (Bool)
 | 0, _, _, _, _, _ => none
 | k + 1, x4, x293000, x293001, x293002, x293003 => if x4 < (x293001.length : Int) then (if 0 ≤ x4 then ((tithebarnref16_part.f k ((rd_T36 x293001 x4).f0) ((rd_T36 x293001 x4).f1) ((rd_T36 x293001 x4).f2.f0) ((rd_T36 x293001 x4).f2.f1) ((rd_T36 x293001 x4).f2.f2) ((rd_T36 x293001 x4).f3.f0) ((rd_T36 x293001 x4).f3.f1) ((rd_T36 x293001 x4).f3.f2)).bind fun t298 => (if t298 = true then (tithebarnref16_Right.l1 k (wrap64 (x4 + 1)) x293000 x293001 x293002 x293003) else (some false))) else (none)) else (some true)
end
def tithebarnref16_Right.f (k : Nat) (l0_0 : List Int) (l0_1 : List (S36)) (a0_2 : Int) (a0_3 : Int) : Option (Bool) := if (l0_0.length : Int) > 1000 then (tithebarnref16_Right.j0 k true l0_0 l0_1 a0_2 a0_3) else (if (l0_1.length : Int) > 1000 then (tithebarnref16_Right.j0 k true l0_0 l0_1 a0_2 a0_3) else ((tithebarnref16_number.f a0_2).bind fun t293 => (if t293 = true then ((tithebarnref16_number.f a0_3).bind fun t294 => (tithebarnref16_Right.j0 k (!t294) l0_0 l0_1 a0_2 a0_3)) else (tithebarnref16_Right.j0 k true l0_0 l0_1 a0_2 a0_3))))
theorem tithebarnref16_Right.mono_l : ∀ k, (∀ y0 y1 y2 y3 y4, LeO (tithebarnref16_Right.j0 k y0 y1 y2 y3 y4) (tithebarnref16_Right.j0 (k + 1) y0 y1 y2 y3 y4)) ∧ (∀ y0 y1 y2 y3 y4, LeO (tithebarnref16_Right.l0 k y0 y1 y2 y3 y4) (tithebarnref16_Right.l0 (k + 1) y0 y1 y2 y3 y4)) ∧ (∀ y0 y1 y2 y3 y4, LeO (tithebarnref16_Right.l1 k y0 y1 y2 y3 y4) (tithebarnref16_Right.l1 (k + 1) y0 y1 y2 y3 y4))
 | 0 => ⟨fun _ _ _ _ _ r h => by simp [tithebarnref16_Right.j0] at h, fun _ _ _ _ _ r h => by simp [tithebarnref16_Right.l0] at h, fun _ _ _ _ _ r h => by simp [tithebarnref16_Right.l1] at h⟩
 | k + 1 => by
  obtain ⟨ih0, ih1, ih2⟩ := tithebarnref16_Right.mono_l k
  refine ⟨?_, ?_, ?_⟩
  ·intro y0 y1 y2 y3 y4
   unfold tithebarnref16_Right.j0
   repeat' first
   | (with_reducible exact ih0 _ _ _ _ _)
   | (with_reducible exact ih1 _ _ _ _ _)
   | (with_reducible exact ih2 _ _ _ _ _)
   | (with_reducible exact tithebarnref16_part.mono _ _ _ _ _ _ _ _ _)
   | (with_reducible exact LeO.refl _)
   | (with_reducible exact LeO.none _)
   | (with_reducible refine LeO.ite ?_ ?_)
   | (with_reducible refine LeO.bind ?_ (fun _ => ?_))
   | exact ih0 _ _ _ _ _
   | exact ih1 _ _ _ _ _
   | exact ih2 _ _ _ _ _
   | exact tithebarnref16_part.mono _ _ _ _ _ _ _ _ _
   | exact LeO.none _
   | refine LeO.ite ?_ ?_
   | refine LeO.bind ?_ (fun _ => ?_)
  ·intro y0 y1 y2 y3 y4
   unfold tithebarnref16_Right.l0
   repeat' first
   | (with_reducible exact ih0 _ _ _ _ _)
   | (with_reducible exact ih1 _ _ _ _ _)
   | (with_reducible exact ih2 _ _ _ _ _)
   | (with_reducible exact tithebarnref16_part.mono _ _ _ _ _ _ _ _ _)
   | (with_reducible exact LeO.refl _)
   | (with_reducible exact LeO.none _)
   | (with_reducible refine LeO.ite ?_ ?_)
   | (with_reducible refine LeO.bind ?_ (fun _ => ?_))
   | exact ih0 _ _ _ _ _
   | exact ih1 _ _ _ _ _
   | exact ih2 _ _ _ _ _
   | exact tithebarnref16_part.mono _ _ _ _ _ _ _ _ _
   | exact LeO.none _
   | refine LeO.ite ?_ ?_
   | refine LeO.bind ?_ (fun _ => ?_)
  ·intro y0 y1 y2 y3 y4
   unfold tithebarnref16_Right.l1
   repeat' first
   | (with_reducible exact ih0 _ _ _ _ _)
   | (with_reducible exact ih1 _ _ _ _ _)
   | (with_reducible exact ih2 _ _ _ _ _)
   | (with_reducible exact tithebarnref16_part.mono _ _ _ _ _ _ _ _ _)
   | (with_reducible exact LeO.refl _)
   | (with_reducible exact LeO.none _)
   | (with_reducible refine LeO.ite ?_ ?_)
   | (with_reducible refine LeO.bind ?_ (fun _ => ?_))
   | exact ih0 _ _ _ _ _
   | exact ih1 _ _ _ _ _
   | exact ih2 _ _ _ _ _
   | exact tithebarnref16_part.mono _ _ _ _ _ _ _ _ _
   | exact LeO.none _
   | refine LeO.ite ?_ ?_
   | refine LeO.bind ?_ (fun _ => ?_)
theorem tithebarnref16_Right.mono : ∀ a0 a1 a2 a3 k, LeO (tithebarnref16_Right.f k a0 a1 a2 a3) (tithebarnref16_Right.f (k + 1) a0 a1 a2 a3) := by
 intro a0 a1 a2 a3 k
 obtain ⟨ih0, ih1, ih2⟩ := tithebarnref16_Right.mono_l k
 unfold tithebarnref16_Right.f
 repeat' first
   | (with_reducible exact ih0 _ _ _ _ _)
   | (with_reducible exact ih1 _ _ _ _ _)
   | (with_reducible exact ih2 _ _ _ _ _)
   | (with_reducible exact tithebarnref16_part.mono _ _ _ _ _ _ _ _ _)
   | (with_reducible exact LeO.refl _)
   | (with_reducible exact LeO.none _)
   | (with_reducible refine LeO.ite ?_ ?_)
   | (with_reducible refine LeO.bind ?_ (fun _ => ?_))
   | exact ih0 _ _ _ _ _
   | exact ih1 _ _ _ _ _
   | exact ih2 _ _ _ _ _
   | exact tithebarnref16_part.mono _ _ _ _ _ _ _ _ _
   | exact LeO.none _
   | refine LeO.ite ?_ ?_
   | refine LeO.bind ?_ (fun _ => ?_)
set_option maxHeartbeats 8000000 in
set_option maxRecDepth 100000 in
theorem tithebarnref16_Right.calls (k : Nat) (A0_0 : Option Addr) (c0_0 : Nat) (l0_0 : List Int) (A0_1 : Option Addr) (c0_1 : Nat) (l0_1 : List (S36)) (a0_2 : Int) (a0_3 : Int) (r : Bool) (w : World) (hr0_0 : Kd.C (Kd.int .i64) w A0_0 l0_0.length l0_0) (hc0_0 : l0_0.length ≤ c0_0) (hr0_1 : Kd.C k36 w A0_1 l0_1.length l0_1) (hc0_1 : l0_1.length ≤ c0_1) (h : tithebarnref16_Right.f k l0_0 l0_1 a0_2 a0_3 = some r) :
  Calls Try.prog 23 #[.agg #[.slice A0_0 l0_0.length c0_0, .slice A0_1 l0_1.length c0_1, .int .i64 a0_2, .int .i64 a0_3]] w fun e w' => e = .returned (.bool r) ∧ Below w.heap.size w w' := by
 have hu32 := Try.underlying32
 have hu36 := Try.underlying36
 have HR0_0 := Aside0.mk hr0_0
 have HC0_0 := Aside0.mk hc0_0
 clear hr0_0 hc0_0
 have HR0_1 := Aside0.mk hr0_1
 have HC0_1 := Aside0.mk hc0_1
 clear hr0_1 hc0_1
 have HB := Aside0.mk (Below.refl w.heap.size w)
 have H : (if (l0_0.length : Int) > 1000 then (tithebarnref16_Right.j0 k true l0_0 l0_1 a0_2 a0_3) else (if (l0_1.length : Int) > 1000 then (tithebarnref16_Right.j0 k true l0_0 l0_1 a0_2 a0_3) else ((tithebarnref16_number.f a0_2).bind fun t293 => (if t293 = true then ((tithebarnref16_number.f a0_3).bind fun t294 => (tithebarnref16_Right.j0 k (!t294) l0_0 l0_1 a0_2 a0_3)) else (tithebarnref16_Right.j0 k true l0_0 l0_1 a0_2 a0_3))))) = some r := h
 clear h
 have HC2 := Aside0.mk H
 clear H
 go_enter Try.func23, Try.ntmps23
 go_upto_region 1 with (first | ((with_reducible refine gate_dst (N := 1) rfl ?_); (try (refine gate_guard (by rfl) ?_; dsimp only)); refine box_event ?hg (N := 1) ?hd (cs := #[.slice A0_0 l0_0.length c0_0, .slice A0_1 l0_1.length c0_1, .int .i64 a0_2, .int .i64 a0_3]) (t := 32) ?hr ?_; (case hd => rfl); (case hg => rfl); (case hr => first | (go_simp; done) | (go_simp; rfl)); intro gb292 hg w3 hbox hb; have n0_ := Aside0.mk (below_step z1_ hb); have n1_ := Aside0.mk (hbox); have n2_ := Aside0.mk ((by rw [hg]; exact (below_size z1_) : w.heap.size ≤ gb292)); have n3_ := Aside0.mk ((by rw [hg]; exact (below_size z1_) : w.heap.size ≤ gb292)); clear HB; have HB := n0_; have BK292 := n1_; have GW292 := n2_; have GE292 := n3_; clear n0_ n1_ n2_ n3_; clear hb hbox hg))
 (try simp only [Act.put, List.setIfInBounds_toArray, List.set_cons_zero, List.set_cons_succ])
 go_cut [26] (fun v26 wc => ∃ (kq : Nat) (x26_1 : Bool), v26 = .bool x26_1 ∧ Aside0 (tithebarnref16_Right.j0 kq x26_1 l0_0 l0_1 a0_2 a0_3 = some r) ∧ Aside0 (kq ≤ k) ∧ Aside0 (wc.heap[gb292]? = some (.cells #[(.slice A0_0 l0_0.length c0_0), (.slice A0_1 l0_1.length c0_1), .int .i64 a0_2, .int .i64 a0_3] 32 (0, 0))) ∧ Aside0 (Below w.heap.size w wc))
 case first =>
  have H := HC2.out
  clear HC2
  by_cases c4 : (l0_0.length : Int) > 1000
  ·rw [if_pos c4] at H
   have c4b0 : decide (1000 < (l0_0.length : Int)) = true := decide_eq_true c4
   have c4b1 : decide (1000 < l0_0.length) = true := decide_eq_true (by omega)
   clear c4
   (first | rw [c4b0] | (simp only [i64_w, i32_w]; rw [c4b0]) | skip)
   have H' := Aside0.mk H
   clear H
   have hcz5_0 : w3.cell? ⟨gb292, 0, none⟩ = some (.slice A0_0 l0_0.length c0_0) := (blk_cell BK292.out 0).trans rfl
   have hcz5_1 : w3.cell? ⟨gb292, 1, none⟩ = some (.slice A0_1 l0_1.length c0_1) := (blk_cell BK292.out 1).trans rfl
   have hcz5_2 : w3.cell? ⟨gb292, 2, none⟩ = some (.int .i64 a0_2) := (blk_cell BK292.out 2).trans rfl
   have hcz5_3 : w3.cell? ⟨gb292, 3, none⟩ = some (.int .i64 a0_3) := (blk_cell BK292.out 3).trans rfl
   have hfz5_0 := blk_frozen BK292.out 0
   have hfz5_1 := blk_frozen BK292.out 1
   have hfz5_2 := blk_frozen BK292.out 2
   have hfz5_3 := blk_frozen BK292.out 3
   go_wp2
   go_meet
   case rel => exact ⟨_, (true), z7_, H', ⟨by first | omega | exact Nat.le_refl _⟩, ⟨by (with_reducible repeat (first | refine blk_drewN ?_ _ | refine blk_drew ?_ | refine blk_alloc ?_ _)); exact BK292.out⟩, ⟨z13_⟩⟩
  ·rw [if_neg c4] at H
   have c4b0 : decide (1000 < (l0_0.length : Int)) = false := decide_eq_false c4
   have c4b1 : decide (1000 < l0_0.length) = false := decide_eq_false (by omega)
   clear c4
   (first | rw [c4b0] | (simp only [i64_w, i32_w]; rw [c4b0]) | skip)
   by_cases c6 : (l0_1.length : Int) > 1000
   ·rw [if_pos c6] at H
    have c6b0 : decide (1000 < (l0_1.length : Int)) = true := decide_eq_true c6
    have c6b1 : decide (1000 < l0_1.length) = true := decide_eq_true (by omega)
    clear c6
    have H' := Aside0.mk H
    clear H
    have hcz7_0 : w3.cell? ⟨gb292, 0, none⟩ = some (.slice A0_0 l0_0.length c0_0) := (blk_cell BK292.out 0).trans rfl
    have hcz7_1 : w3.cell? ⟨gb292, 1, none⟩ = some (.slice A0_1 l0_1.length c0_1) := (blk_cell BK292.out 1).trans rfl
    have hcz7_2 : w3.cell? ⟨gb292, 2, none⟩ = some (.int .i64 a0_2) := (blk_cell BK292.out 2).trans rfl
    have hcz7_3 : w3.cell? ⟨gb292, 3, none⟩ = some (.int .i64 a0_3) := (blk_cell BK292.out 3).trans rfl
    have hfz7_0 := blk_frozen BK292.out 0
    have hfz7_1 := blk_frozen BK292.out 1
    have hfz7_2 := blk_frozen BK292.out 2
    have hfz7_3 := blk_frozen BK292.out 3
    go_wp2
    go_meet
    case rel => exact ⟨_, (true), z7_, H', ⟨by first | omega | exact Nat.le_refl _⟩, ⟨by (with_reducible repeat (first | refine blk_drewN ?_ _ | refine blk_drew ?_ | refine blk_alloc ?_ _)); exact BK292.out⟩, ⟨z13_⟩⟩
   ·rw [if_neg c6] at H
    have c6b0 : decide (1000 < (l0_1.length : Int)) = false := decide_eq_false c6
    have c6b1 : decide (1000 < l0_1.length) = false := decide_eq_false (by omega)
    clear c6
    replace H := Option.bind_eq_some_iff.mp H
    obtain ⟨t293, A80, H⟩ := H
    replace H : (if t293 = true then ((tithebarnref16_number.f a0_3).bind fun t294 => (tithebarnref16_Right.j0 k (!t294) l0_0 l0_1 a0_2 a0_3)) else (tithebarnref16_Right.j0 k true l0_0 l0_1 a0_2 a0_3)) = some r := H
    have A8 := Aside0.mk A80
    clear A80
    by_cases c9 : t293 = true
    ·subst c9
     have H1 : ((tithebarnref16_number.f a0_3).bind fun t294 => (tithebarnref16_Right.j0 k (!t294) l0_0 l0_1 a0_2 a0_3)) = some r := by rw [if_pos rfl] at H; exact H
     clear H
     have H := H1
     clear H1
     replace H := Option.bind_eq_some_iff.mp H
     obtain ⟨t294, A100, H⟩ := H
     replace H : (tithebarnref16_Right.j0 k (!t294) l0_0 l0_1 a0_2 a0_3) = some r := H
     have A10 := Aside0.mk A100
     clear A100
     have H' := Aside0.mk H
     clear H
     have hcz11_0 : w3.cell? ⟨gb292, 0, none⟩ = some (.slice A0_0 l0_0.length c0_0) := (blk_cell BK292.out 0).trans rfl
     have hcz11_1 : w3.cell? ⟨gb292, 1, none⟩ = some (.slice A0_1 l0_1.length c0_1) := (blk_cell BK292.out 1).trans rfl
     have hcz11_2 : w3.cell? ⟨gb292, 2, none⟩ = some (.int .i64 a0_2) := (blk_cell BK292.out 2).trans rfl
     have hcz11_3 : w3.cell? ⟨gb292, 3, none⟩ = some (.int .i64 a0_3) := (blk_cell BK292.out 3).trans rfl
     have hfz11_0 := blk_frozen BK292.out 0
     have hfz11_1 := blk_frozen BK292.out 1
     have hfz11_2 := blk_frozen BK292.out 2
     have hfz11_3 := blk_frozen BK292.out 3
     go_wp2_with (first | (go_at_call 43; (with_reducible refine (tithebarnref16_number.calls a0_2 true _ A8.out).mono ?_); rintro e w' ⟨rfl, ⟨nd, rfl⟩⟩) | (go_at_call 43; (with_reducible refine (tithebarnref16_number.calls a0_3 t294 _ A10.out).mono ?_); rintro e w' ⟨rfl, ⟨nd, rfl⟩⟩))
     go_meet
     case rel => exact ⟨_, (!t294), z7_, H', ⟨by first | omega | exact Nat.le_refl _⟩, ⟨by (with_reducible repeat (first | refine blk_drewN ?_ _ | refine blk_drew ?_ | refine blk_alloc ?_ _)); exact BK292.out⟩, ⟨z13_⟩⟩
    ·replace c9 := Bool.eq_false_iff.mpr c9
     subst c9
     have H1 : (tithebarnref16_Right.j0 k true l0_0 l0_1 a0_2 a0_3) = some r := by rw [if_neg (show ¬ (false = true) by decide)] at H; exact H
     clear H
     have H := H1
     clear H1
     have H' := Aside0.mk H
     clear H
     have hcz12_0 : w3.cell? ⟨gb292, 0, none⟩ = some (.slice A0_0 l0_0.length c0_0) := (blk_cell BK292.out 0).trans rfl
     have hcz12_1 : w3.cell? ⟨gb292, 1, none⟩ = some (.slice A0_1 l0_1.length c0_1) := (blk_cell BK292.out 1).trans rfl
     have hcz12_2 : w3.cell? ⟨gb292, 2, none⟩ = some (.int .i64 a0_2) := (blk_cell BK292.out 2).trans rfl
     have hcz12_3 : w3.cell? ⟨gb292, 3, none⟩ = some (.int .i64 a0_3) := (blk_cell BK292.out 3).trans rfl
     have hfz12_0 := blk_frozen BK292.out 0
     have hfz12_1 := blk_frozen BK292.out 1
     have hfz12_2 := blk_frozen BK292.out 2
     have hfz12_3 := blk_frozen BK292.out 3
     go_wp2_with (first | (go_at_call 43; (with_reducible refine (tithebarnref16_number.calls a0_2 false _ A8.out).mono ?_); rintro e w' ⟨rfl, ⟨nd, rfl⟩⟩))
     go_meet
     case rel => exact ⟨_, (true), z7_, H', ⟨by first | omega | exact Nat.le_refl _⟩, ⟨by (with_reducible repeat (first | refine blk_drewN ?_ _ | refine blk_drew ?_ | refine blk_alloc ?_ _)); exact BK292.out⟩, ⟨z13_⟩⟩
 case rest =>
  clear HC2
  try clear c2
  try clear p2
  try clear c4
  try clear c4b0
  try clear c4b1
  try clear c6
  try clear c6b0
  try clear c6b1
  try clear c9
  try clear hcz11_0
  try clear hcz11_1
  try clear hcz11_2
  try clear hcz11_3
  try clear hcz12_0
  try clear hcz12_1
  try clear hcz12_2
  try clear hcz12_3
  try clear hcz5_0
  try clear hcz5_1
  try clear hcz5_2
  try clear hcz5_3
  try clear hcz7_0
  try clear hcz7_1
  try clear hcz7_2
  try clear hcz7_3
  try clear hfz11_0
  try clear hfz11_1
  try clear hfz11_2
  try clear hfz11_3
  try clear hfz12_0
  try clear hfz12_1
  try clear hfz12_2
  try clear hfz12_3
  try clear hfz5_0
  try clear hfz5_1
  try clear hfz5_2
  try clear hfz5_3
  try clear hfz7_0
  try clear hfz7_1
  try clear hfz7_2
  try clear hfz7_3
  obtain ⟨kq, x26_1, rfl, HA, HJ1, BK292, HB⟩ := hcut
  cases kq with
  | zero => exact absurd HA.out (by simp [tithebarnref16_Right.j0])
  | succ kj1 =>
   have H := HA.out
   clear HA
   simp only [tithebarnref16_Right.j0] at H
   by_cases c13 : x26_1 = true
   ·subst c13
    have H1 : (some false) = some r := by rw [if_pos rfl] at H; exact H
    clear H
    have H := H1
    clear H1
    obtain rfl := Option.some.inj H
    go_wp2
    go_ret
    exact ⟨z2_, z13_⟩
   ·replace c13 := Bool.eq_false_iff.mpr c13
    subst c13
    have H1 : (tithebarnref16_Right.l0 kj1 0 l0_0 l0_1 a0_2 a0_3) = some r := by rw [if_neg (show ¬ (false = true) by decide)] at H; exact H
    clear H
    have H := H1
    clear H1
    have H' := Aside0.mk H
    clear H
    go_wp2
    go_loopg [3] kj1 (fun kq v3 w' => ∃ (x3_2 : Int), v3 = .int .i64 x3_2 ∧ Aside0 (tithebarnref16_Right.l0 kq x3_2 l0_0 l0_1 a0_2 a0_3 = some r) ∧ Aside0 (kq ≤ kj1) ∧ Aside0 (w'.heap[gb292]? = some (.cells #[(.slice A0_0 l0_0.length c0_0), (.slice A0_1 l0_1.length c0_1), .int .i64 a0_2, .int .i64 a0_3] 32 (0, 0))) ∧ Aside0 (Below w.heap.size w w'))
    case atStart => exact ⟨(0), z7_, H', ⟨Nat.le_refl _⟩, ⟨by (with_reducible repeat (first | refine blk_drewN ?_ _ | refine blk_drew ?_ | refine blk_alloc ?_ _)); exact BK292.out⟩, ⟨z13_⟩⟩
    case round =>
     clear H'
     try clear c1
     try clear c2
     try clear p2
     try clear c4
     try clear c4b0
     try clear c4b1
     try clear c6
     try clear c6b0
     try clear c6b1
     try clear c9
     try clear c13
     try clear hcz11_0
     try clear hcz11_1
     try clear hcz11_2
     try clear hcz11_3
     try clear hcz12_0
     try clear hcz12_1
     try clear hcz12_2
     try clear hcz12_3
     try clear hcz5_0
     try clear hcz5_1
     try clear hcz5_2
     try clear hcz5_3
     try clear hcz7_0
     try clear hcz7_1
     try clear hcz7_2
     try clear hcz7_3
     try clear hfz11_0
     try clear hfz11_1
     try clear hfz11_2
     try clear hfz11_3
     try clear hfz12_0
     try clear hfz12_1
     try clear hfz12_2
     try clear hfz12_3
     try clear hfz5_0
     try clear hfz5_1
     try clear hfz5_2
     try clear hfz5_3
     try clear hfz7_0
     try clear hfz7_1
     try clear hfz7_2
     try clear hfz7_3
     try clear p2
     obtain ⟨x3_2, rfl, HA, HK2, BK292, HB⟩ := hrel
     cases gk with
     | zero => exact absurd HA.out (by simp [tithebarnref16_Right.l0])
     | succ k2 =>
      have H := HA.out
      clear HA
      simp only [tithebarnref16_Right.l0] at H
      by_cases c14 : x3_2 < (l0_0.length : Int)
      ·rw [if_pos c14] at H
       have c14b0 : decide (x3_2 < (l0_0.length : Int)) = true := decide_eq_true c14
       clear c14
       by_cases c15 : 0 ≤ x3_2
       ·rw [if_pos c15] at H
        have c15b0 : decide (0 ≤ x3_2) = true := decide_eq_true c15
        clear c15
        replace H := Option.bind_eq_some_iff.mp H
        obtain ⟨t296, A160, H⟩ := H
        replace H : (if t296 = true then (tithebarnref16_Right.l0 k2 (wrap64 (x3_2 + 1)) l0_0 l0_1 a0_2 a0_3) else (some false)) = some r := H
        have A16 := Aside0.mk A160
        clear A160
        by_cases c17 : t296 = true
        ·subst c17
         have H1 : (tithebarnref16_Right.l0 k2 (wrap64 (x3_2 + 1)) l0_0 l0_1 a0_2 a0_3) = some r := by rw [if_pos rfl] at H; exact H
         clear H
         have H := H1
         clear H1
         have H' := Aside0.mk H
         clear H
         have hcz18_0 : wr.cell? ⟨gb292, 0, none⟩ = some (.slice A0_0 l0_0.length c0_0) := (blk_cell BK292.out 0).trans rfl
         have hcz18_1 : wr.cell? ⟨gb292, 1, none⟩ = some (.slice A0_1 l0_1.length c0_1) := (blk_cell BK292.out 1).trans rfl
         have hcz18_2 : wr.cell? ⟨gb292, 2, none⟩ = some (.int .i64 a0_2) := (blk_cell BK292.out 2).trans rfl
         have hcz18_3 : wr.cell? ⟨gb292, 3, none⟩ = some (.int .i64 a0_3) := (blk_cell BK292.out 3).trans rfl
         have hfz18_0 := blk_frozen BK292.out 0
         have hfz18_1 := blk_frozen BK292.out 1
         have hfz18_2 := blk_frozen BK292.out 2
         have hfz18_3 := blk_frozen BK292.out 3
         have p295 : 0 ≤ (x3_2 : Int) := of_decide_eq_true z6_
         have q295 : x3_2 < (l0_0.length : Int) := of_decide_eq_true z6_
         obtain ⟨ad295, e295, hx295_0⟩ := Kd.at_int HR0_0.out x3_2 p295 q295
         cases e295
         replace hx295_0 := (HB.out.cell (World.block_lt_of_cell? w _ hx295_0)).trans hx295_0
         replace p295 := eq_true p295
         replace q295 := eq_true q295
         go_wp2_with (first | ((with_reducible refine gate_callee (f := 43) rfl ?_); refine goesL_ (some 39) rfl rfl Try.func43 (by kernel_rfl) rfl #[.int .i64 (rd l0_0 x3_2)] rfl (by (try simp only [List.map_toArray, List.map_cons, List.map_nil]); first | done | rfl | (simp only [List.length_drop, List.length_take]; rfl) | (go_simp; simp [IntKind.wrap, IntKind.bits, IntKind.signed]; omega)) ?_; (with_reducible refine (tithebarnref16_number.calls (rd l0_0 x3_2) true _ A16.out).mono ?_); rintro e w' ⟨rfl, ⟨nd, rfl⟩⟩; refine ⟨_, rfl, ?_⟩))
         go_roundg k2
         case measure => have := HJ1.out; have := HK2.out; omega
         case rel => exact ⟨(wrap64 (x3_2 + 1)), z7_, H', ⟨by have := HJ1.out; have := HK2.out; omega⟩, ⟨by (with_reducible repeat (first | refine blk_drewN ?_ _ | refine blk_drew ?_ | refine blk_alloc ?_ _)); exact BK292.out⟩, ⟨z13_⟩⟩
        ·replace c17 := Bool.eq_false_iff.mpr c17
         subst c17
         have H1 : (some false) = some r := by rw [if_neg (show ¬ (false = true) by decide)] at H; exact H
         clear H
         have H := H1
         clear H1
         obtain rfl := Option.some.inj H
         have hcz19_0 : wr.cell? ⟨gb292, 0, none⟩ = some (.slice A0_0 l0_0.length c0_0) := (blk_cell BK292.out 0).trans rfl
         have hcz19_1 : wr.cell? ⟨gb292, 1, none⟩ = some (.slice A0_1 l0_1.length c0_1) := (blk_cell BK292.out 1).trans rfl
         have hcz19_2 : wr.cell? ⟨gb292, 2, none⟩ = some (.int .i64 a0_2) := (blk_cell BK292.out 2).trans rfl
         have hcz19_3 : wr.cell? ⟨gb292, 3, none⟩ = some (.int .i64 a0_3) := (blk_cell BK292.out 3).trans rfl
         have hfz19_0 := blk_frozen BK292.out 0
         have hfz19_1 := blk_frozen BK292.out 1
         have hfz19_2 := blk_frozen BK292.out 2
         have hfz19_3 := blk_frozen BK292.out 3
         have p295 : 0 ≤ (x3_2 : Int) := of_decide_eq_true z6_
         have q295 : x3_2 < (l0_0.length : Int) := of_decide_eq_true z6_
         obtain ⟨ad295, e295, hx295_0⟩ := Kd.at_int HR0_0.out x3_2 p295 q295
         cases e295
         replace hx295_0 := (HB.out.cell (World.block_lt_of_cell? w _ hx295_0)).trans hx295_0
         replace p295 := eq_true p295
         replace q295 := eq_true q295
         go_wp2_with (first | ((with_reducible refine gate_callee (f := 43) rfl ?_); refine goesL_ (some 39) rfl rfl Try.func43 (by kernel_rfl) rfl #[.int .i64 (rd l0_0 x3_2)] rfl (by (try simp only [List.map_toArray, List.map_cons, List.map_nil]); first | done | rfl | (simp only [List.length_drop, List.length_take]; rfl) | (go_simp; simp [IntKind.wrap, IntKind.bits, IntKind.signed]; omega)) ?_; (with_reducible refine (tithebarnref16_number.calls (rd l0_0 x3_2) false _ A16.out).mono ?_); rintro e w' ⟨rfl, ⟨nd, rfl⟩⟩; refine ⟨_, rfl, ?_⟩))
         go_ret
         exact ⟨z2_, z13_⟩
       ·rw [if_neg c15] at H
        exact absurd H (by simp)
      ·rw [if_neg c14] at H
       have c14b0 : decide (x3_2 < (l0_0.length : Int)) = false := decide_eq_false c14
       clear c14
       have H' := Aside0.mk H
       clear H
       have hcz20_0 : wr.cell? ⟨gb292, 0, none⟩ = some (.slice A0_0 l0_0.length c0_0) := (blk_cell BK292.out 0).trans rfl
       have hcz20_1 : wr.cell? ⟨gb292, 1, none⟩ = some (.slice A0_1 l0_1.length c0_1) := (blk_cell BK292.out 1).trans rfl
       have hcz20_2 : wr.cell? ⟨gb292, 2, none⟩ = some (.int .i64 a0_2) := (blk_cell BK292.out 2).trans rfl
       have hcz20_3 : wr.cell? ⟨gb292, 3, none⟩ = some (.int .i64 a0_3) := (blk_cell BK292.out 3).trans rfl
       have hfz20_0 := blk_frozen BK292.out 0
       have hfz20_1 := blk_frozen BK292.out 1
       have hfz20_2 := blk_frozen BK292.out 2
       have hfz20_3 := blk_frozen BK292.out 3
       go_wp2
       go_loopg [4] k2 (fun kq v4 w' => ∃ (x4_3 : Int), v4 = .int .i64 x4_3 ∧ Aside0 (tithebarnref16_Right.l1 kq x4_3 l0_0 l0_1 a0_2 a0_3 = some r) ∧ Aside0 (kq ≤ k2) ∧ Aside0 (w'.heap[gb292]? = some (.cells #[(.slice A0_0 l0_0.length c0_0), (.slice A0_1 l0_1.length c0_1), .int .i64 a0_2, .int .i64 a0_3] 32 (0, 0))) ∧ Aside0 (Below w.heap.size w w'))
       case atStart => exact ⟨(0), z7_, H', ⟨Nat.le_refl _⟩, ⟨by (with_reducible repeat (first | refine blk_drewN ?_ _ | refine blk_drew ?_ | refine blk_alloc ?_ _)); exact BK292.out⟩, ⟨z13_⟩⟩
       case round =>
        clear H'
        try clear c1
        try clear c2
        try clear p2
        try clear q2
        try clear hx2
        try clear c4
        try clear c4b0
        try clear c4b1
        try clear c6
        try clear c6b0
        try clear c6b1
        try clear p6
        try clear c9
        try clear c13
        try clear c14
        try clear c14b0
        try clear c15
        try clear c15b0
        try clear c17
        try clear hcz11_0
        try clear hcz11_1
        try clear hcz11_2
        try clear hcz11_3
        try clear hcz12_0
        try clear hcz12_1
        try clear hcz12_2
        try clear hcz12_3
        try clear hcz18_0
        try clear hcz18_1
        try clear hcz18_2
        try clear hcz18_3
        try clear hcz19_0
        try clear hcz19_1
        try clear hcz19_2
        try clear hcz19_3
        try clear hcz20_0
        try clear hcz20_1
        try clear hcz20_2
        try clear hcz20_3
        try clear hcz5_0
        try clear hcz5_1
        try clear hcz5_2
        try clear hcz5_3
        try clear hcz7_0
        try clear hcz7_1
        try clear hcz7_2
        try clear hcz7_3
        try clear hfz11_0
        try clear hfz11_1
        try clear hfz11_2
        try clear hfz11_3
        try clear hfz12_0
        try clear hfz12_1
        try clear hfz12_2
        try clear hfz12_3
        try clear hfz18_0
        try clear hfz18_1
        try clear hfz18_2
        try clear hfz18_3
        try clear hfz19_0
        try clear hfz19_1
        try clear hfz19_2
        try clear hfz19_3
        try clear hfz20_0
        try clear hfz20_1
        try clear hfz20_2
        try clear hfz20_3
        try clear hfz5_0
        try clear hfz5_1
        try clear hfz5_2
        try clear hfz5_3
        try clear hfz7_0
        try clear hfz7_1
        try clear hfz7_2
        try clear hfz7_3
        try clear hx295_0
        try clear p2
        try clear p295
        try clear q295
        obtain ⟨x4_3, rfl, HA, HK3, BK292, HB⟩ := hrel
        cases gk with
        | zero => exact absurd HA.out (by simp [tithebarnref16_Right.l1])
        | succ k3 =>
         have H := HA.out
         clear HA
         simp only [tithebarnref16_Right.l1] at H
         by_cases c21 : x4_3 < (l0_1.length : Int)
         ·rw [if_pos c21] at H
          have c21b0 : decide (x4_3 < (l0_1.length : Int)) = true := decide_eq_true c21
          clear c21
          by_cases c22 : 0 ≤ x4_3
          ·rw [if_pos c22] at H
           have c22b0 : decide (0 ≤ x4_3) = true := decide_eq_true c22
           clear c22
           replace H := Option.bind_eq_some_iff.mp H
           obtain ⟨t298, A230, H⟩ := H
           replace H : (if t298 = true then (tithebarnref16_Right.l1 k3 (wrap64 (x4_3 + 1)) l0_0 l0_1 a0_2 a0_3) else (some false)) = some r := H
           have A23 := Aside0.mk A230
           clear A230
           by_cases c24 : t298 = true
           ·subst c24
            have H1 : (tithebarnref16_Right.l1 k3 (wrap64 (x4_3 + 1)) l0_0 l0_1 a0_2 a0_3) = some r := by rw [if_pos rfl] at H; exact H
            clear H
            have H := H1
            clear H1
            have H' := Aside0.mk H
            clear H
            have hcz25_0 : wr.cell? ⟨gb292, 0, none⟩ = some (.slice A0_0 l0_0.length c0_0) := (blk_cell BK292.out 0).trans rfl
            have hcz25_1 : wr.cell? ⟨gb292, 1, none⟩ = some (.slice A0_1 l0_1.length c0_1) := (blk_cell BK292.out 1).trans rfl
            have hcz25_2 : wr.cell? ⟨gb292, 2, none⟩ = some (.int .i64 a0_2) := (blk_cell BK292.out 2).trans rfl
            have hcz25_3 : wr.cell? ⟨gb292, 3, none⟩ = some (.int .i64 a0_3) := (blk_cell BK292.out 3).trans rfl
            have hfz25_0 := blk_frozen BK292.out 0
            have hfz25_1 := blk_frozen BK292.out 1
            have hfz25_2 := blk_frozen BK292.out 2
            have hfz25_3 := blk_frozen BK292.out 3
            have p297 : 0 ≤ (x4_3 : Int) := of_decide_eq_true z6_
            have q297 : x4_3 < (l0_1.length : Int) := of_decide_eq_true z6_
            obtain ⟨ad297, e297, hx297_0, hx297_1, hx297_2, hx297_3, hx297_4, hx297_5, hx297_6, hx297_7⟩ := at_T36 HR0_1.out x4_3 p297 q297
            cases e297
            replace hx297_0 := (HB.out.cell (World.block_lt_of_cell? w _ hx297_0)).trans hx297_0
            replace hx297_1 := (HB.out.cell (World.block_lt_of_cell? w _ hx297_1)).trans hx297_1
            replace hx297_2 := (HB.out.cell (World.block_lt_of_cell? w _ hx297_2)).trans hx297_2
            replace hx297_3 := (HB.out.cell (World.block_lt_of_cell? w _ hx297_3)).trans hx297_3
            replace hx297_4 := (HB.out.cell (World.block_lt_of_cell? w _ hx297_4)).trans hx297_4
            replace hx297_5 := (HB.out.cell (World.block_lt_of_cell? w _ hx297_5)).trans hx297_5
            replace hx297_6 := (HB.out.cell (World.block_lt_of_cell? w _ hx297_6)).trans hx297_6
            replace hx297_7 := (HB.out.cell (World.block_lt_of_cell? w _ hx297_7)).trans hx297_7
            replace p297 := eq_true p297
            replace q297 := eq_true q297
            go_wp2_with (first | ((with_reducible refine gate_callee (f := 44) rfl ?_); refine goesL_ (some 53) rfl rfl Try.func44 (by kernel_rfl) rfl #[.agg #[.int .i64 ((rd_T36 l0_1 x4_3).f0), .int .i64 ((rd_T36 l0_1 x4_3).f1), .bool ((rd_T36 l0_1 x4_3).f2.f0), .int .i64 ((rd_T36 l0_1 x4_3).f2.f1), .string ((rd_T36 l0_1 x4_3).f2.f2), .bool ((rd_T36 l0_1 x4_3).f3.f0), .int .i64 ((rd_T36 l0_1 x4_3).f3.f1), .string ((rd_T36 l0_1 x4_3).f3.f2)]] rfl (by (try simp only [List.map_toArray, List.map_cons, List.map_nil]); first | done | rfl | (simp only [List.length_drop, List.length_take]; rfl) | (go_simp; simp [IntKind.wrap, IntKind.bits, IntKind.signed]; omega)) ?_; (with_reducible refine (tithebarnref16_part.calls k3 ((rd_T36 l0_1 x4_3).f0) ((rd_T36 l0_1 x4_3).f1) ((rd_T36 l0_1 x4_3).f2.f0) ((rd_T36 l0_1 x4_3).f2.f1) ((rd_T36 l0_1 x4_3).f2.f2) ((rd_T36 l0_1 x4_3).f3.f0) ((rd_T36 l0_1 x4_3).f3.f1) ((rd_T36 l0_1 x4_3).f3.f2) true _ A23.out).mono ?_); rintro e w26 ⟨rfl, hb⟩; refine ⟨_, rfl, ?_⟩; have n0_ := Aside0.mk (blk_below (g := gb292) (o := .cells #[.slice A0_0 l0_0.length c0_0, .slice (some ad297) l0_1.length c0_1, .int .i64 a0_2, .int .i64 a0_3] 32 (0, 0)) (by (with_reducible repeat (first | refine blk_drewN ?_ _ | refine blk_drew ?_ | refine blk_alloc ?_ _)); exact BK292.out) hb); have n1_ := Aside0.mk (below_step z13_ hb); clear BK292; clear HB; have BK292 := n0_; have HB := n1_; clear n0_ n1_; (try clear hb); (try clear hb2); (try clear hk); (try clear hi)))
            go_roundg k3
            case measure => have := HJ1.out; have := HK2.out; have := HK3.out; omega
            case rel => exact ⟨(wrap64 (x4_3 + 1)), z7_, H', ⟨by have := HJ1.out; have := HK2.out; have := HK3.out; omega⟩, ⟨by (with_reducible repeat (first | refine blk_drewN ?_ _ | refine blk_drew ?_ | refine blk_alloc ?_ _)); exact BK292.out⟩, ⟨z13_⟩⟩
           ·replace c24 := Bool.eq_false_iff.mpr c24
            subst c24
            have H1 : (some false) = some r := by rw [if_neg (show ¬ (false = true) by decide)] at H; exact H
            clear H
            have H := H1
            clear H1
            obtain rfl := Option.some.inj H
            have hcz27_0 : wr.cell? ⟨gb292, 0, none⟩ = some (.slice A0_0 l0_0.length c0_0) := (blk_cell BK292.out 0).trans rfl
            have hcz27_1 : wr.cell? ⟨gb292, 1, none⟩ = some (.slice A0_1 l0_1.length c0_1) := (blk_cell BK292.out 1).trans rfl
            have hcz27_2 : wr.cell? ⟨gb292, 2, none⟩ = some (.int .i64 a0_2) := (blk_cell BK292.out 2).trans rfl
            have hcz27_3 : wr.cell? ⟨gb292, 3, none⟩ = some (.int .i64 a0_3) := (blk_cell BK292.out 3).trans rfl
            have hfz27_0 := blk_frozen BK292.out 0
            have hfz27_1 := blk_frozen BK292.out 1
            have hfz27_2 := blk_frozen BK292.out 2
            have hfz27_3 := blk_frozen BK292.out 3
            have p297 : 0 ≤ (x4_3 : Int) := of_decide_eq_true z6_
            have q297 : x4_3 < (l0_1.length : Int) := of_decide_eq_true z6_
            obtain ⟨ad297, e297, hx297_0, hx297_1, hx297_2, hx297_3, hx297_4, hx297_5, hx297_6, hx297_7⟩ := at_T36 HR0_1.out x4_3 p297 q297
            cases e297
            replace hx297_0 := (HB.out.cell (World.block_lt_of_cell? w _ hx297_0)).trans hx297_0
            replace hx297_1 := (HB.out.cell (World.block_lt_of_cell? w _ hx297_1)).trans hx297_1
            replace hx297_2 := (HB.out.cell (World.block_lt_of_cell? w _ hx297_2)).trans hx297_2
            replace hx297_3 := (HB.out.cell (World.block_lt_of_cell? w _ hx297_3)).trans hx297_3
            replace hx297_4 := (HB.out.cell (World.block_lt_of_cell? w _ hx297_4)).trans hx297_4
            replace hx297_5 := (HB.out.cell (World.block_lt_of_cell? w _ hx297_5)).trans hx297_5
            replace hx297_6 := (HB.out.cell (World.block_lt_of_cell? w _ hx297_6)).trans hx297_6
            replace hx297_7 := (HB.out.cell (World.block_lt_of_cell? w _ hx297_7)).trans hx297_7
            replace p297 := eq_true p297
            replace q297 := eq_true q297
            go_wp2_with (first | ((with_reducible refine gate_callee (f := 44) rfl ?_); refine goesL_ (some 53) rfl rfl Try.func44 (by kernel_rfl) rfl #[.agg #[.int .i64 ((rd_T36 l0_1 x4_3).f0), .int .i64 ((rd_T36 l0_1 x4_3).f1), .bool ((rd_T36 l0_1 x4_3).f2.f0), .int .i64 ((rd_T36 l0_1 x4_3).f2.f1), .string ((rd_T36 l0_1 x4_3).f2.f2), .bool ((rd_T36 l0_1 x4_3).f3.f0), .int .i64 ((rd_T36 l0_1 x4_3).f3.f1), .string ((rd_T36 l0_1 x4_3).f3.f2)]] rfl (by (try simp only [List.map_toArray, List.map_cons, List.map_nil]); first | done | rfl | (simp only [List.length_drop, List.length_take]; rfl) | (go_simp; simp [IntKind.wrap, IntKind.bits, IntKind.signed]; omega)) ?_; (with_reducible refine (tithebarnref16_part.calls k3 ((rd_T36 l0_1 x4_3).f0) ((rd_T36 l0_1 x4_3).f1) ((rd_T36 l0_1 x4_3).f2.f0) ((rd_T36 l0_1 x4_3).f2.f1) ((rd_T36 l0_1 x4_3).f2.f2) ((rd_T36 l0_1 x4_3).f3.f0) ((rd_T36 l0_1 x4_3).f3.f1) ((rd_T36 l0_1 x4_3).f3.f2) false _ A23.out).mono ?_); rintro e w28 ⟨rfl, hb⟩; refine ⟨_, rfl, ?_⟩; have n0_ := Aside0.mk (blk_below (g := gb292) (o := .cells #[.slice A0_0 l0_0.length c0_0, .slice (some ad297) l0_1.length c0_1, .int .i64 a0_2, .int .i64 a0_3] 32 (0, 0)) (by (with_reducible repeat (first | refine blk_drewN ?_ _ | refine blk_drew ?_ | refine blk_alloc ?_ _)); exact BK292.out) hb); have n1_ := Aside0.mk (below_step z13_ hb); clear BK292; clear HB; have BK292 := n0_; have HB := n1_; clear n0_ n1_; (try clear hb); (try clear hb2); (try clear hk); (try clear hi)))
            go_ret
            exact ⟨z2_, z13_⟩
          ·rw [if_neg c22] at H
           exact absurd H (by simp)
         ·rw [if_neg c21] at H
          have c21b0 : decide (x4_3 < (l0_1.length : Int)) = false := decide_eq_false c21
          clear c21
          obtain rfl := Option.some.inj H
          have hcz29_0 : wr.cell? ⟨gb292, 0, none⟩ = some (.slice A0_0 l0_0.length c0_0) := (blk_cell BK292.out 0).trans rfl
          have hcz29_1 : wr.cell? ⟨gb292, 1, none⟩ = some (.slice A0_1 l0_1.length c0_1) := (blk_cell BK292.out 1).trans rfl
          have hcz29_2 : wr.cell? ⟨gb292, 2, none⟩ = some (.int .i64 a0_2) := (blk_cell BK292.out 2).trans rfl
          have hcz29_3 : wr.cell? ⟨gb292, 3, none⟩ = some (.int .i64 a0_3) := (blk_cell BK292.out 3).trans rfl
          have hfz29_0 := blk_frozen BK292.out 0
          have hfz29_1 := blk_frozen BK292.out 1
          have hfz29_2 := blk_frozen BK292.out 2
          have hfz29_3 := blk_frozen BK292.out 3
          go_wp2
          go_ret
          exact ⟨z2_, z13_⟩
mutual
def tithebarnref01_Uint.j0 : Nat → Int → Int → Int → Option (ByteArray)
 | 0, _, _, _ => none
 | k + 1, x0, x3, x4 => tithebarnref01_Uint.l0 k x0 x3 x4 ([] : List Int) (wrap64 (x3 - 1))
def tithebarnref01_Uint.l0 : Nat → Int → Int → Int → List Int → Int → Option (ByteArray)
 | 0, _, _, _, _, _ => none
 | k + 1, x0, x3, x4, x5, x6 => if x6 ≥ 0 then (if x6 < 8 then (if 0 ≤ (IntKind.u64.wrap (wrap64 (8 * x6))) then (if x6 = (wrap64 (x3 - 1)) then (if x5.length < 140737488355328 then (tithebarnref01_Uint.l0 k x0 x3 x4 (x5 ++ [((shr .u64 x0 (IntKind.u64.wrap (wrap64 (8 * x6)))) + x4) % 256]) (wrap64 (x6 - 1))) else (none)) else (if x5.length < 140737488355328 then (tithebarnref01_Uint.l0 k x0 x3 x4 (x5 ++ [(shr .u64 x0 (IntKind.u64.wrap (wrap64 (8 * x6)))) % 256]) (wrap64 (x6 - 1))) else (none))) else (none)) else (if x6 = (wrap64 (x3 - 1)) then (if x5.length < 140737488355328 then (tithebarnref01_Uint.l0 k x0 x3 x4 (x5 ++ [(x4) % 256]) (wrap64 (x6 - 1))) else (none)) else (if x5.length < 140737488355328 then (tithebarnref01_Uint.l0 k x0 x3 x4 (x5 ++ [0]) (wrap64 (x6 - 1))) else (none)))) else (some (strOfNums x5))
end
def tithebarnref01_Uint.f (k : Nat) (a0 : Int) : Option (ByteArray) := if a0 < 64 then (tithebarnref01_Uint.j0 k a0 1 0) else (if a0 < 16384 then (tithebarnref01_Uint.j0 k a0 2 64) else (if a0 < 1073741824 then (tithebarnref01_Uint.j0 k a0 4 128) else (tithebarnref01_Uint.j0 k a0 9 192)))
theorem tithebarnref01_Uint.mono_l : ∀ k, (∀ y0 y1 y2, LeO (tithebarnref01_Uint.j0 k y0 y1 y2) (tithebarnref01_Uint.j0 (k + 1) y0 y1 y2)) ∧ (∀ y0 y1 y2 y3 y4, LeO (tithebarnref01_Uint.l0 k y0 y1 y2 y3 y4) (tithebarnref01_Uint.l0 (k + 1) y0 y1 y2 y3 y4))
 | 0 => ⟨fun _ _ _ r h => by simp [tithebarnref01_Uint.j0] at h, fun _ _ _ _ _ r h => by simp [tithebarnref01_Uint.l0] at h⟩
 | k + 1 => by
  obtain ⟨ih0, ih1⟩ := tithebarnref01_Uint.mono_l k
  refine ⟨?_, ?_⟩
  ·intro y0 y1 y2
   unfold tithebarnref01_Uint.j0
   repeat' first
   | (with_reducible exact ih0 _ _ _)
   | (with_reducible exact ih1 _ _ _ _ _)
   | (with_reducible exact LeO.refl _)
   | (with_reducible exact LeO.none _)
   | (with_reducible refine LeO.ite ?_ ?_)
   | (with_reducible refine LeO.bind ?_ (fun _ => ?_))
   | exact ih0 _ _ _
   | exact ih1 _ _ _ _ _
   | exact LeO.none _
   | refine LeO.ite ?_ ?_
   | refine LeO.bind ?_ (fun _ => ?_)
  ·intro y0 y1 y2 y3 y4
   unfold tithebarnref01_Uint.l0
   repeat' first
   | (with_reducible exact ih0 _ _ _)
   | (with_reducible exact ih1 _ _ _ _ _)
   | (with_reducible exact LeO.refl _)
   | (with_reducible exact LeO.none _)
   | (with_reducible refine LeO.ite ?_ ?_)
   | (with_reducible refine LeO.bind ?_ (fun _ => ?_))
   | exact ih0 _ _ _
   | exact ih1 _ _ _ _ _
   | exact LeO.none _
   | refine LeO.ite ?_ ?_
   | refine LeO.bind ?_ (fun _ => ?_)
theorem tithebarnref01_Uint.mono : ∀ a0 k, LeO (tithebarnref01_Uint.f k a0) (tithebarnref01_Uint.f (k + 1) a0) := by
 intro a0 k
 obtain ⟨ih0, ih1⟩ := tithebarnref01_Uint.mono_l k
 unfold tithebarnref01_Uint.f
 repeat' first
   | (with_reducible exact ih0 _ _ _)
   | (with_reducible exact ih1 _ _ _ _ _)
   | (with_reducible exact LeO.refl _)
   | (with_reducible exact LeO.none _)
   | (with_reducible refine LeO.ite ?_ ?_)
   | (with_reducible refine LeO.bind ?_ (fun _ => ?_))
   | exact ih0 _ _ _
   | exact ih1 _ _ _ _ _
   | exact LeO.none _
   | refine LeO.ite ?_ ?_
   | refine LeO.bind ?_ (fun _ => ?_)
set_option maxHeartbeats 8000000 in
set_option maxRecDepth 100000 in
theorem tithebarnref01_Uint.calls (k : Nat) (a0 : Int) (r : ByteArray) (w : World) (h : tithebarnref01_Uint.f k a0 = some r) :
  Calls Try.prog 45 #[.int .u64 a0] w fun e w' => e = .returned (.string r) ∧ Below w.heap.size w w' := by
 have HB := Aside0.mk (Below.refl w.heap.size w)
 have H : (if a0 < 64 then (tithebarnref01_Uint.j0 k a0 1 0) else (if a0 < 16384 then (tithebarnref01_Uint.j0 k a0 2 64) else (if a0 < 1073741824 then (tithebarnref01_Uint.j0 k a0 4 128) else (tithebarnref01_Uint.j0 k a0 9 192)))) = some r := h
 clear h
 have HC2 := Aside0.mk H
 clear H
 go_enter Try.func45, Try.ntmps45
 go_upto_block 0 with (fail)
 go_cut [3, 4] (fun v3 v4 wc => ∃ (kq : Nat) (x3_1 : Int) (x4_1 : Int), v3 = .int .i64 x3_1 ∧ v4 = .int .u64 x4_1 ∧ Aside0 (tithebarnref01_Uint.j0 kq a0 x3_1 x4_1 = some r) ∧ Aside0 (kq ≤ k) ∧ Aside0 (Below w.heap.size w wc))
 case first =>
  have H := HC2.out
  clear HC2
  by_cases c3 : a0 < 64
  ·rw [if_pos c3] at H
   have c3b0 : decide (a0 < 64) = true := decide_eq_true c3
   clear c3
   (first | rw [c3b0] | (simp only [i64_w, i32_w]; rw [c3b0]) | skip)
   have H' := Aside0.mk H
   clear H
   go_wp2
   go_meet
   case rel => exact ⟨_, (1), (0), z7_, z7_, H', ⟨by first | omega | exact Nat.le_refl _⟩, ⟨z1_⟩⟩
  ·rw [if_neg c3] at H
   have c3b0 : decide (a0 < 64) = false := decide_eq_false c3
   clear c3
   (first | rw [c3b0] | (simp only [i64_w, i32_w]; rw [c3b0]) | skip)
   by_cases c4 : a0 < 16384
   ·rw [if_pos c4] at H
    have c4b0 : decide (a0 < 16384) = true := decide_eq_true c4
    clear c4
    have H' := Aside0.mk H
    clear H
    go_wp2
    go_meet
    case rel => exact ⟨_, (2), (64), z7_, z7_, H', ⟨by first | omega | exact Nat.le_refl _⟩, ⟨z1_⟩⟩
   ·rw [if_neg c4] at H
    have c4b0 : decide (a0 < 16384) = false := decide_eq_false c4
    clear c4
    by_cases c5 : a0 < 1073741824
    ·rw [if_pos c5] at H
     have c5b0 : decide (a0 < 1073741824) = true := decide_eq_true c5
     clear c5
     have H' := Aside0.mk H
     clear H
     go_wp2
     go_meet
     case rel => exact ⟨_, (4), (128), z7_, z7_, H', ⟨by first | omega | exact Nat.le_refl _⟩, ⟨z1_⟩⟩
    ·rw [if_neg c5] at H
     have c5b0 : decide (a0 < 1073741824) = false := decide_eq_false c5
     clear c5
     have H' := Aside0.mk H
     clear H
     go_wp2
     go_meet
     case rel => exact ⟨_, (9), (192), z7_, z7_, H', ⟨by first | omega | exact Nat.le_refl _⟩, ⟨z1_⟩⟩
 case rest =>
  clear HC2
  try clear p2
  try clear c3
  try clear c3b0
  try clear c4
  try clear c4b0
  try clear c5
  try clear c5b0
  obtain ⟨kq, x3_1, x4_1, rfl, rfl, HA, HJ1, HB⟩ := hcut
  cases kq with
  | zero => exact absurd HA.out (by simp [tithebarnref01_Uint.j0])
  | succ kj1 =>
   have H := HA.out
   clear HA
   simp only [tithebarnref01_Uint.j0] at H
   have H' := Aside0.mk H
   clear H
   go_wp2
   go_loopg [5, 6] kj1 (fun kq v5 v6 w' => ∃ (x5_2 : List Int) (x6_2 : Int), v6 = .int .i64 x6_2 ∧ Aside0 (tithebarnref01_Uint.l0 kq a0 x3_1 x4_1 x5_2 x6_2 = some r) ∧ Aside0 (kq ≤ kj1) ∧ Aside0 (Kd.R (Kd.int .u8) 5 w' w.heap.size (fun _ => True) v5 x5_2) ∧ Aside0 (Below w.heap.size w w'))
   case atStart => exact ⟨(([] : List Int)), (wrap64 (x3_1 - 1)), z7_, H', ⟨Nat.le_refl _⟩, ⟨z15_⟩, ⟨z1_⟩⟩
   case round =>
    clear H'
    try clear p2
    try clear c3
    try clear c3b0
    try clear c4
    try clear c4b0
    try clear c5
    try clear c5b0
    try clear p2
    obtain ⟨x5_2, x6_2, rfl, HA, HK2, HO_5, HB⟩ := hrel
    cases gk with
    | zero => exact absurd HA.out (by simp [tithebarnref01_Uint.l0])
    | succ k2 =>
     have H := HA.out
     clear HA
     simp only [tithebarnref01_Uint.l0] at H
     by_cases c6 : x6_2 ≥ 0
     ·rw [if_pos c6] at H
      have c6b0 : decide (0 ≤ x6_2) = true := decide_eq_true c6
      clear c6
      by_cases c7 : x6_2 < 8
      ·rw [if_pos c7] at H
       have c7b0 : decide (x6_2 < 8) = true := decide_eq_true c7
       clear c7
       obtain ⟨ji8, hji8⟩ : ∃ j_ : Int, (IntKind.u64.wrap (wrap64 (8 * x6_2))) = j_ := ⟨_, rfl⟩
       replace H : (if 0 ≤ (ji8) then (if x6_2 = (wrap64 (x3_1 - 1)) then (if x5_2.length < 140737488355328 then (tithebarnref01_Uint.l0 k2 a0 x3_1 x4_1 (x5_2 ++ [((shr .u64 a0 (ji8)) + x4_1) % 256]) (wrap64 (x6_2 - 1))) else (none)) else (if x5_2.length < 140737488355328 then (tithebarnref01_Uint.l0 k2 a0 x3_1 x4_1 (x5_2 ++ [(shr .u64 a0 (ji8)) % 256]) (wrap64 (x6_2 - 1))) else (none))) else (none)) = some r := by first | (rw [hji8] at H; exact H) | (simp only [hji8] at H ⊢; exact H)
       by_cases c9 : 0 ≤ (ji8)
       ·rw [if_pos c9] at H
        have c9b0 := eq_true c9
        have c9b1 : decide (0 ≤ (ji8)) = true := decide_eq_true c9
        clear c9
        obtain ⟨ji10, hji10⟩ : ∃ j_ : Int, (shr .u64 a0 (ji8)) = j_ := ⟨_, rfl⟩
        replace H : (if x6_2 = (wrap64 (x3_1 - 1)) then (if x5_2.length < 140737488355328 then (tithebarnref01_Uint.l0 k2 a0 x3_1 x4_1 (x5_2 ++ [((ji10) + x4_1) % 256]) (wrap64 (x6_2 - 1))) else (none)) else (if x5_2.length < 140737488355328 then (tithebarnref01_Uint.l0 k2 a0 x3_1 x4_1 (x5_2 ++ [(ji10) % 256]) (wrap64 (x6_2 - 1))) else (none))) = some r := by first | (rw [hji10] at H; exact H) | (simp only [hji10] at H ⊢; exact H)
        have hji10_ : (a0 / 2 ^ min (ji8).toNat 64) = ji10 := hji10
        have hji10z : (ji8) ≤ 64 → (a0 / 2 ^ (ji8).toNat) = ji10 := shr_small hji10
        by_cases c11 : x6_2 = (wrap64 (x3_1 - 1))
        ·rw [if_pos c11] at H
         have c11b0 : (x6_2 == (wrap64 (x3_1 - 1))) = true := beq_iff_eq.mpr c11
         have c11b1 : (x6_2 != (wrap64 (x3_1 - 1))) = false := bne_eq_false_iff_eq.mpr c11
         clear c11
         by_cases c12 : x5_2.length < 140737488355328
         ·rw [if_pos c12] at H
          have LMc12 := Aside0.mk c12
          clear c12
          obtain ⟨y299, hy299⟩ : ∃ y_ : List Int, y_ = (x5_2 ++ [((ji10) + x4_1) % 256]) := ⟨_, rfl⟩
          replace H : (tithebarnref01_Uint.l0 k2 a0 x3_1 x4_1 y299 (wrap64 (x6_2 - 1))) = some r := by first | (rw [hy299]; with_reducible exact H) | (have H2_ := (Option.bind_some _ _).symm.trans H; rw [hy299]; with_reducible exact H2_) | (have H2_ := (Option.bind_some _ _).symm.trans H; with_reducible exact H2_) | with_reducible exact H | (rw [hy299]; exact H) | exact H
          have Ny299 := Aside0.mk hy299
          clear hy299
          have H' := Aside0.mk H
          clear H
          go_wp2_with (first | ((with_reducible refine gate_builtin (b := .append) (xs := #[.tmp 39, .tmp 41]) rfl ?_); at_builtin; refine Kd.R_append (Kd.int .u8) (w0 := w) w.heap.size rfl (.tmp 39) (.tmp 41) 51 5 (.int .u8 0) 1 rfl Try.underlying51 info5 rfl (by decide) (by omega) u5 x5_2 (((ji10) + x4_1) % 256) [.int .u8 (((ji10) + x4_1) % 256)] (fun _ => True) (fun _ => False) rfl rfl ?aP (fun _ hk => hk.elim) ?aF ?aO ?aB ?aS ?aL ?_; (case aP => exact rfl); (case aB => exact z1_); (case aF => exact (fun _ _ => trivial)); (case aO => exact (by (with_reducible repeat (first | apply Kd.R_alloc | apply Kd.R_drewN | apply Kd.R_drew)); exact HO_5.out)); (case aS => exact (below_size z1_)); (case aL => have := LMc12.out; omega); intro v300 w13 ho hb hg hat; rw [← Ny299.out] at ho; have n0_ := Aside0.mk (hb); have n1_ := Aside0.mk (ho); clear HB; clear HO_5; have HB := n0_; have HO301 := n1_; clear n0_ n1_; clear ho hb hg hat))
          go_roundg k2
          case measure => have := HJ1.out; have := HK2.out; omega
          case rel => exact ⟨(y299), (wrap64 (x6_2 - 1)), z7_, H', ⟨by have := HJ1.out; have := HK2.out; omega⟩, ⟨by (with_reducible repeat (first | apply Kd.R_alloc | apply Kd.R_drewN | apply Kd.R_drew)); exact HO301.out⟩, ⟨z1_⟩⟩
         ·rw [if_neg c12] at H
          exact absurd H (by simp)
        ·rw [if_neg c11] at H
         have c11b0 : (x6_2 == (wrap64 (x3_1 - 1))) = false := beq_eq_false_iff_ne.mpr c11
         have c11b1 : (x6_2 != (wrap64 (x3_1 - 1))) = true := bne_iff_ne.mpr c11
         by_cases c14 : x5_2.length < 140737488355328
         ·rw [if_pos c14] at H
          have LMc14 := Aside0.mk c14
          clear c14
          obtain ⟨y302, hy302⟩ : ∃ y_ : List Int, y_ = (x5_2 ++ [(ji10) % 256]) := ⟨_, rfl⟩
          replace H : (tithebarnref01_Uint.l0 k2 a0 x3_1 x4_1 y302 (wrap64 (x6_2 - 1))) = some r := by first | (rw [hy302]; with_reducible exact H) | (have H2_ := (Option.bind_some _ _).symm.trans H; rw [hy302]; with_reducible exact H2_) | (have H2_ := (Option.bind_some _ _).symm.trans H; with_reducible exact H2_) | with_reducible exact H | (rw [hy302]; exact H) | exact H
          have Ny302 := Aside0.mk hy302
          clear hy302
          have H' := Aside0.mk H
          clear H
          go_wp2_with (first | ((with_reducible refine gate_builtin (b := .append) (xs := #[.tmp 39, .tmp 41]) rfl ?_); at_builtin; refine Kd.R_append (Kd.int .u8) (w0 := w) w.heap.size rfl (.tmp 39) (.tmp 41) 51 5 (.int .u8 0) 1 rfl Try.underlying51 info5 rfl (by decide) (by omega) u5 x5_2 ((ji10) % 256) [.int .u8 ((ji10) % 256)] (fun _ => True) (fun _ => False) rfl rfl ?aP (fun _ hk => hk.elim) ?aF ?aO ?aB ?aS ?aL ?_; (case aP => exact rfl); (case aB => exact z1_); (case aF => exact (fun _ _ => trivial)); (case aO => exact (by (with_reducible repeat (first | apply Kd.R_alloc | apply Kd.R_drewN | apply Kd.R_drew)); exact HO_5.out)); (case aS => exact (below_size z1_)); (case aL => have := LMc14.out; omega); intro v303 w15 ho hb hg hat; rw [← Ny302.out] at ho; have n0_ := Aside0.mk (hb); have n1_ := Aside0.mk (ho); clear HB; clear HO_5; have HB := n0_; have HO304 := n1_; clear n0_ n1_; clear ho hb hg hat))
          go_roundg k2
          case measure => have := HJ1.out; have := HK2.out; omega
          case rel => exact ⟨(y302), (wrap64 (x6_2 - 1)), z7_, H', ⟨by have := HJ1.out; have := HK2.out; omega⟩, ⟨by (with_reducible repeat (first | apply Kd.R_alloc | apply Kd.R_drewN | apply Kd.R_drew)); exact HO304.out⟩, ⟨z1_⟩⟩
         ·rw [if_neg c14] at H
          exact absurd H (by simp)
       ·rw [if_neg c9] at H
        exact absurd H (by simp)
      ·rw [if_neg c7] at H
       have c7b0 : decide (x6_2 < 8) = false := decide_eq_false c7
       clear c7
       by_cases c16 : x6_2 = (wrap64 (x3_1 - 1))
       ·rw [if_pos c16] at H
        have c16b0 : (x6_2 == (wrap64 (x3_1 - 1))) = true := beq_iff_eq.mpr c16
        have c16b1 : (x6_2 != (wrap64 (x3_1 - 1))) = false := bne_eq_false_iff_eq.mpr c16
        clear c16
        by_cases c17 : x5_2.length < 140737488355328
        ·rw [if_pos c17] at H
         have LMc17 := Aside0.mk c17
         clear c17
         obtain ⟨y305, hy305⟩ : ∃ y_ : List Int, y_ = (x5_2 ++ [(x4_1) % 256]) := ⟨_, rfl⟩
         replace H : (tithebarnref01_Uint.l0 k2 a0 x3_1 x4_1 y305 (wrap64 (x6_2 - 1))) = some r := by first | (rw [hy305]; with_reducible exact H) | (have H2_ := (Option.bind_some _ _).symm.trans H; rw [hy305]; with_reducible exact H2_) | (have H2_ := (Option.bind_some _ _).symm.trans H; with_reducible exact H2_) | with_reducible exact H | (rw [hy305]; exact H) | exact H
         have Ny305 := Aside0.mk hy305
         clear hy305
         have H' := Aside0.mk H
         clear H
         go_wp2_with (first | ((with_reducible refine gate_builtin (b := .append) (xs := #[.tmp 39, .tmp 41]) rfl ?_); at_builtin; refine Kd.R_append (Kd.int .u8) (w0 := w) w.heap.size rfl (.tmp 39) (.tmp 41) 51 5 (.int .u8 0) 1 rfl Try.underlying51 info5 rfl (by decide) (by omega) u5 x5_2 ((x4_1) % 256) [.int .u8 ((x4_1) % 256)] (fun _ => True) (fun _ => False) rfl rfl ?aP (fun _ hk => hk.elim) ?aF ?aO ?aB ?aS ?aL ?_; (case aP => exact rfl); (case aB => exact z1_); (case aF => exact (fun _ _ => trivial)); (case aO => exact (by (with_reducible repeat (first | apply Kd.R_alloc | apply Kd.R_drewN | apply Kd.R_drew)); exact HO_5.out)); (case aS => exact (below_size z1_)); (case aL => have := LMc17.out; omega); intro v306 w18 ho hb hg hat; rw [← Ny305.out] at ho; have n0_ := Aside0.mk (hb); have n1_ := Aside0.mk (ho); clear HB; clear HO_5; have HB := n0_; have HO307 := n1_; clear n0_ n1_; clear ho hb hg hat))
         go_roundg k2
         case measure => have := HJ1.out; have := HK2.out; omega
         case rel => exact ⟨(y305), (wrap64 (x6_2 - 1)), z7_, H', ⟨by have := HJ1.out; have := HK2.out; omega⟩, ⟨by (with_reducible repeat (first | apply Kd.R_alloc | apply Kd.R_drewN | apply Kd.R_drew)); exact HO307.out⟩, ⟨z1_⟩⟩
        ·rw [if_neg c17] at H
         exact absurd H (by simp)
       ·rw [if_neg c16] at H
        have c16b0 : (x6_2 == (wrap64 (x3_1 - 1))) = false := beq_eq_false_iff_ne.mpr c16
        have c16b1 : (x6_2 != (wrap64 (x3_1 - 1))) = true := bne_iff_ne.mpr c16
        by_cases c19 : x5_2.length < 140737488355328
        ·rw [if_pos c19] at H
         have LMc19 := Aside0.mk c19
         clear c19
         obtain ⟨y308, hy308⟩ : ∃ y_ : List Int, y_ = (x5_2 ++ [0]) := ⟨_, rfl⟩
         replace H : (tithebarnref01_Uint.l0 k2 a0 x3_1 x4_1 y308 (wrap64 (x6_2 - 1))) = some r := by first | (rw [hy308]; with_reducible exact H) | (have H2_ := (Option.bind_some _ _).symm.trans H; rw [hy308]; with_reducible exact H2_) | (have H2_ := (Option.bind_some _ _).symm.trans H; with_reducible exact H2_) | with_reducible exact H | (rw [hy308]; exact H) | exact H
         have Ny308 := Aside0.mk hy308
         clear hy308
         have H' := Aside0.mk H
         clear H
         go_wp2_with (first | ((with_reducible refine gate_builtin (b := .append) (xs := #[.tmp 39, .tmp 41]) rfl ?_); at_builtin; refine Kd.R_append (Kd.int .u8) (w0 := w) w.heap.size rfl (.tmp 39) (.tmp 41) 51 5 (.int .u8 0) 1 rfl Try.underlying51 info5 rfl (by decide) (by omega) u5 x5_2 0 [.int .u8 0] (fun _ => True) (fun _ => False) rfl rfl ?aP (fun _ hk => hk.elim) ?aF ?aO ?aB ?aS ?aL ?_; (case aP => exact rfl); (case aB => exact z1_); (case aF => exact (fun _ _ => trivial)); (case aO => exact (by (with_reducible repeat (first | apply Kd.R_alloc | apply Kd.R_drewN | apply Kd.R_drew)); exact HO_5.out)); (case aS => exact (below_size z1_)); (case aL => have := LMc19.out; omega); intro v309 w20 ho hb hg hat; rw [← Ny308.out] at ho; have n0_ := Aside0.mk (hb); have n1_ := Aside0.mk (ho); clear HB; clear HO_5; have HB := n0_; have HO310 := n1_; clear n0_ n1_; clear ho hb hg hat))
         go_roundg k2
         case measure => have := HJ1.out; have := HK2.out; omega
         case rel => exact ⟨(y308), (wrap64 (x6_2 - 1)), z7_, H', ⟨by have := HJ1.out; have := HK2.out; omega⟩, ⟨by (with_reducible repeat (first | apply Kd.R_alloc | apply Kd.R_drewN | apply Kd.R_drew)); exact HO310.out⟩, ⟨z1_⟩⟩
        ·rw [if_neg c19] at H
         exact absurd H (by simp)
     ·rw [if_neg c6] at H
      have c6b0 : decide (0 ≤ x6_2) = false := decide_eq_false c6
      clear c6
      obtain rfl := Option.some.inj H
      have hcv21 := own_string (P := Try.prog) Try.underlying51 Try.underlying5 Try.underlying9 (Kd.own_of_R HO_5.out)
      go_wp2
      go_ret
      exact ⟨z2_, z1_⟩
end Go.Proofs.Ytagokgijffpdnaa.G
namespace Go.Proofs.Ytagokgijffpdnaa.G
open Go.RowKit Go.Proofs.YtagokgijffpdnaaQ Go.Proofs.YtagokgijffpdnaaW.PrintWords Go.Proofs.YtagokgijffpdnaaW.PrintLast Go.Proofs.YtagokgijffpdnaaW.PrintMore
attribute [local go_sem] max2_int min2_int max_two min_two max_three min_three max_four min_four   -- for this text's walks alone
set_option linter.unusedVariables false
set_option linter.unusedSimpArgs false
def tithebarnref08_Sum.f (a0 : ByteArray) : Option Int := if a0.size ≤ 4611686018427387904 then some ((crc (bytesOf a0) : Nat) : Int) else none
theorem tithebarnref08_Sum.calls (a0 : ByteArray) (r : Int) (w : World) (h : tithebarnref08_Sum.f a0 = some r) :
  Calls Try.prog 49 #[.string a0] w fun e w' => e = .returned (.int .u32 r) ∧ Drawn0 w w' := by
 unfold tithebarnref08_Sum.f at h
 split at h
 ·rename_i hs
  obtain rfl := Option.some.inj h
  refine (RSum_calls a0 w hs).mono ?_
  rintro e w' ⟨rfl, rfl⟩
  exact ⟨rfl, Drawn0.refl _⟩
 ·exact absurd h (by simp)
end Go.Proofs.Ytagokgijffpdnaa.G
namespace Go.Proofs.Ytagokgijffpdnaa.G
open Go.RowKit Go.Proofs.YtagokgijffpdnaaQ Go.Proofs.YtagokgijffpdnaaW.PrintWords Go.Proofs.YtagokgijffpdnaaW.PrintLast Go.Proofs.YtagokgijffpdnaaW.PrintMore
set_option linter.unusedVariables false
set_option linter.unusedSimpArgs false
theorem rUint_l0 (n : Nat) : ∀ (k : Nat) (a size mark : Int) (l : List Int), n ≤ 9 → (size = 1 ∨ size = 2 ∨ size = 4 ∨ size = 9) → (n : Int) ≤ size → n < k → l.length + n ≤ 140737488355328 →
  tithebarnref01_Uint.l0 k a size mark l ((n : Int) - 1) = some (strOfNums (l ++ (List.range n).reverse.map fun (i : Nat) => if (i : Int) = size - 1 then ((if i < 8 then a / 256 ^ i else 0) + mark) % 256 else (if i < 8 then a / 256 ^ i else 0) % 256)) := by
 induction n with
 | zero =>
  intro k a size mark l _ _ _ hk hl
  obtain ⟨k, rfl⟩ : ∃ m, k = m + 1 := ⟨k - 1, by omega⟩
  simp only [tithebarnref01_Uint.l0]
  rw [if_neg (by omega)]; simp
 | succ n ih =>
  intro k a size mark l h9 hsz hn hk hl
  obtain ⟨k, rfl⟩ : ∃ m, k = m + 1 := ⟨k - 1, by omega⟩
  have e : ((n + 1 : Nat) : Int) - 1 = (n : Int) := by omega
  rw [e]
  simp only [tithebarnref01_Uint.l0]
  have hs1 : wrap64 (size - 1) = size - 1 := w64 (by omega) (by omega)
  have hn1 : wrap64 ((n : Int) - 1) = (n : Int) - 1 := w64 (by omega) (by omega)
  rw [if_pos (by omega), hs1, hn1]
  rw [List.range_succ, List.reverse_append, List.reverse_singleton, List.singleton_append, List.map_cons]
  by_cases c : n < 8
  ·have h8 : IntKind.u64.wrap (wrap64 (8 * (n : Int))) = ((8 * n : Nat) : Int) := by rw [w64 (by omega) (by omega), wu64 (by omega) (by omega)]; omega
   rw [if_pos (by omega), h8, if_pos (by omega), shr_u64_lit a (8 * n) (by omega)]
   have e2 : (2 : Int) ^ (8 * n) = 256 ^ n := by rw [Int.pow_mul]; rfl
   rw [e2]
   by_cases d : (n : Int) = size - 1
   ·rw [if_pos d, if_pos (by omega), ih k a size mark _ (by omega) hsz (by omega) (by omega) (by simp; omega)]
    rw [List.append_assoc, List.singleton_append, if_pos d, if_pos c]
   ·rw [if_neg d, if_pos (by omega), ih k a size mark _ (by omega) hsz (by omega) (by omega) (by simp; omega)]
    rw [List.append_assoc, List.singleton_append, if_neg d, if_pos c]
  ·have h8 : n = 8 := by omega
   rw [if_neg (by omega)]
   by_cases d : (n : Int) = size - 1
   ·rw [if_pos d, if_pos (by omega), ih k a size mark _ (by omega) hsz (by omega) (by omega) (by simp; omega)]
    rw [List.append_assoc, List.singleton_append, if_pos d, if_neg c]; simp
   ·rw [if_neg d, if_pos (by omega), ih k a size mark _ (by omega) hsz (by omega) (by omega) (by simp; omega)]
    rw [List.append_assoc, List.singleton_append, if_neg d, if_neg c]; simp
theorem rUint_f {k : Nat} (hk : 12 ≤ k) {x : Int} (hx : u64 x) : tithebarnref01_Uint.f k x = some (strOfNums (encU x)) := by
 obtain ⟨h0, h1⟩ := hx
 obtain ⟨k, rfl⟩ : ∃ m, k = m + 1 := ⟨k - 1, by omega⟩
 have go : ∀ (n : Nat) (mark : Int), n ≤ 9 → (n = 1 ∨ n = 2 ∨ n = 4 ∨ n = 9) → tithebarnref01_Uint.j0 (k + 1) x n mark = some (strOfNums ((List.range n).reverse.map fun (i : Nat) => if (i : Int) = n - 1 then ((if i < 8 then x / 256 ^ i else 0) + mark) % 256 else (if i < 8 then x / 256 ^ i else 0) % 256)) := by
  intro n mark hn hs
  simp only [tithebarnref01_Uint.j0]
  rw [w64 (by omega) (by omega), rUint_l0 n k x n mark [] hn (by omega) (by omega) (by omega) (by simp; omega)]
  rfl
 unfold tithebarnref01_Uint.f encU
 by_cases c1 : x < 64
 ·rw [if_pos c1, if_pos c1]
  refine (go 1 0 (by omega) (by omega)).trans ?_
  simp [List.range_succ]; congr 2; omega
 ·rw [if_neg c1, if_neg c1]
  by_cases c2 : x < 16384
  ·rw [if_pos c2, if_pos c2]
   refine (go 2 64 (by omega) (by omega)).trans ?_
   simp [List.range_succ]; congr 2; omega
  ·rw [if_neg c2, if_neg c2]
   by_cases c3 : x < 1073741824
   ·rw [if_pos c3, if_pos c3]
    refine (go 4 128 (by omega) (by omega)).trans ?_
    simp [List.range_succ]; congr 2; omega
   ·rw [if_neg c3, if_neg c3]
    refine (go 9 192 (by omega) (by omega)).trans ?_
    simp [List.range_succ]
end Go.Proofs.Ytagokgijffpdnaa.G
