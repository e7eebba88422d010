import Derived.Test.YtagokgijffpdnaaZQA
namespace Go.Proofs.Ytagokgijffpdnaa.G
open Go.RowKit Go.Proofs.YtagokgijffpdnaaQ Go.Proofs.YtagokgijffpdnaaW.PrintWords Go.Proofs.YtagokgijffpdnaaW.PrintLast Go.Proofs.YtagokgijffpdnaaW.PrintMore
attribute [local go_sem] max2_int min2_int max_two min_two max_three min_three max_four min_four   -- for this text's walks alone
set_option linter.unusedVariables false
set_option linter.unusedSimpArgs false
def oddI (n : Int) : Bool := decide (n < 0) || decide (999999999 < n)
def cmpV (a b : S34) : Int := if a.f0 = true then (if b.f0 = true then 0 else -1) else if b.f0 = true then 1 else if a.f1 < b.f1 then -1 else if b.f1 < a.f1 then 1 else cmpStr a.f2 b.f2
def badV (v : S34) : Bool := v.f0 || decide (64 < v.f2.size)
def oddP (p : S36) : Bool := oddI p.f0 || (decide (p.f1 < 0) || (decide (4 ≤ p.f1) || (badV p.f2 || (badV p.f3 || decide (0 < cmpV p.f2 p.f3)))))
def rightB (d : List Int) (a : List S36) (fl nx : Int) : Bool := decide (d.length ≤ 1000) && (decide (a.length ≤ 1000) && (!oddI fl && (!oddI nx && ((d.all fun x => !oddI x) && (a.all fun x => !oddP x)))))
theorem odd_f (n : Int) : manifest_odd.f n = some (oddI n) := by
 unfold manifest_odd.f oddI
 by_cases h : n < 0 <;> simp [h]
theorem Or_two {k : Nat} (hk : 4 ≤ k) (a b : Int) : cmp_Or_int.f k [a, b] = some (if a = 0 then b else a) := by
 obtain ⟨k, rfl⟩ : ∃ m, k = m + 3 := ⟨k - 3, by omega⟩
 unfold cmp_Or_int.f
 simp only [cmp_Or_int.l0]
 by_cases h : a = 0
 ·by_cases h2 : b = 0
  ·simp [h, h2, rd, wrap64]
  ·simp [h, h2, rd, wrap64]
 ·simp [h, rd]
theorem cmpI (a b : Int) : cmp_Compare_int64.f a b = some (if a < b then -1 else if b < a then 1 else 0) := by
 unfold cmp_Compare_int64.f cmp_isNaN_int64.f
 simp
 split
 ·rfl
 ·split <;> rfl
theorem cmpS (a b : ByteArray) : cmp_Compare_string.f a b = some (cmpStr a b) := rfl
theorem cmp_f {k : Nat} (hk : 5 ≤ k) (a b : S34) : kinds_Compare.f k a.f0 a.f1 a.f2 b.f0 b.f1 b.f2 = some (cmpV a b) := by
 obtain ⟨k, rfl⟩ : ∃ m, k = m + 1 := ⟨k - 1, by omega⟩
 unfold kinds_Compare.f cmpV
 simp only [kinds_Compare.j0, cmpI, cmpS, Option.bind_some, Or_two (show 4 ≤ k by omega)]
 cases a.f0 <;> cases b.f0
 ·simp only [Bool.false_eq_true, if_false]
  by_cases h1 : a.f1 < b.f1
  ·simp [h1]
  ·by_cases h2 : b.f1 < a.f1
   ·simp [h1, h2]
   ·simp [h1, h2]
 ·rfl
 ·rfl
 ·rfl
set_option maxHeartbeats 1000000 in
set_option maxRecDepth 100000 in
theorem manifest_right.val (v : S34) (w : World) : Calls Try.prog 61 #[.agg #[.bool v.f0, .int .i64 v.f1, .string v.f2]] w fun e w' => e = .returned (.bool (badV v)) ∧ Below w.heap.size w w' := by
 unfold badV
 obtain ⟨b0, hb0⟩ : ∃ b0, v.f0 = b0 := ⟨_, rfl⟩
 rw [hb0]
 clear hb0
 obtain ⟨b1, hb1⟩ : ∃ b1, decide ((64 : Int) < (v.f2.size : Int)) = b1 := ⟨_, rfl⟩
 have hb2 : decide (64 < v.f2.size) = b1 := by rw [← hb1]; simp; omega
 rw [hb2]
 cases b0 <;> cases b1
 all_goals
  go_enter Try.func61, Try.ntmps61
  go_wp2
  go_ret
  exact ⟨rfl, by repeat (first | exact Below.refl _ _ | apply below_alloc)⟩
set_option maxHeartbeats 1000000 in
set_option maxRecDepth 100000 in
theorem manifest_right.part0 (p : S36) (w : World) (h0 : oddI p.f0 = true) : Calls Try.prog 37 #[.agg #[.int .i64 p.f0, .int .i64 p.f1, .bool p.f2.f0, .int .i64 p.f2.f1, .string p.f2.f2, .bool p.f3.f0, .int .i64 p.f3.f1, .string p.f3.f2]] w fun e w' => e = .returned (.bool true) ∧ Below w.heap.size w w' := by
 have H0 := Aside0.mk ((odd_f p.f0).trans (congrArg some h0)); clear h0
 have hA := below_alloc (Below.refl w.heap.size w) (.cells #[.int .i64 p.f0, .int .i64 p.f1, .bool p.f2.f0, .int .i64 p.f2.f1, .string p.f2.f2, .bool p.f3.f0, .int .i64 p.f3.f1, .string p.f3.f2] 36)
 have HB := Aside0.mk hA
 have HE : Aside0 ((w.alloc (.cells #[.int .i64 p.f0, .int .i64 p.f1, .bool p.f2.f0, .int .i64 p.f2.f1, .string p.f2.f2, .bool p.f3.f0, .int .i64 p.f3.f1, .string p.f3.f2] 36)).heap[w.heap.size]? = some (.cells #[.int .i64 p.f0, .int .i64 p.f1, .bool p.f2.f0, .int .i64 p.f2.f1, .string p.f2.f2, .bool p.f3.f0, .int .i64 p.f3.f1, .string p.f3.f2] 36 (0, 0))) := ⟨heap_alloc_new w _⟩
 clear hA
 go_enter Try.func37, Try.ntmps37
 go_upto_region 1 with (fail)
 generalize World.alloc w _ = w1 at HB HE ⊢
 have q0 : w1.cell? ⟨w.heap.size, 0, none⟩ = some (.int .i64 p.f0) := (blk_cell HE.out 0).trans rfl
 have q1 : w1.cell? ⟨w.heap.size, 1, none⟩ = some (.int .i64 p.f1) := (blk_cell HE.out 1).trans rfl
 have q2 : w1.cell? ⟨w.heap.size, 2, none⟩ = some (.bool p.f2.f0) := (blk_cell HE.out 2).trans rfl
 have q3 : w1.cell? ⟨w.heap.size, 3, none⟩ = some (.int .i64 p.f2.f1) := (blk_cell HE.out 3).trans rfl
 have q4 : w1.cell? ⟨w.heap.size, 4, none⟩ = some (.string p.f2.f2) := (blk_cell HE.out 4).trans rfl
 have q5 : w1.cell? ⟨w.heap.size, 5, none⟩ = some (.bool p.f3.f0) := (blk_cell HE.out 5).trans rfl
 have q6 : w1.cell? ⟨w.heap.size, 6, none⟩ = some (.int .i64 p.f3.f1) := (blk_cell HE.out 6).trans rfl
 have q7 : w1.cell? ⟨w.heap.size, 7, none⟩ = some (.string p.f3.f2) := (blk_cell HE.out 7).trans rfl
 go_wp2_with fail
 refine (manifest_odd.calls p.f0 _ _ H0.out).mono ?_; rintro e w2 ⟨rfl, hb⟩
 replace hb := hb.below
 have HE2 := Aside0.mk ((hb.block _ (blk_lt HE.out)).trans HE.out); have HB2 := Aside0.mk (below_then HB.out HB.out.size hb); clear hb
 clear q0 q1 q2 q3 q4 q5 q6 q7
 have q0 : w2.cell? ⟨w.heap.size, 0, none⟩ = some (.int .i64 p.f0) := (blk_cell HE2.out 0).trans rfl
 have q1 : w2.cell? ⟨w.heap.size, 1, none⟩ = some (.int .i64 p.f1) := (blk_cell HE2.out 1).trans rfl
 have q2 : w2.cell? ⟨w.heap.size, 2, none⟩ = some (.bool p.f2.f0) := (blk_cell HE2.out 2).trans rfl
 have q3 : w2.cell? ⟨w.heap.size, 3, none⟩ = some (.int .i64 p.f2.f1) := (blk_cell HE2.out 3).trans rfl
 have q4 : w2.cell? ⟨w.heap.size, 4, none⟩ = some (.string p.f2.f2) := (blk_cell HE2.out 4).trans rfl
 have q5 : w2.cell? ⟨w.heap.size, 5, none⟩ = some (.bool p.f3.f0) := (blk_cell HE2.out 5).trans rfl
 have q6 : w2.cell? ⟨w.heap.size, 6, none⟩ = some (.int .i64 p.f3.f1) := (blk_cell HE2.out 6).trans rfl
 have q7 : w2.cell? ⟨w.heap.size, 7, none⟩ = some (.string p.f3.f2) := (blk_cell HE2.out 7).trans rfl
 go_wp2
 go_ret
 exact ⟨by first | rfl | (simp; omega), HB2.out⟩
set_option maxHeartbeats 1000000 in
set_option maxRecDepth 100000 in
theorem manifest_right.part1 (p : S36) (w : World) (h0 : oddI p.f0 = false) (h1 : decide (p.f1 < 0) = true) : Calls Try.prog 37 #[.agg #[.int .i64 p.f0, .int .i64 p.f1, .bool p.f2.f0, .int .i64 p.f2.f1, .string p.f2.f2, .bool p.f3.f0, .int .i64 p.f3.f1, .string p.f3.f2]] w fun e w' => e = .returned (.bool true) ∧ Below w.heap.size w w' := by
 have H0 := Aside0.mk ((odd_f p.f0).trans (congrArg some h0)); clear h0
 have hA := below_alloc (Below.refl w.heap.size w) (.cells #[.int .i64 p.f0, .int .i64 p.f1, .bool p.f2.f0, .int .i64 p.f2.f1, .string p.f2.f2, .bool p.f3.f0, .int .i64 p.f3.f1, .string p.f3.f2] 36)
 have HB := Aside0.mk hA
 have HE : Aside0 ((w.alloc (.cells #[.int .i64 p.f0, .int .i64 p.f1, .bool p.f2.f0, .int .i64 p.f2.f1, .string p.f2.f2, .bool p.f3.f0, .int .i64 p.f3.f1, .string p.f3.f2] 36)).heap[w.heap.size]? = some (.cells #[.int .i64 p.f0, .int .i64 p.f1, .bool p.f2.f0, .int .i64 p.f2.f1, .string p.f2.f2, .bool p.f3.f0, .int .i64 p.f3.f1, .string p.f3.f2] 36 (0, 0))) := ⟨heap_alloc_new w _⟩
 clear hA
 go_enter Try.func37, Try.ntmps37
 go_upto_region 1 with (fail)
 generalize World.alloc w _ = w1 at HB HE ⊢
 have q0 : w1.cell? ⟨w.heap.size, 0, none⟩ = some (.int .i64 p.f0) := (blk_cell HE.out 0).trans rfl
 have q1 : w1.cell? ⟨w.heap.size, 1, none⟩ = some (.int .i64 p.f1) := (blk_cell HE.out 1).trans rfl
 have q2 : w1.cell? ⟨w.heap.size, 2, none⟩ = some (.bool p.f2.f0) := (blk_cell HE.out 2).trans rfl
 have q3 : w1.cell? ⟨w.heap.size, 3, none⟩ = some (.int .i64 p.f2.f1) := (blk_cell HE.out 3).trans rfl
 have q4 : w1.cell? ⟨w.heap.size, 4, none⟩ = some (.string p.f2.f2) := (blk_cell HE.out 4).trans rfl
 have q5 : w1.cell? ⟨w.heap.size, 5, none⟩ = some (.bool p.f3.f0) := (blk_cell HE.out 5).trans rfl
 have q6 : w1.cell? ⟨w.heap.size, 6, none⟩ = some (.int .i64 p.f3.f1) := (blk_cell HE.out 6).trans rfl
 have q7 : w1.cell? ⟨w.heap.size, 7, none⟩ = some (.string p.f3.f2) := (blk_cell HE.out 7).trans rfl
 go_wp2_with fail
 refine (manifest_odd.calls p.f0 _ _ H0.out).mono ?_; rintro e w2 ⟨rfl, hb⟩
 replace hb := hb.below
 have HE2 := Aside0.mk ((hb.block _ (blk_lt HE.out)).trans HE.out); have HB2 := Aside0.mk (below_then HB.out HB.out.size hb); clear hb
 clear q0 q1 q2 q3 q4 q5 q6 q7
 have q0 : w2.cell? ⟨w.heap.size, 0, none⟩ = some (.int .i64 p.f0) := (blk_cell HE2.out 0).trans rfl
 have q1 : w2.cell? ⟨w.heap.size, 1, none⟩ = some (.int .i64 p.f1) := (blk_cell HE2.out 1).trans rfl
 have q2 : w2.cell? ⟨w.heap.size, 2, none⟩ = some (.bool p.f2.f0) := (blk_cell HE2.out 2).trans rfl
 have q3 : w2.cell? ⟨w.heap.size, 3, none⟩ = some (.int .i64 p.f2.f1) := (blk_cell HE2.out 3).trans rfl
 have q4 : w2.cell? ⟨w.heap.size, 4, none⟩ = some (.string p.f2.f2) := (blk_cell HE2.out 4).trans rfl
 have q5 : w2.cell? ⟨w.heap.size, 5, none⟩ = some (.bool p.f3.f0) := (blk_cell HE2.out 5).trans rfl
 have q6 : w2.cell? ⟨w.heap.size, 6, none⟩ = some (.int .i64 p.f3.f1) := (blk_cell HE2.out 6).trans rfl
 have q7 : w2.cell? ⟨w.heap.size, 7, none⟩ = some (.string p.f3.f2) := (blk_cell HE2.out 7).trans rfl
 go_wp2
 go_ret
 exact ⟨by first | rfl | (simp; omega), HB2.out⟩
set_option maxHeartbeats 1000000 in
set_option maxRecDepth 100000 in
theorem manifest_right.part2 (p : S36) (w : World) (h0 : oddI p.f0 = false) (h1 : decide (p.f1 < 0) = false) (h2 : decide (4 ≤ p.f1) = true) : Calls Try.prog 37 #[.agg #[.int .i64 p.f0, .int .i64 p.f1, .bool p.f2.f0, .int .i64 p.f2.f1, .string p.f2.f2, .bool p.f3.f0, .int .i64 p.f3.f1, .string p.f3.f2]] w fun e w' => e = .returned (.bool true) ∧ Below w.heap.size w w' := by
 have H0 := Aside0.mk ((odd_f p.f0).trans (congrArg some h0)); clear h0
 have hA := below_alloc (Below.refl w.heap.size w) (.cells #[.int .i64 p.f0, .int .i64 p.f1, .bool p.f2.f0, .int .i64 p.f2.f1, .string p.f2.f2, .bool p.f3.f0, .int .i64 p.f3.f1, .string p.f3.f2] 36)
 have HB := Aside0.mk hA
 have HE : Aside0 ((w.alloc (.cells #[.int .i64 p.f0, .int .i64 p.f1, .bool p.f2.f0, .int .i64 p.f2.f1, .string p.f2.f2, .bool p.f3.f0, .int .i64 p.f3.f1, .string p.f3.f2] 36)).heap[w.heap.size]? = some (.cells #[.int .i64 p.f0, .int .i64 p.f1, .bool p.f2.f0, .int .i64 p.f2.f1, .string p.f2.f2, .bool p.f3.f0, .int .i64 p.f3.f1, .string p.f3.f2] 36 (0, 0))) := ⟨heap_alloc_new w _⟩
 clear hA
 go_enter Try.func37, Try.ntmps37
 go_upto_region 1 with (fail)
 generalize World.alloc w _ = w1 at HB HE ⊢
 have q0 : w1.cell? ⟨w.heap.size, 0, none⟩ = some (.int .i64 p.f0) := (blk_cell HE.out 0).trans rfl
 have q1 : w1.cell? ⟨w.heap.size, 1, none⟩ = some (.int .i64 p.f1) := (blk_cell HE.out 1).trans rfl
 have q2 : w1.cell? ⟨w.heap.size, 2, none⟩ = some (.bool p.f2.f0) := (blk_cell HE.out 2).trans rfl
 have q3 : w1.cell? ⟨w.heap.size, 3, none⟩ = some (.int .i64 p.f2.f1) := (blk_cell HE.out 3).trans rfl
 have q4 : w1.cell? ⟨w.heap.size, 4, none⟩ = some (.string p.f2.f2) := (blk_cell HE.out 4).trans rfl
 have q5 : w1.cell? ⟨w.heap.size, 5, none⟩ = some (.bool p.f3.f0) := (blk_cell HE.out 5).trans rfl
 have q6 : w1.cell? ⟨w.heap.size, 6, none⟩ = some (.int .i64 p.f3.f1) := (blk_cell HE.out 6).trans rfl
 have q7 : w1.cell? ⟨w.heap.size, 7, none⟩ = some (.string p.f3.f2) := (blk_cell HE.out 7).trans rfl
 go_wp2_with fail
 refine (manifest_odd.calls p.f0 _ _ H0.out).mono ?_; rintro e w2 ⟨rfl, hb⟩
 replace hb := hb.below
 have HE2 := Aside0.mk ((hb.block _ (blk_lt HE.out)).trans HE.out); have HB2 := Aside0.mk (below_then HB.out HB.out.size hb); clear hb
 clear q0 q1 q2 q3 q4 q5 q6 q7
 have q0 : w2.cell? ⟨w.heap.size, 0, none⟩ = some (.int .i64 p.f0) := (blk_cell HE2.out 0).trans rfl
 have q1 : w2.cell? ⟨w.heap.size, 1, none⟩ = some (.int .i64 p.f1) := (blk_cell HE2.out 1).trans rfl
 have q2 : w2.cell? ⟨w.heap.size, 2, none⟩ = some (.bool p.f2.f0) := (blk_cell HE2.out 2).trans rfl
 have q3 : w2.cell? ⟨w.heap.size, 3, none⟩ = some (.int .i64 p.f2.f1) := (blk_cell HE2.out 3).trans rfl
 have q4 : w2.cell? ⟨w.heap.size, 4, none⟩ = some (.string p.f2.f2) := (blk_cell HE2.out 4).trans rfl
 have q5 : w2.cell? ⟨w.heap.size, 5, none⟩ = some (.bool p.f3.f0) := (blk_cell HE2.out 5).trans rfl
 have q6 : w2.cell? ⟨w.heap.size, 6, none⟩ = some (.int .i64 p.f3.f1) := (blk_cell HE2.out 6).trans rfl
 have q7 : w2.cell? ⟨w.heap.size, 7, none⟩ = some (.string p.f3.f2) := (blk_cell HE2.out 7).trans rfl
 go_wp2
 go_ret
 exact ⟨by first | rfl | (simp; omega), HB2.out⟩
set_option maxHeartbeats 1000000 in
set_option maxRecDepth 100000 in
theorem manifest_right.part3 (p : S36) (w : World) (h0 : oddI p.f0 = false) (h1 : decide (p.f1 < 0) = false) (h2 : decide (4 ≤ p.f1) = false) (h3 : badV p.f2 = true) : Calls Try.prog 37 #[.agg #[.int .i64 p.f0, .int .i64 p.f1, .bool p.f2.f0, .int .i64 p.f2.f1, .string p.f2.f2, .bool p.f3.f0, .int .i64 p.f3.f1, .string p.f3.f2]] w fun e w' => e = .returned (.bool true) ∧ Below w.heap.size w w' := by
 have H0 := Aside0.mk ((odd_f p.f0).trans (congrArg some h0)); clear h0
 have H3 := Aside0.mk h3; clear h3
 have hA := below_alloc (Below.refl w.heap.size w) (.cells #[.int .i64 p.f0, .int .i64 p.f1, .bool p.f2.f0, .int .i64 p.f2.f1, .string p.f2.f2, .bool p.f3.f0, .int .i64 p.f3.f1, .string p.f3.f2] 36)
 have HB := Aside0.mk hA
 have HE : Aside0 ((w.alloc (.cells #[.int .i64 p.f0, .int .i64 p.f1, .bool p.f2.f0, .int .i64 p.f2.f1, .string p.f2.f2, .bool p.f3.f0, .int .i64 p.f3.f1, .string p.f3.f2] 36)).heap[w.heap.size]? = some (.cells #[.int .i64 p.f0, .int .i64 p.f1, .bool p.f2.f0, .int .i64 p.f2.f1, .string p.f2.f2, .bool p.f3.f0, .int .i64 p.f3.f1, .string p.f3.f2] 36 (0, 0))) := ⟨heap_alloc_new w _⟩
 clear hA
 go_enter Try.func37, Try.ntmps37
 go_upto_region 1 with (fail)
 generalize World.alloc w _ = w1 at HB HE ⊢
 have q0 : w1.cell? ⟨w.heap.size, 0, none⟩ = some (.int .i64 p.f0) := (blk_cell HE.out 0).trans rfl
 have q1 : w1.cell? ⟨w.heap.size, 1, none⟩ = some (.int .i64 p.f1) := (blk_cell HE.out 1).trans rfl
 have q2 : w1.cell? ⟨w.heap.size, 2, none⟩ = some (.bool p.f2.f0) := (blk_cell HE.out 2).trans rfl
 have q3 : w1.cell? ⟨w.heap.size, 3, none⟩ = some (.int .i64 p.f2.f1) := (blk_cell HE.out 3).trans rfl
 have q4 : w1.cell? ⟨w.heap.size, 4, none⟩ = some (.string p.f2.f2) := (blk_cell HE.out 4).trans rfl
 have q5 : w1.cell? ⟨w.heap.size, 5, none⟩ = some (.bool p.f3.f0) := (blk_cell HE.out 5).trans rfl
 have q6 : w1.cell? ⟨w.heap.size, 6, none⟩ = some (.int .i64 p.f3.f1) := (blk_cell HE.out 6).trans rfl
 have q7 : w1.cell? ⟨w.heap.size, 7, none⟩ = some (.string p.f3.f2) := (blk_cell HE.out 7).trans rfl
 go_wp2_with fail
 refine (manifest_odd.calls p.f0 _ _ H0.out).mono ?_; rintro e w2 ⟨rfl, hb⟩
 replace hb := hb.below
 have HE2 := Aside0.mk ((hb.block _ (blk_lt HE.out)).trans HE.out); have HB2 := Aside0.mk (below_then HB.out HB.out.size hb); clear hb
 clear q0 q1 q2 q3 q4 q5 q6 q7
 have q0 : w2.cell? ⟨w.heap.size, 0, none⟩ = some (.int .i64 p.f0) := (blk_cell HE2.out 0).trans rfl
 have q1 : w2.cell? ⟨w.heap.size, 1, none⟩ = some (.int .i64 p.f1) := (blk_cell HE2.out 1).trans rfl
 have q2 : w2.cell? ⟨w.heap.size, 2, none⟩ = some (.bool p.f2.f0) := (blk_cell HE2.out 2).trans rfl
 have q3 : w2.cell? ⟨w.heap.size, 3, none⟩ = some (.int .i64 p.f2.f1) := (blk_cell HE2.out 3).trans rfl
 have q4 : w2.cell? ⟨w.heap.size, 4, none⟩ = some (.string p.f2.f2) := (blk_cell HE2.out 4).trans rfl
 have q5 : w2.cell? ⟨w.heap.size, 5, none⟩ = some (.bool p.f3.f0) := (blk_cell HE2.out 5).trans rfl
 have q6 : w2.cell? ⟨w.heap.size, 6, none⟩ = some (.int .i64 p.f3.f1) := (blk_cell HE2.out 6).trans rfl
 have q7 : w2.cell? ⟨w.heap.size, 7, none⟩ = some (.string p.f3.f2) := (blk_cell HE2.out 7).trans rfl
 go_wp2_with fail
 refine (manifest_right.val p.f2 _).mono ?_; rintro e w3 ⟨rfl, hb⟩
 rw [H3.out]
 have HE3 := Aside0.mk ((hb.block _ (blk_lt HE2.out)).trans HE2.out); have HB3 := Aside0.mk (below_then HB2.out HB2.out.size hb); clear hb
 clear q0 q1 q2 q3 q4 q5 q6 q7
 have q0 : w3.cell? ⟨w.heap.size, 0, none⟩ = some (.int .i64 p.f0) := (blk_cell HE3.out 0).trans rfl
 have q1 : w3.cell? ⟨w.heap.size, 1, none⟩ = some (.int .i64 p.f1) := (blk_cell HE3.out 1).trans rfl
 have q2 : w3.cell? ⟨w.heap.size, 2, none⟩ = some (.bool p.f2.f0) := (blk_cell HE3.out 2).trans rfl
 have q3 : w3.cell? ⟨w.heap.size, 3, none⟩ = some (.int .i64 p.f2.f1) := (blk_cell HE3.out 3).trans rfl
 have q4 : w3.cell? ⟨w.heap.size, 4, none⟩ = some (.string p.f2.f2) := (blk_cell HE3.out 4).trans rfl
 have q5 : w3.cell? ⟨w.heap.size, 5, none⟩ = some (.bool p.f3.f0) := (blk_cell HE3.out 5).trans rfl
 have q6 : w3.cell? ⟨w.heap.size, 6, none⟩ = some (.int .i64 p.f3.f1) := (blk_cell HE3.out 6).trans rfl
 have q7 : w3.cell? ⟨w.heap.size, 7, none⟩ = some (.string p.f3.f2) := (blk_cell HE3.out 7).trans rfl
 go_wp2
 go_ret
 exact ⟨by first | rfl | (simp; omega), HB3.out⟩
set_option maxHeartbeats 1000000 in
set_option maxRecDepth 100000 in
theorem manifest_right.part4 (p : S36) (w : World) (h0 : oddI p.f0 = false) (h1 : decide (p.f1 < 0) = false) (h2 : decide (4 ≤ p.f1) = false) (h3 : badV p.f2 = false) (h4 : badV p.f3 = true) : Calls Try.prog 37 #[.agg #[.int .i64 p.f0, .int .i64 p.f1, .bool p.f2.f0, .int .i64 p.f2.f1, .string p.f2.f2, .bool p.f3.f0, .int .i64 p.f3.f1, .string p.f3.f2]] w fun e w' => e = .returned (.bool true) ∧ Below w.heap.size w w' := by
 have H0 := Aside0.mk ((odd_f p.f0).trans (congrArg some h0)); clear h0
 have H3 := Aside0.mk h3; clear h3
 have H4 := Aside0.mk h4; clear h4
 have hA := below_alloc (Below.refl w.heap.size w) (.cells #[.int .i64 p.f0, .int .i64 p.f1, .bool p.f2.f0, .int .i64 p.f2.f1, .string p.f2.f2, .bool p.f3.f0, .int .i64 p.f3.f1, .string p.f3.f2] 36)
 have HB := Aside0.mk hA
 have HE : Aside0 ((w.alloc (.cells #[.int .i64 p.f0, .int .i64 p.f1, .bool p.f2.f0, .int .i64 p.f2.f1, .string p.f2.f2, .bool p.f3.f0, .int .i64 p.f3.f1, .string p.f3.f2] 36)).heap[w.heap.size]? = some (.cells #[.int .i64 p.f0, .int .i64 p.f1, .bool p.f2.f0, .int .i64 p.f2.f1, .string p.f2.f2, .bool p.f3.f0, .int .i64 p.f3.f1, .string p.f3.f2] 36 (0, 0))) := ⟨heap_alloc_new w _⟩
 clear hA
 go_enter Try.func37, Try.ntmps37
 go_upto_region 1 with (fail)
 generalize World.alloc w _ = w1 at HB HE ⊢
 have q0 : w1.cell? ⟨w.heap.size, 0, none⟩ = some (.int .i64 p.f0) := (blk_cell HE.out 0).trans rfl
 have q1 : w1.cell? ⟨w.heap.size, 1, none⟩ = some (.int .i64 p.f1) := (blk_cell HE.out 1).trans rfl
 have q2 : w1.cell? ⟨w.heap.size, 2, none⟩ = some (.bool p.f2.f0) := (blk_cell HE.out 2).trans rfl
 have q3 : w1.cell? ⟨w.heap.size, 3, none⟩ = some (.int .i64 p.f2.f1) := (blk_cell HE.out 3).trans rfl
 have q4 : w1.cell? ⟨w.heap.size, 4, none⟩ = some (.string p.f2.f2) := (blk_cell HE.out 4).trans rfl
 have q5 : w1.cell? ⟨w.heap.size, 5, none⟩ = some (.bool p.f3.f0) := (blk_cell HE.out 5).trans rfl
 have q6 : w1.cell? ⟨w.heap.size, 6, none⟩ = some (.int .i64 p.f3.f1) := (blk_cell HE.out 6).trans rfl
 have q7 : w1.cell? ⟨w.heap.size, 7, none⟩ = some (.string p.f3.f2) := (blk_cell HE.out 7).trans rfl
 go_wp2_with fail
 refine (manifest_odd.calls p.f0 _ _ H0.out).mono ?_; rintro e w2 ⟨rfl, hb⟩
 replace hb := hb.below
 have HE2 := Aside0.mk ((hb.block _ (blk_lt HE.out)).trans HE.out); have HB2 := Aside0.mk (below_then HB.out HB.out.size hb); clear hb
 clear q0 q1 q2 q3 q4 q5 q6 q7
 have q0 : w2.cell? ⟨w.heap.size, 0, none⟩ = some (.int .i64 p.f0) := (blk_cell HE2.out 0).trans rfl
 have q1 : w2.cell? ⟨w.heap.size, 1, none⟩ = some (.int .i64 p.f1) := (blk_cell HE2.out 1).trans rfl
 have q2 : w2.cell? ⟨w.heap.size, 2, none⟩ = some (.bool p.f2.f0) := (blk_cell HE2.out 2).trans rfl
 have q3 : w2.cell? ⟨w.heap.size, 3, none⟩ = some (.int .i64 p.f2.f1) := (blk_cell HE2.out 3).trans rfl
 have q4 : w2.cell? ⟨w.heap.size, 4, none⟩ = some (.string p.f2.f2) := (blk_cell HE2.out 4).trans rfl
 have q5 : w2.cell? ⟨w.heap.size, 5, none⟩ = some (.bool p.f3.f0) := (blk_cell HE2.out 5).trans rfl
 have q6 : w2.cell? ⟨w.heap.size, 6, none⟩ = some (.int .i64 p.f3.f1) := (blk_cell HE2.out 6).trans rfl
 have q7 : w2.cell? ⟨w.heap.size, 7, none⟩ = some (.string p.f3.f2) := (blk_cell HE2.out 7).trans rfl
 go_wp2_with fail
 refine (manifest_right.val p.f2 _).mono ?_; rintro e w3 ⟨rfl, hb⟩
 rw [H3.out]
 have HE3 := Aside0.mk ((hb.block _ (blk_lt HE2.out)).trans HE2.out); have HB3 := Aside0.mk (below_then HB2.out HB2.out.size hb); clear hb
 clear q0 q1 q2 q3 q4 q5 q6 q7
 have q0 : w3.cell? ⟨w.heap.size, 0, none⟩ = some (.int .i64 p.f0) := (blk_cell HE3.out 0).trans rfl
 have q1 : w3.cell? ⟨w.heap.size, 1, none⟩ = some (.int .i64 p.f1) := (blk_cell HE3.out 1).trans rfl
 have q2 : w3.cell? ⟨w.heap.size, 2, none⟩ = some (.bool p.f2.f0) := (blk_cell HE3.out 2).trans rfl
 have q3 : w3.cell? ⟨w.heap.size, 3, none⟩ = some (.int .i64 p.f2.f1) := (blk_cell HE3.out 3).trans rfl
 have q4 : w3.cell? ⟨w.heap.size, 4, none⟩ = some (.string p.f2.f2) := (blk_cell HE3.out 4).trans rfl
 have q5 : w3.cell? ⟨w.heap.size, 5, none⟩ = some (.bool p.f3.f0) := (blk_cell HE3.out 5).trans rfl
 have q6 : w3.cell? ⟨w.heap.size, 6, none⟩ = some (.int .i64 p.f3.f1) := (blk_cell HE3.out 6).trans rfl
 have q7 : w3.cell? ⟨w.heap.size, 7, none⟩ = some (.string p.f3.f2) := (blk_cell HE3.out 7).trans rfl
 go_wp2_with fail
 refine (manifest_right.val p.f3 _).mono ?_; rintro e w4 ⟨rfl, hb⟩
 rw [H4.out]
 have HE4 := Aside0.mk ((hb.block _ (blk_lt HE3.out)).trans HE3.out); have HB4 := Aside0.mk (below_then HB3.out HB3.out.size hb); clear hb
 clear q0 q1 q2 q3 q4 q5 q6 q7
 have q0 : w4.cell? ⟨w.heap.size, 0, none⟩ = some (.int .i64 p.f0) := (blk_cell HE4.out 0).trans rfl
 have q1 : w4.cell? ⟨w.heap.size, 1, none⟩ = some (.int .i64 p.f1) := (blk_cell HE4.out 1).trans rfl
 have q2 : w4.cell? ⟨w.heap.size, 2, none⟩ = some (.bool p.f2.f0) := (blk_cell HE4.out 2).trans rfl
 have q3 : w4.cell? ⟨w.heap.size, 3, none⟩ = some (.int .i64 p.f2.f1) := (blk_cell HE4.out 3).trans rfl
 have q4 : w4.cell? ⟨w.heap.size, 4, none⟩ = some (.string p.f2.f2) := (blk_cell HE4.out 4).trans rfl
 have q5 : w4.cell? ⟨w.heap.size, 5, none⟩ = some (.bool p.f3.f0) := (blk_cell HE4.out 5).trans rfl
 have q6 : w4.cell? ⟨w.heap.size, 6, none⟩ = some (.int .i64 p.f3.f1) := (blk_cell HE4.out 6).trans rfl
 have q7 : w4.cell? ⟨w.heap.size, 7, none⟩ = some (.string p.f3.f2) := (blk_cell HE4.out 7).trans rfl
 go_wp2
 go_ret
 exact ⟨by first | rfl | (simp; omega), HB4.out⟩
set_option maxHeartbeats 1000000 in
set_option maxRecDepth 100000 in
theorem manifest_right.part5 (p : S36) (w : World) (h0 : oddI p.f0 = false) (h1 : decide (p.f1 < 0) = false) (h2 : decide (4 ≤ p.f1) = false) (h3 : badV p.f2 = false) (h4 : badV p.f3 = false) (h5 : decide (0 < cmpV p.f2 p.f3) = true) : Calls Try.prog 37 #[.agg #[.int .i64 p.f0, .int .i64 p.f1, .bool p.f2.f0, .int .i64 p.f2.f1, .string p.f2.f2, .bool p.f3.f0, .int .i64 p.f3.f1, .string p.f3.f2]] w fun e w' => e = .returned (.bool true) ∧ Below w.heap.size w w' := by
 have H0 := Aside0.mk ((odd_f p.f0).trans (congrArg some h0)); clear h0
 have H3 := Aside0.mk h3; clear h3
 have H4 := Aside0.mk h4; clear h4
 obtain ⟨c, hc⟩ : ∃ c, cmpV p.f2 p.f3 = c := ⟨_, rfl⟩
 rw [hc] at h5
 have H5 := Aside0.mk ((cmp_f (k := 5) (by omega) p.f2 p.f3).trans (congrArg some hc)); clear hc
 have hA := below_alloc (Below.refl w.heap.size w) (.cells #[.int .i64 p.f0, .int .i64 p.f1, .bool p.f2.f0, .int .i64 p.f2.f1, .string p.f2.f2, .bool p.f3.f0, .int .i64 p.f3.f1, .string p.f3.f2] 36)
 have HB := Aside0.mk hA
 have HE : Aside0 ((w.alloc (.cells #[.int .i64 p.f0, .int .i64 p.f1, .bool p.f2.f0, .int .i64 p.f2.f1, .string p.f2.f2, .bool p.f3.f0, .int .i64 p.f3.f1, .string p.f3.f2] 36)).heap[w.heap.size]? = some (.cells #[.int .i64 p.f0, .int .i64 p.f1, .bool p.f2.f0, .int .i64 p.f2.f1, .string p.f2.f2, .bool p.f3.f0, .int .i64 p.f3.f1, .string p.f3.f2] 36 (0, 0))) := ⟨heap_alloc_new w _⟩
 clear hA
 go_enter Try.func37, Try.ntmps37
 go_upto_region 1 with (fail)
 generalize World.alloc w _ = w1 at HB HE ⊢
 have q0 : w1.cell? ⟨w.heap.size, 0, none⟩ = some (.int .i64 p.f0) := (blk_cell HE.out 0).trans rfl
 have q1 : w1.cell? ⟨w.heap.size, 1, none⟩ = some (.int .i64 p.f1) := (blk_cell HE.out 1).trans rfl
 have q2 : w1.cell? ⟨w.heap.size, 2, none⟩ = some (.bool p.f2.f0) := (blk_cell HE.out 2).trans rfl
 have q3 : w1.cell? ⟨w.heap.size, 3, none⟩ = some (.int .i64 p.f2.f1) := (blk_cell HE.out 3).trans rfl
 have q4 : w1.cell? ⟨w.heap.size, 4, none⟩ = some (.string p.f2.f2) := (blk_cell HE.out 4).trans rfl
 have q5 : w1.cell? ⟨w.heap.size, 5, none⟩ = some (.bool p.f3.f0) := (blk_cell HE.out 5).trans rfl
 have q6 : w1.cell? ⟨w.heap.size, 6, none⟩ = some (.int .i64 p.f3.f1) := (blk_cell HE.out 6).trans rfl
 have q7 : w1.cell? ⟨w.heap.size, 7, none⟩ = some (.string p.f3.f2) := (blk_cell HE.out 7).trans rfl
 go_wp2_with fail
 refine (manifest_odd.calls p.f0 _ _ H0.out).mono ?_; rintro e w2 ⟨rfl, hb⟩
 replace hb := hb.below
 have HE2 := Aside0.mk ((hb.block _ (blk_lt HE.out)).trans HE.out); have HB2 := Aside0.mk (below_then HB.out HB.out.size hb); clear hb
 clear q0 q1 q2 q3 q4 q5 q6 q7
 have q0 : w2.cell? ⟨w.heap.size, 0, none⟩ = some (.int .i64 p.f0) := (blk_cell HE2.out 0).trans rfl
 have q1 : w2.cell? ⟨w.heap.size, 1, none⟩ = some (.int .i64 p.f1) := (blk_cell HE2.out 1).trans rfl
 have q2 : w2.cell? ⟨w.heap.size, 2, none⟩ = some (.bool p.f2.f0) := (blk_cell HE2.out 2).trans rfl
 have q3 : w2.cell? ⟨w.heap.size, 3, none⟩ = some (.int .i64 p.f2.f1) := (blk_cell HE2.out 3).trans rfl
 have q4 : w2.cell? ⟨w.heap.size, 4, none⟩ = some (.string p.f2.f2) := (blk_cell HE2.out 4).trans rfl
 have q5 : w2.cell? ⟨w.heap.size, 5, none⟩ = some (.bool p.f3.f0) := (blk_cell HE2.out 5).trans rfl
 have q6 : w2.cell? ⟨w.heap.size, 6, none⟩ = some (.int .i64 p.f3.f1) := (blk_cell HE2.out 6).trans rfl
 have q7 : w2.cell? ⟨w.heap.size, 7, none⟩ = some (.string p.f3.f2) := (blk_cell HE2.out 7).trans rfl
 go_wp2_with fail
 refine (manifest_right.val p.f2 _).mono ?_; rintro e w3 ⟨rfl, hb⟩
 rw [H3.out]
 have HE3 := Aside0.mk ((hb.block _ (blk_lt HE2.out)).trans HE2.out); have HB3 := Aside0.mk (below_then HB2.out HB2.out.size hb); clear hb
 clear q0 q1 q2 q3 q4 q5 q6 q7
 have q0 : w3.cell? ⟨w.heap.size, 0, none⟩ = some (.int .i64 p.f0) := (blk_cell HE3.out 0).trans rfl
 have q1 : w3.cell? ⟨w.heap.size, 1, none⟩ = some (.int .i64 p.f1) := (blk_cell HE3.out 1).trans rfl
 have q2 : w3.cell? ⟨w.heap.size, 2, none⟩ = some (.bool p.f2.f0) := (blk_cell HE3.out 2).trans rfl
 have q3 : w3.cell? ⟨w.heap.size, 3, none⟩ = some (.int .i64 p.f2.f1) := (blk_cell HE3.out 3).trans rfl
 have q4 : w3.cell? ⟨w.heap.size, 4, none⟩ = some (.string p.f2.f2) := (blk_cell HE3.out 4).trans rfl
 have q5 : w3.cell? ⟨w.heap.size, 5, none⟩ = some (.bool p.f3.f0) := (blk_cell HE3.out 5).trans rfl
 have q6 : w3.cell? ⟨w.heap.size, 6, none⟩ = some (.int .i64 p.f3.f1) := (blk_cell HE3.out 6).trans rfl
 have q7 : w3.cell? ⟨w.heap.size, 7, none⟩ = some (.string p.f3.f2) := (blk_cell HE3.out 7).trans rfl
 go_wp2_with fail
 refine (manifest_right.val p.f3 _).mono ?_; rintro e w4 ⟨rfl, hb⟩
 rw [H4.out]
 have HE4 := Aside0.mk ((hb.block _ (blk_lt HE3.out)).trans HE3.out); have HB4 := Aside0.mk (below_then HB3.out HB3.out.size hb); clear hb
 clear q0 q1 q2 q3 q4 q5 q6 q7
 have q0 : w4.cell? ⟨w.heap.size, 0, none⟩ = some (.int .i64 p.f0) := (blk_cell HE4.out 0).trans rfl
 have q1 : w4.cell? ⟨w.heap.size, 1, none⟩ = some (.int .i64 p.f1) := (blk_cell HE4.out 1).trans rfl
 have q2 : w4.cell? ⟨w.heap.size, 2, none⟩ = some (.bool p.f2.f0) := (blk_cell HE4.out 2).trans rfl
 have q3 : w4.cell? ⟨w.heap.size, 3, none⟩ = some (.int .i64 p.f2.f1) := (blk_cell HE4.out 3).trans rfl
 have q4 : w4.cell? ⟨w.heap.size, 4, none⟩ = some (.string p.f2.f2) := (blk_cell HE4.out 4).trans rfl
 have q5 : w4.cell? ⟨w.heap.size, 5, none⟩ = some (.bool p.f3.f0) := (blk_cell HE4.out 5).trans rfl
 have q6 : w4.cell? ⟨w.heap.size, 6, none⟩ = some (.int .i64 p.f3.f1) := (blk_cell HE4.out 6).trans rfl
 have q7 : w4.cell? ⟨w.heap.size, 7, none⟩ = some (.string p.f3.f2) := (blk_cell HE4.out 7).trans rfl
 go_wp2_with fail
 refine (kinds_Compare.calls 5 _ _ _ _ _ _ _ _ H5.out).mono ?_; rintro e w5 ⟨rfl, hb⟩
 have HE5 := Aside0.mk ((hb.block _ (blk_lt HE4.out)).trans HE4.out); have HB5 := Aside0.mk (below_then HB4.out HB4.out.size hb); clear hb
 clear q0 q1 q2 q3 q4 q5 q6 q7
 have q0 : w5.cell? ⟨w.heap.size, 0, none⟩ = some (.int .i64 p.f0) := (blk_cell HE5.out 0).trans rfl
 have q1 : w5.cell? ⟨w.heap.size, 1, none⟩ = some (.int .i64 p.f1) := (blk_cell HE5.out 1).trans rfl
 have q2 : w5.cell? ⟨w.heap.size, 2, none⟩ = some (.bool p.f2.f0) := (blk_cell HE5.out 2).trans rfl
 have q3 : w5.cell? ⟨w.heap.size, 3, none⟩ = some (.int .i64 p.f2.f1) := (blk_cell HE5.out 3).trans rfl
 have q4 : w5.cell? ⟨w.heap.size, 4, none⟩ = some (.string p.f2.f2) := (blk_cell HE5.out 4).trans rfl
 have q5 : w5.cell? ⟨w.heap.size, 5, none⟩ = some (.bool p.f3.f0) := (blk_cell HE5.out 5).trans rfl
 have q6 : w5.cell? ⟨w.heap.size, 6, none⟩ = some (.int .i64 p.f3.f1) := (blk_cell HE5.out 6).trans rfl
 have q7 : w5.cell? ⟨w.heap.size, 7, none⟩ = some (.string p.f3.f2) := (blk_cell HE5.out 7).trans rfl
 go_wp2
 go_ret
 exact ⟨by first | rfl | (simp; omega), HB5.out⟩
set_option maxHeartbeats 1000000 in
set_option maxRecDepth 100000 in
theorem manifest_right.part6 (p : S36) (w : World) (h0 : oddI p.f0 = false) (h1 : decide (p.f1 < 0) = false) (h2 : decide (4 ≤ p.f1) = false) (h3 : badV p.f2 = false) (h4 : badV p.f3 = false) (h5 : decide (0 < cmpV p.f2 p.f3) = false) : Calls Try.prog 37 #[.agg #[.int .i64 p.f0, .int .i64 p.f1, .bool p.f2.f0, .int .i64 p.f2.f1, .string p.f2.f2, .bool p.f3.f0, .int .i64 p.f3.f1, .string p.f3.f2]] w fun e w' => e = .returned (.bool false) ∧ Below w.heap.size w w' := by
 have H0 := Aside0.mk ((odd_f p.f0).trans (congrArg some h0)); clear h0
 have H3 := Aside0.mk h3; clear h3
 have H4 := Aside0.mk h4; clear h4
 obtain ⟨c, hc⟩ : ∃ c, cmpV p.f2 p.f3 = c := ⟨_, rfl⟩
 rw [hc] at h5
 have H5 := Aside0.mk ((cmp_f (k := 5) (by omega) p.f2 p.f3).trans (congrArg some hc)); clear hc
 have hA := below_alloc (Below.refl w.heap.size w) (.cells #[.int .i64 p.f0, .int .i64 p.f1, .bool p.f2.f0, .int .i64 p.f2.f1, .string p.f2.f2, .bool p.f3.f0, .int .i64 p.f3.f1, .string p.f3.f2] 36)
 have HB := Aside0.mk hA
 have HE : Aside0 ((w.alloc (.cells #[.int .i64 p.f0, .int .i64 p.f1, .bool p.f2.f0, .int .i64 p.f2.f1, .string p.f2.f2, .bool p.f3.f0, .int .i64 p.f3.f1, .string p.f3.f2] 36)).heap[w.heap.size]? = some (.cells #[.int .i64 p.f0, .int .i64 p.f1, .bool p.f2.f0, .int .i64 p.f2.f1, .string p.f2.f2, .bool p.f3.f0, .int .i64 p.f3.f1, .string p.f3.f2] 36 (0, 0))) := ⟨heap_alloc_new w _⟩
 clear hA
 go_enter Try.func37, Try.ntmps37
 go_upto_region 1 with (fail)
 generalize World.alloc w _ = w1 at HB HE ⊢
 have q0 : w1.cell? ⟨w.heap.size, 0, none⟩ = some (.int .i64 p.f0) := (blk_cell HE.out 0).trans rfl
 have q1 : w1.cell? ⟨w.heap.size, 1, none⟩ = some (.int .i64 p.f1) := (blk_cell HE.out 1).trans rfl
 have q2 : w1.cell? ⟨w.heap.size, 2, none⟩ = some (.bool p.f2.f0) := (blk_cell HE.out 2).trans rfl
 have q3 : w1.cell? ⟨w.heap.size, 3, none⟩ = some (.int .i64 p.f2.f1) := (blk_cell HE.out 3).trans rfl
 have q4 : w1.cell? ⟨w.heap.size, 4, none⟩ = some (.string p.f2.f2) := (blk_cell HE.out 4).trans rfl
 have q5 : w1.cell? ⟨w.heap.size, 5, none⟩ = some (.bool p.f3.f0) := (blk_cell HE.out 5).trans rfl
 have q6 : w1.cell? ⟨w.heap.size, 6, none⟩ = some (.int .i64 p.f3.f1) := (blk_cell HE.out 6).trans rfl
 have q7 : w1.cell? ⟨w.heap.size, 7, none⟩ = some (.string p.f3.f2) := (blk_cell HE.out 7).trans rfl
 go_wp2_with fail
 refine (manifest_odd.calls p.f0 _ _ H0.out).mono ?_; rintro e w2 ⟨rfl, hb⟩
 replace hb := hb.below
 have HE2 := Aside0.mk ((hb.block _ (blk_lt HE.out)).trans HE.out); have HB2 := Aside0.mk (below_then HB.out HB.out.size hb); clear hb
 clear q0 q1 q2 q3 q4 q5 q6 q7
 have q0 : w2.cell? ⟨w.heap.size, 0, none⟩ = some (.int .i64 p.f0) := (blk_cell HE2.out 0).trans rfl
 have q1 : w2.cell? ⟨w.heap.size, 1, none⟩ = some (.int .i64 p.f1) := (blk_cell HE2.out 1).trans rfl
 have q2 : w2.cell? ⟨w.heap.size, 2, none⟩ = some (.bool p.f2.f0) := (blk_cell HE2.out 2).trans rfl
 have q3 : w2.cell? ⟨w.heap.size, 3, none⟩ = some (.int .i64 p.f2.f1) := (blk_cell HE2.out 3).trans rfl
 have q4 : w2.cell? ⟨w.heap.size, 4, none⟩ = some (.string p.f2.f2) := (blk_cell HE2.out 4).trans rfl
 have q5 : w2.cell? ⟨w.heap.size, 5, none⟩ = some (.bool p.f3.f0) := (blk_cell HE2.out 5).trans rfl
 have q6 : w2.cell? ⟨w.heap.size, 6, none⟩ = some (.int .i64 p.f3.f1) := (blk_cell HE2.out 6).trans rfl
 have q7 : w2.cell? ⟨w.heap.size, 7, none⟩ = some (.string p.f3.f2) := (blk_cell HE2.out 7).trans rfl
 go_wp2_with fail
 refine (manifest_right.val p.f2 _).mono ?_; rintro e w3 ⟨rfl, hb⟩
 rw [H3.out]
 have HE3 := Aside0.mk ((hb.block _ (blk_lt HE2.out)).trans HE2.out); have HB3 := Aside0.mk (below_then HB2.out HB2.out.size hb); clear hb
 clear q0 q1 q2 q3 q4 q5 q6 q7
 have q0 : w3.cell? ⟨w.heap.size, 0, none⟩ = some (.int .i64 p.f0) := (blk_cell HE3.out 0).trans rfl
 have q1 : w3.cell? ⟨w.heap.size, 1, none⟩ = some (.int .i64 p.f1) := (blk_cell HE3.out 1).trans rfl
 have q2 : w3.cell? ⟨w.heap.size, 2, none⟩ = some (.bool p.f2.f0) := (blk_cell HE3.out 2).trans rfl
 have q3 : w3.cell? ⟨w.heap.size, 3, none⟩ = some (.int .i64 p.f2.f1) := (blk_cell HE3.out 3).trans rfl
 have q4 : w3.cell? ⟨w.heap.size, 4, none⟩ = some (.string p.f2.f2) := (blk_cell HE3.out 4).trans rfl
 have q5 : w3.cell? ⟨w.heap.size, 5, none⟩ = some (.bool p.f3.f0) := (blk_cell HE3.out 5).trans rfl
 have q6 : w3.cell? ⟨w.heap.size, 6, none⟩ = some (.int .i64 p.f3.f1) := (blk_cell HE3.out 6).trans rfl
 have q7 : w3.cell? ⟨w.heap.size, 7, none⟩ = some (.string p.f3.f2) := (blk_cell HE3.out 7).trans rfl
 go_wp2_with fail
 refine (manifest_right.val p.f3 _).mono ?_; rintro e w4 ⟨rfl, hb⟩
 rw [H4.out]
 have HE4 := Aside0.mk ((hb.block _ (blk_lt HE3.out)).trans HE3.out); have HB4 := Aside0.mk (below_then HB3.out HB3.out.size hb); clear hb
 clear q0 q1 q2 q3 q4 q5 q6 q7
 have q0 : w4.cell? ⟨w.heap.size, 0, none⟩ = some (.int .i64 p.f0) := (blk_cell HE4.out 0).trans rfl
 have q1 : w4.cell? ⟨w.heap.size, 1, none⟩ = some (.int .i64 p.f1) := (blk_cell HE4.out 1).trans rfl
 have q2 : w4.cell? ⟨w.heap.size, 2, none⟩ = some (.bool p.f2.f0) := (blk_cell HE4.out 2).trans rfl
 have q3 : w4.cell? ⟨w.heap.size, 3, none⟩ = some (.int .i64 p.f2.f1) := (blk_cell HE4.out 3).trans rfl
 have q4 : w4.cell? ⟨w.heap.size, 4, none⟩ = some (.string p.f2.f2) := (blk_cell HE4.out 4).trans rfl
 have q5 : w4.cell? ⟨w.heap.size, 5, none⟩ = some (.bool p.f3.f0) := (blk_cell HE4.out 5).trans rfl
 have q6 : w4.cell? ⟨w.heap.size, 6, none⟩ = some (.int .i64 p.f3.f1) := (blk_cell HE4.out 6).trans rfl
 have q7 : w4.cell? ⟨w.heap.size, 7, none⟩ = some (.string p.f3.f2) := (blk_cell HE4.out 7).trans rfl
 go_wp2_with fail
 refine (kinds_Compare.calls 5 _ _ _ _ _ _ _ _ H5.out).mono ?_; rintro e w5 ⟨rfl, hb⟩
 have HE5 := Aside0.mk ((hb.block _ (blk_lt HE4.out)).trans HE4.out); have HB5 := Aside0.mk (below_then HB4.out HB4.out.size hb); clear hb
 clear q0 q1 q2 q3 q4 q5 q6 q7
 have q0 : w5.cell? ⟨w.heap.size, 0, none⟩ = some (.int .i64 p.f0) := (blk_cell HE5.out 0).trans rfl
 have q1 : w5.cell? ⟨w.heap.size, 1, none⟩ = some (.int .i64 p.f1) := (blk_cell HE5.out 1).trans rfl
 have q2 : w5.cell? ⟨w.heap.size, 2, none⟩ = some (.bool p.f2.f0) := (blk_cell HE5.out 2).trans rfl
 have q3 : w5.cell? ⟨w.heap.size, 3, none⟩ = some (.int .i64 p.f2.f1) := (blk_cell HE5.out 3).trans rfl
 have q4 : w5.cell? ⟨w.heap.size, 4, none⟩ = some (.string p.f2.f2) := (blk_cell HE5.out 4).trans rfl
 have q5 : w5.cell? ⟨w.heap.size, 5, none⟩ = some (.bool p.f3.f0) := (blk_cell HE5.out 5).trans rfl
 have q6 : w5.cell? ⟨w.heap.size, 6, none⟩ = some (.int .i64 p.f3.f1) := (blk_cell HE5.out 6).trans rfl
 have q7 : w5.cell? ⟨w.heap.size, 7, none⟩ = some (.string p.f3.f2) := (blk_cell HE5.out 7).trans rfl
 go_wp2
 go_ret
 exact ⟨by first | rfl | (simp; omega), HB5.out⟩
theorem manifest_right.part (p : S36) (w : World) : Calls Try.prog 37 #[.agg #[.int .i64 p.f0, .int .i64 p.f1, .bool p.f2.f0, .int .i64 p.f2.f1, .string p.f2.f2, .bool p.f3.f0, .int .i64 p.f3.f1, .string p.f3.f2]] w fun e w' => e = .returned (.bool (oddP p)) ∧ Below w.heap.size w w' := by
 cases h0 : oddI p.f0
 ·cases h1 : decide (p.f1 < 0)
  ·cases h2 : decide (4 ≤ p.f1)
   ·cases h3 : badV p.f2
    ·cases h4 : badV p.f3
     ·cases h5 : decide (0 < cmpV p.f2 p.f3)
      ·have e : oddP p = false := by unfold oddP; rw [h0, h1, h2, h3, h4, h5]; rfl
       rw [e]; exact manifest_right.part6 p w h0 h1 h2 h3 h4 h5
      ·have e : oddP p = true := by unfold oddP; rw [h0, h1, h2, h3, h4, h5]; rfl
       rw [e]; exact manifest_right.part5 p w h0 h1 h2 h3 h4 h5
     ·have e : oddP p = true := by unfold oddP; rw [h0, h1, h2, h3, h4]; rfl
      rw [e]; exact manifest_right.part4 p w h0 h1 h2 h3 h4
    ·have e : oddP p = true := by unfold oddP; rw [h0, h1, h2, h3]; rfl
     rw [e]; exact manifest_right.part3 p w h0 h1 h2 h3
   ·have e : oddP p = true := by unfold oddP; rw [h0, h1, h2]; rfl
    rw [e]; exact manifest_right.part2 p w h0 h1 h2
  ·have e : oddP p = true := by unfold oddP; rw [h0, h1]; rfl
   rw [e]; exact manifest_right.part1 p w h0 h1
 ·have e : oddP p = true := by unfold oddP; rw [h0]; rfl
  rw [e]; exact manifest_right.part0 p w h0
def manifest_right.AtI (w0 : World) (l : List Int) (e : Ending) (w' : World) : Prop := ∃ j : Int, e = .returned (.int .i64 j) ∧ decide (0 ≤ j) = !(l.all fun x => !oddI x) ∧ Below w0.heap.size w0 w'
theorem manifest_right.allI {l : List Int} {n : Nat} (hn : n = l.length) (h : ∀ k : Nat, k < n → oddI (rd l (k : Int)) = false) : (l.all fun x => !oddI x) = true := by
 rw [List.all_eq_true]
 intro x hx
 obtain ⟨k, hk, rfl⟩ := List.getElem_of_mem hx
 have := h k (by omega)
 unfold rd at this
 rw [Int.toNat_natCast, List.getD_eq_getElem?_getD, List.getElem?_eq_getElem hk] at this
 simpa using this
theorem manifest_right.notI {l : List Int} {k : Nat} (hk : k < l.length) (h : oddI (rd l (k : Int)) = true) : (l.all fun x => !oddI x) = false := by
 rw [List.all_eq_false]
 refine ⟨l[k], List.getElem_mem hk, ?_⟩
 unfold rd at h
 rw [Int.toNat_natCast, List.getD_eq_getElem?_getD, List.getElem?_eq_getElem hk] at h
 have h2 : oddI l[k] = true := h
 rw [h2]; decide
set_option maxHeartbeats 1000000 in
set_option maxRecDepth 100000 in
theorem manifest_right.idxI (A : Option Addr) (c : Nat) (l : List Int) (w0 w : World) (hr : (Kd.int .i64).C w A l.length l) (hl : l.length ≤ 1000) (hB : Below w0.heap.size w0 w) : Calls Try.prog 59 #[.slice A l.length c, .func (.func 34) #[] #[]] w (manifest_right.AtI w0 l) := by
 have HR := Aside0.mk hr; have HB := Aside0.mk hB
 clear hr hB
 go_enter Try.func59, Try.ntmps59
 go_wp2_with fail
 go_loopg [8] l.length (fun gq s8 wx => ∃ i : Nat, i ≤ l.length ∧ gq = l.length - i ∧ s8 = .int .i64 (i : Int) ∧ Aside0 (∀ k : Nat, k < i → oddI (rd l (k : Int)) = false) ∧ Aside0 (Below w.heap.size w wx) ∧ Aside0 (Below w0.heap.size w0 wx))
 case atStart => exact ⟨0, by omega, by omega, rfl, ⟨fun k hk => by omega⟩, ⟨Below.refl _ _⟩, HB⟩
 case round =>
  clear HB
  obtain ⟨i, hi, rfl, rfl, HN, HW, HB⟩ := hrel
  by_cases hlt : i < l.length
  ·obtain ⟨g1, hg1⟩ : ∃ g1, l.length - i = g1 + 1 := ⟨l.length - i - 1, by omega⟩
   have k2 : decide ((i : Int) < (l.length : Int)) = true := decide_eq_true (by omega)
   have k2' : decide (i < l.length) = true := decide_eq_true hlt
   obtain ⟨ad, hA, hx0⟩ := Kd.at_int (Kd.C_below HR.out HW.out) (i : Int) (by omega) (by omega)
   rw [Int.toNat_natCast] at hx0
   cases hA
   have i1 : (0 : Int) ≤ (i : Int) := by omega
   have i2 : (i : Int) < (l.length : Int) := by omega
   replace i1 := eq_true i1; replace i2 := eq_true i2
   have hno := manifest_right.notI (l := l) hlt
   obtain ⟨x, hx⟩ : ∃ x, rd l (i : Int) = x := ⟨_, rfl⟩
   rw [hx] at hx0 hno
   have HX := Aside0.mk hx; have HLT := Aside0.mk hlt; have HNO := Aside0.mk hno
   clear hx hlt hno
   cases hb : oddI x
   ·have HO := Aside0.mk hb; clear hb
    go_wp2_with fail
    refine (manifest_odd.calls x _ _ (odd_f x)).mono ?_; rintro e w2 ⟨rfl, hb2⟩
    replace hb2 := hb2.below
    rw [HO.out]
    have HW2 := Aside0.mk (below_then HW.out HW.out.size hb2); have HB2 := Aside0.mk (below_then HB.out HB.out.size hb2)
    clear hb2 HW HB
    go_wp2
    go_roundg g1
    case measure => omega
    case rel => exact ⟨i + 1, by have := HLT.out; omega, by omega, by go_num, ⟨fun k hk => by
     by_cases e : k = i
     ·subst e; rw [HX.out]; exact HO.out
     ·exact HN.out k (by omega)⟩, HW2, HB2⟩
   ·have HO := Aside0.mk hb; clear hb
    go_wp2_with fail
    refine (manifest_odd.calls x _ _ (odd_f x)).mono ?_; rintro e w2 ⟨rfl, hb2⟩
    replace hb2 := hb2.below
    rw [HO.out]
    have HB2 := Aside0.mk (below_then HB.out HB.out.size hb2)
    clear hb2 HW HB
    go_wp2
    go_ret
    exact ⟨(i : Int), rfl, by rw [HNO.out HO.out]; exact decide_eq_true (by omega), HB2.out⟩
  ·have k2 : decide ((i : Int) < (l.length : Int)) = false := decide_eq_false (by omega)
   have k2' : decide (i < l.length) = false := decide_eq_false hlt
   have HE := Aside0.mk (show i = l.length by omega)
   clear hlt hi
   go_wp2
   go_ret
   exact ⟨-1, rfl, by rw [manifest_right.allI HE.out HN.out]; rfl, HB.out⟩
set_option maxHeartbeats 1000000 in
set_option maxRecDepth 100000 in
theorem manifest_right.contI (A : Option Addr) (c : Nat) (l : List Int) (w0 w : World) (hr : (Kd.int .i64).C w A l.length l) (hl : l.length ≤ 1000) (hB : Below w0.heap.size w0 w) : Calls Try.prog 35 #[.slice A l.length c, .func (.func 34) #[] #[]] w fun e w' => e = .returned (.bool (!(l.all fun x => !oddI x))) ∧ Below w0.heap.size w0 w' := by
 have HI := Aside0.mk (manifest_right.idxI A c l w0 w hr hl hB)
 obtain ⟨fl, hf⟩ : ∃ fl, (l.all fun x => !oddI x) = fl := ⟨_, rfl⟩
 rw [hf]
 have HF := Aside0.mk hf
 clear hf
 go_enter Try.func35, Try.ntmps35
 go_wp2_with fail
 refine HI.out.mono ?_; rintro e w2 ⟨j, rfl, hj, hb2⟩
 rw [HF.out] at hj
 go_wp2
 go_ret
 exact ⟨rfl, hb2⟩
def manifest_right.AtP (w0 : World) (l : List S36) (e : Ending) (w' : World) : Prop := ∃ j : Int, e = .returned (.int .i64 j) ∧ decide (0 ≤ j) = !(l.all fun x => !oddP x) ∧ Below w0.heap.size w0 w'
theorem manifest_right.allP {l : List S36} {n : Nat} (hn : n = l.length) (h : ∀ k : Nat, k < n → oddP (rd_T36 l (k : Int)) = false) : (l.all fun x => !oddP x) = true := by
 rw [List.all_eq_true]
 intro x hx
 obtain ⟨k, hk, rfl⟩ := List.getElem_of_mem hx
 have := h k (by omega)
 unfold rd_T36 at this
 rw [Int.toNat_natCast, List.getD_eq_getElem?_getD, List.getElem?_eq_getElem hk] at this
 simpa using this
theorem manifest_right.notP {l : List S36} {k : Nat} (hk : k < l.length) (h : oddP (rd_T36 l (k : Int)) = true) : (l.all fun x => !oddP x) = false := by
 rw [List.all_eq_false]
 refine ⟨l[k], List.getElem_mem hk, ?_⟩
 unfold rd_T36 at h
 rw [Int.toNat_natCast, List.getD_eq_getElem?_getD, List.getElem?_eq_getElem hk] at h
 have h2 : oddP l[k] = true := h
 rw [h2]; decide
set_option maxHeartbeats 1000000 in
set_option maxRecDepth 100000 in
theorem manifest_right.idxP (A : Option Addr) (c : Nat) (l : List S36) (w0 w : World) (hr : k36.C w A l.length l) (hl : l.length ≤ 1000) (hB : Below w0.heap.size w0 w) : Calls Try.prog 60 #[.slice A l.length c, .func (.func 37) #[] #[]] w (manifest_right.AtP w0 l) := by
 have HR := Aside0.mk hr; have HB := Aside0.mk hB
 clear hr hB
 go_enter Try.func60, Try.ntmps60
 go_wp2_with fail
 go_loopg [8] l.length (fun gq s8 wx => ∃ i : Nat, i ≤ l.length ∧ gq = l.length - i ∧ s8 = .int .i64 (i : Int) ∧ Aside0 (∀ k : Nat, k < i → oddP (rd_T36 l (k : Int)) = false) ∧ Aside0 (Below w.heap.size w wx) ∧ Aside0 (Below w0.heap.size w0 wx))
 case atStart => exact ⟨0, by omega, by omega, rfl, ⟨fun k hk => by omega⟩, ⟨Below.refl _ _⟩, HB⟩
 case round =>
  clear HB
  obtain ⟨i, hi, rfl, rfl, HN, HW, HB⟩ := hrel
  by_cases hlt : i < l.length
  ·obtain ⟨g1, hg1⟩ : ∃ g1, l.length - i = g1 + 1 := ⟨l.length - i - 1, by omega⟩
   have k2 : decide ((i : Int) < (l.length : Int)) = true := decide_eq_true (by omega)
   have k2' : decide (i < l.length) = true := decide_eq_true hlt
   obtain ⟨ad, hA, hx0, hx1, hx2, hx3, hx4, hx5, hx6, hx7⟩ := at_T36 (Kd.C_below HR.out HW.out) (i : Int) (by omega) (by omega)
   rw [Int.toNat_natCast] at hx0 hx1 hx2 hx3 hx4 hx5 hx6 hx7
   cases hA
   have i1 : (0 : Int) ≤ (i : Int) := by omega
   have i2 : (i : Int) < (l.length : Int) := by omega
   replace i1 := eq_true i1; replace i2 := eq_true i2
   have hno := manifest_right.notP (l := l) hlt
   obtain ⟨x, hx⟩ : ∃ x, rd_T36 l (i : Int) = x := ⟨_, rfl⟩
   rw [hx] at hx0 hx1 hx2 hx3 hx4 hx5 hx6 hx7 hno
   have HX := Aside0.mk hx; have HLT := Aside0.mk hlt; have HNO := Aside0.mk hno
   clear hx hlt hno
   cases hb : oddP x
   ·have HO := Aside0.mk hb; clear hb
    go_wp2_with fail
    refine (manifest_right.part x _).mono ?_; rintro e w2 ⟨rfl, hb2⟩
    skip
    rw [HO.out]
    have HW2 := Aside0.mk (below_then HW.out HW.out.size hb2); have HB2 := Aside0.mk (below_then HB.out HB.out.size hb2)
    clear hb2 HW HB
    go_wp2
    go_roundg g1
    case measure => omega
    case rel => exact ⟨i + 1, by have := HLT.out; omega, by omega, by go_num, ⟨fun k hk => by
     by_cases e : k = i
     ·subst e; rw [HX.out]; exact HO.out
     ·exact HN.out k (by omega)⟩, HW2, HB2⟩
   ·have HO := Aside0.mk hb; clear hb
    go_wp2_with fail
    refine (manifest_right.part x _).mono ?_; rintro e w2 ⟨rfl, hb2⟩
    skip
    rw [HO.out]
    have HB2 := Aside0.mk (below_then HB.out HB.out.size hb2)
    clear hb2 HW HB
    go_wp2
    go_ret
    exact ⟨(i : Int), rfl, by rw [HNO.out HO.out]; exact decide_eq_true (by omega), HB2.out⟩
  ·have k2 : decide ((i : Int) < (l.length : Int)) = false := decide_eq_false (by omega)
   have k2' : decide (i < l.length) = false := decide_eq_false hlt
   have HE := Aside0.mk (show i = l.length by omega)
   clear hlt hi
   go_wp2
   go_ret
   exact ⟨-1, rfl, by rw [manifest_right.allP HE.out HN.out]; rfl, HB.out⟩
set_option maxHeartbeats 1000000 in
set_option maxRecDepth 100000 in
theorem manifest_right.contP (A : Option Addr) (c : Nat) (l : List S36) (w0 w : World) (hr : k36.C w A l.length l) (hl : l.length ≤ 1000) (hB : Below w0.heap.size w0 w) : Calls Try.prog 36 #[.slice A l.length c, .func (.func 37) #[] #[]] w fun e w' => e = .returned (.bool (!(l.all fun x => !oddP x))) ∧ Below w0.heap.size w0 w' := by
 have HI := Aside0.mk (manifest_right.idxP A c l w0 w hr hl hB)
 obtain ⟨fl, hf⟩ : ∃ fl, (l.all fun x => !oddP x) = fl := ⟨_, rfl⟩
 rw [hf]
 have HF := Aside0.mk hf
 clear hf
 go_enter Try.func36, Try.ntmps36
 go_wp2_with fail
 refine HI.out.mono ?_; rintro e w2 ⟨j, rfl, hj, hb2⟩
 rw [HF.out] at hj
 go_wp2
 go_ret
 exact ⟨rfl, hb2⟩
set_option maxHeartbeats 2000000 in
set_option maxRecDepth 100000 in
theorem manifest_right.way0 (A0 : Option Addr) (c0 : Nat) (d : List Int) (A1 : Option Addr) (c1 : Nat) (a : List S36) (fl nx : Int) (w : World) (hr0 : (Kd.int .i64).C w A0 d.length d) (hr1 : k36.C w A1 a.length a) (h0 : decide (d.length ≤ 1000) = false) :
  Calls Try.prog 18 #[.agg #[.slice A0 d.length c0, .slice A1 a.length c1, .int .i64 fl, .int .i64 nx]] w fun e w' => e = .returned (.bool false) ∧ Below w.heap.size w w' := by
 have g0 : decide ((d.length : Int) ≤ 1000) = false := by rw [← h0]; simp; omega
 have HR0 := Aside0.mk hr0; have HR1 := Aside0.mk hr1; clear hr0 hr1
 have hA := below_alloc (Below.refl w.heap.size w) (.cells #[.slice A0 d.length c0, .slice A1 a.length c1, .int .i64 fl, .int .i64 nx] 32)
 have HB := Aside0.mk hA
 have HE : Aside0 ((w.alloc (.cells #[.slice A0 d.length c0, .slice A1 a.length c1, .int .i64 fl, .int .i64 nx] 32)).heap[w.heap.size]? = some (.cells #[.slice A0 d.length c0, .slice A1 a.length c1, .int .i64 fl, .int .i64 nx] 32 (0, 0))) := ⟨heap_alloc_new w _⟩
 clear hA
 go_enter Try.func18, Try.ntmps18
 go_upto_region 1 with (fail)
 generalize World.alloc w _ = w1 at HB HE ⊢
 have q0 : w1.cell? ⟨w.heap.size, 0, none⟩ = some (.slice A0 d.length c0) := (blk_cell HE.out 0).trans rfl
 have q1 : w1.cell? ⟨w.heap.size, 1, none⟩ = some (.slice A1 a.length c1) := (blk_cell HE.out 1).trans rfl
 have q2 : w1.cell? ⟨w.heap.size, 2, none⟩ = some (.int .i64 fl) := (blk_cell HE.out 2).trans rfl
 have q3 : w1.cell? ⟨w.heap.size, 3, none⟩ = some (.int .i64 nx) := (blk_cell HE.out 3).trans rfl
 go_wp2
 go_ret
 exact ⟨rfl, HB.out⟩
set_option maxHeartbeats 2000000 in
set_option maxRecDepth 100000 in
theorem manifest_right.way1 (A0 : Option Addr) (c0 : Nat) (d : List Int) (A1 : Option Addr) (c1 : Nat) (a : List S36) (fl nx : Int) (w : World) (hr0 : (Kd.int .i64).C w A0 d.length d) (hr1 : k36.C w A1 a.length a) (h0 : decide (d.length ≤ 1000) = true) (h1 : decide (a.length ≤ 1000) = false) :
  Calls Try.prog 18 #[.agg #[.slice A0 d.length c0, .slice A1 a.length c1, .int .i64 fl, .int .i64 nx]] w fun e w' => e = .returned (.bool false) ∧ Below w.heap.size w w' := by
 have g0 : decide ((d.length : Int) ≤ 1000) = true := by rw [← h0]; simp; omega
 have g1 : decide ((a.length : Int) ≤ 1000) = false := by rw [← h1]; simp; omega
 have HR0 := Aside0.mk hr0; have HR1 := Aside0.mk hr1; clear hr0 hr1
 have hA := below_alloc (Below.refl w.heap.size w) (.cells #[.slice A0 d.length c0, .slice A1 a.length c1, .int .i64 fl, .int .i64 nx] 32)
 have HB := Aside0.mk hA
 have HE : Aside0 ((w.alloc (.cells #[.slice A0 d.length c0, .slice A1 a.length c1, .int .i64 fl, .int .i64 nx] 32)).heap[w.heap.size]? = some (.cells #[.slice A0 d.length c0, .slice A1 a.length c1, .int .i64 fl, .int .i64 nx] 32 (0, 0))) := ⟨heap_alloc_new w _⟩
 clear hA
 go_enter Try.func18, Try.ntmps18
 go_upto_region 1 with (fail)
 generalize World.alloc w _ = w1 at HB HE ⊢
 have q0 : w1.cell? ⟨w.heap.size, 0, none⟩ = some (.slice A0 d.length c0) := (blk_cell HE.out 0).trans rfl
 have q1 : w1.cell? ⟨w.heap.size, 1, none⟩ = some (.slice A1 a.length c1) := (blk_cell HE.out 1).trans rfl
 have q2 : w1.cell? ⟨w.heap.size, 2, none⟩ = some (.int .i64 fl) := (blk_cell HE.out 2).trans rfl
 have q3 : w1.cell? ⟨w.heap.size, 3, none⟩ = some (.int .i64 nx) := (blk_cell HE.out 3).trans rfl
 go_wp2
 go_ret
 exact ⟨rfl, HB.out⟩
set_option maxHeartbeats 2000000 in
set_option maxRecDepth 100000 in
theorem manifest_right.way2 (A0 : Option Addr) (c0 : Nat) (d : List Int) (A1 : Option Addr) (c1 : Nat) (a : List S36) (fl nx : Int) (w : World) (hr0 : (Kd.int .i64).C w A0 d.length d) (hr1 : k36.C w A1 a.length a) (h0 : decide (d.length ≤ 1000) = true) (h1 : decide (a.length ≤ 1000) = true) (h2 : oddI fl = true) :
  Calls Try.prog 18 #[.agg #[.slice A0 d.length c0, .slice A1 a.length c1, .int .i64 fl, .int .i64 nx]] w fun e w' => e = .returned (.bool false) ∧ Below w.heap.size w w' := by
 have g0 : decide ((d.length : Int) ≤ 1000) = true := by rw [← h0]; simp; omega
 have g1 : decide ((a.length : Int) ≤ 1000) = true := by rw [← h1]; simp; omega
 have H2 := Aside0.mk ((odd_f fl).trans (congrArg some h2)); clear h2
 have HR0 := Aside0.mk hr0; have HR1 := Aside0.mk hr1; clear hr0 hr1
 have hA := below_alloc (Below.refl w.heap.size w) (.cells #[.slice A0 d.length c0, .slice A1 a.length c1, .int .i64 fl, .int .i64 nx] 32)
 have HB := Aside0.mk hA
 have HE : Aside0 ((w.alloc (.cells #[.slice A0 d.length c0, .slice A1 a.length c1, .int .i64 fl, .int .i64 nx] 32)).heap[w.heap.size]? = some (.cells #[.slice A0 d.length c0, .slice A1 a.length c1, .int .i64 fl, .int .i64 nx] 32 (0, 0))) := ⟨heap_alloc_new w _⟩
 clear hA
 go_enter Try.func18, Try.ntmps18
 go_upto_region 1 with (fail)
 generalize World.alloc w _ = w1 at HB HE ⊢
 have q0 : w1.cell? ⟨w.heap.size, 0, none⟩ = some (.slice A0 d.length c0) := (blk_cell HE.out 0).trans rfl
 have q1 : w1.cell? ⟨w.heap.size, 1, none⟩ = some (.slice A1 a.length c1) := (blk_cell HE.out 1).trans rfl
 have q2 : w1.cell? ⟨w.heap.size, 2, none⟩ = some (.int .i64 fl) := (blk_cell HE.out 2).trans rfl
 have q3 : w1.cell? ⟨w.heap.size, 3, none⟩ = some (.int .i64 nx) := (blk_cell HE.out 3).trans rfl
 go_wp2_with fail
 refine (manifest_odd.calls fl _ _ H2.out).mono ?_; rintro e w2 ⟨rfl, hb⟩
 replace hb := hb.below
 have HE2 := Aside0.mk ((hb.block _ (blk_lt HE.out)).trans HE.out); have HB2 := Aside0.mk (below_then HB.out HB.out.size hb); clear hb
 clear q0 q1 q2 q3
 have q0 : w2.cell? ⟨w.heap.size, 0, none⟩ = some (.slice A0 d.length c0) := (blk_cell HE2.out 0).trans rfl
 have q1 : w2.cell? ⟨w.heap.size, 1, none⟩ = some (.slice A1 a.length c1) := (blk_cell HE2.out 1).trans rfl
 have q2 : w2.cell? ⟨w.heap.size, 2, none⟩ = some (.int .i64 fl) := (blk_cell HE2.out 2).trans rfl
 have q3 : w2.cell? ⟨w.heap.size, 3, none⟩ = some (.int .i64 nx) := (blk_cell HE2.out 3).trans rfl
 go_wp2
 go_ret
 exact ⟨rfl, HB2.out⟩
set_option maxHeartbeats 2000000 in
set_option maxRecDepth 100000 in
theorem manifest_right.way3 (A0 : Option Addr) (c0 : Nat) (d : List Int) (A1 : Option Addr) (c1 : Nat) (a : List S36) (fl nx : Int) (w : World) (hr0 : (Kd.int .i64).C w A0 d.length d) (hr1 : k36.C w A1 a.length a) (h0 : decide (d.length ≤ 1000) = true) (h1 : decide (a.length ≤ 1000) = true) (h2 : oddI fl = false) (h3 : oddI nx = true) :
  Calls Try.prog 18 #[.agg #[.slice A0 d.length c0, .slice A1 a.length c1, .int .i64 fl, .int .i64 nx]] w fun e w' => e = .returned (.bool false) ∧ Below w.heap.size w w' := by
 have g0 : decide ((d.length : Int) ≤ 1000) = true := by rw [← h0]; simp; omega
 have g1 : decide ((a.length : Int) ≤ 1000) = true := by rw [← h1]; simp; omega
 have H2 := Aside0.mk ((odd_f fl).trans (congrArg some h2)); clear h2
 have H3 := Aside0.mk ((odd_f nx).trans (congrArg some h3)); clear h3
 have HR0 := Aside0.mk hr0; have HR1 := Aside0.mk hr1; clear hr0 hr1
 have hA := below_alloc (Below.refl w.heap.size w) (.cells #[.slice A0 d.length c0, .slice A1 a.length c1, .int .i64 fl, .int .i64 nx] 32)
 have HB := Aside0.mk hA
 have HE : Aside0 ((w.alloc (.cells #[.slice A0 d.length c0, .slice A1 a.length c1, .int .i64 fl, .int .i64 nx] 32)).heap[w.heap.size]? = some (.cells #[.slice A0 d.length c0, .slice A1 a.length c1, .int .i64 fl, .int .i64 nx] 32 (0, 0))) := ⟨heap_alloc_new w _⟩
 clear hA
 go_enter Try.func18, Try.ntmps18
 go_upto_region 1 with (fail)
 generalize World.alloc w _ = w1 at HB HE ⊢
 have q0 : w1.cell? ⟨w.heap.size, 0, none⟩ = some (.slice A0 d.length c0) := (blk_cell HE.out 0).trans rfl
 have q1 : w1.cell? ⟨w.heap.size, 1, none⟩ = some (.slice A1 a.length c1) := (blk_cell HE.out 1).trans rfl
 have q2 : w1.cell? ⟨w.heap.size, 2, none⟩ = some (.int .i64 fl) := (blk_cell HE.out 2).trans rfl
 have q3 : w1.cell? ⟨w.heap.size, 3, none⟩ = some (.int .i64 nx) := (blk_cell HE.out 3).trans rfl
 go_wp2_with fail
 refine (manifest_odd.calls fl _ _ H2.out).mono ?_; rintro e w2 ⟨rfl, hb⟩
 replace hb := hb.below
 have HE2 := Aside0.mk ((hb.block _ (blk_lt HE.out)).trans HE.out); have HB2 := Aside0.mk (below_then HB.out HB.out.size hb); clear hb
 clear q0 q1 q2 q3
 have q0 : w2.cell? ⟨w.heap.size, 0, none⟩ = some (.slice A0 d.length c0) := (blk_cell HE2.out 0).trans rfl
 have q1 : w2.cell? ⟨w.heap.size, 1, none⟩ = some (.slice A1 a.length c1) := (blk_cell HE2.out 1).trans rfl
 have q2 : w2.cell? ⟨w.heap.size, 2, none⟩ = some (.int .i64 fl) := (blk_cell HE2.out 2).trans rfl
 have q3 : w2.cell? ⟨w.heap.size, 3, none⟩ = some (.int .i64 nx) := (blk_cell HE2.out 3).trans rfl
 go_wp2_with fail
 refine (manifest_odd.calls nx _ _ H3.out).mono ?_; rintro e w3 ⟨rfl, hb⟩
 replace hb := hb.below
 have HE3 := Aside0.mk ((hb.block _ (blk_lt HE2.out)).trans HE2.out); have HB3 := Aside0.mk (below_then HB2.out HB2.out.size hb); clear hb
 clear q0 q1 q2 q3
 have q0 : w3.cell? ⟨w.heap.size, 0, none⟩ = some (.slice A0 d.length c0) := (blk_cell HE3.out 0).trans rfl
 have q1 : w3.cell? ⟨w.heap.size, 1, none⟩ = some (.slice A1 a.length c1) := (blk_cell HE3.out 1).trans rfl
 have q2 : w3.cell? ⟨w.heap.size, 2, none⟩ = some (.int .i64 fl) := (blk_cell HE3.out 2).trans rfl
 have q3 : w3.cell? ⟨w.heap.size, 3, none⟩ = some (.int .i64 nx) := (blk_cell HE3.out 3).trans rfl
 go_wp2
 go_ret
 exact ⟨rfl, HB3.out⟩
set_option maxHeartbeats 2000000 in
set_option maxRecDepth 100000 in
theorem manifest_right.way4 (A0 : Option Addr) (c0 : Nat) (d : List Int) (A1 : Option Addr) (c1 : Nat) (a : List S36) (fl nx : Int) (w : World) (hr0 : (Kd.int .i64).C w A0 d.length d) (hr1 : k36.C w A1 a.length a) (h0 : decide (d.length ≤ 1000) = true) (h1 : decide (a.length ≤ 1000) = true) (h2 : oddI fl = false) (h3 : oddI nx = false) (h4 : (d.all fun x => !oddI x) = false) :
  Calls Try.prog 18 #[.agg #[.slice A0 d.length c0, .slice A1 a.length c1, .int .i64 fl, .int .i64 nx]] w fun e w' => e = .returned (.bool false) ∧ Below w.heap.size w w' := by
 have g0 : decide ((d.length : Int) ≤ 1000) = true := by rw [← h0]; simp; omega
 have g1 : decide ((a.length : Int) ≤ 1000) = true := by rw [← h1]; simp; omega
 have H2 := Aside0.mk ((odd_f fl).trans (congrArg some h2)); clear h2
 have H3 := Aside0.mk ((odd_f nx).trans (congrArg some h3)); clear h3
 have HR0 := Aside0.mk hr0; have HR1 := Aside0.mk hr1; clear hr0 hr1
 have H4 := Aside0.mk h4; have HL0 := Aside0.mk (of_decide_eq_true h0); clear h4
 have hA := below_alloc (Below.refl w.heap.size w) (.cells #[.slice A0 d.length c0, .slice A1 a.length c1, .int .i64 fl, .int .i64 nx] 32)
 have HB := Aside0.mk hA
 have HE : Aside0 ((w.alloc (.cells #[.slice A0 d.length c0, .slice A1 a.length c1, .int .i64 fl, .int .i64 nx] 32)).heap[w.heap.size]? = some (.cells #[.slice A0 d.length c0, .slice A1 a.length c1, .int .i64 fl, .int .i64 nx] 32 (0, 0))) := ⟨heap_alloc_new w _⟩
 clear hA
 go_enter Try.func18, Try.ntmps18
 go_upto_region 1 with (fail)
 generalize World.alloc w _ = w1 at HB HE ⊢
 have q0 : w1.cell? ⟨w.heap.size, 0, none⟩ = some (.slice A0 d.length c0) := (blk_cell HE.out 0).trans rfl
 have q1 : w1.cell? ⟨w.heap.size, 1, none⟩ = some (.slice A1 a.length c1) := (blk_cell HE.out 1).trans rfl
 have q2 : w1.cell? ⟨w.heap.size, 2, none⟩ = some (.int .i64 fl) := (blk_cell HE.out 2).trans rfl
 have q3 : w1.cell? ⟨w.heap.size, 3, none⟩ = some (.int .i64 nx) := (blk_cell HE.out 3).trans rfl
 go_wp2_with fail
 refine (manifest_odd.calls fl _ _ H2.out).mono ?_; rintro e w2 ⟨rfl, hb⟩
 replace hb := hb.below
 have HE2 := Aside0.mk ((hb.block _ (blk_lt HE.out)).trans HE.out); have HB2 := Aside0.mk (below_then HB.out HB.out.size hb); clear hb
 clear q0 q1 q2 q3
 have q0 : w2.cell? ⟨w.heap.size, 0, none⟩ = some (.slice A0 d.length c0) := (blk_cell HE2.out 0).trans rfl
 have q1 : w2.cell? ⟨w.heap.size, 1, none⟩ = some (.slice A1 a.length c1) := (blk_cell HE2.out 1).trans rfl
 have q2 : w2.cell? ⟨w.heap.size, 2, none⟩ = some (.int .i64 fl) := (blk_cell HE2.out 2).trans rfl
 have q3 : w2.cell? ⟨w.heap.size, 3, none⟩ = some (.int .i64 nx) := (blk_cell HE2.out 3).trans rfl
 go_wp2_with fail
 refine (manifest_odd.calls nx _ _ H3.out).mono ?_; rintro e w3 ⟨rfl, hb⟩
 replace hb := hb.below
 have HE3 := Aside0.mk ((hb.block _ (blk_lt HE2.out)).trans HE2.out); have HB3 := Aside0.mk (below_then HB2.out HB2.out.size hb); clear hb
 clear q0 q1 q2 q3
 have q0 : w3.cell? ⟨w.heap.size, 0, none⟩ = some (.slice A0 d.length c0) := (blk_cell HE3.out 0).trans rfl
 have q1 : w3.cell? ⟨w.heap.size, 1, none⟩ = some (.slice A1 a.length c1) := (blk_cell HE3.out 1).trans rfl
 have q2 : w3.cell? ⟨w.heap.size, 2, none⟩ = some (.int .i64 fl) := (blk_cell HE3.out 2).trans rfl
 have q3 : w3.cell? ⟨w.heap.size, 3, none⟩ = some (.int .i64 nx) := (blk_cell HE3.out 3).trans rfl
 go_wp2_with fail
 refine (manifest_right.contI A0 c0 d w3 w3 (Kd.C_below HR0.out HB3.out) HL0.out (Below.refl _ _)).mono ?_; rintro e w4 ⟨rfl, hb⟩
 rw [H4.out]
 have HE4 := Aside0.mk ((hb.block _ (blk_lt HE3.out)).trans HE3.out); have HB4 := Aside0.mk (below_then HB3.out HB3.out.size hb); clear hb
 clear q0 q1 q2 q3
 have q0 : w4.cell? ⟨w.heap.size, 0, none⟩ = some (.slice A0 d.length c0) := (blk_cell HE4.out 0).trans rfl
 have q1 : w4.cell? ⟨w.heap.size, 1, none⟩ = some (.slice A1 a.length c1) := (blk_cell HE4.out 1).trans rfl
 have q2 : w4.cell? ⟨w.heap.size, 2, none⟩ = some (.int .i64 fl) := (blk_cell HE4.out 2).trans rfl
 have q3 : w4.cell? ⟨w.heap.size, 3, none⟩ = some (.int .i64 nx) := (blk_cell HE4.out 3).trans rfl
 go_wp2
 go_ret
 exact ⟨rfl, HB4.out⟩
set_option maxHeartbeats 2000000 in
set_option maxRecDepth 100000 in
theorem manifest_right.way5 (A0 : Option Addr) (c0 : Nat) (d : List Int) (A1 : Option Addr) (c1 : Nat) (a : List S36) (fl nx : Int) (w : World) (hr0 : (Kd.int .i64).C w A0 d.length d) (hr1 : k36.C w A1 a.length a) (h0 : decide (d.length ≤ 1000) = true) (h1 : decide (a.length ≤ 1000) = true) (h2 : oddI fl = false) (h3 : oddI nx = false) (h4 : (d.all fun x => !oddI x) = true) (h5 : (a.all fun x => !oddP x) = false) :
  Calls Try.prog 18 #[.agg #[.slice A0 d.length c0, .slice A1 a.length c1, .int .i64 fl, .int .i64 nx]] w fun e w' => e = .returned (.bool false) ∧ Below w.heap.size w w' := by
 have g0 : decide ((d.length : Int) ≤ 1000) = true := by rw [← h0]; simp; omega
 have g1 : decide ((a.length : Int) ≤ 1000) = true := by rw [← h1]; simp; omega
 have H2 := Aside0.mk ((odd_f fl).trans (congrArg some h2)); clear h2
 have H3 := Aside0.mk ((odd_f nx).trans (congrArg some h3)); clear h3
 have HR0 := Aside0.mk hr0; have HR1 := Aside0.mk hr1; clear hr0 hr1
 have H4 := Aside0.mk h4; have HL0 := Aside0.mk (of_decide_eq_true h0); clear h4
 have H5 := Aside0.mk h5; have HL1 := Aside0.mk (of_decide_eq_true h1); clear h5
 have hA := below_alloc (Below.refl w.heap.size w) (.cells #[.slice A0 d.length c0, .slice A1 a.length c1, .int .i64 fl, .int .i64 nx] 32)
 have HB := Aside0.mk hA
 have HE : Aside0 ((w.alloc (.cells #[.slice A0 d.length c0, .slice A1 a.length c1, .int .i64 fl, .int .i64 nx] 32)).heap[w.heap.size]? = some (.cells #[.slice A0 d.length c0, .slice A1 a.length c1, .int .i64 fl, .int .i64 nx] 32 (0, 0))) := ⟨heap_alloc_new w _⟩
 clear hA
 go_enter Try.func18, Try.ntmps18
 go_upto_region 1 with (fail)
 generalize World.alloc w _ = w1 at HB HE ⊢
 have q0 : w1.cell? ⟨w.heap.size, 0, none⟩ = some (.slice A0 d.length c0) := (blk_cell HE.out 0).trans rfl
 have q1 : w1.cell? ⟨w.heap.size, 1, none⟩ = some (.slice A1 a.length c1) := (blk_cell HE.out 1).trans rfl
 have q2 : w1.cell? ⟨w.heap.size, 2, none⟩ = some (.int .i64 fl) := (blk_cell HE.out 2).trans rfl
 have q3 : w1.cell? ⟨w.heap.size, 3, none⟩ = some (.int .i64 nx) := (blk_cell HE.out 3).trans rfl
 go_wp2_with fail
 refine (manifest_odd.calls fl _ _ H2.out).mono ?_; rintro e w2 ⟨rfl, hb⟩
 replace hb := hb.below
 have HE2 := Aside0.mk ((hb.block _ (blk_lt HE.out)).trans HE.out); have HB2 := Aside0.mk (below_then HB.out HB.out.size hb); clear hb
 clear q0 q1 q2 q3
 have q0 : w2.cell? ⟨w.heap.size, 0, none⟩ = some (.slice A0 d.length c0) := (blk_cell HE2.out 0).trans rfl
 have q1 : w2.cell? ⟨w.heap.size, 1, none⟩ = some (.slice A1 a.length c1) := (blk_cell HE2.out 1).trans rfl
 have q2 : w2.cell? ⟨w.heap.size, 2, none⟩ = some (.int .i64 fl) := (blk_cell HE2.out 2).trans rfl
 have q3 : w2.cell? ⟨w.heap.size, 3, none⟩ = some (.int .i64 nx) := (blk_cell HE2.out 3).trans rfl
 go_wp2_with fail
 refine (manifest_odd.calls nx _ _ H3.out).mono ?_; rintro e w3 ⟨rfl, hb⟩
 replace hb := hb.below
 have HE3 := Aside0.mk ((hb.block _ (blk_lt HE2.out)).trans HE2.out); have HB3 := Aside0.mk (below_then HB2.out HB2.out.size hb); clear hb
 clear q0 q1 q2 q3
 have q0 : w3.cell? ⟨w.heap.size, 0, none⟩ = some (.slice A0 d.length c0) := (blk_cell HE3.out 0).trans rfl
 have q1 : w3.cell? ⟨w.heap.size, 1, none⟩ = some (.slice A1 a.length c1) := (blk_cell HE3.out 1).trans rfl
 have q2 : w3.cell? ⟨w.heap.size, 2, none⟩ = some (.int .i64 fl) := (blk_cell HE3.out 2).trans rfl
 have q3 : w3.cell? ⟨w.heap.size, 3, none⟩ = some (.int .i64 nx) := (blk_cell HE3.out 3).trans rfl
 go_wp2_with fail
 refine (manifest_right.contI A0 c0 d w3 w3 (Kd.C_below HR0.out HB3.out) HL0.out (Below.refl _ _)).mono ?_; rintro e w4 ⟨rfl, hb⟩
 rw [H4.out]
 have HE4 := Aside0.mk ((hb.block _ (blk_lt HE3.out)).trans HE3.out); have HB4 := Aside0.mk (below_then HB3.out HB3.out.size hb); clear hb
 clear q0 q1 q2 q3
 have q0 : w4.cell? ⟨w.heap.size, 0, none⟩ = some (.slice A0 d.length c0) := (blk_cell HE4.out 0).trans rfl
 have q1 : w4.cell? ⟨w.heap.size, 1, none⟩ = some (.slice A1 a.length c1) := (blk_cell HE4.out 1).trans rfl
 have q2 : w4.cell? ⟨w.heap.size, 2, none⟩ = some (.int .i64 fl) := (blk_cell HE4.out 2).trans rfl
 have q3 : w4.cell? ⟨w.heap.size, 3, none⟩ = some (.int .i64 nx) := (blk_cell HE4.out 3).trans rfl
 go_wp2_with fail
 refine (manifest_right.contP A1 c1 a w4 w4 (Kd.C_below HR1.out HB4.out) HL1.out (Below.refl _ _)).mono ?_; rintro e w5 ⟨rfl, hb⟩
 rw [H5.out]
 have HE5 := Aside0.mk ((hb.block _ (blk_lt HE4.out)).trans HE4.out); have HB5 := Aside0.mk (below_then HB4.out HB4.out.size hb); clear hb
 clear q0 q1 q2 q3
 have q0 : w5.cell? ⟨w.heap.size, 0, none⟩ = some (.slice A0 d.length c0) := (blk_cell HE5.out 0).trans rfl
 have q1 : w5.cell? ⟨w.heap.size, 1, none⟩ = some (.slice A1 a.length c1) := (blk_cell HE5.out 1).trans rfl
 have q2 : w5.cell? ⟨w.heap.size, 2, none⟩ = some (.int .i64 fl) := (blk_cell HE5.out 2).trans rfl
 have q3 : w5.cell? ⟨w.heap.size, 3, none⟩ = some (.int .i64 nx) := (blk_cell HE5.out 3).trans rfl
 go_wp2
 go_ret
 exact ⟨rfl, HB5.out⟩
set_option maxHeartbeats 2000000 in
set_option maxRecDepth 100000 in
theorem manifest_right.way6 (A0 : Option Addr) (c0 : Nat) (d : List Int) (A1 : Option Addr) (c1 : Nat) (a : List S36) (fl nx : Int) (w : World) (hr0 : (Kd.int .i64).C w A0 d.length d) (hr1 : k36.C w A1 a.length a) (h0 : decide (d.length ≤ 1000) = true) (h1 : decide (a.length ≤ 1000) = true) (h2 : oddI fl = false) (h3 : oddI nx = false) (h4 : (d.all fun x => !oddI x) = true) (h5 : (a.all fun x => !oddP x) = true) :
  Calls Try.prog 18 #[.agg #[.slice A0 d.length c0, .slice A1 a.length c1, .int .i64 fl, .int .i64 nx]] w fun e w' => e = .returned (.bool true) ∧ Below w.heap.size w w' := by
 have g0 : decide ((d.length : Int) ≤ 1000) = true := by rw [← h0]; simp; omega
 have g1 : decide ((a.length : Int) ≤ 1000) = true := by rw [← h1]; simp; omega
 have H2 := Aside0.mk ((odd_f fl).trans (congrArg some h2)); clear h2
 have H3 := Aside0.mk ((odd_f nx).trans (congrArg some h3)); clear h3
 have HR0 := Aside0.mk hr0; have HR1 := Aside0.mk hr1; clear hr0 hr1
 have H4 := Aside0.mk h4; have HL0 := Aside0.mk (of_decide_eq_true h0); clear h4
 have H5 := Aside0.mk h5; have HL1 := Aside0.mk (of_decide_eq_true h1); clear h5
 have hA := below_alloc (Below.refl w.heap.size w) (.cells #[.slice A0 d.length c0, .slice A1 a.length c1, .int .i64 fl, .int .i64 nx] 32)
 have HB := Aside0.mk hA
 have HE : Aside0 ((w.alloc (.cells #[.slice A0 d.length c0, .slice A1 a.length c1, .int .i64 fl, .int .i64 nx] 32)).heap[w.heap.size]? = some (.cells #[.slice A0 d.length c0, .slice A1 a.length c1, .int .i64 fl, .int .i64 nx] 32 (0, 0))) := ⟨heap_alloc_new w _⟩
 clear hA
 go_enter Try.func18, Try.ntmps18
 go_upto_region 1 with (fail)
 generalize World.alloc w _ = w1 at HB HE ⊢
 have q0 : w1.cell? ⟨w.heap.size, 0, none⟩ = some (.slice A0 d.length c0) := (blk_cell HE.out 0).trans rfl
 have q1 : w1.cell? ⟨w.heap.size, 1, none⟩ = some (.slice A1 a.length c1) := (blk_cell HE.out 1).trans rfl
 have q2 : w1.cell? ⟨w.heap.size, 2, none⟩ = some (.int .i64 fl) := (blk_cell HE.out 2).trans rfl
 have q3 : w1.cell? ⟨w.heap.size, 3, none⟩ = some (.int .i64 nx) := (blk_cell HE.out 3).trans rfl
 go_wp2_with fail
 refine (manifest_odd.calls fl _ _ H2.out).mono ?_; rintro e w2 ⟨rfl, hb⟩
 replace hb := hb.below
 have HE2 := Aside0.mk ((hb.block _ (blk_lt HE.out)).trans HE.out); have HB2 := Aside0.mk (below_then HB.out HB.out.size hb); clear hb
 clear q0 q1 q2 q3
 have q0 : w2.cell? ⟨w.heap.size, 0, none⟩ = some (.slice A0 d.length c0) := (blk_cell HE2.out 0).trans rfl
 have q1 : w2.cell? ⟨w.heap.size, 1, none⟩ = some (.slice A1 a.length c1) := (blk_cell HE2.out 1).trans rfl
 have q2 : w2.cell? ⟨w.heap.size, 2, none⟩ = some (.int .i64 fl) := (blk_cell HE2.out 2).trans rfl
 have q3 : w2.cell? ⟨w.heap.size, 3, none⟩ = some (.int .i64 nx) := (blk_cell HE2.out 3).trans rfl
 go_wp2_with fail
 refine (manifest_odd.calls nx _ _ H3.out).mono ?_; rintro e w3 ⟨rfl, hb⟩
 replace hb := hb.below
 have HE3 := Aside0.mk ((hb.block _ (blk_lt HE2.out)).trans HE2.out); have HB3 := Aside0.mk (below_then HB2.out HB2.out.size hb); clear hb
 clear q0 q1 q2 q3
 have q0 : w3.cell? ⟨w.heap.size, 0, none⟩ = some (.slice A0 d.length c0) := (blk_cell HE3.out 0).trans rfl
 have q1 : w3.cell? ⟨w.heap.size, 1, none⟩ = some (.slice A1 a.length c1) := (blk_cell HE3.out 1).trans rfl
 have q2 : w3.cell? ⟨w.heap.size, 2, none⟩ = some (.int .i64 fl) := (blk_cell HE3.out 2).trans rfl
 have q3 : w3.cell? ⟨w.heap.size, 3, none⟩ = some (.int .i64 nx) := (blk_cell HE3.out 3).trans rfl
 go_wp2_with fail
 refine (manifest_right.contI A0 c0 d w3 w3 (Kd.C_below HR0.out HB3.out) HL0.out (Below.refl _ _)).mono ?_; rintro e w4 ⟨rfl, hb⟩
 rw [H4.out]
 have HE4 := Aside0.mk ((hb.block _ (blk_lt HE3.out)).trans HE3.out); have HB4 := Aside0.mk (below_then HB3.out HB3.out.size hb); clear hb
 clear q0 q1 q2 q3
 have q0 : w4.cell? ⟨w.heap.size, 0, none⟩ = some (.slice A0 d.length c0) := (blk_cell HE4.out 0).trans rfl
 have q1 : w4.cell? ⟨w.heap.size, 1, none⟩ = some (.slice A1 a.length c1) := (blk_cell HE4.out 1).trans rfl
 have q2 : w4.cell? ⟨w.heap.size, 2, none⟩ = some (.int .i64 fl) := (blk_cell HE4.out 2).trans rfl
 have q3 : w4.cell? ⟨w.heap.size, 3, none⟩ = some (.int .i64 nx) := (blk_cell HE4.out 3).trans rfl
 go_wp2_with fail
 refine (manifest_right.contP A1 c1 a w4 w4 (Kd.C_below HR1.out HB4.out) HL1.out (Below.refl _ _)).mono ?_; rintro e w5 ⟨rfl, hb⟩
 rw [H5.out]
 have HE5 := Aside0.mk ((hb.block _ (blk_lt HE4.out)).trans HE4.out); have HB5 := Aside0.mk (below_then HB4.out HB4.out.size hb); clear hb
 clear q0 q1 q2 q3
 have q0 : w5.cell? ⟨w.heap.size, 0, none⟩ = some (.slice A0 d.length c0) := (blk_cell HE5.out 0).trans rfl
 have q1 : w5.cell? ⟨w.heap.size, 1, none⟩ = some (.slice A1 a.length c1) := (blk_cell HE5.out 1).trans rfl
 have q2 : w5.cell? ⟨w.heap.size, 2, none⟩ = some (.int .i64 fl) := (blk_cell HE5.out 2).trans rfl
 have q3 : w5.cell? ⟨w.heap.size, 3, none⟩ = some (.int .i64 nx) := (blk_cell HE5.out 3).trans rfl
 go_wp2
 go_ret
 exact ⟨rfl, HB5.out⟩
def manifest_right.f (l0_0 : List Int) (l0_1 : List S36) (a0_2 a0_3 : Int) : Option Bool := some (rightB l0_0 l0_1 a0_2 a0_3)
theorem manifest_right.calls (A0_0 : Option Addr) (c0_0 : Nat) (l0_0 : List Int) (A0_1 : Option Addr) (c0_1 : Nat) (l0_1 : List S36) (a0_2 : Int) (a0_3 : Int) (r : Bool) (w : World) (hr0_0 : Kd.C (Kd.int .i64) w A0_0 l0_0.length l0_0) (hc0_0 : l0_0.length ≤ c0_0) (hr0_1 : Kd.C k36 w A0_1 l0_1.length l0_1) (hc0_1 : l0_1.length ≤ c0_1) (h : manifest_right.f l0_0 l0_1 a0_2 a0_3 = some r) :
  Calls Try.prog 18 #[.agg #[.slice A0_0 l0_0.length c0_0, .slice A0_1 l0_1.length c0_1, .int .i64 a0_2, .int .i64 a0_3]] w fun e w' => e = .returned (.bool r) ∧ Below w.heap.size w w' := by
 unfold manifest_right.f at h
 obtain rfl := Option.some.inj h
 cases h0 : decide (l0_0.length ≤ 1000)
 ·have e : rightB l0_0 l0_1 a0_2 a0_3 = false := by unfold rightB; rw [h0]; rfl
  rw [e]; exact manifest_right.way0 A0_0 c0_0 l0_0 A0_1 c0_1 l0_1 a0_2 a0_3 w hr0_0 hr0_1 h0
 ·cases h1 : decide (l0_1.length ≤ 1000)
  ·have e : rightB l0_0 l0_1 a0_2 a0_3 = false := by unfold rightB; rw [h0, h1]; rfl
   rw [e]; exact manifest_right.way1 A0_0 c0_0 l0_0 A0_1 c0_1 l0_1 a0_2 a0_3 w hr0_0 hr0_1 h0 h1
  ·cases h2 : oddI a0_2
   ·cases h3 : oddI a0_3
    ·cases h4 : (l0_0.all fun x => !oddI x)
     ·have e : rightB l0_0 l0_1 a0_2 a0_3 = false := by unfold rightB; rw [h0, h1, h2, h3, h4]; rfl
      rw [e]; exact manifest_right.way4 A0_0 c0_0 l0_0 A0_1 c0_1 l0_1 a0_2 a0_3 w hr0_0 hr0_1 h0 h1 h2 h3 h4
     ·cases h5 : (l0_1.all fun x => !oddP x)
      ·have e : rightB l0_0 l0_1 a0_2 a0_3 = false := by unfold rightB; rw [h0, h1, h2, h3, h4, h5]; rfl
       rw [e]; exact manifest_right.way5 A0_0 c0_0 l0_0 A0_1 c0_1 l0_1 a0_2 a0_3 w hr0_0 hr0_1 h0 h1 h2 h3 h4 h5
      ·have e : rightB l0_0 l0_1 a0_2 a0_3 = true := by unfold rightB; rw [h0, h1, h2, h3, h4, h5]; rfl
       rw [e]; exact manifest_right.way6 A0_0 c0_0 l0_0 A0_1 c0_1 l0_1 a0_2 a0_3 w hr0_0 hr0_1 h0 h1 h2 h3 h4 h5
    ·have e : rightB l0_0 l0_1 a0_2 a0_3 = false := by unfold rightB; rw [h0, h1, h2, h3]; rfl
     rw [e]; exact manifest_right.way3 A0_0 c0_0 l0_0 A0_1 c0_1 l0_1 a0_2 a0_3 w hr0_0 hr0_1 h0 h1 h2 h3
   ·have e : rightB l0_0 l0_1 a0_2 a0_3 = false := by unfold rightB; rw [h0, h1, h2]; rfl
    rw [e]; exact manifest_right.way2 A0_0 c0_0 l0_0 A0_1 c0_1 l0_1 a0_2 a0_3 w hr0_0 hr0_1 h0 h1 h2
end Go.Proofs.Ytagokgijffpdnaa.G
namespace Go.Proofs.Ytagokgijffpdnaa.G
open Go.RowKit Go.Proofs.YtagokgijffpdnaaQ Go.Proofs.YtagokgijffpdnaaW.PrintWords Go.Proofs.YtagokgijffpdnaaW.PrintLast Go.Proofs.YtagokgijffpdnaaW.PrintMore
attribute [local go_sem] max2_int min2_int max_two min_two max_three min_three max_four min_four   -- for this text's walks alone
set_option linter.unusedVariables false
set_option linter.unusedSimpArgs false
attribute [local go_sem high] eqA36
def idsOf (l : List S36) : List Int := l.map fun p => p.f0
def keptL (s : List S36) (d : List Int) : List S36 := s.filter fun p => !d.contains p.f0
def goodD (s : List S36) (d : List Int) (x : Int) : Bool := decide (d.count x ≤ 1) && (idsOf s).contains x
def addB (nx : Int) : List Int → List S36 → Bool
 | _, [] => true
 | ids, p :: l => !decide (nx ≤ p.f0) && (!ids.contains p.f0 && addB nx (ids ++ [p.f0]) l)
def applyL (s : List S36) (sf sn : Int) (d : List Int) (a : List S36) (fl nx : Int) : List S36 × Int × Int × Int :=
 if (rightB d a fl nx && (decide (sf ≤ fl) && (decide (sn ≤ nx) && (d.all (goodD s d) && addB nx (idsOf (keptL s d)) a)))) = true then (keptL s d ++ a, fl, nx, 0) else ([], 0, 0, 8)
def wfP (s : List S36) : Bool := s.all fun p => (Lit.int .i64 p.f0).wf
theorem wf_rd {s : List S36} (h : wfP s = true) {i : Nat} (hi : i < s.length) : (Lit.int .i64 (rd_T36 s (i : Int)).f0).wf = true := by
 unfold wfP at h
 rw [List.all_eq_true] at h
 have := h s[i] (List.getElem_mem hi)
 unfold rd_T36
 rw [Int.toNat_natCast, List.getD_eq_getElem?_getD, List.getElem?_eq_getElem hi]
 exact this
theorem rdP_take {s : List S36} {i : Nat} (hi : i < s.length) : s.take (i + 1) = s.take i ++ [rd_T36 s (i : Int)] := by
 rw [List.take_succ_eq_append_getElem hi]
 unfold rd_T36
 rw [Int.toNat_natCast, List.getD_eq_getElem?_getD, List.getElem?_eq_getElem hi]; rfl
theorem rdP_drop {s : List S36} {i : Nat} (hi : i < s.length) : s.drop i = rd_T36 s (i : Int) :: s.drop (i + 1) := by
 rw [List.drop_eq_getElem_cons hi]
 unfold rd_T36
 rw [Int.toNat_natCast, List.getD_eq_getElem?_getD, List.getElem?_eq_getElem hi]; rfl
theorem rdI_take {s : List Int} {i : Nat} (hi : i < s.length) : s.take (i + 1) = s.take i ++ [rd s (i : Int)] := by
 rw [List.take_succ_eq_append_getElem hi]
 unfold rd
 rw [Int.toNat_natCast, List.getD_eq_getElem?_getD, List.getElem?_eq_getElem hi]; rfl
theorem right_d {d : List Int} {a : List S36} {fl nx : Int} (h : rightB d a fl nx = true) : d.length ≤ 1000 ∧ a.length ≤ 1000 ∧ (∀ x ∈ d, 0 ≤ x ∧ x ≤ 999999999) ∧ (∀ p ∈ a, 0 ≤ p.f0 ∧ p.f0 ≤ 999999999) ∧ (0 ≤ fl ∧ fl ≤ 999999999) ∧ (0 ≤ nx ∧ nx ≤ 999999999) := by
 unfold rightB at h
 simp only [Bool.and_eq_true, decide_eq_true_eq, Bool.not_eq_true', List.all_eq_true] at h
 obtain ⟨h1, h2, h3, h4, h5, h6⟩ := h
 have odd : ∀ n, oddI n = false → 0 ≤ n ∧ n ≤ 999999999 := fun n hn => by unfold oddI at hn; simp at hn; omega
 refine ⟨h1, h2, fun x hx => odd x (h5 x hx), fun p hp => ?_, odd _ h3, odd _ h4⟩
 have := h6 p hp
 unfold oddP at this
 simp only [Bool.or_eq_false_iff] at this
 exact odd _ this.1
def FrA (w W : World) (SC EC : Array Value) : Prop := W.heap[w.heap.size]? = some (.cells SC 26 (0, 0)) ∧ W.heap[w.heap.size + 1]? = some (.cells EC 32 (0, 0)) ∧ W.heap[w.heap.size + 2]? = some (.cells #[.slice none 0 0, .int .i64 0, .int .i64 0] 26 (0, 0)) ∧ Below w.heap.size w W
section
variable {w W W' : World} {SC EC : Array Value}
theorem FrA.lt (h : FrA w W SC EC) : w.heap.size + 3 ≤ W.heap.size := by have := blk_lt h.2.2.1; omega
theorem FrA.below (h : FrA w W SC EC) (hb : Below W.heap.size W W') : FrA w W' SC EC :=
 ⟨(hb.block _ (blk_lt h.1)).trans h.1, (hb.block _ (blk_lt h.2.1)).trans h.2.1, (hb.block _ (blk_lt h.2.2.1)).trans h.2.2.1, below_then h.2.2.2 h.2.2.2.size hb⟩
theorem FrA.grown {row : Option Nat} (h : FrA w W SC EC) (hg : W.grownBy W' row) (hr : ∀ k, row = some k → w.heap.size + 3 ≤ k) : FrA w W' SC EC :=
 have hn : ∀ j, j < w.heap.size + 3 → some j ≠ row := fun j hj e => by have := hr j e.symm; omega
 ⟨(hg.block _ (blk_lt h.1) (hn _ (by omega))).trans h.1, (hg.block _ (blk_lt h.2.1) (hn _ (by omega))).trans h.2.1, (hg.block _ (blk_lt h.2.2.1) (hn _ (by omega))).trans h.2.2.1, h.2.2.2.grown hg h.2.2.2.size (fun j hj => by have := hr j hj; omega)⟩
theorem FrA.own (h : FrA w W SC EC) {v : Value} {xs : List S36} (ho : Kd.R k36 36 W w.heap.size (fun _ => True) v xs) (k : Nat) (hk : v.ownBlock = some k) : w.heap.size + 3 ≤ k := by
 have h0 := Kd.R_base ho k hk
 have h1 := Kd.R_ne ho h.1 (by decide)
 have h2 := Kd.R_ne ho h.2.1 (by decide)
 have h3 := Kd.R_ne ho h.2.2.1 (by decide)
 rw [hk] at h1 h2 h3
 have e1 : w.heap.size ≠ k := fun e => h1 (by rw [e])
 have e2 : w.heap.size + 1 ≠ k := fun e => h2 (by rw [e])
 have e3 : w.heap.size + 2 ≠ k := fun e => h3 (by rw [e])
 omega
theorem FrA.put (h : FrA w W SC EC) (a b c : Value) : Below w.heap.size w (((W.setCell ⟨w.heap.size + 2, 0, none⟩ a).setCell ⟨w.heap.size + 2, 1, none⟩ b).setCell ⟨w.heap.size + 2, 2, none⟩ c) := below_set (below_set (below_set h.2.2.2 (by omega)) (by omega)) (by omega)
end
theorem idsOf_snoc (l : List S36) (p : S36) : idsOf (l ++ [p]) = idsOf l ++ [p.f0] := by simp [idsOf]
theorem keptL_drop {l : List S36} {d : List Int} {p : S36} (h : p.f0 ∈ d) : keptL (l ++ [p]) d = keptL l d := by simp [keptL, h]
theorem keptL_keep {l : List S36} {d : List Int} {p : S36} (h : ¬ p.f0 ∈ d) : keptL (l ++ [p]) d = keptL l d ++ [p] := by simp [keptL, h]
theorem ids_yes {l d : List Int} {x : Int} (h : x ∈ d) (z : Int) : (if z = x then (-1 : Int) else if z ∈ l then (if z ∈ d then -1 else 1) else 0) = if z ∈ l ++ [x] then (if z ∈ d then -1 else 1) else 0 := by
 by_cases e : z = x
 ·subst e; simp [h]
 ·simp [e]
theorem ids_no {l d : List Int} {x : Int} (h : ¬ x ∈ d) (z : Int) : (if z = x then (1 : Int) else if z ∈ l then (if z ∈ d then -1 else 1) else 0) = if z ∈ l ++ [x] then (if z ∈ d then -1 else 1) else 0 := by
 by_cases e : z = x
 ·subst e; simp [h]
 ·simp [e]
theorem R_far {W W' : World} {B base : Nat} {v : Value} {xs : List S36} (h : Kd.R k36 36 W base (fun _ => True) v xs) (hg : W.grownBy W' (some B)) (hne : some B ≠ v.ownBlock) : Kd.R k36 36 W' base (fun _ => True) v xs :=
 Kd.R_mono (Kd.R_kept (S := fun k => k = B) (Kd.R_tight rfl h) (Kept.of_grown hg (Kept.refl W (fun k => k = B)) (fun k hk => .inl (by cases hk; rfl))) (fun k hk hs => hne (by rw [← hs]; exact hk))) (fun _ _ => trivial)
theorem R_none {W W' : World} {base : Nat} {v : Value} {xs : List S36} (h : Kd.R k36 36 W base (fun _ => True) v xs) (hg : W.grownBy W' none) : Kd.R k36 36 W' base (fun _ => True) v xs :=
 Kd.R_kept (S := fun k => False) h (Kept.of_grown hg (Kept.refl W (fun _ => False)) (fun k hk => by cases hk)) (fun _ _ h => h)
theorem all_bad {s : List S36} {d : List Int} {x : Int} (hx : x ∈ d) (h : goodD s d x = false) : d.all (goodD s d) = false := List.all_eq_false.mpr ⟨x, hx, by simp [h]⟩
theorem ids_kept {s : List S36} {d : List Int} (x : Int) : (0 < (if x ∈ idsOf s then (if x ∈ d then (-1 : Int) else 1) else 0)) ↔ x ∈ idsOf (keptL s d) := by
 have e : x ∈ idsOf (keptL s d) ↔ (x ∈ idsOf s ∧ ¬ x ∈ d) := by
  unfold idsOf keptL
  simp only [List.mem_map, List.mem_filter]
  constructor
  ·rintro ⟨p, ⟨h1, h2⟩, rfl⟩; exact ⟨⟨p, h1, rfl⟩, by simpa using h2⟩
  ·rintro ⟨⟨p, h1, rfl⟩, h2⟩; exact ⟨p, ⟨h1, by simpa using h2⟩, rfl⟩
 rw [e]
 by_cases h1 : x ∈ idsOf s <;> by_cases h2 : x ∈ d <;> simp [h1, h2]
theorem idsOf_app (l m : List S36) : idsOf (l ++ m) = idsOf l ++ idsOf m := by simp [idsOf]
theorem ids_has {l : List Int} {x : Int} (z : Int) : (decide (z = x) || decide (z ∈ l)) = decide (z ∈ l ++ [x]) := by
 by_cases e : z = x <;> simp [e]
set_option maxHeartbeats 2000000 in
set_option maxRecDepth 100000 in
theorem manifest_Apply.no (A0 : Option Addr) (c0 : Nat) (s : List S36) (sf sn : Int) (A1 : Option Addr) (c1 : Nat) (d : List Int) (A2 : Option Addr) (c2 : Nat) (a : List S36) (fl nx : Int) (w : World) (hr0 : Kd.C k36 w A0 s.length s) (hc0 : s.length ≤ c0) (hr1 : Kd.C (Kd.int .i64) w A1 d.length d) (hc1 : d.length ≤ c1) (hr2 : Kd.C k36 w A2 a.length a) (hc2 : a.length ≤ c2) (rb : Bool) (hrb : manifest_right.f d a fl nx = some rb) (h : rb = false ∨ (fl < sf ∨ nx < sn)) : Calls Try.prog 9 #[.agg #[.slice A0 s.length c0, .int .i64 sf, .int .i64 sn], .agg #[.slice A1 d.length c1, .slice A2 a.length c2, .int .i64 fl, .int .i64 nx]] w fun e w' => ∃ v0_ : Value, e = .returned (.tuple #[.agg #[v0_, .int .i64 0, .int .i64 0], .int .i64 8]) ∧ Kd.R k36 36 w' w.heap.size (fun _ => True) v0_ [] ∧ Below w.heap.size w w' := by
 have HRB := Aside0.mk hrb; clear hrb
 obtain ⟨b1, h1⟩ : ∃ b1, decide (fl < sf) = b1 := ⟨_, rfl⟩
 obtain ⟨b2, h2⟩ : ∃ b2, decide (nx < sn) = b2 := ⟨_, rfl⟩
 have h3 : rb = false ∨ (b1 = true ∨ b2 = true) := by rw [← h1, ← h2]; simpa using h
 have H3 := Aside0.mk h3; clear h h3
 have HR0 := Aside0.mk hr0; have HR1 := Aside0.mk hr1; have HR2 := Aside0.mk hr2; have HC1 := Aside0.mk hc1; have HC2 := Aside0.mk hc2; clear hr0 hr1 hr2 hc1 hc2
 have HF : Aside0 (FrA w (((w.alloc (.cells #[.slice A0 s.length c0, .int .i64 sf, .int .i64 sn] 26)).alloc (.cells #[.slice A1 d.length c1, .slice A2 a.length c2, .int .i64 fl, .int .i64 nx] 32)).alloc (.cells #[.slice none 0 0, .int .i64 0, .int .i64 0] 26)) #[.slice A0 s.length c0, .int .i64 sf, .int .i64 sn] #[.slice A1 d.length c1, .slice A2 a.length c2, .int .i64 fl, .int .i64 nx]) := ⟨by
  have b1 := heap_alloc_new w (.cells #[.slice A0 s.length c0, .int .i64 sf, .int .i64 sn] 26)
  have b2 := heap_alloc_new (w.alloc (.cells #[.slice A0 s.length c0, .int .i64 sf, .int .i64 sn] 26)) (.cells #[.slice A1 d.length c1, .slice A2 a.length c2, .int .i64 fl, .int .i64 nx] 32)
  have b3 := heap_alloc_new ((w.alloc (.cells #[.slice A0 s.length c0, .int .i64 sf, .int .i64 sn] 26)).alloc (.cells #[.slice A1 d.length c1, .slice A2 a.length c2, .int .i64 fl, .int .i64 nx] 32)) (.cells #[.slice none 0 0, .int .i64 0, .int .i64 0] 26)
  have e1 : (w.alloc (.cells #[.slice A0 s.length c0, .int .i64 sf, .int .i64 sn] 26)).heap.size = w.heap.size + 1 := by simp
  have e2 : ((w.alloc (.cells #[.slice A0 s.length c0, .int .i64 sf, .int .i64 sn] 26)).alloc (.cells #[.slice A1 d.length c1, .slice A2 a.length c2, .int .i64 fl, .int .i64 nx] 32)).heap.size = w.heap.size + 2 := by simp
  rw [e1] at b2; rw [e2] at b3
  exact ⟨blk_alloc (blk_alloc b1 _) _, blk_alloc b2 _, b3, below_alloc (below_alloc (below_alloc (Below.refl _ _) _) _) _⟩⟩
 go_enter Try.func9, Try.ntmps9
 go_upto_region 1 with (fail)
 generalize World.alloc (World.alloc (World.alloc w _) _) _ = w1 at HF ⊢
 have qs0 : w1.cell? ⟨w.heap.size, 0, none⟩ = some (.slice A0 s.length c0) := (blk_cell HF.out.1 0).trans rfl
 have qs1 : w1.cell? ⟨w.heap.size, 1, none⟩ = some (.int .i64 sf) := (blk_cell HF.out.1 1).trans rfl
 have qs2 : w1.cell? ⟨w.heap.size, 2, none⟩ = some (.int .i64 sn) := (blk_cell HF.out.1 2).trans rfl
 have qe0 : w1.cell? ⟨w.heap.size + 1, 0, none⟩ = some (.slice _ d.length c1) := (blk_cell HF.out.2.1 0).trans rfl
 have qe1 : w1.cell? ⟨w.heap.size + 1, 1, none⟩ = some (.slice _ a.length c2) := (blk_cell HF.out.2.1 1).trans rfl
 have qe2 : w1.cell? ⟨w.heap.size + 1, 2, none⟩ = some (.int .i64 fl) := (blk_cell HF.out.2.1 2).trans rfl
 have qe3 : w1.cell? ⟨w.heap.size + 1, 3, none⟩ = some (.int .i64 nx) := (blk_cell HF.out.2.1 3).trans rfl
 go_wp2_with fail
 refine (manifest_right.calls A1 c1 d A2 c2 a fl nx rb w1 (Kd.C_below HR1.out HF.out.2.2.2) HC1.out (Kd.C_below HR2.out HF.out.2.2.2) HC2.out HRB.out).mono ?_; rintro e w2 ⟨rfl, hb2⟩
 have HF2 := Aside0.mk (HF.out.below hb2)
 clear hb2 HF
 clear qs0 qs1 qs2 qe0 qe1 qe2 qe3
 have h3 := H3.out; clear H3
 cases rb <;> cases b1 <;> cases b2
 case true.false.false => simp at h3
 all_goals
  clear h3
  have qs0 : w2.cell? ⟨w.heap.size, 0, none⟩ = some (.slice A0 s.length c0) := (blk_cell HF2.out.1 0).trans rfl
  have qs1 : w2.cell? ⟨w.heap.size, 1, none⟩ = some (.int .i64 sf) := (blk_cell HF2.out.1 1).trans rfl
  have qs2 : w2.cell? ⟨w.heap.size, 2, none⟩ = some (.int .i64 sn) := (blk_cell HF2.out.1 2).trans rfl
  have qe0 : w2.cell? ⟨w.heap.size + 1, 0, none⟩ = some (.slice _ d.length c1) := (blk_cell HF2.out.2.1 0).trans rfl
  have qe1 : w2.cell? ⟨w.heap.size + 1, 1, none⟩ = some (.slice _ a.length c2) := (blk_cell HF2.out.2.1 1).trans rfl
  have qe2 : w2.cell? ⟨w.heap.size + 1, 2, none⟩ = some (.int .i64 fl) := (blk_cell HF2.out.2.1 2).trans rfl
  have qe3 : w2.cell? ⟨w.heap.size + 1, 3, none⟩ = some (.int .i64 nx) := (blk_cell HF2.out.2.1 3).trans rfl
  have qr0 : w2.cell? ⟨w.heap.size + 2, 0, none⟩ = some (.slice none 0 0) := (blk_cell HF2.out.2.2.1 0).trans rfl
  have qr1 : w2.cell? ⟨w.heap.size + 2, 1, none⟩ = some (.int .i64 0) := (blk_cell HF2.out.2.2.1 1).trans rfl
  have qr2 : w2.cell? ⟨w.heap.size + 2, 2, none⟩ = some (.int .i64 0) := (blk_cell HF2.out.2.2.1 2).trans rfl
  have qf0 := blk_frozen HF2.out.2.2.1 0
  have qf1 := blk_frozen HF2.out.2.2.1 1
  have qf2 := blk_frozen HF2.out.2.2.1 2
  go_wp2
  refine bodyPost_ret (v := .tuple #[.agg #[.slice none 0 0, .int .i64 0, .int .i64 0], .int .i64 8]) ?_ rfl ⟨_, rfl, Kd.R_nil _ _ _ _ _, HF2.out.put _ _ _⟩
  simp [results, Try.results9, go_sem, *]
set_option maxHeartbeats 16000000 in
set_option maxRecDepth 100000 in
theorem manifest_Apply.yes (A0 : Option Addr) (c0 : Nat) (s : List S36) (sf sn : Int) (A1 : Option Addr) (c1 : Nat) (d : List Int) (A2 : Option Addr) (c2 : Nat) (a : List S36) (fl nx : Int) (w : World) (hr0 : Kd.C k36 w A0 s.length s) (hc0 : s.length ≤ c0) (hr1 : Kd.C (Kd.int .i64) w A1 d.length d) (hc1 : d.length ≤ c1) (hr2 : Kd.C k36 w A2 a.length a) (hc2 : a.length ≤ c2) (hrb : manifest_right.f d a fl nx = some true) (h1 : decide (fl < sf) = false) (h2 : decide (nx < sn) = false) (hwf : wfP s = true) (hsl : s.length ≤ 1759218604390) (hd : d.length ≤ 1000) (ha : a.length ≤ 1000) (hdx : ∀ x ∈ d, 0 ≤ x ∧ x ≤ 999999999) (hax : ∀ p ∈ a, 0 ≤ p.f0 ∧ p.f0 ≤ 999999999)
  {r1 : List S36} {r2 r3 r4 : Int} (hq : (if (d.all (goodD s d) && addB nx (idsOf (keptL s d)) a) = true then (keptL s d ++ a, fl, nx, (0 : Int)) else ([], 0, 0, 8)) = (r1, r2, r3, r4)) : Calls Try.prog 9 #[.agg #[.slice A0 s.length c0, .int .i64 sf, .int .i64 sn], .agg #[.slice A1 d.length c1, .slice A2 a.length c2, .int .i64 fl, .int .i64 nx]] w fun e w' => ∃ v0_ : Value, e = .returned (.tuple #[.agg #[v0_, .int .i64 r2, .int .i64 r3], .int .i64 r4]) ∧ Kd.R k36 36 w' w.heap.size (fun _ => True) v0_ r1 ∧ Below w.heap.size w w' := by
 have HRB := Aside0.mk hrb; have HWF := Aside0.mk hwf; have HDX := Aside0.mk hdx; have HAX := Aside0.mk hax; have HQ := Aside0.mk hq; have HSL := Aside0.mk hsl; have HD := Aside0.mk hd; have HA := Aside0.mk ha; have HC0 := Aside0.mk hc0
 clear hrb hwf hdx hax hq hsl hd ha hc0
 obtain ⟨rb, hrb⟩ : ∃ rb, rb = true := ⟨true, rfl⟩
 rw [← hrb] at HRB
 have hmm := @run_makeMap Try.prog
 have HR0 := Aside0.mk hr0; have HR1 := Aside0.mk hr1; have HR2 := Aside0.mk hr2; have HC1 := Aside0.mk hc1; have HC2 := Aside0.mk hc2; clear hr0 hr1 hr2 hc1 hc2
 have HF : Aside0 (FrA w (((w.alloc (.cells #[.slice A0 s.length c0, .int .i64 sf, .int .i64 sn] 26)).alloc (.cells #[.slice A1 d.length c1, .slice A2 a.length c2, .int .i64 fl, .int .i64 nx] 32)).alloc (.cells #[.slice none 0 0, .int .i64 0, .int .i64 0] 26)) #[.slice A0 s.length c0, .int .i64 sf, .int .i64 sn] #[.slice A1 d.length c1, .slice A2 a.length c2, .int .i64 fl, .int .i64 nx]) := ⟨by
  have b1 := heap_alloc_new w (.cells #[.slice A0 s.length c0, .int .i64 sf, .int .i64 sn] 26)
  have b2 := heap_alloc_new (w.alloc (.cells #[.slice A0 s.length c0, .int .i64 sf, .int .i64 sn] 26)) (.cells #[.slice A1 d.length c1, .slice A2 a.length c2, .int .i64 fl, .int .i64 nx] 32)
  have b3 := heap_alloc_new ((w.alloc (.cells #[.slice A0 s.length c0, .int .i64 sf, .int .i64 sn] 26)).alloc (.cells #[.slice A1 d.length c1, .slice A2 a.length c2, .int .i64 fl, .int .i64 nx] 32)) (.cells #[.slice none 0 0, .int .i64 0, .int .i64 0] 26)
  have e1 : (w.alloc (.cells #[.slice A0 s.length c0, .int .i64 sf, .int .i64 sn] 26)).heap.size = w.heap.size + 1 := by simp
  have e2 : ((w.alloc (.cells #[.slice A0 s.length c0, .int .i64 sf, .int .i64 sn] 26)).alloc (.cells #[.slice A1 d.length c1, .slice A2 a.length c2, .int .i64 fl, .int .i64 nx] 32)).heap.size = w.heap.size + 2 := by simp
  rw [e1] at b2; rw [e2] at b3
  exact ⟨blk_alloc (blk_alloc b1 _) _, blk_alloc b2 _, b3, below_alloc (below_alloc (below_alloc (Below.refl _ _) _) _) _⟩⟩
 go_enter Try.func9, Try.ntmps9
 go_upto_region 1 with (fail)
 generalize World.alloc (World.alloc (World.alloc w _) _) _ = w1 at HF ⊢
 have qs0 : w1.cell? ⟨w.heap.size, 0, none⟩ = some (.slice A0 s.length c0) := (blk_cell HF.out.1 0).trans rfl
 have qs1 : w1.cell? ⟨w.heap.size, 1, none⟩ = some (.int .i64 sf) := (blk_cell HF.out.1 1).trans rfl
 have qs2 : w1.cell? ⟨w.heap.size, 2, none⟩ = some (.int .i64 sn) := (blk_cell HF.out.1 2).trans rfl
 have qe0 : w1.cell? ⟨w.heap.size + 1, 0, none⟩ = some (.slice _ d.length c1) := (blk_cell HF.out.2.1 0).trans rfl
 have qe1 : w1.cell? ⟨w.heap.size + 1, 1, none⟩ = some (.slice _ a.length c2) := (blk_cell HF.out.2.1 1).trans rfl
 have qe2 : w1.cell? ⟨w.heap.size + 1, 2, none⟩ = some (.int .i64 fl) := (blk_cell HF.out.2.1 2).trans rfl
 have qe3 : w1.cell? ⟨w.heap.size + 1, 3, none⟩ = some (.int .i64 nx) := (blk_cell HF.out.2.1 3).trans rfl
 go_wp2_with fail
 refine (manifest_right.calls A1 c1 d A2 c2 a fl nx rb w1 (Kd.C_below HR1.out HF.out.2.2.2) HC1.out (Kd.C_below HR2.out HF.out.2.2.2) HC2.out HRB.out).mono ?_; rintro e w2 ⟨rfl, hb2⟩
 have HF2 := Aside0.mk (HF.out.below hb2)
 clear hb2 HF
 clear qs0 qs1 qs2 qe0 qe1 qe2 qe3
 subst hrb
 have qs0 : w2.cell? ⟨w.heap.size, 0, none⟩ = some (.slice A0 s.length c0) := (blk_cell HF2.out.1 0).trans rfl
 have qs1 : w2.cell? ⟨w.heap.size, 1, none⟩ = some (.int .i64 sf) := (blk_cell HF2.out.1 1).trans rfl
 have qs2 : w2.cell? ⟨w.heap.size, 2, none⟩ = some (.int .i64 sn) := (blk_cell HF2.out.1 2).trans rfl
 have qe0 : w2.cell? ⟨w.heap.size + 1, 0, none⟩ = some (.slice _ d.length c1) := (blk_cell HF2.out.2.1 0).trans rfl
 have qe1 : w2.cell? ⟨w.heap.size + 1, 1, none⟩ = some (.slice _ a.length c2) := (blk_cell HF2.out.2.1 1).trans rfl
 have qe2 : w2.cell? ⟨w.heap.size + 1, 2, none⟩ = some (.int .i64 fl) := (blk_cell HF2.out.2.1 2).trans rfl
 have qe3 : w2.cell? ⟨w.heap.size + 1, 3, none⟩ = some (.int .i64 nx) := (blk_cell HF2.out.2.1 3).trans rfl
 go_upto_region 4 with (fail)
 clear qs0 qs1 qs2 qe0 qe1 qe2 qe3
 have HM1 := Aside0.mk (MI.made w2)
 have HF3 := Aside0.mk (HF2.out.below (below_alloc (Below.refl _ _) (.map #[] 0)))
 have HB1 := Aside0.mk HF2.out.lt
 clear HF2
 generalize w2.heap.size = B1 at HM1 HB1 ⊢
 generalize World.alloc w2 _ = w3 at HM1 HF3 ⊢
 have qs0 : w3.cell? ⟨w.heap.size, 0, none⟩ = some (.slice A0 s.length c0) := (blk_cell HF3.out.1 0).trans rfl
 have qs1 : w3.cell? ⟨w.heap.size, 1, none⟩ = some (.int .i64 sf) := (blk_cell HF3.out.1 1).trans rfl
 have qs2 : w3.cell? ⟨w.heap.size, 2, none⟩ = some (.int .i64 sn) := (blk_cell HF3.out.1 2).trans rfl
 have qe0 : w3.cell? ⟨w.heap.size + 1, 0, none⟩ = some (.slice _ d.length c1) := (blk_cell HF3.out.2.1 0).trans rfl
 have qe1 : w3.cell? ⟨w.heap.size + 1, 1, none⟩ = some (.slice _ a.length c2) := (blk_cell HF3.out.2.1 1).trans rfl
 have qe2 : w3.cell? ⟨w.heap.size + 1, 2, none⟩ = some (.int .i64 fl) := (blk_cell HF3.out.2.1 2).trans rfl
 have qe3 : w3.cell? ⟨w.heap.size + 1, 3, none⟩ = some (.int .i64 nx) := (blk_cell HF3.out.2.1 3).trans rfl
 go_wp2_with fail
 clear qs0 qs1 qs2 qe0 qe1 qe2 qe3
 go_loopg [39] d.length (fun gq u wx => ∃ i : Nat, i ≤ d.length ∧ gq = d.length - i ∧ u = .int .i64 (i : Int) ∧ Aside0 (MI wx B1 i (fun x => ((d.take i).count x : Int)) (fun x => (d.take i).contains x)) ∧ Aside0 (FrA w wx #[.slice A0 s.length c0, .int .i64 sf, .int .i64 sn] #[.slice A1 d.length c1, .slice A2 a.length c2, .int .i64 fl, .int .i64 nx]))
 case atStart => exact ⟨0, by omega, by omega, rfl, ⟨HM1.out.congr (fun _ _ => by simp) (fun _ _ => by simp)⟩, HF3⟩
 case round =>
  clear HM1 HF3
  obtain ⟨i, hi, rfl, rfl, HM, HF⟩ := hrel
  by_cases hlt : i < d.length
  ·obtain ⟨g1, hg1⟩ : ∃ g1, d.length - i = g1 + 1 := ⟨d.length - i - 1, by omega⟩
   have k1 : decide ((i : Int) < (d.length : Int)) = true := decide_eq_true (by omega)
   have k2 : decide (i < d.length) = true := decide_eq_true hlt
   obtain ⟨ad, hA, hx0⟩ := Kd.at_int (Kd.C_below HR1.out HF.out.2.2.2) (i : Int) (by omega) (by omega)
   rw [Int.toNat_natCast] at hx0
   cases hA
   have i1 : (0 : Int) ≤ (i : Int) := by omega
   have i2 : (i : Int) < (d.length : Int) := by omega
   replace i1 := eq_true i1; replace i2 := eq_true i2
   have hxd := HDX.out (rd d (i : Int)) (by unfold rd; rw [Int.toNat_natCast, List.getD_eq_getElem?_getD, List.getElem?_eq_getElem hlt]; exact List.getElem_mem hlt)
   have htk := rdI_take hlt
   generalize rd d (i : Int) = x at hx0 hxd htk ⊢
   have HX := Aside0.mk (wf_of (x := x) (by omega) (by omega))
   have HTK := Aside0.mk htk; clear htk
   have hlook := HM.out.look HX.out
   obtain ⟨m, hm⟩ : ∃ m, (d.take i).count x = m := ⟨_, rfl⟩
   have hml : m ≤ 1000 := by have h1 := List.count_le_length (a := x) (l := d.take i); rw [List.length_take] at h1; have := HD.out; omega
   rw [hm] at hlook
   have hib : i ≤ 1000 := by have := HD.out; omega
   have HMM := Aside0.mk hm; have HML := Aside0.mk hml; have HI := Aside0.mk hi; have HLT := Aside0.mk hlt; clear hm hi hlt
   go_wp2_with (at_mapUpdate; refine mi_put rfl _ _ _ rfl rfl HM.out (by unfold maxLen; have := HLT.out; have := HD.out; omega) rfl rfl HX.out (wf_of (by omega) (by omega)) ?_; intro w5 hm5 hg5; have HM5 := Aside0.mk hm5; have HG5 := Aside0.mk hg5; clear hm5 hg5; go_frame)
   go_roundg g1
   case measure => omega
   case rel => exact ⟨i + 1, by have := HLT.out; omega, by omega, by go_num, ⟨HM5.out.congr (fun z _ => by
     rw [HTK.out, List.count_append, List.count_singleton]
     by_cases e : z = x
     ·subst e; rw [if_pos rfl, HMM.out]; simp
     ·rw [if_neg e]; simp [Ne.symm e]) (fun z _ => by
     rw [HTK.out]; simp [List.contains_eq_mem, or_comm])⟩, ⟨HF.out.grown HG5.out (fun k hk => by cases hk; exact HB1.out)⟩⟩
  ·obtain rfl : i = d.length := by omega
   have k1 : decide ((d.length : Int) < (d.length : Int)) = false := decide_eq_false (by omega)
   have k2 : decide (d.length < d.length) = false := decide_eq_false (by omega)
   have HM1 : Aside0 (MI wr B1 d.length (fun x => (d.count x : Int)) (fun x => d.contains x)) := ⟨by have := HM.out; rwa [List.take_length] at this⟩
   clear HM hi hlt
   have qs0 : wr.cell? ⟨w.heap.size, 0, none⟩ = some (.slice A0 s.length c0) := (blk_cell HF.out.1 0).trans rfl
   have qs1 : wr.cell? ⟨w.heap.size, 1, none⟩ = some (.int .i64 sf) := (blk_cell HF.out.1 1).trans rfl
   have qs2 : wr.cell? ⟨w.heap.size, 2, none⟩ = some (.int .i64 sn) := (blk_cell HF.out.1 2).trans rfl
   go_upto_region 11 with (fail)
   clear qs0 qs1 qs2
   clear k1 k2
   have HM2 := Aside0.mk (MI.made wr)
   have HM1' := Aside0.mk (HM1.out.alloc (.map #[] 0))
   have HF4 := Aside0.mk (HF.out.below (below_alloc (Below.refl _ _) (.map #[] 0)))
   have HB2 := Aside0.mk HF.out.lt
   have HNE : Aside0 (B1 ≠ wr.heap.size) := ⟨by have := HM1.out.lt; omega⟩
   clear HF HM1
   generalize wr.heap.size = B2 at HM2 HB2 HNE ⊢
   generalize World.alloc wr _ = w4 at HM2 HM1' HF4 ⊢
   have HM1 := HM1'; clear HM1'
   have qs0 : w4.cell? ⟨w.heap.size, 0, none⟩ = some (.slice A0 s.length c0) := (blk_cell HF4.out.1 0).trans rfl
   have qs1 : w4.cell? ⟨w.heap.size, 1, none⟩ = some (.int .i64 sf) := (blk_cell HF4.out.1 1).trans rfl
   have qs2 : w4.cell? ⟨w.heap.size, 2, none⟩ = some (.int .i64 sn) := (blk_cell HF4.out.1 2).trans rfl
   go_wp2_with fail
   clear qs0 qs1 qs2
   go_loopg [10, 52] s.length (fun gq uv u wx => ∃ (i : Nat) (v : Value), i ≤ s.length ∧ gq = s.length - i ∧ u = .int .i64 (i : Int) ∧ uv = v ∧ Aside0 (Kd.R k36 36 wx w.heap.size (fun _ => True) v (keptL (s.take i) d)) ∧ Aside0 (MI wx B1 d.length (fun x => (d.count x : Int)) (fun x => d.contains x)) ∧ Aside0 (MI wx B2 i (fun x => if x ∈ idsOf (s.take i) then (if x ∈ d then -1 else 1) else 0) (fun x => decide (x ∈ idsOf (s.take i)))) ∧ Aside0 (FrA w wx #[.slice A0 s.length c0, .int .i64 sf, .int .i64 sn] #[.slice A1 d.length c1, .slice A2 a.length c2, .int .i64 fl, .int .i64 nx]))
   case atStart => exact ⟨0, .slice none 0 0, by omega, by omega, rfl, rfl, ⟨Kd.R_nil _ _ _ _ _⟩, HM1, ⟨HM2.out.congr (fun _ _ => by simp [idsOf]) (fun _ _ => by simp [idsOf])⟩, HF4⟩
   case round =>
    clear HM1 HM2 HF4
    obtain ⟨i, v, hi, rfl, rfl, rfl, HV, HM1, HM2, HF⟩ := hrel
    obtain ⟨Av, cv, rfl⟩ := Kd.R_slice HV.out
    by_cases hlt : i < s.length
    ·obtain ⟨g1, hg1⟩ : ∃ g1, s.length - i = g1 + 1 := ⟨s.length - i - 1, by omega⟩
     have k1 : decide ((i : Int) < (s.length : Int)) = true := decide_eq_true (by omega)
     have k2 : decide (i < s.length) = true := decide_eq_true hlt
     obtain ⟨ad, hA, hx0, hx1, hx2, hx3, hx4, hx5, hx6, hx7⟩ := at_T36 (Kd.C_below HR0.out HF.out.2.2.2) (i : Int) (by omega) (by omega)
     rw [Int.toNat_natCast] at hx0 hx1 hx2 hx3 hx4 hx5 hx6 hx7
     cases hA
     have i1 : (0 : Int) ≤ (i : Int) := by omega
     have i2 : (i : Int) < (s.length : Int) := by omega
     replace i1 := eq_true i1; replace i2 := eq_true i2
     have hwf := wf_rd HWF.out hlt
     have htk := rdP_take hlt
     generalize rd_T36 s (i : Int) = p at hx0 hx1 hx2 hx3 hx4 hx5 hx6 hx7 hwf htk ⊢
     have hib : i ≤ 1759218604390 := by have := HSL.out; omega
     have HX := Aside0.mk hwf; have HTK := Aside0.mk htk; have HI := Aside0.mk hi; have HLT := Aside0.mk hlt; clear hwf htk hi hlt
     go_upto_region 14 with (fail)
     clear hx0 hx1 hx2 hx3 hx4 hx5 hx6 hx7
     have hvv := heap_alloc_new wr (.cells #[.int .i64 p.f0, .int .i64 p.f1, .bool p.f2.f0, .int .i64 p.f2.f1, .string p.f2.f2, .bool p.f3.f0, .int .i64 p.f3.f1, .string p.f3.f2] 36)
     have hbn := below_alloc (Below.refl wr.heap.size wr) (.cells #[.int .i64 p.f0, .int .i64 p.f1, .bool p.f2.f0, .int .i64 p.f2.f1, .string p.f2.f2, .bool p.f3.f0, .int .i64 p.f3.f1, .string p.f3.f2] 36)
     have HV6 := Aside0.mk (Kd.R_below HV.out hbn); have HM16 := Aside0.mk (HM1.out.below hbn); have HM26 := Aside0.mk (HM2.out.below hbn); have HF6 := Aside0.mk (HF.out.below hbn); have HVN := Aside0.mk (show w.heap.size + 3 ≤ wr.heap.size from HF.out.lt)
     clear hbn HV HM1 HM2 HF
     generalize wr.heap.size = V at hvv HVN ⊢
     generalize World.alloc wr _ = w6 at HV6 HM16 HM26 HF6 hvv ⊢
     have HVV := Aside0.mk hvv; clear hvv
     obtain ⟨pid, hpid⟩ : ∃ pid, p.f0 = pid := ⟨_, rfl⟩
     have hl1 := HM16.out.look HX.out
     have z0 : w6.cell? ⟨V, 0, none⟩ = some (.int .i64 p.f0) := (blk_cell HVV.out 0).trans rfl
     rw [hpid] at hl1 z0
     obtain ⟨m, hm⟩ : ∃ m, d.count pid = m := ⟨_, rfl⟩
     rw [hm] at hl1
     have HMM := Aside0.mk hm; have HPID := Aside0.mk hpid; clear hm hpid
     by_cases hz : 0 < m
     ·have k3 : decide ((0 : Int) < (m : Int)) = true := decide_eq_true (by omega)
      have k4 : decide (0 < m) = true := decide_eq_true hz
      have HZ := Aside0.mk hz; clear hz
      go_wp2_with (at_mapUpdate; refine mi_put rfl _ _ _ rfl rfl HM26.out (by unfold maxLen; have := HLT.out; have := HSL.out; omega) rfl rfl (HPID.out ▸ HX.out) (by decide) ?_; intro w7 hm7 hg7; have HM7 := Aside0.mk hm7; have HG7 := Aside0.mk hg7; clear hm7 hg7; go_frame)
      go_roundg g1
      case measure => omega
      case rel => exact ⟨i + 1, .slice Av (keptL (s.take i) d).length cv, by have := HLT.out; omega, by omega, by go_num, rfl, ⟨by
        rw [HTK.out, keptL_drop (by rw [HPID.out]; exact List.count_pos_iff.mp (by rw [HMM.out]; exact HZ.out))]; exact R_far HV6.out HG7.out (HM26.out.ne_own HV6.out)⟩, ⟨HM16.out.kept HG7.out (by simpa using HNE.out)⟩, ⟨HM7.out.congr (fun z _ => by
        rw [HTK.out, idsOf_snoc, HPID.out]; exact ids_yes (List.count_pos_iff.mp (by rw [HMM.out]; exact HZ.out)) z) (fun z _ => by rw [HTK.out, idsOf_snoc, HPID.out]; exact ids_has z)⟩, ⟨HF6.out.grown HG7.out (fun k hk => by cases hk; exact HB2.out)⟩⟩
     ·have hz' : m = 0 := by omega
      have k3 : decide ((0 : Int) < (m : Int)) = false := decide_eq_false (by omega)
      have k4 : decide (0 < m) = false := decide_eq_false hz
      have HZ := Aside0.mk hz'; clear hz hz'
      have HND : Aside0 (¬ p.f0 ∈ d) := ⟨fun h => by have := List.count_pos_iff.mpr h; rw [HPID.out, HMM.out, HZ.out] at this; omega⟩
      have HLL : Aside0 ((keptL (s.take i) d).length ≤ 1759218604390) := ⟨by have h1 : (keptL (s.take i) d).length ≤ (s.take i).length := List.length_filter_le _ _; rw [List.length_take] at h1; omega⟩
      go_upto_region 17 with (at_mapUpdate; refine mi_put rfl _ _ _ rfl rfl HM26.out (by unfold maxLen; have := HLT.out; have := HSL.out; omega) rfl rfl (HPID.out ▸ HX.out) (by decide) ?_; intro w7 hm7 hg7; have HM7 := Aside0.mk hm7; have HG7 := Aside0.mk hg7; clear hm7 hg7; go_frame)
      have HVV7 := Aside0.mk ((HG7.out.block V (blk_lt HVV.out) (by have := HM26.out.ne_blk HVV.out; simpa using Ne.symm this)).trans HVV.out)
      have HV7 := Aside0.mk (R_far HV6.out HG7.out (HM26.out.ne_own HV6.out)); have HM17 := Aside0.mk (HM16.out.kept HG7.out (by simpa using HNE.out)); have HF7 := Aside0.mk (HF6.out.grown HG7.out (fun k hk => by cases hk; exact HB2.out))
      clear z0 hl1 HG7 HV6 HM16 HM26 HF6 HVV k3 k4
      have z0 : w7.cell? ⟨V, 0, none⟩ = some (.int .i64 p.f0) := (blk_cell HVV7.out 0).trans rfl
      have z1 : w7.cell? ⟨V, 1, none⟩ = some (.int .i64 p.f1) := (blk_cell HVV7.out 1).trans rfl
      have z2 : w7.cell? ⟨V, 2, none⟩ = some (.bool p.f2.f0) := (blk_cell HVV7.out 2).trans rfl
      have z3 : w7.cell? ⟨V, 3, none⟩ = some (.int .i64 p.f2.f1) := (blk_cell HVV7.out 3).trans rfl
      have z4 : w7.cell? ⟨V, 4, none⟩ = some (.string p.f2.f2) := (blk_cell HVV7.out 4).trans rfl
      have z5 : w7.cell? ⟨V, 5, none⟩ = some (.bool p.f3.f0) := (blk_cell HVV7.out 5).trans rfl
      have z6 : w7.cell? ⟨V, 6, none⟩ = some (.int .i64 p.f3.f1) := (blk_cell HVV7.out 6).trans rfl
      have z7 : w7.cell? ⟨V, 7, none⟩ = some (.string p.f3.f2) := (blk_cell HVV7.out 7).trans rfl
      go_wp2_with (at_builtin; refine Kd.R_append k36 (w0 := w) w.heap.size rfl (.tmp 67) (.tmp 69) 24 36 (.agg #[(.int .i64 0), (.int .i64 0), (.bool false), (.int .i64 0), (.string ⟨#[]⟩), (.bool false), (.int .i64 0), (.string ⟨#[]⟩)]) 80 rfl Try.underlying24 info36 rfl (by decide) (by omega) _ (keptL (s.take i) d) p [.int .i64 p.f0, .int .i64 p.f1, .bool p.f2.f0, .int .i64 p.f2.f1, .string p.f2.f2, .bool p.f3.f0, .int .i64 p.f3.f1, .string p.f3.f2] (fun _ => True) (fun _ => False) rfl rfl (k36_mkM _ _ _ p) (fun _ h => h.elim) (fun _ _ => trivial) HV7.out HF7.out.2.2.2 HF7.out.2.2.2.size (by have := HLL.out; omega) ?_; intro v1 w8 hv8 hb8 hg8 _; have HV8 := Aside0.mk hv8; have HG8 := Aside0.mk hg8; clear hv8 hb8 hg8; go_frame)
      go_roundg g1
      case measure => omega
      case rel => exact ⟨i + 1, v1, by have := HLT.out; omega, by omega, by go_num, rfl, ⟨by rw [HTK.out, keptL_keep HND.out]; exact HV8.out⟩, ⟨HM17.out.kept HG8.out (HM17.out.ne_own HV7.out)⟩, ⟨(HM7.out.kept HG8.out (HM7.out.ne_own HV7.out)).congr (fun z _ => by
        rw [HTK.out, idsOf_snoc, HPID.out]; exact ids_no (by rw [← HPID.out]; exact HND.out) z) (fun z _ => by rw [HTK.out, idsOf_snoc, HPID.out]; exact ids_has z)⟩, ⟨HF7.out.grown HG8.out (fun k hk => HF7.out.own HV7.out k hk)⟩⟩
    ·obtain rfl : i = s.length := by omega
     have k1 : decide ((s.length : Int) < (s.length : Int)) = false := decide_eq_false (by omega)
     have k2 : decide (s.length < s.length) = false := decide_eq_false (by omega)
     have HV0 : Aside0 (Kd.R k36 36 wr w.heap.size (fun _ => True) (.slice Av (keptL s d).length cv) (keptL s d)) := ⟨by have := HV.out; rwa [List.take_length] at this⟩
     have HM20 : Aside0 (MI wr B2 s.length (fun x => if x ∈ idsOf s then (if x ∈ d then -1 else 1) else 0) (fun x => decide (x ∈ idsOf s))) := ⟨by have := HM2.out; rwa [List.take_length] at this⟩
     rw [List.take_length]
     clear HV HM2 hi hlt
     obtain ⟨D1, hD1, hF1⟩ := HM1.out
     have HD1 := Aside0.mk hD1; have HF1 := Aside0.mk hF1; clear hD1 hF1 HM1
     go_wp2_with (at_range; refine mi_range rfl _ rfl rfl HD1.out ?_; intro w5 hr5 hg5 hs5; have HR5 := Aside0.mk hr5; have HG5 := Aside0.mk hg5; clear hr5 hg5 hs5; go_frame)
     clear k1 k2
     have HV5 := Aside0.mk (R_none HV0.out HG5.out); have HM5 := Aside0.mk (HM20.out.kept HG5.out (by simp)); have HF5 := Aside0.mk (HF.out.grown HG5.out (fun k hk => by cases hk)); have HRB := Aside0.mk HF.out.lt; have HNR : Aside0 (B2 ≠ wr.heap.size) := ⟨by have := HM20.out.lt; omega⟩; have HVR : Aside0 (some wr.heap.size ≠ (Value.slice Av (keptL s d).length cv).ownBlock) := ⟨fun e => by have := Kd.R_lt HV0.out _ e.symm; omega⟩
     clear HV0 HM20 HF HG5 HD1
     generalize wr.heap.size = r at HR5 HRB HNR HVR ⊢
     generalize hVA : Value.slice Av (keptL s d).length cv = va at HV5 HVR ⊢
     clear hVA
     go_loopg [13] (Maps.size D1) (fun gq u wx => ∃ (left : Lit → Bool) (cnt : Nat), gq = cnt ∧ Aside0 (MR wx B1 r d.length D1 left cnt) ∧ Aside0 (∀ x : Int, x ∈ d → left (kI x) = false → goodD s d x = true) ∧ Aside0 (∀ x : Int, (Lit.int .i64 x).wf = true → left (kI x) = true → x ∈ d) ∧ Aside0 (Kd.R k36 36 wx w.heap.size (fun _ => True) va (keptL s d)) ∧ Aside0 (MI wx B2 s.length (fun x => if x ∈ idsOf s then (if x ∈ d then -1 else 1) else 0) (fun x => decide (x ∈ idsOf s))) ∧ Aside0 (FrA w wx #[.slice A0 s.length c0, .int .i64 sf, .int .i64 sn] #[.slice A1 d.length c1, .slice A2 a.length c2, .int .i64 fl, .int .i64 nx]))
     case atStart => exact ⟨_, _, rfl, HR5, ⟨fun x hx hl => by have h1 := HDX.out x hx; have h2 := (HF1.out x (wf_of (by omega) (by omega))).2; rw [h2] at hl; simp [hx] at hl⟩, ⟨fun x hw hl => by have h2 := (HF1.out x hw).2; rw [h2] at hl; simpa using hl⟩, HV5, HM5, HF5⟩
     case round =>
      clear HR5 HV5 HM5 HF5
      obtain ⟨left, cnt, rfl, HR, HG, HL, HV, HM2, HF⟩ := hrel
      skip
      go_wp2_with (at_next; refine mi_next rfl _ rfl HF1.out rfl HR.out ?_ ?_)
      ·intro hl
       have hall : d.all (goodD s d) = true := List.all_eq_true.mpr (fun x hx => HG.out x hx (hl x))
       have HQ2 := Aside0.mk (show (if addB nx (idsOf (keptL s d)) a = true then (keptL s d ++ a, fl, nx, (0 : Int)) else ([], 0, 0, 8)) = (r1, r2, r3, r4) from by have := HQ.out; rwa [hall, Bool.true_and] at this)
       clear hl hall HG HL HR HQ
       have qe0 : wr.cell? ⟨w.heap.size + 1, 0, none⟩ = some (.slice _ d.length c1) := (blk_cell HF.out.2.1 0).trans rfl
       have qe1 : wr.cell? ⟨w.heap.size + 1, 1, none⟩ = some (.slice _ a.length c2) := (blk_cell HF.out.2.1 1).trans rfl
       have qe2 : wr.cell? ⟨w.heap.size + 1, 2, none⟩ = some (.int .i64 fl) := (blk_cell HF.out.2.1 2).trans rfl
       have qe3 : wr.cell? ⟨w.heap.size + 1, 3, none⟩ = some (.int .i64 nx) := (blk_cell HF.out.2.1 3).trans rfl
       go_wp2_with fail
       clear qe0 qe1 qe2 qe3
       go_loopg [10, 91] a.length (fun gq uv u wx => ∃ (i : Nat) (v : Value) (f : Int → Int) (g : Int → Bool), i ≤ a.length ∧ gq = a.length - i ∧ u = .int .i64 (i : Int) ∧ uv = v ∧ Aside0 (Kd.R k36 36 wx w.heap.size (fun _ => True) v (keptL s d ++ a.take i)) ∧ Aside0 (MI wx B2 (s.length + i) f g) ∧ Aside0 (∀ x : Int, 0 < f x ↔ x ∈ idsOf (keptL s d ++ a.take i)) ∧ Aside0 (FrA w wx #[.slice A0 s.length c0, .int .i64 sf, .int .i64 sn] #[.slice A1 d.length c1, .slice A2 a.length c2, .int .i64 fl, .int .i64 nx]) ∧ Aside0 (addB nx (idsOf (keptL s d ++ a.take i)) (a.drop i) = addB nx (idsOf (keptL s d)) a))
       case atStart => exact ⟨0, va, _, _, by omega, by omega, rfl, rfl, ⟨by rw [List.take_zero, List.append_nil]; exact HV.out⟩, HM2, ⟨fun x => by rw [List.take_zero, List.append_nil]; exact ids_kept x⟩, HF, ⟨by rw [List.take_zero, List.append_nil, List.drop_zero]⟩⟩
       case round =>
        clear HV HM2 HF
        obtain ⟨i, v, f, g, hi, rfl, rfl, rfl, HV, HM, HFP, HF, HAB⟩ := hrel
        obtain ⟨Av4, cv4, rfl⟩ := Kd.R_slice HV.out
        by_cases hlt : i < a.length
        ·obtain ⟨g1, hg1⟩ : ∃ g1, a.length - i = g1 + 1 := ⟨a.length - i - 1, by omega⟩
         have k1 : decide ((i : Int) < (a.length : Int)) = true := decide_eq_true (by omega)
         have k2 : decide (i < a.length) = true := decide_eq_true hlt
         obtain ⟨ad, hA, hx0, hx1, hx2, hx3, hx4, hx5, hx6, hx7⟩ := at_T36 (Kd.C_below HR2.out HF.out.2.2.2) (i : Int) (by omega) (by omega)
         rw [Int.toNat_natCast] at hx0 hx1 hx2 hx3 hx4 hx5 hx6 hx7
         cases hA
         have i1 : (0 : Int) ≤ (i : Int) := by omega
         have i2 : (i : Int) < (a.length : Int) := by omega
         replace i1 := eq_true i1; replace i2 := eq_true i2
         have hpx := HAX.out (rd_T36 a (i : Int)) (by unfold rd_T36; rw [Int.toNat_natCast, List.getD_eq_getElem?_getD, List.getElem?_eq_getElem hlt]; exact List.getElem_mem hlt)
         have htk := rdP_take hlt
         have hab := HAB.out
         rw [rdP_drop hlt] at hab
         generalize rd_T36 a (i : Int) = p at hx0 hx1 hx2 hx3 hx4 hx5 hx6 hx7 hpx htk hab ⊢
         have hib : i ≤ 1000 := by have := HA.out; omega
         have HX := Aside0.mk (wf_of (x := p.f0) (by omega) (by omega)); have HTK := Aside0.mk htk; have HI := Aside0.mk hi; have HLT := Aside0.mk hlt; have HAB2 := Aside0.mk hab; clear hpx htk hi hlt hab HAB
         go_upto_region 27 with (fail)
         clear hx0 hx1 hx2 hx3 hx4 hx5 hx6 hx7
         have hvv := heap_alloc_new wr (.cells #[.int .i64 p.f0, .int .i64 p.f1, .bool p.f2.f0, .int .i64 p.f2.f1, .string p.f2.f2, .bool p.f3.f0, .int .i64 p.f3.f1, .string p.f3.f2] 36)
         have hbn := below_alloc (Below.refl wr.heap.size wr) (.cells #[.int .i64 p.f0, .int .i64 p.f1, .bool p.f2.f0, .int .i64 p.f2.f1, .string p.f2.f2, .bool p.f3.f0, .int .i64 p.f3.f1, .string p.f3.f2] 36)
         have HV6 := Aside0.mk (Kd.R_below HV.out hbn); have HM6 := Aside0.mk (HM.out.below hbn); have HF6 := Aside0.mk (HF.out.below hbn)
         clear hbn HV HM HF
         generalize wr.heap.size = V at hvv ⊢
         generalize World.alloc wr _ = w6 at HV6 HM6 HF6 hvv ⊢
         have HVV := Aside0.mk hvv; clear hvv
         obtain ⟨pid, hpid⟩ : ∃ pid, p.f0 = pid := ⟨_, rfl⟩
         have hlook := HM6.out.look HX.out
         have hfp := HFP.out p.f0
         have z0 : w6.cell? ⟨V, 0, none⟩ = some (.int .i64 p.f0) := (blk_cell HVV.out 0).trans rfl
         rw [hpid] at hlook z0 hfp
         obtain ⟨q, hq⟩ : ∃ q, f pid = q := ⟨_, rfl⟩
         rw [hq] at hlook hfp
         have HPID := Aside0.mk hpid; have HFQ := Aside0.mk hfp; clear hpid hq hfp
         by_cases hn : nx ≤ pid
         ·have k3 : decide (nx ≤ pid) = true := decide_eq_true hn
          have hbad : addB nx (idsOf (keptL s d ++ a.take i)) (p :: a.drop (i + 1)) = false := by unfold addB; rw [HPID.out, decide_eq_true hn]; rfl
          obtain ⟨rfl, rfl, rfl, rfl⟩ : [] = r1 ∧ 0 = r2 ∧ 0 = r3 ∧ 8 = r4 := by have := HQ2.out; rw [← HAB2.out, hbad, if_neg (by decide)] at this; simpa using this
          clear hbad hn hlook
          have qe0 : w6.cell? ⟨w.heap.size + 1, 0, none⟩ = some (.slice _ d.length c1) := (blk_cell HF6.out.2.1 0).trans rfl
          have qe1 : w6.cell? ⟨w.heap.size + 1, 1, none⟩ = some (.slice _ a.length c2) := (blk_cell HF6.out.2.1 1).trans rfl
          have qe2 : w6.cell? ⟨w.heap.size + 1, 2, none⟩ = some (.int .i64 fl) := (blk_cell HF6.out.2.1 2).trans rfl
          have qe3 : w6.cell? ⟨w.heap.size + 1, 3, none⟩ = some (.int .i64 nx) := (blk_cell HF6.out.2.1 3).trans rfl
          have qr0 : w6.cell? ⟨w.heap.size + 2, 0, none⟩ = some (.slice none 0 0) := (blk_cell HF6.out.2.2.1 0).trans rfl
          have qr1 : w6.cell? ⟨w.heap.size + 2, 1, none⟩ = some (.int .i64 0) := (blk_cell HF6.out.2.2.1 1).trans rfl
          have qr2 : w6.cell? ⟨w.heap.size + 2, 2, none⟩ = some (.int .i64 0) := (blk_cell HF6.out.2.2.1 2).trans rfl
          have qf0 := blk_frozen HF6.out.2.2.1 0
          have qf1 := blk_frozen HF6.out.2.2.1 1
          have qf2 := blk_frozen HF6.out.2.2.1 2
          go_wp2
          refine bodyPost_ret (v := .tuple #[.agg #[.slice none 0 0, .int .i64 0, .int .i64 0], .int .i64 8]) ?_ rfl ⟨_, rfl, Kd.R_nil _ _ _ _ _, HF6.out.put _ _ _⟩
          simp [results, Try.results9, go_sem, *]
         ·have k3 : decide (nx ≤ pid) = false := decide_eq_false hn
          by_cases hz : 0 < q
          ·have k4 : decide ((0 : Int) < q) = true := decide_eq_true hz
           have hin := HFQ.out.mp hz
           have hbad : addB nx (idsOf (keptL s d ++ a.take i)) (p :: a.drop (i + 1)) = false := by unfold addB; rw [HPID.out]; simp [hin]
           obtain ⟨rfl, rfl, rfl, rfl⟩ : [] = r1 ∧ 0 = r2 ∧ 0 = r3 ∧ 8 = r4 := by have := HQ2.out; rw [← HAB2.out, hbad, if_neg (by decide)] at this; simpa using this
           clear hbad hn hz hin
           have qe0 : w6.cell? ⟨w.heap.size + 1, 0, none⟩ = some (.slice _ d.length c1) := (blk_cell HF6.out.2.1 0).trans rfl
           have qe1 : w6.cell? ⟨w.heap.size + 1, 1, none⟩ = some (.slice _ a.length c2) := (blk_cell HF6.out.2.1 1).trans rfl
           have qe2 : w6.cell? ⟨w.heap.size + 1, 2, none⟩ = some (.int .i64 fl) := (blk_cell HF6.out.2.1 2).trans rfl
           have qe3 : w6.cell? ⟨w.heap.size + 1, 3, none⟩ = some (.int .i64 nx) := (blk_cell HF6.out.2.1 3).trans rfl
           have qr0 : w6.cell? ⟨w.heap.size + 2, 0, none⟩ = some (.slice none 0 0) := (blk_cell HF6.out.2.2.1 0).trans rfl
           have qr1 : w6.cell? ⟨w.heap.size + 2, 1, none⟩ = some (.int .i64 0) := (blk_cell HF6.out.2.2.1 1).trans rfl
           have qr2 : w6.cell? ⟨w.heap.size + 2, 2, none⟩ = some (.int .i64 0) := (blk_cell HF6.out.2.2.1 2).trans rfl
           have qf0 := blk_frozen HF6.out.2.2.1 0
           have qf1 := blk_frozen HF6.out.2.2.1 1
           have qf2 := blk_frozen HF6.out.2.2.1 2
           go_wp2
           refine bodyPost_ret (v := .tuple #[.agg #[.slice none 0 0, .int .i64 0, .int .i64 0], .int .i64 8]) ?_ rfl ⟨_, rfl, Kd.R_nil _ _ _ _ _, HF6.out.put _ _ _⟩
           simp [results, Try.results9, go_sem, *]
          ·have k4 : decide ((0 : Int) < q) = false := decide_eq_false hz
           have HND : Aside0 (¬ pid ∈ idsOf (keptL s d ++ a.take i)) := ⟨fun h => hz (HFQ.out.mpr h)⟩
           have HLL : Aside0 ((keptL s d ++ a.take i).length ≤ 1759218605390) := ⟨by have h1 : (keptL s d).length ≤ s.length := List.length_filter_le _ _; have := HSL.out; rw [List.length_append, List.length_take]; omega⟩
           have HAN : Aside0 (addB nx (idsOf (keptL s d ++ a.take (i + 1))) (a.drop (i + 1)) = addB nx (idsOf (keptL s d)) a) := ⟨by
             rw [← HAB2.out, HTK.out, ← List.append_assoc, idsOf_snoc, HPID.out]
             conv => rhs; unfold addB
             rw [HPID.out, decide_eq_false hn]; simp [HND.out]⟩
           clear hn hz
           have qe0 : w6.cell? ⟨w.heap.size + 1, 0, none⟩ = some (.slice _ d.length c1) := (blk_cell HF6.out.2.1 0).trans rfl
           have qe1 : w6.cell? ⟨w.heap.size + 1, 1, none⟩ = some (.slice _ a.length c2) := (blk_cell HF6.out.2.1 1).trans rfl
           have qe2 : w6.cell? ⟨w.heap.size + 1, 2, none⟩ = some (.int .i64 fl) := (blk_cell HF6.out.2.1 2).trans rfl
           have qe3 : w6.cell? ⟨w.heap.size + 1, 3, none⟩ = some (.int .i64 nx) := (blk_cell HF6.out.2.1 3).trans rfl
           go_upto_region 30 with (at_mapUpdate; refine mi_put rfl _ _ _ rfl rfl HM6.out (by unfold maxLen; have := HLT.out; have := HSL.out; have := HA.out; omega) rfl rfl (HPID.out ▸ HX.out) (by decide) ?_; intro w7 hm7 hg7; have HM7 := Aside0.mk hm7; have HG7 := Aside0.mk hg7; clear hm7 hg7; go_frame)
           have HVV7 := Aside0.mk ((HG7.out.block V (blk_lt HVV.out) (by have := HM6.out.ne_blk HVV.out; simpa using Ne.symm this)).trans HVV.out)
           have HV7 := Aside0.mk (R_far HV6.out HG7.out (HM6.out.ne_own HV6.out)); have HF7 := Aside0.mk (HF6.out.grown HG7.out (fun k hk => by cases hk; exact HB2.out))
           clear z0 hlook HG7 HV6 HM6 HF6 HVV k3 k4 qe0 qe1 qe2 qe3
           have z0 : w7.cell? ⟨V, 0, none⟩ = some (.int .i64 p.f0) := (blk_cell HVV7.out 0).trans rfl
           have z1 : w7.cell? ⟨V, 1, none⟩ = some (.int .i64 p.f1) := (blk_cell HVV7.out 1).trans rfl
           have z2 : w7.cell? ⟨V, 2, none⟩ = some (.bool p.f2.f0) := (blk_cell HVV7.out 2).trans rfl
           have z3 : w7.cell? ⟨V, 3, none⟩ = some (.int .i64 p.f2.f1) := (blk_cell HVV7.out 3).trans rfl
           have z4 : w7.cell? ⟨V, 4, none⟩ = some (.string p.f2.f2) := (blk_cell HVV7.out 4).trans rfl
           have z5 : w7.cell? ⟨V, 5, none⟩ = some (.bool p.f3.f0) := (blk_cell HVV7.out 5).trans rfl
           have z6 : w7.cell? ⟨V, 6, none⟩ = some (.int .i64 p.f3.f1) := (blk_cell HVV7.out 6).trans rfl
           have z7 : w7.cell? ⟨V, 7, none⟩ = some (.string p.f3.f2) := (blk_cell HVV7.out 7).trans rfl
           go_wp2_with (at_builtin; refine R_append_wide k36 (w0 := w) w.heap.size rfl (.tmp 111) (.tmp 113) 24 36 (.agg #[(.int .i64 0), (.int .i64 0), (.bool false), (.int .i64 0), (.string ⟨#[]⟩), (.bool false), (.int .i64 0), (.string ⟨#[]⟩)]) 80 rfl Try.underlying24 info36 rfl (by decide) (by omega) _ (keptL s d ++ a.take i) p [.int .i64 p.f0, .int .i64 p.f1, .bool p.f2.f0, .int .i64 p.f2.f1, .string p.f2.f2, .bool p.f3.f0, .int .i64 p.f3.f1, .string p.f3.f2] (fun _ => True) (fun _ => False) rfl rfl (k36_mkM _ _ _ p) (fun _ h => h.elim) (fun _ _ => trivial) HV7.out HF7.out.2.2.2 HF7.out.2.2.2.size (by have := HLL.out; omega) ?_; intro v1 w8 hv8 hb8 hg8 _; have HV8 := Aside0.mk hv8; have HG8 := Aside0.mk hg8; clear hv8 hb8 hg8; go_frame)
           go_roundg g1
           case measure => omega
           case rel => exact ⟨i + 1, v1, _, _, by have := HLT.out; omega, by omega, by go_num, rfl, ⟨by rw [HTK.out, ← List.append_assoc]; exact HV8.out⟩, HM7.out.kept HG8.out (HM7.out.ne_own HV7.out) |> fun h => ⟨h⟩, ⟨fun z => by
             rw [HTK.out, ← List.append_assoc, idsOf_snoc, HPID.out]
             by_cases e : z = pid
             ·subst e; simp
             ·simp only [if_neg e, List.mem_append, List.mem_singleton, e, or_false]; exact HFP.out z⟩, ⟨HF7.out.grown HG8.out (fun k hk => HF7.out.own HV7.out k hk)⟩, HAN⟩
        ·obtain rfl : i = a.length := by omega
         have k1 : decide ((a.length : Int) < (a.length : Int)) = false := decide_eq_false (by omega)
         have k2 : decide (a.length < a.length) = false := decide_eq_false (by omega)
         have hv := HV.out
         have hab := HAB.out
         rw [List.drop_length] at hab
         rw [List.take_length] at hv
         obtain ⟨rfl, rfl, rfl, rfl⟩ : keptL s d ++ a = r1 ∧ fl = r2 ∧ nx = r3 ∧ 0 = r4 := by have := HQ2.out; rw [← hab] at this; unfold addB at this; rw [if_pos rfl] at this; simpa using this
         rw [List.take_length]
         have HVV := Aside0.mk hv; clear hv hab HV HM hi hlt
         have qe0 : wr.cell? ⟨w.heap.size + 1, 0, none⟩ = some (.slice _ d.length c1) := (blk_cell HF.out.2.1 0).trans rfl
         have qe1 : wr.cell? ⟨w.heap.size + 1, 1, none⟩ = some (.slice _ a.length c2) := (blk_cell HF.out.2.1 1).trans rfl
         have qe2 : wr.cell? ⟨w.heap.size + 1, 2, none⟩ = some (.int .i64 fl) := (blk_cell HF.out.2.1 2).trans rfl
         have qe3 : wr.cell? ⟨w.heap.size + 1, 3, none⟩ = some (.int .i64 nx) := (blk_cell HF.out.2.1 3).trans rfl
         have qr0 : wr.cell? ⟨w.heap.size + 2, 0, none⟩ = some (.slice none 0 0) := (blk_cell HF.out.2.2.1 0).trans rfl
         have qr1 : wr.cell? ⟨w.heap.size + 2, 1, none⟩ = some (.int .i64 0) := (blk_cell HF.out.2.2.1 1).trans rfl
         have qr2 : wr.cell? ⟨w.heap.size + 2, 2, none⟩ = some (.int .i64 0) := (blk_cell HF.out.2.2.1 2).trans rfl
         have qf0 := blk_frozen HF.out.2.2.1 0
         have qf1 := blk_frozen HF.out.2.2.1 1
         have qf2 := blk_frozen HF.out.2.2.1 2
         go_wp2
         refine bodyPost_ret (v := .tuple #[.agg #[.slice Av4 (keptL s d ++ a).length cv4, .int .i64 fl, .int .i64 nx], .int .i64 0]) ?_ rfl ⟨_, rfl, Kd.R_set (Kd.R_set (Kd.R_set HVV.out HF.out.2.2.1 (by decide) 0 _) (blk_set HF.out.2.2.1 0 _) (by decide) 1 _) (blk_set (blk_set HF.out.2.2.1 0 _) 1 _) (by decide) 2 _, HF.out.put _ _ _⟩
         simp [results, Try.results9, go_sem, *]
      ·intro x w6 cnt6 hx hlx hr6 hlt hg6 hs6 hen
       have hxd := HL.out x hx hlx
       have HX := Aside0.mk hx; have HXD := Aside0.mk hxd; have HR6 := Aside0.mk hr6; have HLT := Aside0.mk hlt
       have hG6 : ∀ k, some r = some k → w.heap.size + 3 ≤ k := fun k hk => by cases hk; exact HRB.out
       have HV6 := Aside0.mk (R_far HV.out hg6 HVR.out); have HM6 := Aside0.mk (HM2.out.kept hg6 (by simpa using HNR.out)); have HF6 := Aside0.mk (HF.out.grown hg6 hG6)
       have HG6 : goodD s d x = true → Aside0 (∀ z : Int, z ∈ d → (left (kI z) && !(kI z).sameKey (kI x)) = false → goodD s d z = true) := fun hgx => ⟨fun z hz hl => by
         rw [strike] at hl
         by_cases e : z = x
         ·rw [e]; exact hgx
         ·exact HG.out z hz (by simpa [e] using hl)⟩
       have HL6 : Aside0 (∀ z : Int, (Lit.int .i64 z).wf = true → (left (kI z) && !(kI z).sameKey (kI x)) = true → z ∈ d) := ⟨fun z hz hl => HL.out z hz (by rw [Bool.and_eq_true] at hl; exact hl.1)⟩
       clear hx hlx hr6 hlt hg6 hs6 hxd hG6 HV HM2 HF HR HG HL
       have hlook := HM6.out.look HX.out
       obtain ⟨m, hm⟩ : ∃ m, d.count x = m := ⟨_, rfl⟩
       rw [hm] at hen ⊢
       have HMM := Aside0.mk hm; clear hm
       by_cases hm1 : 1 < m
       ·have k3 : decide ((1 : Int) < (m : Int)) = true := decide_eq_true (by omega)
        have k4 : decide (1 < m) = true := decide_eq_true hm1
        have hbad := all_bad HXD.out (show goodD s d x = false by unfold goodD; rw [HMM.out]; simp; omega)
        obtain ⟨rfl, rfl, rfl, rfl⟩ : [] = r1 ∧ 0 = r2 ∧ 0 = r3 ∧ 8 = r4 := by have := HQ.out; rw [hbad, Bool.false_and, if_neg (by decide)] at this; simpa using this
        clear hbad hm1 hlook HG6
        have qr0 : w6.cell? ⟨w.heap.size + 2, 0, none⟩ = some (.slice none 0 0) := (blk_cell HF6.out.2.2.1 0).trans rfl
        have qr1 : w6.cell? ⟨w.heap.size + 2, 1, none⟩ = some (.int .i64 0) := (blk_cell HF6.out.2.2.1 1).trans rfl
        have qr2 : w6.cell? ⟨w.heap.size + 2, 2, none⟩ = some (.int .i64 0) := (blk_cell HF6.out.2.2.1 2).trans rfl
        have qf0 := blk_frozen HF6.out.2.2.1 0
        have qf1 := blk_frozen HF6.out.2.2.1 1
        have qf2 := blk_frozen HF6.out.2.2.1 2
        go_wp2
        refine bodyPost_ret (v := .tuple #[.agg #[.slice none 0 0, .int .i64 0, .int .i64 0], .int .i64 8]) ?_ rfl ⟨_, rfl, Kd.R_nil _ _ _ _ _, HF6.out.put _ _ _⟩
        simp [results, Try.results9, go_sem, *]
       ·have k3 : decide ((1 : Int) < (m : Int)) = false := decide_eq_false (by omega)
        have k4 : decide (1 < m) = false := decide_eq_false hm1
        by_cases hxs : x ∈ idsOf s
        ·have hgood : goodD s d x = true := by unfold goodD; rw [HMM.out]; simp [hxs]; omega
         have HG7 := HG6 hgood
         rw [if_pos hxs, if_pos HXD.out] at hlook
         clear hgood hxs hm1 HG6
         go_wp2_with fail
         go_roundg cnt6
         case measure => exact HLT.out
         case rel => exact ⟨_, _, rfl, HR6, HG7, HL6, HV6, HM6, HF6⟩
        ·have hbad := all_bad HXD.out (show goodD s d x = false by unfold goodD; simp [hxs])
         obtain ⟨rfl, rfl, rfl, rfl⟩ : [] = r1 ∧ 0 = r2 ∧ 0 = r3 ∧ 8 = r4 := by have := HQ.out; rw [hbad, Bool.false_and, if_neg (by decide)] at this; simpa using this
         rw [if_neg hxs] at hlook
         clear hbad hxs hm1 HG6
         have qr0 : w6.cell? ⟨w.heap.size + 2, 0, none⟩ = some (.slice none 0 0) := (blk_cell HF6.out.2.2.1 0).trans rfl
         have qr1 : w6.cell? ⟨w.heap.size + 2, 1, none⟩ = some (.int .i64 0) := (blk_cell HF6.out.2.2.1 1).trans rfl
         have qr2 : w6.cell? ⟨w.heap.size + 2, 2, none⟩ = some (.int .i64 0) := (blk_cell HF6.out.2.2.1 2).trans rfl
         have qf0 := blk_frozen HF6.out.2.2.1 0
         have qf1 := blk_frozen HF6.out.2.2.1 1
         have qf2 := blk_frozen HF6.out.2.2.1 2
         go_wp2
         refine bodyPost_ret (v := .tuple #[.agg #[.slice none 0 0, .int .i64 0, .int .i64 0], .int .i64 8]) ?_ rfl ⟨_, rfl, Kd.R_nil _ _ _ _ _, HF6.out.put _ _ _⟩
         simp [results, Try.results9, go_sem, *]
def manifest_Apply.f (l0_0 : List S36) (a0_1 : Int) (a0_2 : Int) (l1_0 : List Int) (l1_1 : List S36) (a1_2 : Int) (a1_3 : Int) : Option (List S36 × Int × Int × Int) := if wfP l0_0 = true ∧ l0_0.length ≤ 1759218604390 then some (applyL l0_0 a0_1 a0_2 l1_0 l1_1 a1_2 a1_3) else none
theorem manifest_Apply.calls (A0_0 : Option Addr) (c0_0 : Nat) (l0_0 : List S36) (a0_1 : Int) (a0_2 : Int) (A1_0 : Option Addr) (c1_0 : Nat) (l1_0 : List Int) (A1_1 : Option Addr) (c1_1 : Nat) (l1_1 : List S36) (a1_2 : Int) (a1_3 : Int) (r1 : List S36) (r2 : Int) (r3 : Int) (r4 : Int) (w : World) (hr0_0 : Kd.C k36 w A0_0 l0_0.length l0_0) (hc0_0 : l0_0.length ≤ c0_0) (hr1_0 : Kd.C (Kd.int .i64) w A1_0 l1_0.length l1_0) (hc1_0 : l1_0.length ≤ c1_0) (hr1_1 : Kd.C k36 w A1_1 l1_1.length l1_1) (hc1_1 : l1_1.length ≤ c1_1) (h : manifest_Apply.f l0_0 a0_1 a0_2 l1_0 l1_1 a1_2 a1_3 = some (r1, r2, r3, r4)) :
  Calls Try.prog 9 #[.agg #[.slice A0_0 l0_0.length c0_0, .int .i64 a0_1, .int .i64 a0_2], .agg #[.slice A1_0 l1_0.length c1_0, .slice A1_1 l1_1.length c1_1, .int .i64 a1_2, .int .i64 a1_3]] w fun e w' => ∃ v0_ : Value, e = .returned (.tuple #[.agg #[v0_, .int .i64 r2, .int .i64 r3], .int .i64 r4]) ∧ Kd.R k36 36 w' w.heap.size (fun _ => True) v0_ r1 ∧ Below w.heap.size w w' := by
 unfold manifest_Apply.f at h
 split at h
 ·rename_i hw
  have h := Option.some.inj h
  unfold applyL at h
  by_cases h0 : rightB l1_0 l1_1 a1_2 a1_3 = true ∧ (decide (a1_2 < a0_1) = false ∧ decide (a1_3 < a0_2) = false)
  ·obtain ⟨h0, h1, h2⟩ := h0
   obtain ⟨q1, q2, q3, q4, q5, q6⟩ := right_d h0
   have e1 : decide (a0_1 ≤ a1_2) = true := decide_eq_true (by have := of_decide_eq_false h1; omega)
   have e2 : decide (a0_2 ≤ a1_3) = true := decide_eq_true (by have := of_decide_eq_false h2; omega)
   rw [h0, e1, e2, Bool.true_and, Bool.true_and, Bool.true_and] at h
   exact manifest_Apply.yes A0_0 c0_0 l0_0 a0_1 a0_2 A1_0 c1_0 l1_0 A1_1 c1_1 l1_1 a1_2 a1_3 w hr0_0 hc0_0 hr1_0 hc1_0 hr1_1 hc1_1 (congrArg some h0) h1 h2 hw.1 hw.2 q1 q2 q3 q4 h
  ·have hf : (rightB l1_0 l1_1 a1_2 a1_3 && (decide (a0_1 ≤ a1_2) && (decide (a0_2 ≤ a1_3) && (l1_0.all (goodD l0_0 l1_0) && addB a1_3 (idsOf (keptL l0_0 l1_0)) l1_1)))) = false := by
    cases hr : rightB l1_0 l1_1 a1_2 a1_3
    ·rfl
    ·by_cases h1 : a1_2 < a0_1
     ·rw [decide_eq_false (show ¬ a0_1 ≤ a1_2 by omega)]; rfl
     ·by_cases h2 : a1_3 < a0_2
      ·rw [decide_eq_false (show ¬ a0_2 ≤ a1_3 by omega)]; simp
      ·exact absurd ⟨hr, decide_eq_false h1, decide_eq_false h2⟩ h0
   rw [hf, if_neg (by decide)] at h
   obtain ⟨rfl, rfl, rfl, rfl⟩ : [] = r1 ∧ 0 = r2 ∧ 0 = r3 ∧ 8 = r4 := by simpa using h
   refine manifest_Apply.no A0_0 c0_0 l0_0 a0_1 a0_2 A1_0 c1_0 l1_0 A1_1 c1_1 l1_1 a1_2 a1_3 w hr0_0 hc0_0 hr1_0 hc1_0 hr1_1 hc1_1 _ rfl ?_
   cases hr : rightB l1_0 l1_1 a1_2 a1_3
   ·exact .inl rfl
   ·by_cases h1 : a1_2 < a0_1
    ·exact .inr (.inl h1)
    ·by_cases h2 : a1_3 < a0_2
     ·exact .inr (.inr h2)
     ·exact absurd ⟨hr, decide_eq_false h1, decide_eq_false h2⟩ h0
 ·exact absurd h (by simp)
def api_Part_33.l0 : Nat → List (S36) → List (S36) → Int → Int → Option (Bool)
 | 0, _, _, _, _ => none
 | k + 1, x0, x1, x12, x13 => if x13 < x12 then (if 0 ≤ x13 then (if x13 < (x0.length : Int) then (if x13 < (x1.length : Int) then (if (!(((rd_T36 x0 x13).f0) == ((rd_T36 x1 x13).f0)) || (!(((rd_T36 x0 x13).f1) == ((rd_T36 x1 x13).f1)) || ((!(((rd_T36 x0 x13).f2.f0) == ((rd_T36 x1 x13).f2.f0)) || (!(((rd_T36 x0 x13).f2.f1) == ((rd_T36 x1 x13).f2.f1)) || (!((((rd_T36 x0 x13).f2.f2).toList) == (((rd_T36 x1 x13).f2.f2).toList))))) || ((!(((rd_T36 x0 x13).f3.f0) == ((rd_T36 x1 x13).f3.f0)) || (!(((rd_T36 x0 x13).f3.f1) == ((rd_T36 x1 x13).f3.f1)) || (!((((rd_T36 x0 x13).f3.f2).toList) == (((rd_T36 x1 x13).f3.f2).toList))))))))) = true then (some false) else (api_Part_33.l0 k x0 x1 x12 (wrap64 (x13 + 1)))) else (none)) else (none)) else (none)) else (some true)
def api_Part_33.f (k : Nat) (l0 : List (S36)) (l1 : List (S36)) : Option (Bool) := if (l0.length : Int) = (l1.length : Int) then (api_Part_33.l0 k l0 l1 (l0.length : Int) 0) else (some false)
theorem api_Part_33.mono_l : ∀ k, (∀ y0 y1 y2 y3, LeO (api_Part_33.l0 k y0 y1 y2 y3) (api_Part_33.l0 (k + 1) y0 y1 y2 y3))
 | 0 => fun _ _ _ _ r h => by simp [api_Part_33.l0] at h
 | k + 1 => by
  have ih0 := api_Part_33.mono_l k
  ·intro y0 y1 y2 y3
   unfold api_Part_33.l0
   repeat' first
   | (with_reducible exact ih0 _ _ _ _)
   | (with_reducible exact LeO.refl _)
   | (with_reducible exact LeO.none _)
   | (with_reducible refine LeO.ite ?_ ?_)
   | (with_reducible refine LeO.bind ?_ (fun _ => ?_))
   | exact ih0 _ _ _ _
   | exact LeO.none _
   | refine LeO.ite ?_ ?_
   | refine LeO.bind ?_ (fun _ => ?_)
theorem api_Part_33.mono : ∀ a0 a1 k, LeO (api_Part_33.f k a0 a1) (api_Part_33.f (k + 1) a0 a1) := by
 intro a0 a1 k
 have ih0 := api_Part_33.mono_l k
 unfold api_Part_33.f
 repeat' first
   | (with_reducible exact ih0 _ _ _ _)
   | (with_reducible exact LeO.refl _)
   | (with_reducible exact LeO.none _)
   | (with_reducible refine LeO.ite ?_ ?_)
   | (with_reducible refine LeO.bind ?_ (fun _ => ?_))
   | exact ih0 _ _ _ _
   | exact LeO.none _
   | refine LeO.ite ?_ ?_
   | refine LeO.bind ?_ (fun _ => ?_)
set_option maxHeartbeats 8000000 in
set_option maxRecDepth 100000 in
theorem api_Part_33.calls (k : Nat) (A0 : Option Addr) (c0 : Nat) (l0 : List (S36)) (A1 : Option Addr) (c1 : Nat) (l1 : List (S36)) (r : Bool) (w : World) (hr0 : Kd.C k36 w A0 l0.length l0) (hc0 : l0.length ≤ c0) (hr1 : Kd.C k36 w A1 l1.length l1) (hc1 : l1.length ≤ c1) (h : api_Part_33.f k l0 l1 = some r) :
  Calls Try.prog 33 #[.slice A0 l0.length c0, .slice A1 l1.length c1] w fun e w' => e = .returned (.bool r) ∧ Drawn0 w w' := by
 have hu36 := Try.underlying36
 have HR0 := Aside0.mk hr0
 have HC0 := Aside0.mk hc0
 clear hr0 hc0
 have HR1 := Aside0.mk hr1
 have HC1 := Aside0.mk hc1
 clear hr1 hc1
 have H : (if (l0.length : Int) = (l1.length : Int) then (api_Part_33.l0 k l0 l1 (l0.length : Int) 0) else (some false)) = some r := h
 clear h
 by_cases c3 : (l0.length : Int) = (l1.length : Int)
 ·rw [if_pos c3] at H
  have c3b0 : ((l0.length : Int) == (l1.length : Int)) = true := beq_iff_eq.mpr c3
  have c3b1 : ((l0.length : Int) != (l1.length : Int)) = false := bne_eq_false_iff_eq.mpr c3
  have c3b2 : (l0.length == l1.length) = true := by first | simpa using c3 | (simp at c3 ⊢; omega)
  clear c3
  have H' := Aside0.mk H
  clear H
  go_enter Try.func33, Try.ntmps33
  go_wp2
  repeat (go_quiet (fail); try go_wp2)
  go_loopg [13] k (fun kq v13 w' => ∃ (x13_1 : Int), v13 = .int .i64 x13_1 ∧ Aside0 (api_Part_33.l0 kq l0 l1 (l0.length : Int) x13_1 = some r) ∧ Aside0 (kq ≤ k) ∧ Drawn0 w w')
  case atStart => exact ⟨(0), z4_, H', ⟨Nat.le_refl _⟩, z11_⟩
  case round =>
   clear H'
   try clear c1
   try clear p2
   try clear c3
   try clear c3b0
   try clear c3b1
   try clear c3b2
   obtain ⟨x13_1, rfl, HA, HK1, ⟨m1, rfl⟩⟩ := hrel
   cases gk with
   | zero => exact absurd HA.out (by simp [api_Part_33.l0])
   | succ k1 =>
    have H := HA.out
    clear HA
    simp only [api_Part_33.l0] at H
    by_cases c4 : x13_1 < (l0.length : Int)
    ·rw [if_pos c4] at H
     have c4b0 : decide (x13_1 < (l0.length : Int)) = true := decide_eq_true c4
     clear c4
     by_cases c5 : 0 ≤ x13_1
     ·rw [if_pos c5] at H
      have c5b0 : decide (0 ≤ x13_1) = true := decide_eq_true c5
      clear c5
      by_cases c6 : x13_1 < (l0.length : Int)
      ·rw [if_pos c6] at H
       have c6b0 : decide (x13_1 < (l0.length : Int)) = true := decide_eq_true c6
       clear c6
       by_cases c7 : x13_1 < (l1.length : Int)
       ·rw [if_pos c7] at H
        have c7b0 : decide (x13_1 < (l1.length : Int)) = true := decide_eq_true c7
        clear c7
        by_cases c8 : (!(((rd_T36 l0 x13_1).f0) == ((rd_T36 l1 x13_1).f0)) || (!(((rd_T36 l0 x13_1).f1) == ((rd_T36 l1 x13_1).f1)) || ((!(((rd_T36 l0 x13_1).f2.f0) == ((rd_T36 l1 x13_1).f2.f0)) || (!(((rd_T36 l0 x13_1).f2.f1) == ((rd_T36 l1 x13_1).f2.f1)) || (!((((rd_T36 l0 x13_1).f2.f2).toList) == (((rd_T36 l1 x13_1).f2.f2).toList))))) || ((!(((rd_T36 l0 x13_1).f3.f0) == ((rd_T36 l1 x13_1).f3.f0)) || (!(((rd_T36 l0 x13_1).f3.f1) == ((rd_T36 l1 x13_1).f3.f1)) || (!((((rd_T36 l0 x13_1).f3.f2).toList) == (((rd_T36 l1 x13_1).f3.f2).toList))))))))) = true
        ·rw [if_pos c8] at H
         have c8b0 : (!(((rd_T36 l0 x13_1).f0) == ((rd_T36 l1 x13_1).f0)) || (!(((rd_T36 l0 x13_1).f1) == ((rd_T36 l1 x13_1).f1)) || ((!(((rd_T36 l0 x13_1).f2.f0) == ((rd_T36 l1 x13_1).f2.f0)) || (!(((rd_T36 l0 x13_1).f2.f1) == ((rd_T36 l1 x13_1).f2.f1)) || (!((((rd_T36 l0 x13_1).f2.f2).toList) == (((rd_T36 l1 x13_1).f2.f2).toList))))) || ((!(((rd_T36 l0 x13_1).f3.f0) == ((rd_T36 l1 x13_1).f3.f0)) || (!(((rd_T36 l0 x13_1).f3.f1) == ((rd_T36 l1 x13_1).f3.f1)) || (!((((rd_T36 l0 x13_1).f3.f2).toList) == (((rd_T36 l1 x13_1).f3.f2).toList))))))))) = true := c8
         clear c8
         obtain rfl := Option.some.inj H
         have p113 : 0 ≤ (x13_1 : Int) := of_decide_eq_true z5_
         have q113 : x13_1 < (l0.length : Int) := of_decide_eq_true z5_
         obtain ⟨ad113, e113, hx113_0, hx113_1, hx113_2, hx113_3, hx113_4, hx113_5, hx113_6, hx113_7⟩ := at_T36 HR0.out x13_1 p113 q113
         cases e113
         replace p113 := eq_true p113
         replace q113 := eq_true q113
         have p114 : 0 ≤ (x13_1 : Int) := of_decide_eq_true z5_
         have q114 : x13_1 < (l1.length : Int) := of_decide_eq_true z5_
         obtain ⟨ad114, e114, hx114_0, hx114_1, hx114_2, hx114_3, hx114_4, hx114_5, hx114_6, hx114_7⟩ := at_T36 HR1.out x13_1 p114 q114
         cases e114
         replace p114 := eq_true p114
         replace q114 := eq_true q114
         go_wp2
         repeat (go_quiet (fail); try go_wp2)
         go_ret
         exact ⟨z4_, z11_⟩
        ·rw [if_neg c8] at H
         have c8b0 : (!(((rd_T36 l0 x13_1).f0) == ((rd_T36 l1 x13_1).f0)) || (!(((rd_T36 l0 x13_1).f1) == ((rd_T36 l1 x13_1).f1)) || ((!(((rd_T36 l0 x13_1).f2.f0) == ((rd_T36 l1 x13_1).f2.f0)) || (!(((rd_T36 l0 x13_1).f2.f1) == ((rd_T36 l1 x13_1).f2.f1)) || (!((((rd_T36 l0 x13_1).f2.f2).toList) == (((rd_T36 l1 x13_1).f2.f2).toList))))) || ((!(((rd_T36 l0 x13_1).f3.f0) == ((rd_T36 l1 x13_1).f3.f0)) || (!(((rd_T36 l0 x13_1).f3.f1) == ((rd_T36 l1 x13_1).f3.f1)) || (!((((rd_T36 l0 x13_1).f3.f2).toList) == (((rd_T36 l1 x13_1).f3.f2).toList))))))))) = false := by simpa using c8
         clear c8
         have H' := Aside0.mk H
         clear H
         have p113 : 0 ≤ (x13_1 : Int) := of_decide_eq_true z5_
         have q113 : x13_1 < (l0.length : Int) := of_decide_eq_true z5_
         obtain ⟨ad113, e113, hx113_0, hx113_1, hx113_2, hx113_3, hx113_4, hx113_5, hx113_6, hx113_7⟩ := at_T36 HR0.out x13_1 p113 q113
         cases e113
         replace p113 := eq_true p113
         replace q113 := eq_true q113
         have p114 : 0 ≤ (x13_1 : Int) := of_decide_eq_true z5_
         have q114 : x13_1 < (l1.length : Int) := of_decide_eq_true z5_
         obtain ⟨ad114, e114, hx114_0, hx114_1, hx114_2, hx114_3, hx114_4, hx114_5, hx114_6, hx114_7⟩ := at_T36 HR1.out x13_1 p114 q114
         cases e114
         replace p114 := eq_true p114
         replace q114 := eq_true q114
         go_wp2
         repeat (go_quiet (fail); try go_wp2)
         go_roundg k1
         case measure => have := HK1.out; omega
         case rel => exact ⟨(wrap64 (x13_1 + 1)), z4_, H', ⟨by have := HK1.out; omega⟩, z11_⟩
       ·rw [if_neg c7] at H
        exact absurd H (by simp)
      ·rw [if_neg c6] at H
       exact absurd H (by simp)
     ·rw [if_neg c5] at H
      exact absurd H (by simp)
    ·rw [if_neg c4] at H
     have c4b0 : decide (x13_1 < (l0.length : Int)) = false := decide_eq_false c4
     clear c4
     obtain rfl := Option.some.inj H
     go_wp2
     repeat (go_quiet (fail); try go_wp2)
     go_ret
     exact ⟨z4_, z11_⟩
 ·rw [if_neg c3] at H
  have c3b0 : ((l0.length : Int) == (l1.length : Int)) = false := beq_eq_false_iff_ne.mpr c3
  have c3b1 : ((l0.length : Int) != (l1.length : Int)) = true := bne_iff_ne.mpr c3
  have c3b2 : (l0.length == l1.length) = false := by first | simpa using c3 | (simp at c3 ⊢; omega)
  obtain rfl := Option.some.inj H
  go_enter Try.func33, Try.ntmps33
  go_wp2
  repeat (go_quiet (fail); try go_wp2)
  go_ret
  exact ⟨z4_, z11_⟩
def manifest_Same.f (k : Nat) (l0_0 : List (S36)) (a0_1 : Int) (a0_2 : Int) (l1_0 : List (S36)) (a1_1 : Int) (a1_2 : Int) : Option (Bool) := if a0_1 = a1_1 then (if a0_2 = a1_2 then ((api_Part_33.f k l0_0 l1_0).bind fun t117 => (some t117)) else (some false)) else (some false)
theorem manifest_Same.mono : ∀ a0 a1 a2 a3 a4 a5 k, LeO (manifest_Same.f k a0 a1 a2 a3 a4 a5) (manifest_Same.f (k + 1) a0 a1 a2 a3 a4 a5) := by
 intro a0 a1 a2 a3 a4 a5 k
 unfold manifest_Same.f
 repeat' first
   | (with_reducible exact api_Part_33.mono _ _ _)
   | (with_reducible exact LeO.refl _)
   | (with_reducible exact LeO.none _)
   | (with_reducible refine LeO.ite ?_ ?_)
   | (with_reducible refine LeO.bind ?_ (fun _ => ?_))
   | exact api_Part_33.mono _ _ _
   | exact LeO.none _
   | refine LeO.ite ?_ ?_
   | refine LeO.bind ?_ (fun _ => ?_)
set_option maxHeartbeats 8000000 in
set_option maxRecDepth 100000 in
theorem manifest_Same.calls (k : Nat) (A0_0 : Option Addr) (c0_0 : Nat) (l0_0 : List (S36)) (a0_1 : Int) (a0_2 : Int) (A1_0 : Option Addr) (c1_0 : Nat) (l1_0 : List (S36)) (a1_1 : Int) (a1_2 : Int) (r : Bool) (w : World) (hr0_0 : Kd.C k36 w A0_0 l0_0.length l0_0) (hc0_0 : l0_0.length ≤ c0_0) (hr1_0 : Kd.C k36 w A1_0 l1_0.length l1_0) (hc1_0 : l1_0.length ≤ c1_0) (h : manifest_Same.f k l0_0 a0_1 a0_2 l1_0 a1_1 a1_2 = some r) :
  Calls Try.prog 17 #[.agg #[.slice A0_0 l0_0.length c0_0, .int .i64 a0_1, .int .i64 a0_2], .agg #[.slice A1_0 l1_0.length c1_0, .int .i64 a1_1, .int .i64 a1_2]] w fun e w' => e = .returned (.bool r) ∧ Below w.heap.size w w' := by
 have hu26 := Try.underlying26
 have HR0_0 := Aside0.mk hr0_0
 have HC0_0 := Aside0.mk hc0_0
 clear hr0_0 hc0_0
 have HR1_0 := Aside0.mk hr1_0
 have HC1_0 := Aside0.mk hc1_0
 clear hr1_0 hc1_0
 have HB := Aside0.mk (Below.refl w.heap.size w)
 have H : (if a0_1 = a1_1 then (if a0_2 = a1_2 then ((api_Part_33.f k l0_0 l1_0).bind fun t117 => (some t117)) else (some false)) else (some false)) = some r := h
 clear h
 by_cases c3 : a0_1 = a1_1
 ·rw [if_pos c3] at H
  have c3b0 : (a0_1 == a1_1) = true := beq_iff_eq.mpr c3
  have c3b1 : (a0_1 != a1_1) = false := bne_eq_false_iff_eq.mpr c3
  clear c3
  by_cases c4 : a0_2 = a1_2
  ·rw [if_pos c4] at H
   have c4b0 : (a0_2 == a1_2) = true := beq_iff_eq.mpr c4
   have c4b1 : (a0_2 != a1_2) = false := bne_eq_false_iff_eq.mpr c4
   clear c4
   replace H := Option.bind_eq_some_iff.mp H
   obtain ⟨t117, A50, H⟩ := H
   replace H : (some t117) = some r := H
   have A5 := Aside0.mk A50
   clear A50
   obtain rfl := Option.some.inj H
   go_enter Try.func17, Try.ntmps17
   go_wp2_with (first | ((with_reducible refine gate_dst (N := 2) rfl ?_); refine box_event ?hg (N := 2) ?hd (cs := #[.slice A0_0 l0_0.length c0_0, .int .i64 a0_1, .int .i64 a0_2]) (t := 26) ?hr ?_; (case hd => rfl); (case hg => rfl); (case hr => first | (go_simp; done) | (go_simp; rfl)); intro gb115 hg w6 hbox hb; have n0_ := Aside0.mk (below_step z0_ hb); have n1_ := Aside0.mk (hbox); have n2_ := Aside0.mk ((by rw [hg]; exact (below_size z0_) : w.heap.size ≤ gb115)); have n3_ := Aside0.mk ((by rw [hg]; exact (below_size z0_) : w.heap.size ≤ gb115)); clear HB; have HB := n0_; have BK115 := n1_; have GW115 := n2_; have GE115 := n3_; clear n0_ n1_ n2_ n3_; clear hb hbox hg) | ((with_reducible refine gate_dst (N := 3) rfl ?_); refine box_event ?hg (N := 3) ?hd (cs := #[.slice A1_0 l1_0.length c1_0, .int .i64 a1_1, .int .i64 a1_2]) (t := 26) ?hr ?_; (case hd => rfl); (case hg => rfl); (case hr => first | (go_simp; done) | (go_simp; rfl)); intro gb116 hg w7 hbox hb; have n0_ := Aside0.mk (blk_below (g := gb115) (o := .cells #[.slice A0_0 l0_0.length c0_0, .int .i64 a0_1, .int .i64 a0_2] 26 (0, 0)) (by (with_reducible repeat (first | refine blk_drewN ?_ _ | refine blk_drew ?_ | refine blk_alloc ?_ _)); exact BK115.out) hb); have n1_ := Aside0.mk (below_step z16_ hb); have n2_ := Aside0.mk (hbox); have n3_ := Aside0.mk ((by rw [hg]; exact (below_size z16_) : w.heap.size ≤ gb116)); have n4_ := Aside0.mk ((by rw [hg]; exact (below_size z16_) : w.heap.size ≤ gb116)); have n5_ := Aside0.mk ((by rw [hg]; exact Nat.ne_of_lt (blk_lt (g := gb115) (o := .cells #[.slice A0_0 l0_0.length c0_0, .int .i64 a0_1, .int .i64 a0_2] 26 (0, 0)) (by (with_reducible repeat (first | refine blk_drewN ?_ _ | refine blk_drew ?_ | refine blk_alloc ?_ _)); exact BK115.out)) : gb115 ≠ gb116)); have n6_ := Aside0.mk ((by rw [hg]; exact Nat.ne_of_gt (blk_lt (g := gb115) (o := .cells #[.slice A0_0 l0_0.length c0_0, .int .i64 a0_1, .int .i64 a0_2] 26 (0, 0)) (by (with_reducible repeat (first | refine blk_drewN ?_ _ | refine blk_drew ?_ | refine blk_alloc ?_ _)); exact BK115.out)) : gb116 ≠ gb115)); clear BK115; clear HB; have BK115 := n0_; have HB := n1_; have BK116 := n2_; have GW116 := n3_; have GE116 := n4_; have NB115_116 := n5_; have NB116_115 := n6_; clear n0_ n1_ n2_ n3_ n4_ n5_ n6_; clear hb hbox hg; have hnb8 := NB115_116.out; have hnc8 := NB116_115.out; have hcz9_0 : w7.cell? ⟨gb115, 0, none⟩ = some (.slice A0_0 l0_0.length c0_0) := (blk_cell BK115.out 0).trans rfl; have hcz9_1 : w7.cell? ⟨gb115, 1, none⟩ = some (.int .i64 a0_1) := (blk_cell BK115.out 1).trans rfl; have hcz9_2 : w7.cell? ⟨gb115, 2, none⟩ = some (.int .i64 a0_2) := (blk_cell BK115.out 2).trans rfl; have hfz9_0 := blk_frozen BK115.out 0; have hfz9_1 := blk_frozen BK115.out 1; have hfz9_2 := blk_frozen BK115.out 2; have hcz10_0 : w7.cell? ⟨gb116, 0, none⟩ = some (.slice A1_0 l1_0.length c1_0) := (blk_cell BK116.out 0).trans rfl; have hcz10_1 : w7.cell? ⟨gb116, 1, none⟩ = some (.int .i64 a1_1) := (blk_cell BK116.out 1).trans rfl; have hcz10_2 : w7.cell? ⟨gb116, 2, none⟩ = some (.int .i64 a1_2) := (blk_cell BK116.out 2).trans rfl; have hfz10_0 := blk_frozen BK116.out 0; have hfz10_1 := blk_frozen BK116.out 1; have hfz10_2 := blk_frozen BK116.out 2) | (go_at_call 33; (with_reducible refine (api_Part_33.calls k _ _ l0_0 _ _ l1_0 t117 _ ?side1 ?side2 ?side3 ?side4 A5.out).mono ?_); (case side1 => repeat (first | exact (Kd.C_below HR0_0.out HB.out) | (with_reducible refine Kd.C_alloc ?_ _) | (with_reducible refine Kd.C_drewN ?_ _) | (with_reducible refine Kd.C_drew ?_))); (case side2 => exact HC0_0.out); (case side3 => repeat (first | exact (Kd.C_below HR1_0.out HB.out) | (with_reducible refine Kd.C_alloc ?_ _) | (with_reducible refine Kd.C_drewN ?_ _) | (with_reducible refine Kd.C_drew ?_))); (case side4 => exact HC1_0.out); rintro e w' ⟨rfl, ⟨nd, rfl⟩⟩))
   go_ret
   exact ⟨z2_, z23_⟩
  ·rw [if_neg c4] at H
   have c4b0 : (a0_2 == a1_2) = false := beq_eq_false_iff_ne.mpr c4
   have c4b1 : (a0_2 != a1_2) = true := bne_iff_ne.mpr c4
   obtain rfl := Option.some.inj H
   go_enter Try.func17, Try.ntmps17
   go_wp2_with (first | ((with_reducible refine gate_dst (N := 2) rfl ?_); refine box_event ?hg (N := 2) ?hd (cs := #[.slice A0_0 l0_0.length c0_0, .int .i64 a0_1, .int .i64 a0_2]) (t := 26) ?hr ?_; (case hd => rfl); (case hg => rfl); (case hr => first | (go_simp; done) | (go_simp; rfl)); intro gb115 hg w11 hbox hb; have n0_ := Aside0.mk (below_step z0_ hb); have n1_ := Aside0.mk (hbox); have n2_ := Aside0.mk ((by rw [hg]; exact (below_size z0_) : w.heap.size ≤ gb115)); have n3_ := Aside0.mk ((by rw [hg]; exact (below_size z0_) : w.heap.size ≤ gb115)); clear HB; have HB := n0_; have BK115 := n1_; have GW115 := n2_; have GE115 := n3_; clear n0_ n1_ n2_ n3_; clear hb hbox hg) | ((with_reducible refine gate_dst (N := 3) rfl ?_); refine box_event ?hg (N := 3) ?hd (cs := #[.slice A1_0 l1_0.length c1_0, .int .i64 a1_1, .int .i64 a1_2]) (t := 26) ?hr ?_; (case hd => rfl); (case hg => rfl); (case hr => first | (go_simp; done) | (go_simp; rfl)); intro gb116 hg w12 hbox hb; have n0_ := Aside0.mk (blk_below (g := gb115) (o := .cells #[.slice A0_0 l0_0.length c0_0, .int .i64 a0_1, .int .i64 a0_2] 26 (0, 0)) (by (with_reducible repeat (first | refine blk_drewN ?_ _ | refine blk_drew ?_ | refine blk_alloc ?_ _)); exact BK115.out) hb); have n1_ := Aside0.mk (below_step z16_ hb); have n2_ := Aside0.mk (hbox); have n3_ := Aside0.mk ((by rw [hg]; exact (below_size z16_) : w.heap.size ≤ gb116)); have n4_ := Aside0.mk ((by rw [hg]; exact (below_size z16_) : w.heap.size ≤ gb116)); have n5_ := Aside0.mk ((by rw [hg]; exact Nat.ne_of_lt (blk_lt (g := gb115) (o := .cells #[.slice A0_0 l0_0.length c0_0, .int .i64 a0_1, .int .i64 a0_2] 26 (0, 0)) (by (with_reducible repeat (first | refine blk_drewN ?_ _ | refine blk_drew ?_ | refine blk_alloc ?_ _)); exact BK115.out)) : gb115 ≠ gb116)); have n6_ := Aside0.mk ((by rw [hg]; exact Nat.ne_of_gt (blk_lt (g := gb115) (o := .cells #[.slice A0_0 l0_0.length c0_0, .int .i64 a0_1, .int .i64 a0_2] 26 (0, 0)) (by (with_reducible repeat (first | refine blk_drewN ?_ _ | refine blk_drew ?_ | refine blk_alloc ?_ _)); exact BK115.out)) : gb116 ≠ gb115)); clear BK115; clear HB; have BK115 := n0_; have HB := n1_; have BK116 := n2_; have GW116 := n3_; have GE116 := n4_; have NB115_116 := n5_; have NB116_115 := n6_; clear n0_ n1_ n2_ n3_ n4_ n5_ n6_; clear hb hbox hg; have hnb13 := NB115_116.out; have hnc13 := NB116_115.out; have hcz14_0 : w12.cell? ⟨gb115, 0, none⟩ = some (.slice A0_0 l0_0.length c0_0) := (blk_cell BK115.out 0).trans rfl; have hcz14_1 : w12.cell? ⟨gb115, 1, none⟩ = some (.int .i64 a0_1) := (blk_cell BK115.out 1).trans rfl; have hcz14_2 : w12.cell? ⟨gb115, 2, none⟩ = some (.int .i64 a0_2) := (blk_cell BK115.out 2).trans rfl; have hfz14_0 := blk_frozen BK115.out 0; have hfz14_1 := blk_frozen BK115.out 1; have hfz14_2 := blk_frozen BK115.out 2; have hcz15_0 : w12.cell? ⟨gb116, 0, none⟩ = some (.slice A1_0 l1_0.length c1_0) := (blk_cell BK116.out 0).trans rfl; have hcz15_1 : w12.cell? ⟨gb116, 1, none⟩ = some (.int .i64 a1_1) := (blk_cell BK116.out 1).trans rfl; have hcz15_2 : w12.cell? ⟨gb116, 2, none⟩ = some (.int .i64 a1_2) := (blk_cell BK116.out 2).trans rfl; have hfz15_0 := blk_frozen BK116.out 0; have hfz15_1 := blk_frozen BK116.out 1; have hfz15_2 := blk_frozen BK116.out 2))
   go_ret
   exact ⟨z2_, z23_⟩
 ·rw [if_neg c3] at H
  have c3b0 : (a0_1 == a1_1) = false := beq_eq_false_iff_ne.mpr c3
  have c3b1 : (a0_1 != a1_1) = true := bne_iff_ne.mpr c3
  obtain rfl := Option.some.inj H
  go_enter Try.func17, Try.ntmps17
  go_wp2_with (first | ((with_reducible refine gate_dst (N := 2) rfl ?_); refine box_event ?hg (N := 2) ?hd (cs := #[.slice A0_0 l0_0.length c0_0, .int .i64 a0_1, .int .i64 a0_2]) (t := 26) ?hr ?_; (case hd => rfl); (case hg => rfl); (case hr => first | (go_simp; done) | (go_simp; rfl)); intro gb115 hg w16 hbox hb; have n0_ := Aside0.mk (below_step z0_ hb); have n1_ := Aside0.mk (hbox); have n2_ := Aside0.mk ((by rw [hg]; exact (below_size z0_) : w.heap.size ≤ gb115)); have n3_ := Aside0.mk ((by rw [hg]; exact (below_size z0_) : w.heap.size ≤ gb115)); clear HB; have HB := n0_; have BK115 := n1_; have GW115 := n2_; have GE115 := n3_; clear n0_ n1_ n2_ n3_; clear hb hbox hg) | ((with_reducible refine gate_dst (N := 3) rfl ?_); refine box_event ?hg (N := 3) ?hd (cs := #[.slice A1_0 l1_0.length c1_0, .int .i64 a1_1, .int .i64 a1_2]) (t := 26) ?hr ?_; (case hd => rfl); (case hg => rfl); (case hr => first | (go_simp; done) | (go_simp; rfl)); intro gb116 hg w17 hbox hb; have n0_ := Aside0.mk (blk_below (g := gb115) (o := .cells #[.slice A0_0 l0_0.length c0_0, .int .i64 a0_1, .int .i64 a0_2] 26 (0, 0)) (by (with_reducible repeat (first | refine blk_drewN ?_ _ | refine blk_drew ?_ | refine blk_alloc ?_ _)); exact BK115.out) hb); have n1_ := Aside0.mk (below_step z16_ hb); have n2_ := Aside0.mk (hbox); have n3_ := Aside0.mk ((by rw [hg]; exact (below_size z16_) : w.heap.size ≤ gb116)); have n4_ := Aside0.mk ((by rw [hg]; exact (below_size z16_) : w.heap.size ≤ gb116)); have n5_ := Aside0.mk ((by rw [hg]; exact Nat.ne_of_lt (blk_lt (g := gb115) (o := .cells #[.slice A0_0 l0_0.length c0_0, .int .i64 a0_1, .int .i64 a0_2] 26 (0, 0)) (by (with_reducible repeat (first | refine blk_drewN ?_ _ | refine blk_drew ?_ | refine blk_alloc ?_ _)); exact BK115.out)) : gb115 ≠ gb116)); have n6_ := Aside0.mk ((by rw [hg]; exact Nat.ne_of_gt (blk_lt (g := gb115) (o := .cells #[.slice A0_0 l0_0.length c0_0, .int .i64 a0_1, .int .i64 a0_2] 26 (0, 0)) (by (with_reducible repeat (first | refine blk_drewN ?_ _ | refine blk_drew ?_ | refine blk_alloc ?_ _)); exact BK115.out)) : gb116 ≠ gb115)); clear BK115; clear HB; have BK115 := n0_; have HB := n1_; have BK116 := n2_; have GW116 := n3_; have GE116 := n4_; have NB115_116 := n5_; have NB116_115 := n6_; clear n0_ n1_ n2_ n3_ n4_ n5_ n6_; clear hb hbox hg; have hnb18 := NB115_116.out; have hnc18 := NB116_115.out; have hcz19_0 : w17.cell? ⟨gb115, 0, none⟩ = some (.slice A0_0 l0_0.length c0_0) := (blk_cell BK115.out 0).trans rfl; have hcz19_1 : w17.cell? ⟨gb115, 1, none⟩ = some (.int .i64 a0_1) := (blk_cell BK115.out 1).trans rfl; have hcz19_2 : w17.cell? ⟨gb115, 2, none⟩ = some (.int .i64 a0_2) := (blk_cell BK115.out 2).trans rfl; have hfz19_0 := blk_frozen BK115.out 0; have hfz19_1 := blk_frozen BK115.out 1; have hfz19_2 := blk_frozen BK115.out 2; have hcz20_0 : w17.cell? ⟨gb116, 0, none⟩ = some (.slice A1_0 l1_0.length c1_0) := (blk_cell BK116.out 0).trans rfl; have hcz20_1 : w17.cell? ⟨gb116, 1, none⟩ = some (.int .i64 a1_1) := (blk_cell BK116.out 1).trans rfl; have hcz20_2 : w17.cell? ⟨gb116, 2, none⟩ = some (.int .i64 a1_2) := (blk_cell BK116.out 2).trans rfl; have hfz20_0 := blk_frozen BK116.out 0; have hfz20_1 := blk_frozen BK116.out 1; have hfz20_2 := blk_frozen BK116.out 2))
  go_ret
  exact ⟨z2_, z23_⟩
end Go.Proofs.Ytagokgijffpdnaa.G
