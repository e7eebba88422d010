import Derived.Test.YtagokgijffpdnaaZG0
import Derived.Test.YtagokgijffpdnaaZG2
namespace Go.Proofs.Ytagokgijffpdnaa.G
open Go.RowKit Go.Proofs.YtagokgijffpdnaaQ Go.Proofs.YtagokgijffpdnaaW.PrintWords Go.Proofs.YtagokgijffpdnaaW.PrintLast Go.Proofs.YtagokgijffpdnaaW.PrintMore
attribute [local go_sem] max2_int min2_int max_two min_two max_three min_three max_four min_four   -- for this text's walks alone
set_option linter.unusedVariables false
set_option linter.unusedSimpArgs false
def oddI (n : Int) : Bool := decide (n < 0) || decide (999999999 < n)
def cmpV (a b : S34) : Int := if a.f0 = true then (if b.f0 = true then 0 else -1) else if b.f0 = true then 1 else if a.f1 < b.f1 then -1 else if b.f1 < a.f1 then 1 else cmpStr a.f2 b.f2
def badV (v : S34) : Bool := v.f0 || decide (64 < v.f2.size)
def oddP (p : S36) : Bool := oddI p.f0 || (decide (p.f1 < 0) || (decide (4 ≤ p.f1) || (badV p.f2 || (badV p.f3 || decide (0 < cmpV p.f2 p.f3)))))
def rightB (d : List Int) (a : List S36) (fl nx : Int) : Bool := decide (d.length ≤ 1000) && (decide (a.length ≤ 1000) && (!oddI fl && (!oddI nx && ((d.all fun x => !oddI x) && (a.all fun x => !oddP x)))))
theorem odd_f (n : Int) : manifest_odd.f n = some (oddI n) := by
  unfold manifest_odd.f oddI
  by_cases h : n < 0 <;> simp [h]
theorem Or_two {k : Nat} (hk : 4 ≤ k) (a b : Int) : cmp_Or_int.f k [a, b] = some (if a = 0 then b else a) := by
  obtain ⟨k, rfl⟩ : ∃ m, k = m + 3 := ⟨k - 3, by omega⟩
  unfold cmp_Or_int.f
  simp only [cmp_Or_int.l0]
  by_cases h : a = 0
  · by_cases h2 : b = 0
    · simp [h, h2, rd, wrap64]
    · simp [h, h2, rd, wrap64]
  · simp [h, rd]
theorem cmpI (a b : Int) : cmp_Compare_int64.f a b = some (if a < b then -1 else if b < a then 1 else 0) := by
  unfold cmp_Compare_int64.f cmp_isNaN_int64.f
  simp
  split
  · rfl
  · split <;> rfl
theorem cmpS (a b : ByteArray) : cmp_Compare_string.f a b = some (cmpStr a b) := rfl
theorem cmp_f {k : Nat} (hk : 5 ≤ k) (a b : S34) : kinds_Compare.f k a.f0 a.f1 a.f2 b.f0 b.f1 b.f2 = some (cmpV a b) := by
  obtain ⟨k, rfl⟩ : ∃ m, k = m + 1 := ⟨k - 1, by omega⟩
  unfold kinds_Compare.f cmpV
  simp only [kinds_Compare.j0, cmpI, cmpS, Option.bind_some, Or_two (show 4 ≤ k by omega)]
  cases a.f0 <;> cases b.f0
  · simp only [Bool.false_eq_true, if_false]
    by_cases h1 : a.f1 < b.f1
    · simp [h1]
    · by_cases h2 : b.f1 < a.f1
      · simp [h1, h2]
      · simp [h1, h2]
  · rfl
  · rfl
  · rfl
set_option maxHeartbeats 1000000 in
set_option maxRecDepth 100000 in
theorem manifest_right.val (v : S34) (w : World) : Calls Try.prog 61 #[.agg #[.bool v.f0, .int .i64 v.f1, .string v.f2]] w fun e w' => e = .returned (.bool (badV v)) ∧ Below w.heap.size w w' := by
  unfold badV
  obtain ⟨b0, hb0⟩ : ∃ b0, v.f0 = b0 := ⟨_, rfl⟩
  rw [hb0]
  clear hb0
  obtain ⟨b1, hb1⟩ : ∃ b1, decide ((64 : Int) < (v.f2.size : Int)) = b1 := ⟨_, rfl⟩
  have hb2 : decide (64 < v.f2.size) = b1 := by rw [← hb1]; simp; omega
  rw [hb2]
  cases b0 <;> cases b1
  all_goals
    go_enter Try.func61, Try.ntmps61
    go_wp2
    go_ret
    exact ⟨rfl, by repeat (first | exact Below.refl _ _ | apply below_alloc)⟩
set_option maxHeartbeats 1000000 in
set_option maxRecDepth 100000 in
theorem manifest_right.part0 (p : S36) (w : World) (h0 : oddI p.f0 = true) : Calls Try.prog 37 #[.agg #[.int .i64 p.f0, .int .i64 p.f1, .bool p.f2.f0, .int .i64 p.f2.f1, .string p.f2.f2, .bool p.f3.f0, .int .i64 p.f3.f1, .string p.f3.f2]] w fun e w' => e = .returned (.bool true) ∧ Below w.heap.size w w' := by
  have H0 := Aside0.mk ((odd_f p.f0).trans (congrArg some h0)); clear h0
  have hA := below_alloc (Below.refl w.heap.size w) (.cells #[.int .i64 p.f0, .int .i64 p.f1, .bool p.f2.f0, .int .i64 p.f2.f1, .string p.f2.f2, .bool p.f3.f0, .int .i64 p.f3.f1, .string p.f3.f2] 36)
  have HB := Aside0.mk hA
  have HE : Aside0 ((w.alloc (.cells #[.int .i64 p.f0, .int .i64 p.f1, .bool p.f2.f0, .int .i64 p.f2.f1, .string p.f2.f2, .bool p.f3.f0, .int .i64 p.f3.f1, .string p.f3.f2] 36)).heap[w.heap.size]? = some (.cells #[.int .i64 p.f0, .int .i64 p.f1, .bool p.f2.f0, .int .i64 p.f2.f1, .string p.f2.f2, .bool p.f3.f0, .int .i64 p.f3.f1, .string p.f3.f2] 36 (0, 0))) := ⟨heap_alloc_new w _⟩
  clear hA
  go_enter Try.func37, Try.ntmps37
  go_upto_region 1 with (fail)
  generalize World.alloc w _ = w1 at HB HE ⊢
  have q0 : w1.cell? ⟨w.heap.size, 0, none⟩ = some (.int .i64 p.f0) := (blk_cell HE.out 0).trans rfl
  have q1 : w1.cell? ⟨w.heap.size, 1, none⟩ = some (.int .i64 p.f1) := (blk_cell HE.out 1).trans rfl
  have q2 : w1.cell? ⟨w.heap.size, 2, none⟩ = some (.bool p.f2.f0) := (blk_cell HE.out 2).trans rfl
  have q3 : w1.cell? ⟨w.heap.size, 3, none⟩ = some (.int .i64 p.f2.f1) := (blk_cell HE.out 3).trans rfl
  have q4 : w1.cell? ⟨w.heap.size, 4, none⟩ = some (.string p.f2.f2) := (blk_cell HE.out 4).trans rfl
  have q5 : w1.cell? ⟨w.heap.size, 5, none⟩ = some (.bool p.f3.f0) := (blk_cell HE.out 5).trans rfl
  have q6 : w1.cell? ⟨w.heap.size, 6, none⟩ = some (.int .i64 p.f3.f1) := (blk_cell HE.out 6).trans rfl
  have q7 : w1.cell? ⟨w.heap.size, 7, none⟩ = some (.string p.f3.f2) := (blk_cell HE.out 7).trans rfl
  go_wp2_with fail
  refine (manifest_odd.calls p.f0 _ _ H0.out).mono ?_; rintro e w2 ⟨rfl, hb⟩
  replace hb := hb.below
  have HE2 := Aside0.mk ((hb.block _ (blk_lt HE.out)).trans HE.out); have HB2 := Aside0.mk (below_then HB.out HB.out.size hb); clear hb
  clear q0 q1 q2 q3 q4 q5 q6 q7
  have q0 : w2.cell? ⟨w.heap.size, 0, none⟩ = some (.int .i64 p.f0) := (blk_cell HE2.out 0).trans rfl
  have q1 : w2.cell? ⟨w.heap.size, 1, none⟩ = some (.int .i64 p.f1) := (blk_cell HE2.out 1).trans rfl
  have q2 : w2.cell? ⟨w.heap.size, 2, none⟩ = some (.bool p.f2.f0) := (blk_cell HE2.out 2).trans rfl
  have q3 : w2.cell? ⟨w.heap.size, 3, none⟩ = some (.int .i64 p.f2.f1) := (blk_cell HE2.out 3).trans rfl
  have q4 : w2.cell? ⟨w.heap.size, 4, none⟩ = some (.string p.f2.f2) := (blk_cell HE2.out 4).trans rfl
  have q5 : w2.cell? ⟨w.heap.size, 5, none⟩ = some (.bool p.f3.f0) := (blk_cell HE2.out 5).trans rfl
  have q6 : w2.cell? ⟨w.heap.size, 6, none⟩ = some (.int .i64 p.f3.f1) := (blk_cell HE2.out 6).trans rfl
  have q7 : w2.cell? ⟨w.heap.size, 7, none⟩ = some (.string p.f3.f2) := (blk_cell HE2.out 7).trans rfl
  go_wp2
  go_ret
  exact ⟨by first | rfl | (simp; omega), HB2.out⟩
set_option maxHeartbeats 1000000 in
set_option maxRecDepth 100000 in
theorem manifest_right.part1 (p : S36) (w : World) (h0 : oddI p.f0 = false) (h1 : decide (p.f1 < 0) = true) : Calls Try.prog 37 #[.agg #[.int .i64 p.f0, .int .i64 p.f1, .bool p.f2.f0, .int .i64 p.f2.f1, .string p.f2.f2, .bool p.f3.f0, .int .i64 p.f3.f1, .string p.f3.f2]] w fun e w' => e = .returned (.bool true) ∧ Below w.heap.size w w' := by
  have H0 := Aside0.mk ((odd_f p.f0).trans (congrArg some h0)); clear h0
  have hA := below_alloc (Below.refl w.heap.size w) (.cells #[.int .i64 p.f0, .int .i64 p.f1, .bool p.f2.f0, .int .i64 p.f2.f1, .string p.f2.f2, .bool p.f3.f0, .int .i64 p.f3.f1, .string p.f3.f2] 36)
  have HB := Aside0.mk hA
  have HE : Aside0 ((w.alloc (.cells #[.int .i64 p.f0, .int .i64 p.f1, .bool p.f2.f0, .int .i64 p.f2.f1, .string p.f2.f2, .bool p.f3.f0, .int .i64 p.f3.f1, .string p.f3.f2] 36)).heap[w.heap.size]? = some (.cells #[.int .i64 p.f0, .int .i64 p.f1, .bool p.f2.f0, .int .i64 p.f2.f1, .string p.f2.f2, .bool p.f3.f0, .int .i64 p.f3.f1, .string p.f3.f2] 36 (0, 0))) := ⟨heap_alloc_new w _⟩
  clear hA
  go_enter Try.func37, Try.ntmps37
  go_upto_region 1 with (fail)
  generalize World.alloc w _ = w1 at HB HE ⊢
  have q0 : w1.cell? ⟨w.heap.size, 0, none⟩ = some (.int .i64 p.f0) := (blk_cell HE.out 0).trans rfl
  have q1 : w1.cell? ⟨w.heap.size, 1, none⟩ = some (.int .i64 p.f1) := (blk_cell HE.out 1).trans rfl
  have q2 : w1.cell? ⟨w.heap.size, 2, none⟩ = some (.bool p.f2.f0) := (blk_cell HE.out 2).trans rfl
  have q3 : w1.cell? ⟨w.heap.size, 3, none⟩ = some (.int .i64 p.f2.f1) := (blk_cell HE.out 3).trans rfl
  have q4 : w1.cell? ⟨w.heap.size, 4, none⟩ = some (.string p.f2.f2) := (blk_cell HE.out 4).trans rfl
  have q5 : w1.cell? ⟨w.heap.size, 5, none⟩ = some (.bool p.f3.f0) := (blk_cell HE.out 5).trans rfl
  have q6 : w1.cell? ⟨w.heap.size, 6, none⟩ = some (.int .i64 p.f3.f1) := (blk_cell HE.out 6).trans rfl
  have q7 : w1.cell? ⟨w.heap.size, 7, none⟩ = some (.string p.f3.f2) := (blk_cell HE.out 7).trans rfl
  go_wp2_with fail
  refine (manifest_odd.calls p.f0 _ _ H0.out).mono ?_; rintro e w2 ⟨rfl, hb⟩
  replace hb := hb.below
  have HE2 := Aside0.mk ((hb.block _ (blk_lt HE.out)).trans HE.out); have HB2 := Aside0.mk (below_then HB.out HB.out.size hb); clear hb
  clear q0 q1 q2 q3 q4 q5 q6 q7
  have q0 : w2.cell? ⟨w.heap.size, 0, none⟩ = some (.int .i64 p.f0) := (blk_cell HE2.out 0).trans rfl
  have q1 : w2.cell? ⟨w.heap.size, 1, none⟩ = some (.int .i64 p.f1) := (blk_cell HE2.out 1).trans rfl
  have q2 : w2.cell? ⟨w.heap.size, 2, none⟩ = some (.bool p.f2.f0) := (blk_cell HE2.out 2).trans rfl
  have q3 : w2.cell? ⟨w.heap.size, 3, none⟩ = some (.int .i64 p.f2.f1) := (blk_cell HE2.out 3).trans rfl
  have q4 : w2.cell? ⟨w.heap.size, 4, none⟩ = some (.string p.f2.f2) := (blk_cell HE2.out 4).trans rfl
  have q5 : w2.cell? ⟨w.heap.size, 5, none⟩ = some (.bool p.f3.f0) := (blk_cell HE2.out 5).trans rfl
  have q6 : w2.cell? ⟨w.heap.size, 6, none⟩ = some (.int .i64 p.f3.f1) := (blk_cell HE2.out 6).trans rfl
  have q7 : w2.cell? ⟨w.heap.size, 7, none⟩ = some (.string p.f3.f2) := (blk_cell HE2.out 7).trans rfl
  go_wp2
  go_ret
  exact ⟨by first | rfl | (simp; omega), HB2.out⟩
set_option maxHeartbeats 1000000 in
set_option maxRecDepth 100000 in
theorem manifest_right.part2 (p : S36) (w : World) (h0 : oddI p.f0 = false) (h1 : decide (p.f1 < 0) = false) (h2 : decide (4 ≤ p.f1) = true) : Calls Try.prog 37 #[.agg #[.int .i64 p.f0, .int .i64 p.f1, .bool p.f2.f0, .int .i64 p.f2.f1, .string p.f2.f2, .bool p.f3.f0, .int .i64 p.f3.f1, .string p.f3.f2]] w fun e w' => e = .returned (.bool true) ∧ Below w.heap.size w w' := by
  have H0 := Aside0.mk ((odd_f p.f0).trans (congrArg some h0)); clear h0
  have hA := below_alloc (Below.refl w.heap.size w) (.cells #[.int .i64 p.f0, .int .i64 p.f1, .bool p.f2.f0, .int .i64 p.f2.f1, .string p.f2.f2, .bool p.f3.f0, .int .i64 p.f3.f1, .string p.f3.f2] 36)
  have HB := Aside0.mk hA
  have HE : Aside0 ((w.alloc (.cells #[.int .i64 p.f0, .int .i64 p.f1, .bool p.f2.f0, .int .i64 p.f2.f1, .string p.f2.f2, .bool p.f3.f0, .int .i64 p.f3.f1, .string p.f3.f2] 36)).heap[w.heap.size]? = some (.cells #[.int .i64 p.f0, .int .i64 p.f1, .bool p.f2.f0, .int .i64 p.f2.f1, .string p.f2.f2, .bool p.f3.f0, .int .i64 p.f3.f1, .string p.f3.f2] 36 (0, 0))) := ⟨heap_alloc_new w _⟩
  clear hA
  go_enter Try.func37, Try.ntmps37
  go_upto_region 1 with (fail)
  generalize World.alloc w _ = w1 at HB HE ⊢
  have q0 : w1.cell? ⟨w.heap.size, 0, none⟩ = some (.int .i64 p.f0) := (blk_cell HE.out 0).trans rfl
  have q1 : w1.cell? ⟨w.heap.size, 1, none⟩ = some (.int .i64 p.f1) := (blk_cell HE.out 1).trans rfl
  have q2 : w1.cell? ⟨w.heap.size, 2, none⟩ = some (.bool p.f2.f0) := (blk_cell HE.out 2).trans rfl
  have q3 : w1.cell? ⟨w.heap.size, 3, none⟩ = some (.int .i64 p.f2.f1) := (blk_cell HE.out 3).trans rfl
  have q4 : w1.cell? ⟨w.heap.size, 4, none⟩ = some (.string p.f2.f2) := (blk_cell HE.out 4).trans rfl
  have q5 : w1.cell? ⟨w.heap.size, 5, none⟩ = some (.bool p.f3.f0) := (blk_cell HE.out 5).trans rfl
  have q6 : w1.cell? ⟨w.heap.size, 6, none⟩ = some (.int .i64 p.f3.f1) := (blk_cell HE.out 6).trans rfl
  have q7 : w1.cell? ⟨w.heap.size, 7, none⟩ = some (.string p.f3.f2) := (blk_cell HE.out 7).trans rfl
  go_wp2_with fail
  refine (manifest_odd.calls p.f0 _ _ H0.out).mono ?_; rintro e w2 ⟨rfl, hb⟩
  replace hb := hb.below
  have HE2 := Aside0.mk ((hb.block _ (blk_lt HE.out)).trans HE.out); have HB2 := Aside0.mk (below_then HB.out HB.out.size hb); clear hb
  clear q0 q1 q2 q3 q4 q5 q6 q7
  have q0 : w2.cell? ⟨w.heap.size, 0, none⟩ = some (.int .i64 p.f0) := (blk_cell HE2.out 0).trans rfl
  have q1 : w2.cell? ⟨w.heap.size, 1, none⟩ = some (.int .i64 p.f1) := (blk_cell HE2.out 1).trans rfl
  have q2 : w2.cell? ⟨w.heap.size, 2, none⟩ = some (.bool p.f2.f0) := (blk_cell HE2.out 2).trans rfl
  have q3 : w2.cell? ⟨w.heap.size, 3, none⟩ = some (.int .i64 p.f2.f1) := (blk_cell HE2.out 3).trans rfl
  have q4 : w2.cell? ⟨w.heap.size, 4, none⟩ = some (.string p.f2.f2) := (blk_cell HE2.out 4).trans rfl
  have q5 : w2.cell? ⟨w.heap.size, 5, none⟩ = some (.bool p.f3.f0) := (blk_cell HE2.out 5).trans rfl
  have q6 : w2.cell? ⟨w.heap.size, 6, none⟩ = some (.int .i64 p.f3.f1) := (blk_cell HE2.out 6).trans rfl
  have q7 : w2.cell? ⟨w.heap.size, 7, none⟩ = some (.string p.f3.f2) := (blk_cell HE2.out 7).trans rfl
  go_wp2
  go_ret
  exact ⟨by first | rfl | (simp; omega), HB2.out⟩
set_option maxHeartbeats 1000000 in
set_option maxRecDepth 100000 in
theorem manifest_right.part3 (p : S36) (w : World) (h0 : oddI p.f0 = false) (h1 : decide (p.f1 < 0) = false) (h2 : decide (4 ≤ p.f1) = false) (h3 : badV p.f2 = true) : Calls Try.prog 37 #[.agg #[.int .i64 p.f0, .int .i64 p.f1, .bool p.f2.f0, .int .i64 p.f2.f1, .string p.f2.f2, .bool p.f3.f0, .int .i64 p.f3.f1, .string p.f3.f2]] w fun e w' => e = .returned (.bool true) ∧ Below w.heap.size w w' := by
  have H0 := Aside0.mk ((odd_f p.f0).trans (congrArg some h0)); clear h0
  have H3 := Aside0.mk h3; clear h3
  have hA := below_alloc (Below.refl w.heap.size w) (.cells #[.int .i64 p.f0, .int .i64 p.f1, .bool p.f2.f0, .int .i64 p.f2.f1, .string p.f2.f2, .bool p.f3.f0, .int .i64 p.f3.f1, .string p.f3.f2] 36)
  have HB := Aside0.mk hA
  have HE : Aside0 ((w.alloc (.cells #[.int .i64 p.f0, .int .i64 p.f1, .bool p.f2.f0, .int .i64 p.f2.f1, .string p.f2.f2, .bool p.f3.f0, .int .i64 p.f3.f1, .string p.f3.f2] 36)).heap[w.heap.size]? = some (.cells #[.int .i64 p.f0, .int .i64 p.f1, .bool p.f2.f0, .int .i64 p.f2.f1, .string p.f2.f2, .bool p.f3.f0, .int .i64 p.f3.f1, .string p.f3.f2] 36 (0, 0))) := ⟨heap_alloc_new w _⟩
  clear hA
  go_enter Try.func37, Try.ntmps37
  go_upto_region 1 with (fail)
  generalize World.alloc w _ = w1 at HB HE ⊢
  have q0 : w1.cell? ⟨w.heap.size, 0, none⟩ = some (.int .i64 p.f0) := (blk_cell HE.out 0).trans rfl
  have q1 : w1.cell? ⟨w.heap.size, 1, none⟩ = some (.int .i64 p.f1) := (blk_cell HE.out 1).trans rfl
  have q2 : w1.cell? ⟨w.heap.size, 2, none⟩ = some (.bool p.f2.f0) := (blk_cell HE.out 2).trans rfl
  have q3 : w1.cell? ⟨w.heap.size, 3, none⟩ = some (.int .i64 p.f2.f1) := (blk_cell HE.out 3).trans rfl
  have q4 : w1.cell? ⟨w.heap.size, 4, none⟩ = some (.string p.f2.f2) := (blk_cell HE.out 4).trans rfl
  have q5 : w1.cell? ⟨w.heap.size, 5, none⟩ = some (.bool p.f3.f0) := (blk_cell HE.out 5).trans rfl
  have q6 : w1.cell? ⟨w.heap.size, 6, none⟩ = some (.int .i64 p.f3.f1) := (blk_cell HE.out 6).trans rfl
  have q7 : w1.cell? ⟨w.heap.size, 7, none⟩ = some (.string p.f3.f2) := (blk_cell HE.out 7).trans rfl
  go_wp2_with fail
  refine (manifest_odd.calls p.f0 _ _ H0.out).mono ?_; rintro e w2 ⟨rfl, hb⟩
  replace hb := hb.below
  have HE2 := Aside0.mk ((hb.block _ (blk_lt HE.out)).trans HE.out); have HB2 := Aside0.mk (below_then HB.out HB.out.size hb); clear hb
  clear q0 q1 q2 q3 q4 q5 q6 q7
  have q0 : w2.cell? ⟨w.heap.size, 0, none⟩ = some (.int .i64 p.f0) := (blk_cell HE2.out 0).trans rfl
  have q1 : w2.cell? ⟨w.heap.size, 1, none⟩ = some (.int .i64 p.f1) := (blk_cell HE2.out 1).trans rfl
  have q2 : w2.cell? ⟨w.heap.size, 2, none⟩ = some (.bool p.f2.f0) := (blk_cell HE2.out 2).trans rfl
  have q3 : w2.cell? ⟨w.heap.size, 3, none⟩ = some (.int .i64 p.f2.f1) := (blk_cell HE2.out 3).trans rfl
  have q4 : w2.cell? ⟨w.heap.size, 4, none⟩ = some (.string p.f2.f2) := (blk_cell HE2.out 4).trans rfl
  have q5 : w2.cell? ⟨w.heap.size, 5, none⟩ = some (.bool p.f3.f0) := (blk_cell HE2.out 5).trans rfl
  have q6 : w2.cell? ⟨w.heap.size, 6, none⟩ = some (.int .i64 p.f3.f1) := (blk_cell HE2.out 6).trans rfl
  have q7 : w2.cell? ⟨w.heap.size, 7, none⟩ = some (.string p.f3.f2) := (blk_cell HE2.out 7).trans rfl
  go_wp2_with fail
  refine (manifest_right.val p.f2 _).mono ?_; rintro e w3 ⟨rfl, hb⟩
  rw [H3.out]
  have HE3 := Aside0.mk ((hb.block _ (blk_lt HE2.out)).trans HE2.out); have HB3 := Aside0.mk (below_then HB2.out HB2.out.size hb); clear hb
  clear q0 q1 q2 q3 q4 q5 q6 q7
  have q0 : w3.cell? ⟨w.heap.size, 0, none⟩ = some (.int .i64 p.f0) := (blk_cell HE3.out 0).trans rfl
  have q1 : w3.cell? ⟨w.heap.size, 1, none⟩ = some (.int .i64 p.f1) := (blk_cell HE3.out 1).trans rfl
  have q2 : w3.cell? ⟨w.heap.size, 2, none⟩ = some (.bool p.f2.f0) := (blk_cell HE3.out 2).trans rfl
  have q3 : w3.cell? ⟨w.heap.size, 3, none⟩ = some (.int .i64 p.f2.f1) := (blk_cell HE3.out 3).trans rfl
  have q4 : w3.cell? ⟨w.heap.size, 4, none⟩ = some (.string p.f2.f2) := (blk_cell HE3.out 4).trans rfl
  have q5 : w3.cell? ⟨w.heap.size, 5, none⟩ = some (.bool p.f3.f0) := (blk_cell HE3.out 5).trans rfl
  have q6 : w3.cell? ⟨w.heap.size, 6, none⟩ = some (.int .i64 p.f3.f1) := (blk_cell HE3.out 6).trans rfl
  have q7 : w3.cell? ⟨w.heap.size, 7, none⟩ = some (.string p.f3.f2) := (blk_cell HE3.out 7).trans rfl
  go_wp2
  go_ret
  exact ⟨by first | rfl | (simp; omega), HB3.out⟩
set_option maxHeartbeats 1000000 in
set_option maxRecDepth 100000 in
theorem manifest_right.part4 (p : S36) (w : World) (h0 : oddI p.f0 = false) (h1 : decide (p.f1 < 0) = false) (h2 : decide (4 ≤ p.f1) = false) (h3 : badV p.f2 = false) (h4 : badV p.f3 = true) : Calls Try.prog 37 #[.agg #[.int .i64 p.f0, .int .i64 p.f1, .bool p.f2.f0, .int .i64 p.f2.f1, .string p.f2.f2, .bool p.f3.f0, .int .i64 p.f3.f1, .string p.f3.f2]] w fun e w' => e = .returned (.bool true) ∧ Below w.heap.size w w' := by
  have H0 := Aside0.mk ((odd_f p.f0).trans (congrArg some h0)); clear h0
  have H3 := Aside0.mk h3; clear h3
  have H4 := Aside0.mk h4; clear h4
  have hA := below_alloc (Below.refl w.heap.size w) (.cells #[.int .i64 p.f0, .int .i64 p.f1, .bool p.f2.f0, .int .i64 p.f2.f1, .string p.f2.f2, .bool p.f3.f0, .int .i64 p.f3.f1, .string p.f3.f2] 36)
  have HB := Aside0.mk hA
  have HE : Aside0 ((w.alloc (.cells #[.int .i64 p.f0, .int .i64 p.f1, .bool p.f2.f0, .int .i64 p.f2.f1, .string p.f2.f2, .bool p.f3.f0, .int .i64 p.f3.f1, .string p.f3.f2] 36)).heap[w.heap.size]? = some (.cells #[.int .i64 p.f0, .int .i64 p.f1, .bool p.f2.f0, .int .i64 p.f2.f1, .string p.f2.f2, .bool p.f3.f0, .int .i64 p.f3.f1, .string p.f3.f2] 36 (0, 0))) := ⟨heap_alloc_new w _⟩
  clear hA
  go_enter Try.func37, Try.ntmps37
  go_upto_region 1 with (fail)
  generalize World.alloc w _ = w1 at HB HE ⊢
  have q0 : w1.cell? ⟨w.heap.size, 0, none⟩ = some (.int .i64 p.f0) := (blk_cell HE.out 0).trans rfl
  have q1 : w1.cell? ⟨w.heap.size, 1, none⟩ = some (.int .i64 p.f1) := (blk_cell HE.out 1).trans rfl
  have q2 : w1.cell? ⟨w.heap.size, 2, none⟩ = some (.bool p.f2.f0) := (blk_cell HE.out 2).trans rfl
  have q3 : w1.cell? ⟨w.heap.size, 3, none⟩ = some (.int .i64 p.f2.f1) := (blk_cell HE.out 3).trans rfl
  have q4 : w1.cell? ⟨w.heap.size, 4, none⟩ = some (.string p.f2.f2) := (blk_cell HE.out 4).trans rfl
  have q5 : w1.cell? ⟨w.heap.size, 5, none⟩ = some (.bool p.f3.f0) := (blk_cell HE.out 5).trans rfl
  have q6 : w1.cell? ⟨w.heap.size, 6, none⟩ = some (.int .i64 p.f3.f1) := (blk_cell HE.out 6).trans rfl
  have q7 : w1.cell? ⟨w.heap.size, 7, none⟩ = some (.string p.f3.f2) := (blk_cell HE.out 7).trans rfl
  go_wp2_with fail
  refine (manifest_odd.calls p.f0 _ _ H0.out).mono ?_; rintro e w2 ⟨rfl, hb⟩
  replace hb := hb.below
  have HE2 := Aside0.mk ((hb.block _ (blk_lt HE.out)).trans HE.out); have HB2 := Aside0.mk (below_then HB.out HB.out.size hb); clear hb
  clear q0 q1 q2 q3 q4 q5 q6 q7
  have q0 : w2.cell? ⟨w.heap.size, 0, none⟩ = some (.int .i64 p.f0) := (blk_cell HE2.out 0).trans rfl
  have q1 : w2.cell? ⟨w.heap.size, 1, none⟩ = some (.int .i64 p.f1) := (blk_cell HE2.out 1).trans rfl
  have q2 : w2.cell? ⟨w.heap.size, 2, none⟩ = some (.bool p.f2.f0) := (blk_cell HE2.out 2).trans rfl
  have q3 : w2.cell? ⟨w.heap.size, 3, none⟩ = some (.int .i64 p.f2.f1) := (blk_cell HE2.out 3).trans rfl
  have q4 : w2.cell? ⟨w.heap.size, 4, none⟩ = some (.string p.f2.f2) := (blk_cell HE2.out 4).trans rfl
  have q5 : w2.cell? ⟨w.heap.size, 5, none⟩ = some (.bool p.f3.f0) := (blk_cell HE2.out 5).trans rfl
  have q6 : w2.cell? ⟨w.heap.size, 6, none⟩ = some (.int .i64 p.f3.f1) := (blk_cell HE2.out 6).trans rfl
  have q7 : w2.cell? ⟨w.heap.size, 7, none⟩ = some (.string p.f3.f2) := (blk_cell HE2.out 7).trans rfl
  go_wp2_with fail
  refine (manifest_right.val p.f2 _).mono ?_; rintro e w3 ⟨rfl, hb⟩
  rw [H3.out]
  have HE3 := Aside0.mk ((hb.block _ (blk_lt HE2.out)).trans HE2.out); have HB3 := Aside0.mk (below_then HB2.out HB2.out.size hb); clear hb
  clear q0 q1 q2 q3 q4 q5 q6 q7
  have q0 : w3.cell? ⟨w.heap.size, 0, none⟩ = some (.int .i64 p.f0) := (blk_cell HE3.out 0).trans rfl
  have q1 : w3.cell? ⟨w.heap.size, 1, none⟩ = some (.int .i64 p.f1) := (blk_cell HE3.out 1).trans rfl
  have q2 : w3.cell? ⟨w.heap.size, 2, none⟩ = some (.bool p.f2.f0) := (blk_cell HE3.out 2).trans rfl
  have q3 : w3.cell? ⟨w.heap.size, 3, none⟩ = some (.int .i64 p.f2.f1) := (blk_cell HE3.out 3).trans rfl
  have q4 : w3.cell? ⟨w.heap.size, 4, none⟩ = some (.string p.f2.f2) := (blk_cell HE3.out 4).trans rfl
  have q5 : w3.cell? ⟨w.heap.size, 5, none⟩ = some (.bool p.f3.f0) := (blk_cell HE3.out 5).trans rfl
  have q6 : w3.cell? ⟨w.heap.size, 6, none⟩ = some (.int .i64 p.f3.f1) := (blk_cell HE3.out 6).trans rfl
  have q7 : w3.cell? ⟨w.heap.size, 7, none⟩ = some (.string p.f3.f2) := (blk_cell HE3.out 7).trans rfl
  go_wp2_with fail
  refine (manifest_right.val p.f3 _).mono ?_; rintro e w4 ⟨rfl, hb⟩
  rw [H4.out]
  have HE4 := Aside0.mk ((hb.block _ (blk_lt HE3.out)).trans HE3.out); have HB4 := Aside0.mk (below_then HB3.out HB3.out.size hb); clear hb
  clear q0 q1 q2 q3 q4 q5 q6 q7
  have q0 : w4.cell? ⟨w.heap.size, 0, none⟩ = some (.int .i64 p.f0) := (blk_cell HE4.out 0).trans rfl
  have q1 : w4.cell? ⟨w.heap.size, 1, none⟩ = some (.int .i64 p.f1) := (blk_cell HE4.out 1).trans rfl
  have q2 : w4.cell? ⟨w.heap.size, 2, none⟩ = some (.bool p.f2.f0) := (blk_cell HE4.out 2).trans rfl
  have q3 : w4.cell? ⟨w.heap.size, 3, none⟩ = some (.int .i64 p.f2.f1) := (blk_cell HE4.out 3).trans rfl
  have q4 : w4.cell? ⟨w.heap.size, 4, none⟩ = some (.string p.f2.f2) := (blk_cell HE4.out 4).trans rfl
  have q5 : w4.cell? ⟨w.heap.size, 5, none⟩ = some (.bool p.f3.f0) := (blk_cell HE4.out 5).trans rfl
  have q6 : w4.cell? ⟨w.heap.size, 6, none⟩ = some (.int .i64 p.f3.f1) := (blk_cell HE4.out 6).trans rfl
  have q7 : w4.cell? ⟨w.heap.size, 7, none⟩ = some (.string p.f3.f2) := (blk_cell HE4.out 7).trans rfl
  go_wp2
  go_ret
  exact ⟨by first | rfl | (simp; omega), HB4.out⟩
set_option maxHeartbeats 1000000 in
set_option maxRecDepth 100000 in
theorem manifest_right.part5 (p : S36) (w : World) (h0 : oddI p.f0 = false) (h1 : decide (p.f1 < 0) = false) (h2 : decide (4 ≤ p.f1) = false) (h3 : badV p.f2 = false) (h4 : badV p.f3 = false) (h5 : decide (0 < cmpV p.f2 p.f3) = true) : Calls Try.prog 37 #[.agg #[.int .i64 p.f0, .int .i64 p.f1, .bool p.f2.f0, .int .i64 p.f2.f1, .string p.f2.f2, .bool p.f3.f0, .int .i64 p.f3.f1, .string p.f3.f2]] w fun e w' => e = .returned (.bool true) ∧ Below w.heap.size w w' := by
  have H0 := Aside0.mk ((odd_f p.f0).trans (congrArg some h0)); clear h0
  have H3 := Aside0.mk h3; clear h3
  have H4 := Aside0.mk h4; clear h4
  obtain ⟨c, hc⟩ : ∃ c, cmpV p.f2 p.f3 = c := ⟨_, rfl⟩
  rw [hc] at h5
  have H5 := Aside0.mk ((cmp_f (k := 5) (by omega) p.f2 p.f3).trans (congrArg some hc)); clear hc
  have hA := below_alloc (Below.refl w.heap.size w) (.cells #[.int .i64 p.f0, .int .i64 p.f1, .bool p.f2.f0, .int .i64 p.f2.f1, .string p.f2.f2, .bool p.f3.f0, .int .i64 p.f3.f1, .string p.f3.f2] 36)
  have HB := Aside0.mk hA
  have HE : Aside0 ((w.alloc (.cells #[.int .i64 p.f0, .int .i64 p.f1, .bool p.f2.f0, .int .i64 p.f2.f1, .string p.f2.f2, .bool p.f3.f0, .int .i64 p.f3.f1, .string p.f3.f2] 36)).heap[w.heap.size]? = some (.cells #[.int .i64 p.f0, .int .i64 p.f1, .bool p.f2.f0, .int .i64 p.f2.f1, .string p.f2.f2, .bool p.f3.f0, .int .i64 p.f3.f1, .string p.f3.f2] 36 (0, 0))) := ⟨heap_alloc_new w _⟩
  clear hA
  go_enter Try.func37, Try.ntmps37
  go_upto_region 1 with (fail)
  generalize World.alloc w _ = w1 at HB HE ⊢
  have q0 : w1.cell? ⟨w.heap.size, 0, none⟩ = some (.int .i64 p.f0) := (blk_cell HE.out 0).trans rfl
  have q1 : w1.cell? ⟨w.heap.size, 1, none⟩ = some (.int .i64 p.f1) := (blk_cell HE.out 1).trans rfl
  have q2 : w1.cell? ⟨w.heap.size, 2, none⟩ = some (.bool p.f2.f0) := (blk_cell HE.out 2).trans rfl
  have q3 : w1.cell? ⟨w.heap.size, 3, none⟩ = some (.int .i64 p.f2.f1) := (blk_cell HE.out 3).trans rfl
  have q4 : w1.cell? ⟨w.heap.size, 4, none⟩ = some (.string p.f2.f2) := (blk_cell HE.out 4).trans rfl
  have q5 : w1.cell? ⟨w.heap.size, 5, none⟩ = some (.bool p.f3.f0) := (blk_cell HE.out 5).trans rfl
  have q6 : w1.cell? ⟨w.heap.size, 6, none⟩ = some (.int .i64 p.f3.f1) := (blk_cell HE.out 6).trans rfl
  have q7 : w1.cell? ⟨w.heap.size, 7, none⟩ = some (.string p.f3.f2) := (blk_cell HE.out 7).trans rfl
  go_wp2_with fail
  refine (manifest_odd.calls p.f0 _ _ H0.out).mono ?_; rintro e w2 ⟨rfl, hb⟩
  replace hb := hb.below
  have HE2 := Aside0.mk ((hb.block _ (blk_lt HE.out)).trans HE.out); have HB2 := Aside0.mk (below_then HB.out HB.out.size hb); clear hb
  clear q0 q1 q2 q3 q4 q5 q6 q7
  have q0 : w2.cell? ⟨w.heap.size, 0, none⟩ = some (.int .i64 p.f0) := (blk_cell HE2.out 0).trans rfl
  have q1 : w2.cell? ⟨w.heap.size, 1, none⟩ = some (.int .i64 p.f1) := (blk_cell HE2.out 1).trans rfl
  have q2 : w2.cell? ⟨w.heap.size, 2, none⟩ = some (.bool p.f2.f0) := (blk_cell HE2.out 2).trans rfl
  have q3 : w2.cell? ⟨w.heap.size, 3, none⟩ = some (.int .i64 p.f2.f1) := (blk_cell HE2.out 3).trans rfl
  have q4 : w2.cell? ⟨w.heap.size, 4, none⟩ = some (.string p.f2.f2) := (blk_cell HE2.out 4).trans rfl
  have q5 : w2.cell? ⟨w.heap.size, 5, none⟩ = some (.bool p.f3.f0) := (blk_cell HE2.out 5).trans rfl
  have q6 : w2.cell? ⟨w.heap.size, 6, none⟩ = some (.int .i64 p.f3.f1) := (blk_cell HE2.out 6).trans rfl
  have q7 : w2.cell? ⟨w.heap.size, 7, none⟩ = some (.string p.f3.f2) := (blk_cell HE2.out 7).trans rfl
  go_wp2_with fail
  refine (manifest_right.val p.f2 _).mono ?_; rintro e w3 ⟨rfl, hb⟩
  rw [H3.out]
  have HE3 := Aside0.mk ((hb.block _ (blk_lt HE2.out)).trans HE2.out); have HB3 := Aside0.mk (below_then HB2.out HB2.out.size hb); clear hb
  clear q0 q1 q2 q3 q4 q5 q6 q7
  have q0 : w3.cell? ⟨w.heap.size, 0, none⟩ = some (.int .i64 p.f0) := (blk_cell HE3.out 0).trans rfl
  have q1 : w3.cell? ⟨w.heap.size, 1, none⟩ = some (.int .i64 p.f1) := (blk_cell HE3.out 1).trans rfl
  have q2 : w3.cell? ⟨w.heap.size, 2, none⟩ = some (.bool p.f2.f0) := (blk_cell HE3.out 2).trans rfl
  have q3 : w3.cell? ⟨w.heap.size, 3, none⟩ = some (.int .i64 p.f2.f1) := (blk_cell HE3.out 3).trans rfl
  have q4 : w3.cell? ⟨w.heap.size, 4, none⟩ = some (.string p.f2.f2) := (blk_cell HE3.out 4).trans rfl
  have q5 : w3.cell? ⟨w.heap.size, 5, none⟩ = some (.bool p.f3.f0) := (blk_cell HE3.out 5).trans rfl
  have q6 : w3.cell? ⟨w.heap.size, 6, none⟩ = some (.int .i64 p.f3.f1) := (blk_cell HE3.out 6).trans rfl
  have q7 : w3.cell? ⟨w.heap.size, 7, none⟩ = some (.string p.f3.f2) := (blk_cell HE3.out 7).trans rfl
  go_wp2_with fail
  refine (manifest_right.val p.f3 _).mono ?_; rintro e w4 ⟨rfl, hb⟩
  rw [H4.out]
  have HE4 := Aside0.mk ((hb.block _ (blk_lt HE3.out)).trans HE3.out); have HB4 := Aside0.mk (below_then HB3.out HB3.out.size hb); clear hb
  clear q0 q1 q2 q3 q4 q5 q6 q7
  have q0 : w4.cell? ⟨w.heap.size, 0, none⟩ = some (.int .i64 p.f0) := (blk_cell HE4.out 0).trans rfl
  have q1 : w4.cell? ⟨w.heap.size, 1, none⟩ = some (.int .i64 p.f1) := (blk_cell HE4.out 1).trans rfl
  have q2 : w4.cell? ⟨w.heap.size, 2, none⟩ = some (.bool p.f2.f0) := (blk_cell HE4.out 2).trans rfl
  have q3 : w4.cell? ⟨w.heap.size, 3, none⟩ = some (.int .i64 p.f2.f1) := (blk_cell HE4.out 3).trans rfl
  have q4 : w4.cell? ⟨w.heap.size, 4, none⟩ = some (.string p.f2.f2) := (blk_cell HE4.out 4).trans rfl
  have q5 : w4.cell? ⟨w.heap.size, 5, none⟩ = some (.bool p.f3.f0) := (blk_cell HE4.out 5).trans rfl
  have q6 : w4.cell? ⟨w.heap.size, 6, none⟩ = some (.int .i64 p.f3.f1) := (blk_cell HE4.out 6).trans rfl
  have q7 : w4.cell? ⟨w.heap.size, 7, none⟩ = some (.string p.f3.f2) := (blk_cell HE4.out 7).trans rfl
  go_wp2_with fail
  refine (kinds_Compare.calls 5 _ _ _ _ _ _ _ _ H5.out).mono ?_; rintro e w5 ⟨rfl, hb⟩
  have HE5 := Aside0.mk ((hb.block _ (blk_lt HE4.out)).trans HE4.out); have HB5 := Aside0.mk (below_then HB4.out HB4.out.size hb); clear hb
  clear q0 q1 q2 q3 q4 q5 q6 q7
  have q0 : w5.cell? ⟨w.heap.size, 0, none⟩ = some (.int .i64 p.f0) := (blk_cell HE5.out 0).trans rfl
  have q1 : w5.cell? ⟨w.heap.size, 1, none⟩ = some (.int .i64 p.f1) := (blk_cell HE5.out 1).trans rfl
  have q2 : w5.cell? ⟨w.heap.size, 2, none⟩ = some (.bool p.f2.f0) := (blk_cell HE5.out 2).trans rfl
  have q3 : w5.cell? ⟨w.heap.size, 3, none⟩ = some (.int .i64 p.f2.f1) := (blk_cell HE5.out 3).trans rfl
  have q4 : w5.cell? ⟨w.heap.size, 4, none⟩ = some (.string p.f2.f2) := (blk_cell HE5.out 4).trans rfl
  have q5 : w5.cell? ⟨w.heap.size, 5, none⟩ = some (.bool p.f3.f0) := (blk_cell HE5.out 5).trans rfl
  have q6 : w5.cell? ⟨w.heap.size, 6, none⟩ = some (.int .i64 p.f3.f1) := (blk_cell HE5.out 6).trans rfl
  have q7 : w5.cell? ⟨w.heap.size, 7, none⟩ = some (.string p.f3.f2) := (blk_cell HE5.out 7).trans rfl
  go_wp2
  go_ret
  exact ⟨by first | rfl | (simp; omega), HB5.out⟩
set_option maxHeartbeats 1000000 in
set_option maxRecDepth 100000 in
theorem manifest_right.part6 (p : S36) (w : World) (h0 : oddI p.f0 = false) (h1 : decide (p.f1 < 0) = false) (h2 : decide (4 ≤ p.f1) = false) (h3 : badV p.f2 = false) (h4 : badV p.f3 = false) (h5 : decide (0 < cmpV p.f2 p.f3) = false) : Calls Try.prog 37 #[.agg #[.int .i64 p.f0, .int .i64 p.f1, .bool p.f2.f0, .int .i64 p.f2.f1, .string p.f2.f2, .bool p.f3.f0, .int .i64 p.f3.f1, .string p.f3.f2]] w fun e w' => e = .returned (.bool false) ∧ Below w.heap.size w w' := by
  have H0 := Aside0.mk ((odd_f p.f0).trans (congrArg some h0)); clear h0
  have H3 := Aside0.mk h3; clear h3
  have H4 := Aside0.mk h4; clear h4
  obtain ⟨c, hc⟩ : ∃ c, cmpV p.f2 p.f3 = c := ⟨_, rfl⟩
  rw [hc] at h5
  have H5 := Aside0.mk ((cmp_f (k := 5) (by omega) p.f2 p.f3).trans (congrArg some hc)); clear hc
  have hA := below_alloc (Below.refl w.heap.size w) (.cells #[.int .i64 p.f0, .int .i64 p.f1, .bool p.f2.f0, .int .i64 p.f2.f1, .string p.f2.f2, .bool p.f3.f0, .int .i64 p.f3.f1, .string p.f3.f2] 36)
  have HB := Aside0.mk hA
  have HE : Aside0 ((w.alloc (.cells #[.int .i64 p.f0, .int .i64 p.f1, .bool p.f2.f0, .int .i64 p.f2.f1, .string p.f2.f2, .bool p.f3.f0, .int .i64 p.f3.f1, .string p.f3.f2] 36)).heap[w.heap.size]? = some (.cells #[.int .i64 p.f0, .int .i64 p.f1, .bool p.f2.f0, .int .i64 p.f2.f1, .string p.f2.f2, .bool p.f3.f0, .int .i64 p.f3.f1, .string p.f3.f2] 36 (0, 0))) := ⟨heap_alloc_new w _⟩
  clear hA
  go_enter Try.func37, Try.ntmps37
  go_upto_region 1 with (fail)
  generalize World.alloc w _ = w1 at HB HE ⊢
  have q0 : w1.cell? ⟨w.heap.size, 0, none⟩ = some (.int .i64 p.f0) := (blk_cell HE.out 0).trans rfl
  have q1 : w1.cell? ⟨w.heap.size, 1, none⟩ = some (.int .i64 p.f1) := (blk_cell HE.out 1).trans rfl
  have q2 : w1.cell? ⟨w.heap.size, 2, none⟩ = some (.bool p.f2.f0) := (blk_cell HE.out 2).trans rfl
  have q3 : w1.cell? ⟨w.heap.size, 3, none⟩ = some (.int .i64 p.f2.f1) := (blk_cell HE.out 3).trans rfl
  have q4 : w1.cell? ⟨w.heap.size, 4, none⟩ = some (.string p.f2.f2) := (blk_cell HE.out 4).trans rfl
  have q5 : w1.cell? ⟨w.heap.size, 5, none⟩ = some (.bool p.f3.f0) := (blk_cell HE.out 5).trans rfl
  have q6 : w1.cell? ⟨w.heap.size, 6, none⟩ = some (.int .i64 p.f3.f1) := (blk_cell HE.out 6).trans rfl
  have q7 : w1.cell? ⟨w.heap.size, 7, none⟩ = some (.string p.f3.f2) := (blk_cell HE.out 7).trans rfl
  go_wp2_with fail
  refine (manifest_odd.calls p.f0 _ _ H0.out).mono ?_; rintro e w2 ⟨rfl, hb⟩
  replace hb := hb.below
  have HE2 := Aside0.mk ((hb.block _ (blk_lt HE.out)).trans HE.out); have HB2 := Aside0.mk (below_then HB.out HB.out.size hb); clear hb
  clear q0 q1 q2 q3 q4 q5 q6 q7
  have q0 : w2.cell? ⟨w.heap.size, 0, none⟩ = some (.int .i64 p.f0) := (blk_cell HE2.out 0).trans rfl
  have q1 : w2.cell? ⟨w.heap.size, 1, none⟩ = some (.int .i64 p.f1) := (blk_cell HE2.out 1).trans rfl
  have q2 : w2.cell? ⟨w.heap.size, 2, none⟩ = some (.bool p.f2.f0) := (blk_cell HE2.out 2).trans rfl
  have q3 : w2.cell? ⟨w.heap.size, 3, none⟩ = some (.int .i64 p.f2.f1) := (blk_cell HE2.out 3).trans rfl
  have q4 : w2.cell? ⟨w.heap.size, 4, none⟩ = some (.string p.f2.f2) := (blk_cell HE2.out 4).trans rfl
  have q5 : w2.cell? ⟨w.heap.size, 5, none⟩ = some (.bool p.f3.f0) := (blk_cell HE2.out 5).trans rfl
  have q6 : w2.cell? ⟨w.heap.size, 6, none⟩ = some (.int .i64 p.f3.f1) := (blk_cell HE2.out 6).trans rfl
  have q7 : w2.cell? ⟨w.heap.size, 7, none⟩ = some (.string p.f3.f2) := (blk_cell HE2.out 7).trans rfl
  go_wp2_with fail
  refine (manifest_right.val p.f2 _).mono ?_; rintro e w3 ⟨rfl, hb⟩
  rw [H3.out]
  have HE3 := Aside0.mk ((hb.block _ (blk_lt HE2.out)).trans HE2.out); have HB3 := Aside0.mk (below_then HB2.out HB2.out.size hb); clear hb
  clear q0 q1 q2 q3 q4 q5 q6 q7
  have q0 : w3.cell? ⟨w.heap.size, 0, none⟩ = some (.int .i64 p.f0) := (blk_cell HE3.out 0).trans rfl
  have q1 : w3.cell? ⟨w.heap.size, 1, none⟩ = some (.int .i64 p.f1) := (blk_cell HE3.out 1).trans rfl
  have q2 : w3.cell? ⟨w.heap.size, 2, none⟩ = some (.bool p.f2.f0) := (blk_cell HE3.out 2).trans rfl
  have q3 : w3.cell? ⟨w.heap.size, 3, none⟩ = some (.int .i64 p.f2.f1) := (blk_cell HE3.out 3).trans rfl
  have q4 : w3.cell? ⟨w.heap.size, 4, none⟩ = some (.string p.f2.f2) := (blk_cell HE3.out 4).trans rfl
  have q5 : w3.cell? ⟨w.heap.size, 5, none⟩ = some (.bool p.f3.f0) := (blk_cell HE3.out 5).trans rfl
  have q6 : w3.cell? ⟨w.heap.size, 6, none⟩ = some (.int .i64 p.f3.f1) := (blk_cell HE3.out 6).trans rfl
  have q7 : w3.cell? ⟨w.heap.size, 7, none⟩ = some (.string p.f3.f2) := (blk_cell HE3.out 7).trans rfl
  go_wp2_with fail
  refine (manifest_right.val p.f3 _).mono ?_; rintro e w4 ⟨rfl, hb⟩
  rw [H4.out]
  have HE4 := Aside0.mk ((hb.block _ (blk_lt HE3.out)).trans HE3.out); have HB4 := Aside0.mk (below_then HB3.out HB3.out.size hb); clear hb
  clear q0 q1 q2 q3 q4 q5 q6 q7
  have q0 : w4.cell? ⟨w.heap.size, 0, none⟩ = some (.int .i64 p.f0) := (blk_cell HE4.out 0).trans rfl
  have q1 : w4.cell? ⟨w.heap.size, 1, none⟩ = some (.int .i64 p.f1) := (blk_cell HE4.out 1).trans rfl
  have q2 : w4.cell? ⟨w.heap.size, 2, none⟩ = some (.bool p.f2.f0) := (blk_cell HE4.out 2).trans rfl
  have q3 : w4.cell? ⟨w.heap.size, 3, none⟩ = some (.int .i64 p.f2.f1) := (blk_cell HE4.out 3).trans rfl
  have q4 : w4.cell? ⟨w.heap.size, 4, none⟩ = some (.string p.f2.f2) := (blk_cell HE4.out 4).trans rfl
  have q5 : w4.cell? ⟨w.heap.size, 5, none⟩ = some (.bool p.f3.f0) := (blk_cell HE4.out 5).trans rfl
  have q6 : w4.cell? ⟨w.heap.size, 6, none⟩ = some (.int .i64 p.f3.f1) := (blk_cell HE4.out 6).trans rfl
  have q7 : w4.cell? ⟨w.heap.size, 7, none⟩ = some (.string p.f3.f2) := (blk_cell HE4.out 7).trans rfl
  go_wp2_with fail
  refine (kinds_Compare.calls 5 _ _ _ _ _ _ _ _ H5.out).mono ?_; rintro e w5 ⟨rfl, hb⟩
  have HE5 := Aside0.mk ((hb.block _ (blk_lt HE4.out)).trans HE4.out); have HB5 := Aside0.mk (below_then HB4.out HB4.out.size hb); clear hb
  clear q0 q1 q2 q3 q4 q5 q6 q7
  have q0 : w5.cell? ⟨w.heap.size, 0, none⟩ = some (.int .i64 p.f0) := (blk_cell HE5.out 0).trans rfl
  have q1 : w5.cell? ⟨w.heap.size, 1, none⟩ = some (.int .i64 p.f1) := (blk_cell HE5.out 1).trans rfl
  have q2 : w5.cell? ⟨w.heap.size, 2, none⟩ = some (.bool p.f2.f0) := (blk_cell HE5.out 2).trans rfl
  have q3 : w5.cell? ⟨w.heap.size, 3, none⟩ = some (.int .i64 p.f2.f1) := (blk_cell HE5.out 3).trans rfl
  have q4 : w5.cell? ⟨w.heap.size, 4, none⟩ = some (.string p.f2.f2) := (blk_cell HE5.out 4).trans rfl
  have q5 : w5.cell? ⟨w.heap.size, 5, none⟩ = some (.bool p.f3.f0) := (blk_cell HE5.out 5).trans rfl
  have q6 : w5.cell? ⟨w.heap.size, 6, none⟩ = some (.int .i64 p.f3.f1) := (blk_cell HE5.out 6).trans rfl
  have q7 : w5.cell? ⟨w.heap.size, 7, none⟩ = some (.string p.f3.f2) := (blk_cell HE5.out 7).trans rfl
  go_wp2
  go_ret
  exact ⟨by first | rfl | (simp; omega), HB5.out⟩
theorem manifest_right.part (p : S36) (w : World) : Calls Try.prog 37 #[.agg #[.int .i64 p.f0, .int .i64 p.f1, .bool p.f2.f0, .int .i64 p.f2.f1, .string p.f2.f2, .bool p.f3.f0, .int .i64 p.f3.f1, .string p.f3.f2]] w fun e w' => e = .returned (.bool (oddP p)) ∧ Below w.heap.size w w' := by
  cases h0 : oddI p.f0
  · cases h1 : decide (p.f1 < 0)
    · cases h2 : decide (4 ≤ p.f1)
      · cases h3 : badV p.f2
        · cases h4 : badV p.f3
          · cases h5 : decide (0 < cmpV p.f2 p.f3)
            · have e : oddP p = false := by unfold oddP; rw [h0, h1, h2, h3, h4, h5]; rfl
              rw [e]; exact manifest_right.part6 p w h0 h1 h2 h3 h4 h5
            · have e : oddP p = true := by unfold oddP; rw [h0, h1, h2, h3, h4, h5]; rfl
              rw [e]; exact manifest_right.part5 p w h0 h1 h2 h3 h4 h5
          · have e : oddP p = true := by unfold oddP; rw [h0, h1, h2, h3, h4]; rfl
            rw [e]; exact manifest_right.part4 p w h0 h1 h2 h3 h4
        · have e : oddP p = true := by unfold oddP; rw [h0, h1, h2, h3]; rfl
          rw [e]; exact manifest_right.part3 p w h0 h1 h2 h3
      · have e : oddP p = true := by unfold oddP; rw [h0, h1, h2]; rfl
        rw [e]; exact manifest_right.part2 p w h0 h1 h2
    · have e : oddP p = true := by unfold oddP; rw [h0, h1]; rfl
      rw [e]; exact manifest_right.part1 p w h0 h1
  · have e : oddP p = true := by unfold oddP; rw [h0]; rfl
    rw [e]; exact manifest_right.part0 p w h0
def manifest_right.AtI (w0 : World) (l : List Int) (e : Ending) (w' : World) : Prop := ∃ j : Int, e = .returned (.int .i64 j) ∧ decide (0 ≤ j) = !(l.all fun x => !oddI x) ∧ Below w0.heap.size w0 w'
theorem manifest_right.allI {l : List Int} {n : Nat} (hn : n = l.length) (h : ∀ k : Nat, k < n → oddI (rd l (k : Int)) = false) : (l.all fun x => !oddI x) = true := by
  rw [List.all_eq_true]
  intro x hx
  obtain ⟨k, hk, rfl⟩ := List.getElem_of_mem hx
  have := h k (by omega)
  unfold rd at this
  rw [Int.toNat_natCast, List.getD_eq_getElem?_getD, List.getElem?_eq_getElem hk] at this
  simpa using this
theorem manifest_right.notI {l : List Int} {k : Nat} (hk : k < l.length) (h : oddI (rd l (k : Int)) = true) : (l.all fun x => !oddI x) = false := by
  rw [List.all_eq_false]
  refine ⟨l[k], List.getElem_mem hk, ?_⟩
  unfold rd at h
  rw [Int.toNat_natCast, List.getD_eq_getElem?_getD, List.getElem?_eq_getElem hk] at h
  have h2 : oddI l[k] = true := h
  rw [h2]; decide
set_option maxHeartbeats 1000000 in
set_option maxRecDepth 100000 in
theorem manifest_right.idxI (A : Option Addr) (c : Nat) (l : List Int) (w0 w : World) (hr : (Kd.int .i64).C w A l.length l) (hl : l.length ≤ 1000) (hB : Below w0.heap.size w0 w) : Calls Try.prog 59 #[.slice A l.length c, .func (.func 34) #[] #[]] w (manifest_right.AtI w0 l) := by
  have HR := Aside0.mk hr; have HB := Aside0.mk hB
  clear hr hB
  go_enter Try.func59, Try.ntmps59
  go_wp2_with fail
  go_loopg [8] l.length (fun gq s8 wx => ∃ i : Nat, i ≤ l.length ∧ gq = l.length - i ∧ s8 = .int .i64 (i : Int) ∧ Aside0 (∀ k : Nat, k < i → oddI (rd l (k : Int)) = false) ∧ Aside0 (Below w.heap.size w wx) ∧ Aside0 (Below w0.heap.size w0 wx))
  case atStart => exact ⟨0, by omega, by omega, rfl, ⟨fun k hk => by omega⟩, ⟨Below.refl _ _⟩, HB⟩
  case round =>
    clear HB
    obtain ⟨i, hi, rfl, rfl, HN, HW, HB⟩ := hrel
    by_cases hlt : i < l.length
    · obtain ⟨g1, hg1⟩ : ∃ g1, l.length - i = g1 + 1 := ⟨l.length - i - 1, by omega⟩
      have k2 : decide ((i : Int) < (l.length : Int)) = true := decide_eq_true (by omega)
      have k2' : decide (i < l.length) = true := decide_eq_true hlt
      obtain ⟨ad, hA, hx0⟩ := Kd.at_int (Kd.C_below HR.out HW.out) (i : Int) (by omega) (by omega)
      rw [Int.toNat_natCast] at hx0
      cases hA
      have i1 : (0 : Int) ≤ (i : Int) := by omega
      have i2 : (i : Int) < (l.length : Int) := by omega
      replace i1 := eq_true i1; replace i2 := eq_true i2
      have hno := manifest_right.notI (l := l) hlt
      obtain ⟨x, hx⟩ : ∃ x, rd l (i : Int) = x := ⟨_, rfl⟩
      rw [hx] at hx0 hno
      have HX := Aside0.mk hx; have HLT := Aside0.mk hlt; have HNO := Aside0.mk hno
      clear hx hlt hno
      cases hb : oddI x
      · have HO := Aside0.mk hb; clear hb
        go_wp2_with fail
        refine (manifest_odd.calls x _ _ (odd_f x)).mono ?_; rintro e w2 ⟨rfl, hb2⟩
        replace hb2 := hb2.below
        rw [HO.out]
        have HW2 := Aside0.mk (below_then HW.out HW.out.size hb2); have HB2 := Aside0.mk (below_then HB.out HB.out.size hb2)
        clear hb2 HW HB
        go_wp2
        go_roundg g1
        case measure => omega
        case rel => exact ⟨i + 1, by have := HLT.out; omega, by omega, by go_num, ⟨fun k hk => by
          by_cases e : k = i
          · subst e; rw [HX.out]; exact HO.out
          · exact HN.out k (by omega)⟩, HW2, HB2⟩
      · have HO := Aside0.mk hb; clear hb
        go_wp2_with fail
        refine (manifest_odd.calls x _ _ (odd_f x)).mono ?_; rintro e w2 ⟨rfl, hb2⟩
        replace hb2 := hb2.below
        rw [HO.out]
        have HB2 := Aside0.mk (below_then HB.out HB.out.size hb2)
        clear hb2 HW HB
        go_wp2
        go_ret
        exact ⟨(i : Int), rfl, by rw [HNO.out HO.out]; exact decide_eq_true (by omega), HB2.out⟩
    · have k2 : decide ((i : Int) < (l.length : Int)) = false := decide_eq_false (by omega)
      have k2' : decide (i < l.length) = false := decide_eq_false hlt
      have HE := Aside0.mk (show i = l.length by omega)
      clear hlt hi
      go_wp2
      go_ret
      exact ⟨-1, rfl, by rw [manifest_right.allI HE.out HN.out]; rfl, HB.out⟩
set_option maxHeartbeats 1000000 in
set_option maxRecDepth 100000 in
theorem manifest_right.contI (A : Option Addr) (c : Nat) (l : List Int) (w0 w : World) (hr : (Kd.int .i64).C w A l.length l) (hl : l.length ≤ 1000) (hB : Below w0.heap.size w0 w) : Calls Try.prog 35 #[.slice A l.length c, .func (.func 34) #[] #[]] w fun e w' => e = .returned (.bool (!(l.all fun x => !oddI x))) ∧ Below w0.heap.size w0 w' := by
  have HI := Aside0.mk (manifest_right.idxI A c l w0 w hr hl hB)
  obtain ⟨fl, hf⟩ : ∃ fl, (l.all fun x => !oddI x) = fl := ⟨_, rfl⟩
  rw [hf]
  have HF := Aside0.mk hf
  clear hf
  go_enter Try.func35, Try.ntmps35
  go_wp2_with fail
  refine HI.out.mono ?_; rintro e w2 ⟨j, rfl, hj, hb2⟩
  rw [HF.out] at hj
  go_wp2
  go_ret
  exact ⟨rfl, hb2⟩
def manifest_right.AtP (w0 : World) (l : List S36) (e : Ending) (w' : World) : Prop := ∃ j : Int, e = .returned (.int .i64 j) ∧ decide (0 ≤ j) = !(l.all fun x => !oddP x) ∧ Below w0.heap.size w0 w'
theorem manifest_right.allP {l : List S36} {n : Nat} (hn : n = l.length) (h : ∀ k : Nat, k < n → oddP (rd_T36 l (k : Int)) = false) : (l.all fun x => !oddP x) = true := by
  rw [List.all_eq_true]
  intro x hx
  obtain ⟨k, hk, rfl⟩ := List.getElem_of_mem hx
  have := h k (by omega)
  unfold rd_T36 at this
  rw [Int.toNat_natCast, List.getD_eq_getElem?_getD, List.getElem?_eq_getElem hk] at this
  simpa using this
theorem manifest_right.notP {l : List S36} {k : Nat} (hk : k < l.length) (h : oddP (rd_T36 l (k : Int)) = true) : (l.all fun x => !oddP x) = false := by
  rw [List.all_eq_false]
  refine ⟨l[k], List.getElem_mem hk, ?_⟩
  unfold rd_T36 at h
  rw [Int.toNat_natCast, List.getD_eq_getElem?_getD, List.getElem?_eq_getElem hk] at h
  have h2 : oddP l[k] = true := h
  rw [h2]; decide
set_option maxHeartbeats 1000000 in
set_option maxRecDepth 100000 in
theorem manifest_right.idxP (A : Option Addr) (c : Nat) (l : List S36) (w0 w : World) (hr : k36.C w A l.length l) (hl : l.length ≤ 1000) (hB : Below w0.heap.size w0 w) : Calls Try.prog 60 #[.slice A l.length c, .func (.func 37) #[] #[]] w (manifest_right.AtP w0 l) := by
  have HR := Aside0.mk hr; have HB := Aside0.mk hB
  clear hr hB
  go_enter Try.func60, Try.ntmps60
  go_wp2_with fail
  go_loopg [8] l.length (fun gq s8 wx => ∃ i : Nat, i ≤ l.length ∧ gq = l.length - i ∧ s8 = .int .i64 (i : Int) ∧ Aside0 (∀ k : Nat, k < i → oddP (rd_T36 l (k : Int)) = false) ∧ Aside0 (Below w.heap.size w wx) ∧ Aside0 (Below w0.heap.size w0 wx))
  case atStart => exact ⟨0, by omega, by omega, rfl, ⟨fun k hk => by omega⟩, ⟨Below.refl _ _⟩, HB⟩
  case round =>
    clear HB
    obtain ⟨i, hi, rfl, rfl, HN, HW, HB⟩ := hrel
    by_cases hlt : i < l.length
    · obtain ⟨g1, hg1⟩ : ∃ g1, l.length - i = g1 + 1 := ⟨l.length - i - 1, by omega⟩
      have k2 : decide ((i : Int) < (l.length : Int)) = true := decide_eq_true (by omega)
      have k2' : decide (i < l.length) = true := decide_eq_true hlt
      obtain ⟨ad, hA, hx0, hx1, hx2, hx3, hx4, hx5, hx6, hx7⟩ := at_T36 (Kd.C_below HR.out HW.out) (i : Int) (by omega) (by omega)
      rw [Int.toNat_natCast] at hx0 hx1 hx2 hx3 hx4 hx5 hx6 hx7
      cases hA
      have i1 : (0 : Int) ≤ (i : Int) := by omega
      have i2 : (i : Int) < (l.length : Int) := by omega
      replace i1 := eq_true i1; replace i2 := eq_true i2
      have hno := manifest_right.notP (l := l) hlt
      obtain ⟨x, hx⟩ : ∃ x, rd_T36 l (i : Int) = x := ⟨_, rfl⟩
      rw [hx] at hx0 hx1 hx2 hx3 hx4 hx5 hx6 hx7 hno
      have HX := Aside0.mk hx; have HLT := Aside0.mk hlt; have HNO := Aside0.mk hno
      clear hx hlt hno
      cases hb : oddP x
      · have HO := Aside0.mk hb; clear hb
        go_wp2_with fail
        refine (manifest_right.part x _).mono ?_; rintro e w2 ⟨rfl, hb2⟩
        skip
        rw [HO.out]
        have HW2 := Aside0.mk (below_then HW.out HW.out.size hb2); have HB2 := Aside0.mk (below_then HB.out HB.out.size hb2)
        clear hb2 HW HB
        go_wp2
        go_roundg g1
        case measure => omega
        case rel => exact ⟨i + 1, by have := HLT.out; omega, by omega, by go_num, ⟨fun k hk => by
          by_cases e : k = i
          · subst e; rw [HX.out]; exact HO.out
          · exact HN.out k (by omega)⟩, HW2, HB2⟩
      · have HO := Aside0.mk hb; clear hb
        go_wp2_with fail
        refine (manifest_right.part x _).mono ?_; rintro e w2 ⟨rfl, hb2⟩
        skip
        rw [HO.out]
        have HB2 := Aside0.mk (below_then HB.out HB.out.size hb2)
        clear hb2 HW HB
        go_wp2
        go_ret
        exact ⟨(i : Int), rfl, by rw [HNO.out HO.out]; exact decide_eq_true (by omega), HB2.out⟩
    · have k2 : decide ((i : Int) < (l.length : Int)) = false := decide_eq_false (by omega)
      have k2' : decide (i < l.length) = false := decide_eq_false hlt
      have HE := Aside0.mk (show i = l.length by omega)
      clear hlt hi
      go_wp2
      go_ret
      exact ⟨-1, rfl, by rw [manifest_right.allP HE.out HN.out]; rfl, HB.out⟩
set_option maxHeartbeats 1000000 in
set_option maxRecDepth 100000 in
theorem manifest_right.contP (A : Option Addr) (c : Nat) (l : List S36) (w0 w : World) (hr : k36.C w A l.length l) (hl : l.length ≤ 1000) (hB : Below w0.heap.size w0 w) : Calls Try.prog 36 #[.slice A l.length c, .func (.func 37) #[] #[]] w fun e w' => e = .returned (.bool (!(l.all fun x => !oddP x))) ∧ Below w0.heap.size w0 w' := by
  have HI := Aside0.mk (manifest_right.idxP A c l w0 w hr hl hB)
  obtain ⟨fl, hf⟩ : ∃ fl, (l.all fun x => !oddP x) = fl := ⟨_, rfl⟩
  rw [hf]
  have HF := Aside0.mk hf
  clear hf
  go_enter Try.func36, Try.ntmps36
  go_wp2_with fail
  refine HI.out.mono ?_; rintro e w2 ⟨j, rfl, hj, hb2⟩
  rw [HF.out] at hj
  go_wp2
  go_ret
  exact ⟨rfl, hb2⟩
set_option maxHeartbeats 2000000 in
set_option maxRecDepth 100000 in
theorem manifest_right.way0 (A0 : Option Addr) (c0 : Nat) (d : List Int) (A1 : Option Addr) (c1 : Nat) (a : List S36) (fl nx : Int) (w : World) (hr0 : (Kd.int .i64).C w A0 d.length d) (hr1 : k36.C w A1 a.length a) (h0 : decide (d.length ≤ 1000) = false) :
    Calls Try.prog 18 #[.agg #[.slice A0 d.length c0, .slice A1 a.length c1, .int .i64 fl, .int .i64 nx]] w fun e w' => e = .returned (.bool false) ∧ Below w.heap.size w w' := by
  have g0 : decide ((d.length : Int) ≤ 1000) = false := by rw [← h0]; simp; omega
  have HR0 := Aside0.mk hr0; have HR1 := Aside0.mk hr1; clear hr0 hr1
  have hA := below_alloc (Below.refl w.heap.size w) (.cells #[.slice A0 d.length c0, .slice A1 a.length c1, .int .i64 fl, .int .i64 nx] 32)
  have HB := Aside0.mk hA
  have HE : Aside0 ((w.alloc (.cells #[.slice A0 d.length c0, .slice A1 a.length c1, .int .i64 fl, .int .i64 nx] 32)).heap[w.heap.size]? = some (.cells #[.slice A0 d.length c0, .slice A1 a.length c1, .int .i64 fl, .int .i64 nx] 32 (0, 0))) := ⟨heap_alloc_new w _⟩
  clear hA
  go_enter Try.func18, Try.ntmps18
  go_upto_region 1 with (fail)
  generalize World.alloc w _ = w1 at HB HE ⊢
  have q0 : w1.cell? ⟨w.heap.size, 0, none⟩ = some (.slice A0 d.length c0) := (blk_cell HE.out 0).trans rfl
  have q1 : w1.cell? ⟨w.heap.size, 1, none⟩ = some (.slice A1 a.length c1) := (blk_cell HE.out 1).trans rfl
  have q2 : w1.cell? ⟨w.heap.size, 2, none⟩ = some (.int .i64 fl) := (blk_cell HE.out 2).trans rfl
  have q3 : w1.cell? ⟨w.heap.size, 3, none⟩ = some (.int .i64 nx) := (blk_cell HE.out 3).trans rfl
  go_wp2
  go_ret
  exact ⟨rfl, HB.out⟩
set_option maxHeartbeats 2000000 in
set_option maxRecDepth 100000 in
theorem manifest_right.way1 (A0 : Option Addr) (c0 : Nat) (d : List Int) (A1 : Option Addr) (c1 : Nat) (a : List S36) (fl nx : Int) (w : World) (hr0 : (Kd.int .i64).C w A0 d.length d) (hr1 : k36.C w A1 a.length a) (h0 : decide (d.length ≤ 1000) = true) (h1 : decide (a.length ≤ 1000) = false) :
    Calls Try.prog 18 #[.agg #[.slice A0 d.length c0, .slice A1 a.length c1, .int .i64 fl, .int .i64 nx]] w fun e w' => e = .returned (.bool false) ∧ Below w.heap.size w w' := by
  have g0 : decide ((d.length : Int) ≤ 1000) = true := by rw [← h0]; simp; omega
  have g1 : decide ((a.length : Int) ≤ 1000) = false := by rw [← h1]; simp; omega
  have HR0 := Aside0.mk hr0; have HR1 := Aside0.mk hr1; clear hr0 hr1
  have hA := below_alloc (Below.refl w.heap.size w) (.cells #[.slice A0 d.length c0, .slice A1 a.length c1, .int .i64 fl, .int .i64 nx] 32)
  have HB := Aside0.mk hA
  have HE : Aside0 ((w.alloc (.cells #[.slice A0 d.length c0, .slice A1 a.length c1, .int .i64 fl, .int .i64 nx] 32)).heap[w.heap.size]? = some (.cells #[.slice A0 d.length c0, .slice A1 a.length c1, .int .i64 fl, .int .i64 nx] 32 (0, 0))) := ⟨heap_alloc_new w _⟩
  clear hA
  go_enter Try.func18, Try.ntmps18
  go_upto_region 1 with (fail)
  generalize World.alloc w _ = w1 at HB HE ⊢
  have q0 : w1.cell? ⟨w.heap.size, 0, none⟩ = some (.slice A0 d.length c0) := (blk_cell HE.out 0).trans rfl
  have q1 : w1.cell? ⟨w.heap.size, 1, none⟩ = some (.slice A1 a.length c1) := (blk_cell HE.out 1).trans rfl
  have q2 : w1.cell? ⟨w.heap.size, 2, none⟩ = some (.int .i64 fl) := (blk_cell HE.out 2).trans rfl
  have q3 : w1.cell? ⟨w.heap.size, 3, none⟩ = some (.int .i64 nx) := (blk_cell HE.out 3).trans rfl
  go_wp2
  go_ret
  exact ⟨rfl, HB.out⟩
set_option maxHeartbeats 2000000 in
set_option maxRecDepth 100000 in
theorem manifest_right.way2 (A0 : Option Addr) (c0 : Nat) (d : List Int) (A1 : Option Addr) (c1 : Nat) (a : List S36) (fl nx : Int) (w : World) (hr0 : (Kd.int .i64).C w A0 d.length d) (hr1 : k36.C w A1 a.length a) (h0 : decide (d.length ≤ 1000) = true) (h1 : decide (a.length ≤ 1000) = true) (h2 : oddI fl = true) :
    Calls Try.prog 18 #[.agg #[.slice A0 d.length c0, .slice A1 a.length c1, .int .i64 fl, .int .i64 nx]] w fun e w' => e = .returned (.bool false) ∧ Below w.heap.size w w' := by
  have g0 : decide ((d.length : Int) ≤ 1000) = true := by rw [← h0]; simp; omega
  have g1 : decide ((a.length : Int) ≤ 1000) = true := by rw [← h1]; simp; omega
  have H2 := Aside0.mk ((odd_f fl).trans (congrArg some h2)); clear h2
  have HR0 := Aside0.mk hr0; have HR1 := Aside0.mk hr1; clear hr0 hr1
  have hA := below_alloc (Below.refl w.heap.size w) (.cells #[.slice A0 d.length c0, .slice A1 a.length c1, .int .i64 fl, .int .i64 nx] 32)
  have HB := Aside0.mk hA
  have HE : Aside0 ((w.alloc (.cells #[.slice A0 d.length c0, .slice A1 a.length c1, .int .i64 fl, .int .i64 nx] 32)).heap[w.heap.size]? = some (.cells #[.slice A0 d.length c0, .slice A1 a.length c1, .int .i64 fl, .int .i64 nx] 32 (0, 0))) := ⟨heap_alloc_new w _⟩
  clear hA
  go_enter Try.func18, Try.ntmps18
  go_upto_region 1 with (fail)
  generalize World.alloc w _ = w1 at HB HE ⊢
  have q0 : w1.cell? ⟨w.heap.size, 0, none⟩ = some (.slice A0 d.length c0) := (blk_cell HE.out 0).trans rfl
  have q1 : w1.cell? ⟨w.heap.size, 1, none⟩ = some (.slice A1 a.length c1) := (blk_cell HE.out 1).trans rfl
  have q2 : w1.cell? ⟨w.heap.size, 2, none⟩ = some (.int .i64 fl) := (blk_cell HE.out 2).trans rfl
  have q3 : w1.cell? ⟨w.heap.size, 3, none⟩ = some (.int .i64 nx) := (blk_cell HE.out 3).trans rfl
  go_wp2_with fail
  refine (manifest_odd.calls fl _ _ H2.out).mono ?_; rintro e w2 ⟨rfl, hb⟩
  replace hb := hb.below
  have HE2 := Aside0.mk ((hb.block _ (blk_lt HE.out)).trans HE.out); have HB2 := Aside0.mk (below_then HB.out HB.out.size hb); clear hb
  clear q0 q1 q2 q3
  have q0 : w2.cell? ⟨w.heap.size, 0, none⟩ = some (.slice A0 d.length c0) := (blk_cell HE2.out 0).trans rfl
  have q1 : w2.cell? ⟨w.heap.size, 1, none⟩ = some (.slice A1 a.length c1) := (blk_cell HE2.out 1).trans rfl
  have q2 : w2.cell? ⟨w.heap.size, 2, none⟩ = some (.int .i64 fl) := (blk_cell HE2.out 2).trans rfl
  have q3 : w2.cell? ⟨w.heap.size, 3, none⟩ = some (.int .i64 nx) := (blk_cell HE2.out 3).trans rfl
  go_wp2
  go_ret
  exact ⟨rfl, HB2.out⟩
set_option maxHeartbeats 2000000 in
set_option maxRecDepth 100000 in
theorem manifest_right.way3 (A0 : Option Addr) (c0 : Nat) (d : List Int) (A1 : Option Addr) (c1 : Nat) (a : List S36) (fl nx : Int) (w : World) (hr0 : (Kd.int .i64).C w A0 d.length d) (hr1 : k36.C w A1 a.length a) (h0 : decide (d.length ≤ 1000) = true) (h1 : decide (a.length ≤ 1000) = true) (h2 : oddI fl = false) (h3 : oddI nx = true) :
    Calls Try.prog 18 #[.agg #[.slice A0 d.length c0, .slice A1 a.length c1, .int .i64 fl, .int .i64 nx]] w fun e w' => e = .returned (.bool false) ∧ Below w.heap.size w w' := by
  have g0 : decide ((d.length : Int) ≤ 1000) = true := by rw [← h0]; simp; omega
  have g1 : decide ((a.length : Int) ≤ 1000) = true := by rw [← h1]; simp; omega
  have H2 := Aside0.mk ((odd_f fl).trans (congrArg some h2)); clear h2
  have H3 := Aside0.mk ((odd_f nx).trans (congrArg some h3)); clear h3
  have HR0 := Aside0.mk hr0; have HR1 := Aside0.mk hr1; clear hr0 hr1
  have hA := below_alloc (Below.refl w.heap.size w) (.cells #[.slice A0 d.length c0, .slice A1 a.length c1, .int .i64 fl, .int .i64 nx] 32)
  have HB := Aside0.mk hA
  have HE : Aside0 ((w.alloc (.cells #[.slice A0 d.length c0, .slice A1 a.length c1, .int .i64 fl, .int .i64 nx] 32)).heap[w.heap.size]? = some (.cells #[.slice A0 d.length c0, .slice A1 a.length c1, .int .i64 fl, .int .i64 nx] 32 (0, 0))) := ⟨heap_alloc_new w _⟩
  clear hA
  go_enter Try.func18, Try.ntmps18
  go_upto_region 1 with (fail)
  generalize World.alloc w _ = w1 at HB HE ⊢
  have q0 : w1.cell? ⟨w.heap.size, 0, none⟩ = some (.slice A0 d.length c0) := (blk_cell HE.out 0).trans rfl
  have q1 : w1.cell? ⟨w.heap.size, 1, none⟩ = some (.slice A1 a.length c1) := (blk_cell HE.out 1).trans rfl
  have q2 : w1.cell? ⟨w.heap.size, 2, none⟩ = some (.int .i64 fl) := (blk_cell HE.out 2).trans rfl
  have q3 : w1.cell? ⟨w.heap.size, 3, none⟩ = some (.int .i64 nx) := (blk_cell HE.out 3).trans rfl
  go_wp2_with fail
  refine (manifest_odd.calls fl _ _ H2.out).mono ?_; rintro e w2 ⟨rfl, hb⟩
  replace hb := hb.below
  have HE2 := Aside0.mk ((hb.block _ (blk_lt HE.out)).trans HE.out); have HB2 := Aside0.mk (below_then HB.out HB.out.size hb); clear hb
  clear q0 q1 q2 q3
  have q0 : w2.cell? ⟨w.heap.size, 0, none⟩ = some (.slice A0 d.length c0) := (blk_cell HE2.out 0).trans rfl
  have q1 : w2.cell? ⟨w.heap.size, 1, none⟩ = some (.slice A1 a.length c1) := (blk_cell HE2.out 1).trans rfl
  have q2 : w2.cell? ⟨w.heap.size, 2, none⟩ = some (.int .i64 fl) := (blk_cell HE2.out 2).trans rfl
  have q3 : w2.cell? ⟨w.heap.size, 3, none⟩ = some (.int .i64 nx) := (blk_cell HE2.out 3).trans rfl
  go_wp2_with fail
  refine (manifest_odd.calls nx _ _ H3.out).mono ?_; rintro e w3 ⟨rfl, hb⟩
  replace hb := hb.below
  have HE3 := Aside0.mk ((hb.block _ (blk_lt HE2.out)).trans HE2.out); have HB3 := Aside0.mk (below_then HB2.out HB2.out.size hb); clear hb
  clear q0 q1 q2 q3
  have q0 : w3.cell? ⟨w.heap.size, 0, none⟩ = some (.slice A0 d.length c0) := (blk_cell HE3.out 0).trans rfl
  have q1 : w3.cell? ⟨w.heap.size, 1, none⟩ = some (.slice A1 a.length c1) := (blk_cell HE3.out 1).trans rfl
  have q2 : w3.cell? ⟨w.heap.size, 2, none⟩ = some (.int .i64 fl) := (blk_cell HE3.out 2).trans rfl
  have q3 : w3.cell? ⟨w.heap.size, 3, none⟩ = some (.int .i64 nx) := (blk_cell HE3.out 3).trans rfl
  go_wp2
  go_ret
  exact ⟨rfl, HB3.out⟩
set_option maxHeartbeats 2000000 in
set_option maxRecDepth 100000 in
theorem manifest_right.way4 (A0 : Option Addr) (c0 : Nat) (d : List Int) (A1 : Option Addr) (c1 : Nat) (a : List S36) (fl nx : Int) (w : World) (hr0 : (Kd.int .i64).C w A0 d.length d) (hr1 : k36.C w A1 a.length a) (h0 : decide (d.length ≤ 1000) = true) (h1 : decide (a.length ≤ 1000) = true) (h2 : oddI fl = false) (h3 : oddI nx = false) (h4 : (d.all fun x => !oddI x) = false) :
    Calls Try.prog 18 #[.agg #[.slice A0 d.length c0, .slice A1 a.length c1, .int .i64 fl, .int .i64 nx]] w fun e w' => e = .returned (.bool false) ∧ Below w.heap.size w w' := by
  have g0 : decide ((d.length : Int) ≤ 1000) = true := by rw [← h0]; simp; omega
  have g1 : decide ((a.length : Int) ≤ 1000) = true := by rw [← h1]; simp; omega
  have H2 := Aside0.mk ((odd_f fl).trans (congrArg some h2)); clear h2
  have H3 := Aside0.mk ((odd_f nx).trans (congrArg some h3)); clear h3
  have HR0 := Aside0.mk hr0; have HR1 := Aside0.mk hr1; clear hr0 hr1
  have H4 := Aside0.mk h4; have HL0 := Aside0.mk (of_decide_eq_true h0); clear h4
  have hA := below_alloc (Below.refl w.heap.size w) (.cells #[.slice A0 d.length c0, .slice A1 a.length c1, .int .i64 fl, .int .i64 nx] 32)
  have HB := Aside0.mk hA
  have HE : Aside0 ((w.alloc (.cells #[.slice A0 d.length c0, .slice A1 a.length c1, .int .i64 fl, .int .i64 nx] 32)).heap[w.heap.size]? = some (.cells #[.slice A0 d.length c0, .slice A1 a.length c1, .int .i64 fl, .int .i64 nx] 32 (0, 0))) := ⟨heap_alloc_new w _⟩
  clear hA
  go_enter Try.func18, Try.ntmps18
  go_upto_region 1 with (fail)
  generalize World.alloc w _ = w1 at HB HE ⊢
  have q0 : w1.cell? ⟨w.heap.size, 0, none⟩ = some (.slice A0 d.length c0) := (blk_cell HE.out 0).trans rfl
  have q1 : w1.cell? ⟨w.heap.size, 1, none⟩ = some (.slice A1 a.length c1) := (blk_cell HE.out 1).trans rfl
  have q2 : w1.cell? ⟨w.heap.size, 2, none⟩ = some (.int .i64 fl) := (blk_cell HE.out 2).trans rfl
  have q3 : w1.cell? ⟨w.heap.size, 3, none⟩ = some (.int .i64 nx) := (blk_cell HE.out 3).trans rfl
  go_wp2_with fail
  refine (manifest_odd.calls fl _ _ H2.out).mono ?_; rintro e w2 ⟨rfl, hb⟩
  replace hb := hb.below
  have HE2 := Aside0.mk ((hb.block _ (blk_lt HE.out)).trans HE.out); have HB2 := Aside0.mk (below_then HB.out HB.out.size hb); clear hb
  clear q0 q1 q2 q3
  have q0 : w2.cell? ⟨w.heap.size, 0, none⟩ = some (.slice A0 d.length c0) := (blk_cell HE2.out 0).trans rfl
  have q1 : w2.cell? ⟨w.heap.size, 1, none⟩ = some (.slice A1 a.length c1) := (blk_cell HE2.out 1).trans rfl
  have q2 : w2.cell? ⟨w.heap.size, 2, none⟩ = some (.int .i64 fl) := (blk_cell HE2.out 2).trans rfl
  have q3 : w2.cell? ⟨w.heap.size, 3, none⟩ = some (.int .i64 nx) := (blk_cell HE2.out 3).trans rfl
  go_wp2_with fail
  refine (manifest_odd.calls nx _ _ H3.out).mono ?_; rintro e w3 ⟨rfl, hb⟩
  replace hb := hb.below
  have HE3 := Aside0.mk ((hb.block _ (blk_lt HE2.out)).trans HE2.out); have HB3 := Aside0.mk (below_then HB2.out HB2.out.size hb); clear hb
  clear q0 q1 q2 q3
  have q0 : w3.cell? ⟨w.heap.size, 0, none⟩ = some (.slice A0 d.length c0) := (blk_cell HE3.out 0).trans rfl
  have q1 : w3.cell? ⟨w.heap.size, 1, none⟩ = some (.slice A1 a.length c1) := (blk_cell HE3.out 1).trans rfl
  have q2 : w3.cell? ⟨w.heap.size, 2, none⟩ = some (.int .i64 fl) := (blk_cell HE3.out 2).trans rfl
  have q3 : w3.cell? ⟨w.heap.size, 3, none⟩ = some (.int .i64 nx) := (blk_cell HE3.out 3).trans rfl
  go_wp2_with fail
  refine (manifest_right.contI A0 c0 d w3 w3 (Kd.C_below HR0.out HB3.out) HL0.out (Below.refl _ _)).mono ?_; rintro e w4 ⟨rfl, hb⟩
  rw [H4.out]
  have HE4 := Aside0.mk ((hb.block _ (blk_lt HE3.out)).trans HE3.out); have HB4 := Aside0.mk (below_then HB3.out HB3.out.size hb); clear hb
  clear q0 q1 q2 q3
  have q0 : w4.cell? ⟨w.heap.size, 0, none⟩ = some (.slice A0 d.length c0) := (blk_cell HE4.out 0).trans rfl
  have q1 : w4.cell? ⟨w.heap.size, 1, none⟩ = some (.slice A1 a.length c1) := (blk_cell HE4.out 1).trans rfl
  have q2 : w4.cell? ⟨w.heap.size, 2, none⟩ = some (.int .i64 fl) := (blk_cell HE4.out 2).trans rfl
  have q3 : w4.cell? ⟨w.heap.size, 3, none⟩ = some (.int .i64 nx) := (blk_cell HE4.out 3).trans rfl
  go_wp2
  go_ret
  exact ⟨rfl, HB4.out⟩
set_option maxHeartbeats 2000000 in
set_option maxRecDepth 100000 in
theorem manifest_right.way5 (A0 : Option Addr) (c0 : Nat) (d : List Int) (A1 : Option Addr) (c1 : Nat) (a : List S36) (fl nx : Int) (w : World) (hr0 : (Kd.int .i64).C w A0 d.length d) (hr1 : k36.C w A1 a.length a) (h0 : decide (d.length ≤ 1000) = true) (h1 : decide (a.length ≤ 1000) = true) (h2 : oddI fl = false) (h3 : oddI nx = false) (h4 : (d.all fun x => !oddI x) = true) (h5 : (a.all fun x => !oddP x) = false) :
    Calls Try.prog 18 #[.agg #[.slice A0 d.length c0, .slice A1 a.length c1, .int .i64 fl, .int .i64 nx]] w fun e w' => e = .returned (.bool false) ∧ Below w.heap.size w w' := by
  have g0 : decide ((d.length : Int) ≤ 1000) = true := by rw [← h0]; simp; omega
  have g1 : decide ((a.length : Int) ≤ 1000) = true := by rw [← h1]; simp; omega
  have H2 := Aside0.mk ((odd_f fl).trans (congrArg some h2)); clear h2
  have H3 := Aside0.mk ((odd_f nx).trans (congrArg some h3)); clear h3
  have HR0 := Aside0.mk hr0; have HR1 := Aside0.mk hr1; clear hr0 hr1
  have H4 := Aside0.mk h4; have HL0 := Aside0.mk (of_decide_eq_true h0); clear h4
  have H5 := Aside0.mk h5; have HL1 := Aside0.mk (of_decide_eq_true h1); clear h5
  have hA := below_alloc (Below.refl w.heap.size w) (.cells #[.slice A0 d.length c0, .slice A1 a.length c1, .int .i64 fl, .int .i64 nx] 32)
  have HB := Aside0.mk hA
  have HE : Aside0 ((w.alloc (.cells #[.slice A0 d.length c0, .slice A1 a.length c1, .int .i64 fl, .int .i64 nx] 32)).heap[w.heap.size]? = some (.cells #[.slice A0 d.length c0, .slice A1 a.length c1, .int .i64 fl, .int .i64 nx] 32 (0, 0))) := ⟨heap_alloc_new w _⟩
  clear hA
  go_enter Try.func18, Try.ntmps18
  go_upto_region 1 with (fail)
  generalize World.alloc w _ = w1 at HB HE ⊢
  have q0 : w1.cell? ⟨w.heap.size, 0, none⟩ = some (.slice A0 d.length c0) := (blk_cell HE.out 0).trans rfl
  have q1 : w1.cell? ⟨w.heap.size, 1, none⟩ = some (.slice A1 a.length c1) := (blk_cell HE.out 1).trans rfl
  have q2 : w1.cell? ⟨w.heap.size, 2, none⟩ = some (.int .i64 fl) := (blk_cell HE.out 2).trans rfl
  have q3 : w1.cell? ⟨w.heap.size, 3, none⟩ = some (.int .i64 nx) := (blk_cell HE.out 3).trans rfl
  go_wp2_with fail
  refine (manifest_odd.calls fl _ _ H2.out).mono ?_; rintro e w2 ⟨rfl, hb⟩
  replace hb := hb.below
  have HE2 := Aside0.mk ((hb.block _ (blk_lt HE.out)).trans HE.out); have HB2 := Aside0.mk (below_then HB.out HB.out.size hb); clear hb
  clear q0 q1 q2 q3
  have q0 : w2.cell? ⟨w.heap.size, 0, none⟩ = some (.slice A0 d.length c0) := (blk_cell HE2.out 0).trans rfl
  have q1 : w2.cell? ⟨w.heap.size, 1, none⟩ = some (.slice A1 a.length c1) := (blk_cell HE2.out 1).trans rfl
  have q2 : w2.cell? ⟨w.heap.size, 2, none⟩ = some (.int .i64 fl) := (blk_cell HE2.out 2).trans rfl
  have q3 : w2.cell? ⟨w.heap.size, 3, none⟩ = some (.int .i64 nx) := (blk_cell HE2.out 3).trans rfl
  go_wp2_with fail
  refine (manifest_odd.calls nx _ _ H3.out).mono ?_; rintro e w3 ⟨rfl, hb⟩
  replace hb := hb.below
  have HE3 := Aside0.mk ((hb.block _ (blk_lt HE2.out)).trans HE2.out); have HB3 := Aside0.mk (below_then HB2.out HB2.out.size hb); clear hb
  clear q0 q1 q2 q3
  have q0 : w3.cell? ⟨w.heap.size, 0, none⟩ = some (.slice A0 d.length c0) := (blk_cell HE3.out 0).trans rfl
  have q1 : w3.cell? ⟨w.heap.size, 1, none⟩ = some (.slice A1 a.length c1) := (blk_cell HE3.out 1).trans rfl
  have q2 : w3.cell? ⟨w.heap.size, 2, none⟩ = some (.int .i64 fl) := (blk_cell HE3.out 2).trans rfl
  have q3 : w3.cell? ⟨w.heap.size, 3, none⟩ = some (.int .i64 nx) := (blk_cell HE3.out 3).trans rfl
  go_wp2_with fail
  refine (manifest_right.contI A0 c0 d w3 w3 (Kd.C_below HR0.out HB3.out) HL0.out (Below.refl _ _)).mono ?_; rintro e w4 ⟨rfl, hb⟩
  rw [H4.out]
  have HE4 := Aside0.mk ((hb.block _ (blk_lt HE3.out)).trans HE3.out); have HB4 := Aside0.mk (below_then HB3.out HB3.out.size hb); clear hb
  clear q0 q1 q2 q3
  have q0 : w4.cell? ⟨w.heap.size, 0, none⟩ = some (.slice A0 d.length c0) := (blk_cell HE4.out 0).trans rfl
  have q1 : w4.cell? ⟨w.heap.size, 1, none⟩ = some (.slice A1 a.length c1) := (blk_cell HE4.out 1).trans rfl
  have q2 : w4.cell? ⟨w.heap.size, 2, none⟩ = some (.int .i64 fl) := (blk_cell HE4.out 2).trans rfl
  have q3 : w4.cell? ⟨w.heap.size, 3, none⟩ = some (.int .i64 nx) := (blk_cell HE4.out 3).trans rfl
  go_wp2_with fail
  refine (manifest_right.contP A1 c1 a w4 w4 (Kd.C_below HR1.out HB4.out) HL1.out (Below.refl _ _)).mono ?_; rintro e w5 ⟨rfl, hb⟩
  rw [H5.out]
  have HE5 := Aside0.mk ((hb.block _ (blk_lt HE4.out)).trans HE4.out); have HB5 := Aside0.mk (below_then HB4.out HB4.out.size hb); clear hb
  clear q0 q1 q2 q3
  have q0 : w5.cell? ⟨w.heap.size, 0, none⟩ = some (.slice A0 d.length c0) := (blk_cell HE5.out 0).trans rfl
  have q1 : w5.cell? ⟨w.heap.size, 1, none⟩ = some (.slice A1 a.length c1) := (blk_cell HE5.out 1).trans rfl
  have q2 : w5.cell? ⟨w.heap.size, 2, none⟩ = some (.int .i64 fl) := (blk_cell HE5.out 2).trans rfl
  have q3 : w5.cell? ⟨w.heap.size, 3, none⟩ = some (.int .i64 nx) := (blk_cell HE5.out 3).trans rfl
  go_wp2
  go_ret
  exact ⟨rfl, HB5.out⟩
set_option maxHeartbeats 2000000 in
set_option maxRecDepth 100000 in
theorem manifest_right.way6 (A0 : Option Addr) (c0 : Nat) (d : List Int) (A1 : Option Addr) (c1 : Nat) (a : List S36) (fl nx : Int) (w : World) (hr0 : (Kd.int .i64).C w A0 d.length d) (hr1 : k36.C w A1 a.length a) (h0 : decide (d.length ≤ 1000) = true) (h1 : decide (a.length ≤ 1000) = true) (h2 : oddI fl = false) (h3 : oddI nx = false) (h4 : (d.all fun x => !oddI x) = true) (h5 : (a.all fun x => !oddP x) = true) :
    Calls Try.prog 18 #[.agg #[.slice A0 d.length c0, .slice A1 a.length c1, .int .i64 fl, .int .i64 nx]] w fun e w' => e = .returned (.bool true) ∧ Below w.heap.size w w' := by
  have g0 : decide ((d.length : Int) ≤ 1000) = true := by rw [← h0]; simp; omega
  have g1 : decide ((a.length : Int) ≤ 1000) = true := by rw [← h1]; simp; omega
  have H2 := Aside0.mk ((odd_f fl).trans (congrArg some h2)); clear h2
  have H3 := Aside0.mk ((odd_f nx).trans (congrArg some h3)); clear h3
  have HR0 := Aside0.mk hr0; have HR1 := Aside0.mk hr1; clear hr0 hr1
  have H4 := Aside0.mk h4; have HL0 := Aside0.mk (of_decide_eq_true h0); clear h4
  have H5 := Aside0.mk h5; have HL1 := Aside0.mk (of_decide_eq_true h1); clear h5
  have hA := below_alloc (Below.refl w.heap.size w) (.cells #[.slice A0 d.length c0, .slice A1 a.length c1, .int .i64 fl, .int .i64 nx] 32)
  have HB := Aside0.mk hA
  have HE : Aside0 ((w.alloc (.cells #[.slice A0 d.length c0, .slice A1 a.length c1, .int .i64 fl, .int .i64 nx] 32)).heap[w.heap.size]? = some (.cells #[.slice A0 d.length c0, .slice A1 a.length c1, .int .i64 fl, .int .i64 nx] 32 (0, 0))) := ⟨heap_alloc_new w _⟩
  clear hA
  go_enter Try.func18, Try.ntmps18
  go_upto_region 1 with (fail)
  generalize World.alloc w _ = w1 at HB HE ⊢
  have q0 : w1.cell? ⟨w.heap.size, 0, none⟩ = some (.slice A0 d.length c0) := (blk_cell HE.out 0).trans rfl
  have q1 : w1.cell? ⟨w.heap.size, 1, none⟩ = some (.slice A1 a.length c1) := (blk_cell HE.out 1).trans rfl
  have q2 : w1.cell? ⟨w.heap.size, 2, none⟩ = some (.int .i64 fl) := (blk_cell HE.out 2).trans rfl
  have q3 : w1.cell? ⟨w.heap.size, 3, none⟩ = some (.int .i64 nx) := (blk_cell HE.out 3).trans rfl
  go_wp2_with fail
  refine (manifest_odd.calls fl _ _ H2.out).mono ?_; rintro e w2 ⟨rfl, hb⟩
  replace hb := hb.below
  have HE2 := Aside0.mk ((hb.block _ (blk_lt HE.out)).trans HE.out); have HB2 := Aside0.mk (below_then HB.out HB.out.size hb); clear hb
  clear q0 q1 q2 q3
  have q0 : w2.cell? ⟨w.heap.size, 0, none⟩ = some (.slice A0 d.length c0) := (blk_cell HE2.out 0).trans rfl
  have q1 : w2.cell? ⟨w.heap.size, 1, none⟩ = some (.slice A1 a.length c1) := (blk_cell HE2.out 1).trans rfl
  have q2 : w2.cell? ⟨w.heap.size, 2, none⟩ = some (.int .i64 fl) := (blk_cell HE2.out 2).trans rfl
  have q3 : w2.cell? ⟨w.heap.size, 3, none⟩ = some (.int .i64 nx) := (blk_cell HE2.out 3).trans rfl
  go_wp2_with fail
  refine (manifest_odd.calls nx _ _ H3.out).mono ?_; rintro e w3 ⟨rfl, hb⟩
  replace hb := hb.below
  have HE3 := Aside0.mk ((hb.block _ (blk_lt HE2.out)).trans HE2.out); have HB3 := Aside0.mk (below_then HB2.out HB2.out.size hb); clear hb
  clear q0 q1 q2 q3
  have q0 : w3.cell? ⟨w.heap.size, 0, none⟩ = some (.slice A0 d.length c0) := (blk_cell HE3.out 0).trans rfl
  have q1 : w3.cell? ⟨w.heap.size, 1, none⟩ = some (.slice A1 a.length c1) := (blk_cell HE3.out 1).trans rfl
  have q2 : w3.cell? ⟨w.heap.size, 2, none⟩ = some (.int .i64 fl) := (blk_cell HE3.out 2).trans rfl
  have q3 : w3.cell? ⟨w.heap.size, 3, none⟩ = some (.int .i64 nx) := (blk_cell HE3.out 3).trans rfl
  go_wp2_with fail
  refine (manifest_right.contI A0 c0 d w3 w3 (Kd.C_below HR0.out HB3.out) HL0.out (Below.refl _ _)).mono ?_; rintro e w4 ⟨rfl, hb⟩
  rw [H4.out]
  have HE4 := Aside0.mk ((hb.block _ (blk_lt HE3.out)).trans HE3.out); have HB4 := Aside0.mk (below_then HB3.out HB3.out.size hb); clear hb
  clear q0 q1 q2 q3
  have q0 : w4.cell? ⟨w.heap.size, 0, none⟩ = some (.slice A0 d.length c0) := (blk_cell HE4.out 0).trans rfl
  have q1 : w4.cell? ⟨w.heap.size, 1, none⟩ = some (.slice A1 a.length c1) := (blk_cell HE4.out 1).trans rfl
  have q2 : w4.cell? ⟨w.heap.size, 2, none⟩ = some (.int .i64 fl) := (blk_cell HE4.out 2).trans rfl
  have q3 : w4.cell? ⟨w.heap.size, 3, none⟩ = some (.int .i64 nx) := (blk_cell HE4.out 3).trans rfl
  go_wp2_with fail
  refine (manifest_right.contP A1 c1 a w4 w4 (Kd.C_below HR1.out HB4.out) HL1.out (Below.refl _ _)).mono ?_; rintro e w5 ⟨rfl, hb⟩
  rw [H5.out]
  have HE5 := Aside0.mk ((hb.block _ (blk_lt HE4.out)).trans HE4.out); have HB5 := Aside0.mk (below_then HB4.out HB4.out.size hb); clear hb
  clear q0 q1 q2 q3
  have q0 : w5.cell? ⟨w.heap.size, 0, none⟩ = some (.slice A0 d.length c0) := (blk_cell HE5.out 0).trans rfl
  have q1 : w5.cell? ⟨w.heap.size, 1, none⟩ = some (.slice A1 a.length c1) := (blk_cell HE5.out 1).trans rfl
  have q2 : w5.cell? ⟨w.heap.size, 2, none⟩ = some (.int .i64 fl) := (blk_cell HE5.out 2).trans rfl
  have q3 : w5.cell? ⟨w.heap.size, 3, none⟩ = some (.int .i64 nx) := (blk_cell HE5.out 3).trans rfl
  go_wp2
  go_ret
  exact ⟨rfl, HB5.out⟩
def manifest_right.f (l0_0 : List Int) (l0_1 : List S36) (a0_2 a0_3 : Int) : Option Bool := some (rightB l0_0 l0_1 a0_2 a0_3)
theorem manifest_right.calls (A0_0 : Option Addr) (c0_0 : Nat) (l0_0 : List Int) (A0_1 : Option Addr) (c0_1 : Nat) (l0_1 : List S36) (a0_2 : Int) (a0_3 : Int) (r : Bool) (w : World) (hr0_0 : Kd.C (Kd.int .i64) w A0_0 l0_0.length l0_0) (hc0_0 : l0_0.length ≤ c0_0) (hr0_1 : Kd.C k36 w A0_1 l0_1.length l0_1) (hc0_1 : l0_1.length ≤ c0_1) (h : manifest_right.f l0_0 l0_1 a0_2 a0_3 = some r) :
    Calls Try.prog 18 #[.agg #[.slice A0_0 l0_0.length c0_0, .slice A0_1 l0_1.length c0_1, .int .i64 a0_2, .int .i64 a0_3]] w fun e w' => e = .returned (.bool r) ∧ Below w.heap.size w w' := by
  unfold manifest_right.f at h
  obtain rfl := Option.some.inj h
  cases h0 : decide (l0_0.length ≤ 1000)
  · have e : rightB l0_0 l0_1 a0_2 a0_3 = false := by unfold rightB; rw [h0]; rfl
    rw [e]; exact manifest_right.way0 A0_0 c0_0 l0_0 A0_1 c0_1 l0_1 a0_2 a0_3 w hr0_0 hr0_1 h0
  · cases h1 : decide (l0_1.length ≤ 1000)
    · have e : rightB l0_0 l0_1 a0_2 a0_3 = false := by unfold rightB; rw [h0, h1]; rfl
      rw [e]; exact manifest_right.way1 A0_0 c0_0 l0_0 A0_1 c0_1 l0_1 a0_2 a0_3 w hr0_0 hr0_1 h0 h1
    · cases h2 : oddI a0_2
      · cases h3 : oddI a0_3
        · cases h4 : (l0_0.all fun x => !oddI x)
          · have e : rightB l0_0 l0_1 a0_2 a0_3 = false := by unfold rightB; rw [h0, h1, h2, h3, h4]; rfl
            rw [e]; exact manifest_right.way4 A0_0 c0_0 l0_0 A0_1 c0_1 l0_1 a0_2 a0_3 w hr0_0 hr0_1 h0 h1 h2 h3 h4
          · cases h5 : (l0_1.all fun x => !oddP x)
            · have e : rightB l0_0 l0_1 a0_2 a0_3 = false := by unfold rightB; rw [h0, h1, h2, h3, h4, h5]; rfl
              rw [e]; exact manifest_right.way5 A0_0 c0_0 l0_0 A0_1 c0_1 l0_1 a0_2 a0_3 w hr0_0 hr0_1 h0 h1 h2 h3 h4 h5
            · have e : rightB l0_0 l0_1 a0_2 a0_3 = true := by unfold rightB; rw [h0, h1, h2, h3, h4, h5]; rfl
              rw [e]; exact manifest_right.way6 A0_0 c0_0 l0_0 A0_1 c0_1 l0_1 a0_2 a0_3 w hr0_0 hr0_1 h0 h1 h2 h3 h4 h5
        · have e : rightB l0_0 l0_1 a0_2 a0_3 = false := by unfold rightB; rw [h0, h1, h2, h3]; rfl
          rw [e]; exact manifest_right.way3 A0_0 c0_0 l0_0 A0_1 c0_1 l0_1 a0_2 a0_3 w hr0_0 hr0_1 h0 h1 h2 h3
      · have e : rightB l0_0 l0_1 a0_2 a0_3 = false := by unfold rightB; rw [h0, h1, h2]; rfl
        rw [e]; exact manifest_right.way2 A0_0 c0_0 l0_0 A0_1 c0_1 l0_1 a0_2 a0_3 w hr0_0 hr0_1 h0 h1 h2
end Go.Proofs.Ytagokgijffpdnaa.G
