import Derived.Test.YtgeddoklmcjdcaaZQA
namespace Go.Proofs.Ytgeddoklmcjdcaa.G
open Go.RowKit Go.Proofs.YtgeddoklmcjdcaaQ Go.Proofs.YtgeddoklmcjdcaaW.PrintWords Go.Proofs.YtgeddoklmcjdcaaW.PrintLast Go.Proofs.YtgeddoklmcjdcaaW.PrintMore
attribute [local go_sem] max2_int min2_int max_two min_two max_three min_three max_four min_four   -- for this text's walks alone
set_option linter.unusedVariables false
set_option linter.unusedSimpArgs false
def slices_Repeat_int64_int64.f (l0 : List Int) (a1 : Int) : Option (List Int) := if l0.length = 1 ∧ 0 ≤ a1 ∧ a1 ≤ 1000000 then some (List.replicate a1.toNat (rd l0 0)) else none
theorem slices_Repeat_int64_int64.mul {c : Int} (h0 : 0 ≤ c) (h1 : c ≤ 1000000) : bits_Mul.f 1 c = some (0, c) := by
 have a1 : Go.bits .and .u64 1 4294967295 = 1 := by decide
 have a2 : Go.bits .and .u64 0 4294967295 = 0 := by decide
 have a3 : Go.bits .and .u64 c 4294967295 = c := by
  obtain ⟨n, rfl⟩ : ∃ n : Nat, c = (n : Int) := ⟨c.toNat, by omega⟩
  have h := Go.u64_and_nat n 4294967295 (by omega) (by decide)
  have e : n &&& 4294967295 = n := by
   have := Nat.and_two_pow_sub_one_eq_mod n 32
   rw [show (4294967295 : Nat) = 2 ^ 32 - 1 from rfl, this]
   exact Nat.mod_eq_of_lt (by omega)
  rw [e] at h
  exact h
 have e1 : (1 : Int) / 4294967296 = 0 := by decide
 have e2 : c / 4294967296 = 0 := by omega
 have w0 : IntKind.u64.wrap 0 = 0 := by decide
 have wc : IntKind.u64.wrap c = c := by simp [IntKind.wrap, IntKind.bits, IntKind.signed]; omega
 unfold bits_Mul.f bits_Mul64.f
 simp only [a1, a2, a3, e1, e2, Int.zero_mul, Int.mul_zero, Int.one_mul, Int.zero_add, Int.add_zero, w0, wc, Int.zero_ediv, Option.bind_some]
def slices_Repeat_int64_int64.cells (x : Int) (n c : Nat) : List Value := List.replicate n (Value.int .i64 x) ++ List.replicate (c - n) (Value.int .i64 0)
theorem slices_Repeat_int64_int64.cells_len (x : Int) {n c : Nat} (h : n ≤ c) : (slices_Repeat_int64_int64.cells x n c).length = c := by simp [slices_Repeat_int64_int64.cells]; omega
theorem slices_Repeat_int64_int64.cells_next (x : Int) {n m c : Nat} (h : n + m ≤ c) : splice (slices_Repeat_int64_int64.cells x n c) n (List.replicate m (Value.int .i64 x)) = slices_Repeat_int64_int64.cells x (n + m) c := by
 unfold splice slices_Repeat_int64_int64.cells
 rw [List.take_left' (by simp), List.length_replicate, List.drop_append, List.drop_eq_nil_of_le (by simp), List.nil_append, List.length_replicate, List.drop_replicate, ← List.append_assoc, List.replicate_append_replicate]
 congr 2; omega
theorem slices_Repeat_int64_int64.cells_at (x : Int) {n c j : Nat} (h : j < n) : (slices_Repeat_int64_int64.cells x n c)[j]? = some (.int .i64 x) := by
 unfold slices_Repeat_int64_int64.cells
 rw [List.getElem?_append_left (by simpa using h), List.getElem?_replicate, if_pos h]
theorem slices_Repeat_int64_int64.pos {W : World} {ad : Addr} {x : Int} {c : Nat} (h : W.cell? (ad.add 0) = some (.int .i64 x)) : ∀ j v, (List.replicate (min 1 c) (Value.int .i64 x))[j]? = some v → W.cell? (ad.add j) = some v := by
 intro j v hj
 rw [List.getElem?_replicate] at hj
 split at hj
 ·obtain rfl : j = 0 := by omega
  obtain rfl := Option.some.inj hj
  exact h
 ·cases hj
theorem slices_Repeat_int64_int64.posn {W : World} {g n c e : Nat} {x : Int} (h : W.heap[g]? = some (.cells (slices_Repeat_int64_int64.cells x n c).toArray e (0, 0))) : ∀ j v, (List.replicate (min n (c - n)) (Value.int .i64 x))[j]? = some v → W.cell? ((⟨g, 0, none⟩ : Addr).add j) = some v := by
 intro j v hj
 rw [List.getElem?_replicate] at hj
 split at hj
 ·obtain rfl := Option.some.inj hj
  rw [add_plain, blk_cell h j, List.getElem?_toArray]
  exact slices_Repeat_int64_int64.cells_at x (by omega)
 ·cases hj
theorem slices_Repeat_int64_int64.made (x : Int) (c : Nat) : madeCells #[Value.int .i64 0] c = (slices_Repeat_int64_int64.cells x 0 c).toArray := by
 apply Array.toList_inj.1
 apply List.ext_getElem
 ·simp [madeCells, slices_Repeat_int64_int64.cells]
 ·intro i h1 h2
  simp [madeCells, slices_Repeat_int64_int64.cells, Nat.mod_one]
theorem slices_Repeat_int64_int64.own {w W : World} {g c : Nat} {x : Int} (hg : W.heap[g]? = some (.cells (slices_Repeat_int64_int64.cells x c c).toArray 2 (0, 0))) (hw : w.heap.size ≤ g) (hc : c ≤ 1000000) :
  Kd.R (Kd.int .i64) 2 W w.heap.size (fun _ => True) (.slice (some ⟨g, 0, none⟩) c c) (List.replicate c x) := by
 refine Kd.R_of_own ?_ (fun _ _ => trivial)
 have e : (slices_Repeat_int64_int64.cells x c c) = encs (Value.int .i64) (List.replicate c x) := by simp [slices_Repeat_int64_int64.cells, encs]
 rw [e] at hg
 refine ⟨by simp [encs], .inr ⟨g, c, _, by simp, hw, hg, by simp, by simp [maxLen]; omega, by simp [encs], by simp [encs]⟩⟩
def slices_Repeat_int64_int64.T9 : Bool × List (List Nat × List Nat) := (true, [([], []), ([], []), ([], []), ([1, 2], [1, 2]), ([], []), ([], []), ([4, 5], [4, 5]), ([3, 6], [3, 6]), ([0, 7], [0, 7]), ([8, 7, 0, 1, 2, 3, 4, 5, 6, 7, 8], [0, 2, 5, 8])])
theorem slices_Repeat_int64_int64.tab9 : rtab .any (opsOf Try.f57 9) = slices_Repeat_int64_int64.T9 := by kernel_rfl
set_option maxHeartbeats 4000000 in
set_option maxRecDepth 100000 in
theorem slices_Repeat_int64_int64.walk (ad : Addr) (c0 c : Nat) (x : Int) (w : World) (hcell : w.cell? (ad.add 0) = some (.int .i64 x)) (hc : c ≤ 1000000) :
  Calls Try.prog 57 #[.slice (some ad) 1 c0, .int .i64 (c : Int)] w fun e w' => ∃ v0_ : Value, e = .returned (v0_) ∧ Kd.R (Kd.int .i64) 2 w' w.heap.size (fun _ => True) v0_ (List.replicate c x) ∧ Below w.heap.size w w' := by
 have hm := slices_Repeat_int64_int64.mul (c := (c : Int)) (by omega) (by omega)
 have HM := Aside0.mk hm
 have HC := Aside0.mk hc
 have HX := Aside0.mk hcell
 have d1 : decide ((c : Int) < 0) = false := decide_eq_false (by omega)
 have d2 : decide ((9223372036854775807 : Int) < (c : Int)) = false := decide_eq_false (by omega)
 have d3 : decide (9223372036854775807 < c) = false := decide_eq_false (by omega)
 have hmk := print_make (P := Try.prog) 22 2 .i64 8 Try.underlying22 (by kernel_rfl) (by decide) c (by omega)
 have b0 : (0 : Int) ≤ (c : Int) := by omega
 have b1 : (c : Int) ≤ 1000000 := by omega
 clear hm hc hcell
 go_enter Try.func57, Try.ntmps57
 go_wp2_with fail
 refine (bits_Mul.calls 1 (c : Int) 0 (c : Int) _ HM.out).mono ?_; rintro e w1 ⟨rfl, ⟨nd, rfl⟩⟩
 have hg0 : ((w.drewN nd).alloc (.cells (madeCells #[Value.int .i64 0] c) 2)).heap[w.heap.size]? = some (.cells (slices_Repeat_int64_int64.cells x 0 c).toArray 2 (0, 0)) := by
  rw [slices_Repeat_int64_int64.made x]; exact heap_alloc_new (w.drewN nd) _
 have hb0 : Below w.heap.size w ((w.drewN nd).alloc (.cells (madeCells #[Value.int .i64 0] c) 2)) := below_alloc (pw_below_drewN (Below.refl _ _) _) _
 have HG0 := Aside0.mk hg0; have HB0 := Aside0.mk hb0
 clear hg0 hb0
 go_wp2_with ((with_reducible refine wpList_copy_splice rfl (.tmp 31) (.tmp 32) 22 22 rfl 2 Try.underlying22 (by kernel_rfl) (some ⟨w.heap.size, 0, none⟩) (some ad) c c 1 c0 rfl rfl w.heap.size 0 (slices_Repeat_int64_int64.cells x 0 c) 2 HG0.out (List.replicate (min 1 c) (Value.int .i64 x)) ?hn (fun _ => ⟨rfl, ad, rfl, slices_Repeat_int64_int64.pos ((HB0.out.cell (World.block_lt_of_cell? w _ HX.out)).trans HX.out)⟩) ?hf ?ho w.heap.size w HB0.out (Nat.le_refl _) ?_); (case hn => simp [Nat.min_comm]); (case hf => rw [slices_Repeat_int64_int64.cells_len x (Nat.zero_le _)]; simp; omega); (case ho => intro v hv; rw [(List.mem_replicate.1 hv).2]; rfl); intro w2 hg2 hb2; (have HG2 := Aside0.mk hg2.out); (have HB2 := Aside0.mk hb2); clear hg2 hb2)
 have hn1 := HG2.out
 rw [slices_Repeat_int64_int64.cells_next x (n := 0) (m := min 1 c) (by omega), Nat.zero_add] at hn1
 have HN := Aside0.mk hn1
 clear hn1 HG2 HG0 HB0 HX HM hmk d1 d2 d3 b0 b1
 go_loopg [8] (c - min 1 c) (fun gq s8 wx => ∃ n : Nat, n ≤ c ∧ (n = 0 → c = 0) ∧ gq = c - n ∧ s8 = .int .i64 (n : Int) ∧ Aside0 (wx.heap[w.heap.size]? = some (.cells (slices_Repeat_int64_int64.cells x n c).toArray 2 (0, 0))) ∧ Aside0 (Below w.heap.size w wx))
 case atStart => exact ⟨min 1 c, by omega, by omega, rfl, rfl, HN, HB2⟩
 case round =>
  clear HN HB2
  obtain ⟨n, hn, hn0, rfl, rfl, HN, HB⟩ := hrel
  by_cases hlt : n < c
  ·have HL := Aside0.mk hlt
   have hpos : 0 < n := by omega
   obtain ⟨g1, hg1⟩ : ∃ g1, c - n = g1 + 1 := ⟨c - n - 1, by omega⟩
   have k1 : decide ((n : Int) < (c : Int)) = true := decide_eq_true (by omega)
   have k2 : decide (n < c) = true := decide_eq_true hlt
   have b0 : (0 : Int) ≤ (n : Int) := by omega
   have b1 : (n : Int) ≤ (c : Int) := by omega
   have b2 : ¬ c = n := by omega
   have b3 : (c : Int) ≤ 1000000 := by have := HC.out; omega
   have HG1 := Aside0.mk hg1; clear hg1 hn0
   go_wp2_with fail
   refine start_ (n := 10) (S := fun w' => True) (ds := []) (bs_ 10 0) (by kernel_rfl) rfl rfl trivial (fun hHeld => ?_)
   refine with_tab slices_Repeat_int64_int64.tab9 (fun HT_ => ?_)
   replace HN : Aside0 (wr.drew.heap[w.heap.size]? = some (.cells (slices_Repeat_int64_int64.cells x n c).toArray 2 (0, 0))) := ⟨HN.out⟩
   replace HB : Aside0 (Below w.heap.size w wr.drew) := ⟨below_drew HB.out⟩
   generalize wr.drew = wr at HN HB hHeld ⊢
   refine pA_ 0 (some 38) (bs_ 10 1) HT_ ?_ ?_ ?_ ?_ ?_
   rotate_left; (intro w'; go_simp; with_reducible rfl); rotate_left; (simp only [PT_]; rfl)
   refine pA_ 1 (some 39) (bs_ 10 3) HT_ ?_ ?_ ?_ ?_ ?_
   rotate_left; (intro w'; go_simp; with_reducible rfl); rotate_left; (simp only [PT_]; rfl)
   refine pA_ 2 (some 40) (bs_ 10 7) HT_ ?_ ?_ ?_ ?_ ?_
   rotate_left; (intro w'; go_simp; with_reducible rfl); rotate_left; (simp only [PT_]; rfl)
   refine pA_ 3 (some 41) (bs_ 10 15) HT_ ?_ ?_ ?_ ?_ ?_
   rotate_left; (intro w'; go_simp; with_reducible rfl); rotate_left; (simp only [PT_]; rfl)
   refine pA_ 4 (some 42) (bs_ 10 31) HT_ ?_ ?_ ?_ ?_ ?_
   rotate_left; (intro w'; go_simp; with_reducible rfl); rotate_left; (simp only [PT_]; rfl)
   refine pA_ 5 (some 43) (bs_ 10 63) HT_ ?_ ?_ ?_ ?_ ?_
   rotate_left; (intro w'; go_simp; with_reducible rfl); rotate_left; (simp only [PT_]; rfl)
   refine pA_ 6 (some 44) (bs_ 10 127) HT_ ?_ ?_ ?_ ?_ ?_
   rotate_left; (intro w'; go_simp; with_reducible rfl); rotate_left; (simp only [PT_]; rfl)
   refine oA_ 7 (some 45) (bs_ 10 255) HT_ (fun K hK => ?_)
   refine step_copy_splice rfl (.tmp 41) (.tmp 44) 22 22 rfl 2 Try.underlying22 (by kernel_rfl) (some ⟨w.heap.size, n, none⟩) (some ⟨w.heap.size, 0, none⟩) (c - n) (c - n) n c (by rfl) (by rfl) w.heap.size n (slices_Repeat_int64_int64.cells x n c) 2 HN.out (List.replicate (min n (c - n)) (Value.int .i64 x)) (by simp) (fun _ => ⟨rfl, _, rfl, slices_Repeat_int64_int64.posn HN.out⟩) (by rw [slices_Repeat_int64_int64.cells_len x (by have := HL.out; omega)]; simp; have := HL.out; omega) (by intro v hv; rw [(List.mem_replicate.1 hv).2]; rfl) w.heap.size w HB.out (Nat.le_refl _) ?_
   intro w4 hg4 hb4
   have HG4 := Aside0.mk hg4.out; have HB4 := Aside0.mk hb4; clear hg4 hb4 HN HB
   refine hK.out _ _ trivial (fun hHeld => ?_)
   clear hK K
   refine norm_ (a' := ?_) ?_ ?_; rotate_left; (show Act.put _ (some 45) _ = _; simp only [PT_]; rfl)
   refine pA_ 8 (some 46) (bs_ 10 511) HT_ ?_ ?_ ?_ ?_ ?_
   rotate_left; (intro w'; go_simp; with_reducible rfl); rotate_left; (simp only [PT_]; rfl)
   refine pA_ 9 (some 8) (bs_ 10 1023) HT_ ?_ ?_ ?_ ?_ ?_
   rotate_left; (intro w'; go_simp; with_reducible rfl); rotate_left; (simp only [PT_]; rfl)
   refine done_ (done_of HT_.out (by kernel_rfl)) ?_
   have hn4 := HG4.out
   rw [slices_Repeat_int64_int64.cells_next x (by have := HL.out; omega)] at hn4
   have HN4 := Aside0.mk hn4; clear hn4 HG4
   have hw : wrap64 ((n : Int) + ((min n (c - n) : Nat) : Int)) = ((n + min n (c - n) : Nat) : Int) := by have := HL.out; have := HC.out; rw [w64 (by omega) (by omega)]; rfl
   rw [hw]
   have HW := Aside0.mk hw; clear hw
   go_wp2
   go_roundg (c - (n + min n (c - n)))
   case measure => have := HG1.out; have := HL.out; omega
   case rel => exact ⟨n + min n (c - n), by have := HL.out; omega, by have := HL.out; omega, rfl, by go_num, HN4, HB4⟩
  ·have e : n = c := by omega
   subst e
   have k1 : decide ((n : Int) < (n : Int)) = false := decide_eq_false (by omega)
   have k2 : decide (n < n) = false := decide_eq_false (by omega)
   clear hlt hn hn0
   go_wp2
   go_ret
   exact ⟨_, rfl, slices_Repeat_int64_int64.own HN.out (Nat.le_refl _) HC.out, HB.out⟩
theorem slices_Repeat_int64_int64.calls (A0 : Option Addr) (c0 : Nat) (l0 : List Int) (a1 : Int) (r : List Int) (w : World) (hr0 : Kd.C (Kd.int .i64) w A0 l0.length l0) (hc0 : l0.length ≤ c0) (h : slices_Repeat_int64_int64.f l0 a1 = some r) :
  Calls Try.prog 57 #[.slice A0 l0.length c0, .int .i64 a1] w fun e w' => ∃ v0_ : Value, e = .returned (v0_) ∧ Kd.R (Kd.int .i64) 2 w' w.heap.size (fun _ => True) v0_ r ∧ Below w.heap.size w w' := by
 unfold slices_Repeat_int64_int64.f at h
 split at h
 ·rename_i hl
  obtain ⟨h1, h2, h3⟩ := hl
  obtain rfl := Option.some.inj h
  obtain ⟨c, rfl⟩ : ∃ c : Nat, a1 = (c : Int) := ⟨a1.toNat, by omega⟩
  obtain ⟨ad, hA, hcell⟩ := Kd.at_int hr0 0 (by omega) (by omega)
  cases hA
  rw [h1, Int.toNat_natCast]
  exact slices_Repeat_int64_int64.walk ad c0 c (rd l0 0) w hcell (by omega)
 ·exact absurd h (by simp)
end Go.Proofs.Ytgeddoklmcjdcaa.G
namespace Go.Proofs.Ytgeddoklmcjdcaa.G
open Go.RowKit Go.Proofs.YtgeddoklmcjdcaaQ Go.Proofs.YtgeddoklmcjdcaaW.PrintWords Go.Proofs.YtgeddoklmcjdcaaW.PrintLast Go.Proofs.YtgeddoklmcjdcaaW.PrintMore
attribute [local go_sem] max2_int min2_int max_two min_two max_three min_three max_four min_four   -- for this text's walks alone
set_option linter.unusedVariables false
set_option linter.unusedSimpArgs false
mutual
def ints_readRuns.l0 : Nat → Int → List Int → ByteArray → Int → Option (List Int × Int × ByteArray × Int)
 | 0, _, _, _, _ => none
 | k + 1, x1, x6, x1000, x1001 => if (x6.length : Int) < x1 then ((tally_Cursor_Uint.f x1000 x1001).bind fun bt191 => ((tally_Cursor_Err.f bt191.2.1 bt191.2.2).bind fun bt194 => (if bt194.1 = 0 then (if bt191.1 = 0 then (ints_readRuns.j1 k x1 x6 bt191.1 true bt194.2.1 bt194.2.2) else (ints_readRuns.j1 k x1 x6 bt191.1 (decide (bt191.1 > (IntKind.u64.wrap (wrap64 (x1 - (x6.length : Int)))))) bt194.2.1 bt194.2.2)) else (ints_readRuns.j1 k x1 x6 bt191.1 false bt194.2.1 bt194.2.2)))) else (some (x6, 0, x1000, x1001))
def ints_readRuns.j1 : Nat → Int → List Int → Int → Bool → ByteArray → Int → Option (List Int × Int × ByteArray × Int)
 | 0, _, _, _, _, _, _ => none
 | k + 1, x1, x6, x7, x30, x1000, x1001 => if x30 = true then (some (([] : List Int), 4, x1000, x1001)) else ((tally_Cursor_Int.f x1000 x1001).bind fun bt197 => ((tally_Cursor_Err.f bt197.2.1 bt197.2.2).bind fun bt200 => (if bt200.1 = 0 then (if (x6.length : Int) > 0 then (if 0 ≤ (wrap64 ((x6.length : Int) - 1)) then (if (wrap64 ((x6.length : Int) - 1)) < (x6.length : Int) then (if (rd x6 (wrap64 ((x6.length : Int) - 1))) = bt197.1 then (some (([] : List Int), 4, bt200.2.1, bt200.2.2)) else ((slices_Repeat_int64_int64.f (([bt197.1] : List Int)) (wrap64 (x7))).bind fun t207 => (if x6.length + t207.length < 17592186044416 then (ints_readRuns.l0 k x1 (x6 ++ t207) bt200.2.1 bt200.2.2) else (none)))) else (none)) else (none)) else ((slices_Repeat_int64_int64.f (([bt197.1] : List Int)) (wrap64 (x7))).bind fun t216 => (if x6.length + t216.length < 17592186044416 then (ints_readRuns.l0 k x1 (x6 ++ t216) bt200.2.1 bt200.2.2) else (none)))) else ((tally_Cursor_Err.f bt200.2.1 bt200.2.2).bind fun bt222 => (some (([] : List Int), bt222.1, bt222.2.1, bt222.2.2))))))
end
def ints_readRuns.f (k : Nat) (s0_0 : ByteArray) (s0_1 : Int) (a1 : Int) : Option (List Int × Int × ByteArray × Int) := ints_readRuns.l0 k a1 ([] : List Int) s0_0 s0_1
theorem ints_readRuns.mono_l : ∀ k, (∀ y0 y1 y2 y3, LeO (ints_readRuns.l0 k y0 y1 y2 y3) (ints_readRuns.l0 (k + 1) y0 y1 y2 y3)) ∧ (∀ y0 y1 y2 y3 y4 y5, LeO (ints_readRuns.j1 k y0 y1 y2 y3 y4 y5) (ints_readRuns.j1 (k + 1) y0 y1 y2 y3 y4 y5))
 | 0 => ⟨fun _ _ _ _ r h => by simp [ints_readRuns.l0] at h, fun _ _ _ _ _ _ r h => by simp [ints_readRuns.j1] at h⟩
 | k + 1 => by
  obtain ⟨ih0, ih1⟩ := ints_readRuns.mono_l k
  refine ⟨?_, ?_⟩
  ·intro y0 y1 y2 y3
   unfold ints_readRuns.l0
   repeat' first
   | (with_reducible exact ih0 _ _ _ _)
   | (with_reducible exact ih1 _ _ _ _ _ _)
   | (with_reducible exact LeO.refl _)
   | (with_reducible exact LeO.none _)
   | (with_reducible refine LeO.ite ?_ ?_)
   | (with_reducible refine LeO.bind ?_ (fun _ => ?_))
   | exact ih0 _ _ _ _
   | exact ih1 _ _ _ _ _ _
   | exact LeO.none _
   | refine LeO.ite ?_ ?_
   | refine LeO.bind ?_ (fun _ => ?_)
  ·intro y0 y1 y2 y3 y4 y5
   unfold ints_readRuns.j1
   repeat' first
   | (with_reducible exact ih0 _ _ _ _)
   | (with_reducible exact ih1 _ _ _ _ _ _)
   | (with_reducible exact LeO.refl _)
   | (with_reducible exact LeO.none _)
   | (with_reducible refine LeO.ite ?_ ?_)
   | (with_reducible refine LeO.bind ?_ (fun _ => ?_))
   | exact ih0 _ _ _ _
   | exact ih1 _ _ _ _ _ _
   | exact LeO.none _
   | refine LeO.ite ?_ ?_
   | refine LeO.bind ?_ (fun _ => ?_)
theorem ints_readRuns.mono : ∀ a0 a1 a2 k, LeO (ints_readRuns.f k a0 a1 a2) (ints_readRuns.f (k + 1) a0 a1 a2) := by
 intro a0 a1 a2 k
 obtain ⟨ih0, ih1⟩ := ints_readRuns.mono_l k
 unfold ints_readRuns.f
 repeat' first
   | (with_reducible exact ih0 _ _ _ _)
   | (with_reducible exact ih1 _ _ _ _ _ _)
   | (with_reducible exact LeO.refl _)
   | (with_reducible exact LeO.none _)
   | (with_reducible refine LeO.ite ?_ ?_)
   | (with_reducible refine LeO.bind ?_ (fun _ => ?_))
   | exact ih0 _ _ _ _
   | exact ih1 _ _ _ _ _ _
   | exact LeO.none _
   | refine LeO.ite ?_ ?_
   | refine LeO.bind ?_ (fun _ => ?_)
set_option maxHeartbeats 8000000 in
set_option maxRecDepth 100000 in
theorem ints_readRuns.calls (k : Nat) (g : Nat) (s0_0 : ByteArray) (s0_1 : Int) (a1 : Int) (r1 : List Int) (r2 : Int) (r3 : ByteArray) (r4 : Int) (w0 w : World) (hI : IsS66 w0 w g s0_0 s0_1) (hB : Below w0.heap.size w0 w) (h : ints_readRuns.f k s0_0 s0_1 a1 = some (r1, r2, r3, r4)) :
  Calls Try.prog 39 #[.pointer (some ⟨g, 0, none⟩), .int .i64 a1] w fun e w' => ∃ v0_ : Value, e = .returned (.tuple #[v0_, .int .i64 r2]) ∧ Kd.R (Kd.int .i64) 2 w' w.heap.size (fun _ => True) v0_ r1 ∧ IsS66 w0 w' g r3 r4 ∧ Below w0.heap.size w0 w' ∧ KeepBut w w' g none := by
 have HI0 := Aside0.mk hI
 have HK := Aside0.mk (KeepBut.refl w g none)
 have HL := Aside0.mk hB.size
 clear hI
 have HW0 := Aside0.mk hB.size
 have HB := Aside0.mk hB
 clear hB
 have H : (ints_readRuns.l0 k a1 ([] : List Int) s0_0 s0_1) = some (r1, r2, r3, r4) := h
 clear h
 have H' := Aside0.mk H
 clear H
 go_enter Try.func39, Try.ntmps39
 go_wp2
 go_loopg [6] k (fun kq v6 w' => ∃ (x6_1 : List Int) (x1000_1 : ByteArray) (x1001_1 : Int), Aside0 (ints_readRuns.l0 kq a1 x6_1 x1000_1 x1001_1 = some (r1, r2, r3, r4)) ∧ Aside0 (kq ≤ k) ∧ Aside0 (Kd.R (Kd.int .i64) 2 w' w.heap.size (fun _ => True) v6 x6_1) ∧ Aside0 (IsS66 w0 w' g x1000_1 x1001_1) ∧ Aside0 (KeepBut w w' g none) ∧ Aside0 (Below w0.heap.size w0 w'))
 case atStart => exact ⟨(([] : List Int)), (s0_0), (s0_1), H', ⟨Nat.le_refl _⟩, ⟨z10_⟩, ⟨z4_⟩, ⟨z0_⟩, ⟨z5_⟩⟩
 case round =>
  clear H'
  try clear p2
  obtain ⟨x6_1, x1000_1, x1001_1, HA, HK1, HO_6, HI0, HK, HB⟩ := hrel
  cases gk with
  | zero => exact absurd HA.out (by simp [ints_readRuns.l0])
  | succ k1 =>
   have H := HA.out
   clear HA
   simp only [ints_readRuns.l0] at H
   by_cases c3 : (x6_1.length : Int) < a1
   ·rw [if_pos c3] at H
    have c3b0 : decide ((x6_1.length : Int) < a1) = true := decide_eq_true c3
    clear c3
    replace H := Option.bind_eq_some_iff.mp H
    obtain ⟨⟨t191, t192, t193⟩, A40, H⟩ := H
    replace H : ((tally_Cursor_Err.f t192 t193).bind fun bt194 => (if bt194.1 = 0 then (if t191 = 0 then (ints_readRuns.j1 k1 a1 x6_1 t191 true bt194.2.1 bt194.2.2) else (ints_readRuns.j1 k1 a1 x6_1 t191 (decide (t191 > (IntKind.u64.wrap (wrap64 (a1 - (x6_1.length : Int)))))) bt194.2.1 bt194.2.2)) else (ints_readRuns.j1 k1 a1 x6_1 t191 false bt194.2.1 bt194.2.2))) = some (r1, r2, r3, r4) := H
    have A4 := Aside0.mk A40
    clear A40
    have HC5 := Aside0.mk H
    clear H
    obtain ⟨Ao6, co6, eo6⟩ := Kd.R_slice HO_6.out
    subst eo6
    go_upto_region 4 with (first | ((with_reducible refine gate_callee (f := 26) rfl ?_); refine goesL_ (some 14) rfl rfl Try.func26 (by kernel_rfl) rfl #[.pointer (some ⟨g, 0, none⟩)] rfl (by (try simp only [List.map_toArray, List.map_cons, List.map_nil]); first | done | rfl | (simp only [List.length_drop, List.length_take]; rfl) | (go_simp; simp [IntKind.wrap, IntKind.bits, IntKind.signed]; omega)) ?_; (with_reducible refine (tally_Cursor_Uint.calls g x1000_1 x1001_1 t191 t192 t193 w0 _ ?side1 ?side2 A4.out).mono ?_); (case side1 => repeat (first | (with_reducible first | exact HI0.out | apply IsS66.alloc | apply IsS66.drewN | apply IsS66.drew | apply IsS66.set_0 | apply IsS66.set_1) | exact HI0.out)); (case side2 => repeat (first | (with_reducible first | exact HB.out | apply below_alloc | apply pw_below_drewN | apply below_drew1 | refine below_set ?_ (IsS66.ge HI0.out)) | exact HB.out)); rintro e w7 ⟨rfl, hi, hb, hk⟩; refine ⟨_, rfl, ?_⟩; have n0_ := Aside0.mk (Kd.R_mono (Kd.R_keep (IsS66.apart (show IsS66 w0 _ g x1000_1 x1001_1 from z4_) (by (with_reducible repeat (first | apply Kd.R_alloc | apply Kd.R_drewN | apply Kd.R_drew)); exact HO_6.out) (by decide)) hk (fun _ h => h.2)) (fun _ h => h.1)); have n1_ := Aside0.mk (KeepBut.trans z0_ hk (.inl rfl)); have n2_ := Aside0.mk (hb); have n3_ := Aside0.mk (hi); clear HO_6; clear HK; clear HB; clear HI0; have HO_6 := n0_; have HK := n1_; have HB := n2_; have HI0 := n3_; clear n0_ n1_ n2_ n3_; (try clear hb); (try clear hb2); (try clear hk); (try clear hi)))
    (try simp only [Act.put, List.setIfInBounds_toArray, List.set_cons_zero, List.set_cons_succ])
    go_cut [30] (fun v30 wc => ∃ (kq : Nat) (x30_4 : Bool) (x1000_4 : ByteArray) (x1001_4 : Int), v30 = .bool x30_4 ∧ Aside0 (ints_readRuns.j1 kq a1 x6_1 t191 x30_4 x1000_4 x1001_4 = some (r1, r2, r3, r4)) ∧ Aside0 (kq ≤ k1) ∧ Aside0 (Kd.R (Kd.int .i64) 2 wc w.heap.size (fun _ => True) (.slice Ao6 x6_1.length co6) x6_1) ∧ Aside0 (IsS66 w0 wc g x1000_4 x1001_4) ∧ Aside0 (KeepBut w wc g none) ∧ Aside0 (Below w0.heap.size w0 wc))
    case first =>
     have H := HC5.out
     clear HC5
     replace H := Option.bind_eq_some_iff.mp H
     obtain ⟨⟨t194, t195, t196⟩, A80, H⟩ := H
     replace H : (if t194 = 0 then (if t191 = 0 then (ints_readRuns.j1 k1 a1 x6_1 t191 true t195 t196) else (ints_readRuns.j1 k1 a1 x6_1 t191 (decide (t191 > (IntKind.u64.wrap (wrap64 (a1 - (x6_1.length : Int)))))) t195 t196)) else (ints_readRuns.j1 k1 a1 x6_1 t191 false t195 t196)) = some (r1, r2, r3, r4) := H
     have A8 := Aside0.mk A80
     clear A80
     by_cases c9 : t194 = 0
     ·rw [if_pos c9] at H
      have c9b0 : (t194 == 0) = true := beq_iff_eq.mpr c9
      have c9b1 : (t194 != 0) = false := bne_eq_false_iff_eq.mpr c9
      clear c9
      (first | rw [c9b0] | (simp only [i64_w, i32_w]; rw [c9b0]) | skip)
      by_cases c10 : t191 = 0
      ·rw [if_pos c10] at H
       have c10b0 : (t191 == 0) = true := beq_iff_eq.mpr c10
       have c10b1 : (t191 != 0) = false := bne_eq_false_iff_eq.mpr c10
       clear c10
       have H' := Aside0.mk H
       clear H
       go_wp2_with (first | ((with_reducible refine gate_callee (f := 25) rfl ?_); refine goesL_ (some 16) rfl rfl Try.func25 (by kernel_rfl) rfl #[.pointer (some ⟨g, 0, none⟩)] rfl (by (try simp only [List.map_toArray, List.map_cons, List.map_nil]); first | done | rfl | (simp only [List.length_drop, List.length_take]; rfl) | (go_simp; simp [IntKind.wrap, IntKind.bits, IntKind.signed]; omega)) ?_; (with_reducible refine (tally_Cursor_Err.calls g t192 t193 t194 t195 t196 w0 _ ?side1 ?side2 A8.out).mono ?_); (case side1 => repeat (first | (with_reducible first | exact HI0.out | apply IsS66.alloc | apply IsS66.drewN | apply IsS66.drew | apply IsS66.set_0 | apply IsS66.set_1) | exact HI0.out)); (case side2 => repeat (first | (with_reducible first | exact HB.out | apply below_alloc | apply pw_below_drewN | apply below_drew1 | refine below_set ?_ (IsS66.ge HI0.out)) | exact HB.out)); rintro e w11 ⟨rfl, hi, hb, hk⟩; refine ⟨_, rfl, ?_⟩; have n0_ := Aside0.mk (Kd.R_mono (Kd.R_keep (IsS66.apart (show IsS66 w0 _ g t192 t193 from z4_) (by (with_reducible repeat (first | apply Kd.R_alloc | apply Kd.R_drewN | apply Kd.R_drew)); exact HO_6.out) (by decide)) hk (fun _ h => h.2)) (fun _ h => h.1)); have n1_ := Aside0.mk (KeepBut.trans z0_ hk (.inl rfl)); have n2_ := Aside0.mk (hb); have n3_ := Aside0.mk (hi); clear HO_6; clear HK; clear HB; clear HI0; have HO_6 := n0_; have HK := n1_; have HB := n2_; have HI0 := n3_; clear n0_ n1_ n2_ n3_; (try clear hb); (try clear hb2); (try clear hk); (try clear hi)))
       go_meet
       case rel => exact ⟨_, (true), (t195), (t196), z11_, H', ⟨by have := HK1.out; first | omega | exact Nat.le_refl _⟩, ⟨by (with_reducible repeat (first | apply Kd.R_alloc | apply Kd.R_drewN | apply Kd.R_drew)); exact HO_6.out⟩, ⟨z4_⟩, ⟨z0_⟩, ⟨z5_⟩⟩
      ·rw [if_neg c10] at H
       have c10b0 : (t191 == 0) = false := beq_eq_false_iff_ne.mpr c10
       have c10b1 : (t191 != 0) = true := bne_iff_ne.mpr c10
       have H' := Aside0.mk H
       clear H
       go_wp2_with (first | ((with_reducible refine gate_callee (f := 25) rfl ?_); refine goesL_ (some 16) rfl rfl Try.func25 (by kernel_rfl) rfl #[.pointer (some ⟨g, 0, none⟩)] rfl (by (try simp only [List.map_toArray, List.map_cons, List.map_nil]); first | done | rfl | (simp only [List.length_drop, List.length_take]; rfl) | (go_simp; simp [IntKind.wrap, IntKind.bits, IntKind.signed]; omega)) ?_; (with_reducible refine (tally_Cursor_Err.calls g t192 t193 t194 t195 t196 w0 _ ?side1 ?side2 A8.out).mono ?_); (case side1 => repeat (first | (with_reducible first | exact HI0.out | apply IsS66.alloc | apply IsS66.drewN | apply IsS66.drew | apply IsS66.set_0 | apply IsS66.set_1) | exact HI0.out)); (case side2 => repeat (first | (with_reducible first | exact HB.out | apply below_alloc | apply pw_below_drewN | apply below_drew1 | refine below_set ?_ (IsS66.ge HI0.out)) | exact HB.out)); rintro e w12 ⟨rfl, hi, hb, hk⟩; refine ⟨_, rfl, ?_⟩; have n0_ := Aside0.mk (Kd.R_mono (Kd.R_keep (IsS66.apart (show IsS66 w0 _ g t192 t193 from z4_) (by (with_reducible repeat (first | apply Kd.R_alloc | apply Kd.R_drewN | apply Kd.R_drew)); exact HO_6.out) (by decide)) hk (fun _ h => h.2)) (fun _ h => h.1)); have n1_ := Aside0.mk (KeepBut.trans z0_ hk (.inl rfl)); have n2_ := Aside0.mk (hb); have n3_ := Aside0.mk (hi); clear HO_6; clear HK; clear HB; clear HI0; have HO_6 := n0_; have HK := n1_; have HB := n2_; have HI0 := n3_; clear n0_ n1_ n2_ n3_; (try clear hb); (try clear hb2); (try clear hk); (try clear hi)))
       go_meet
       case rel => exact ⟨_, (decide (t191 > (IntKind.u64.wrap (wrap64 (a1 - (x6_1.length : Int)))))), (t195), (t196), z11_, H', ⟨by have := HK1.out; first | omega | exact Nat.le_refl _⟩, ⟨by (with_reducible repeat (first | apply Kd.R_alloc | apply Kd.R_drewN | apply Kd.R_drew)); exact HO_6.out⟩, ⟨z4_⟩, ⟨z0_⟩, ⟨z5_⟩⟩
     ·rw [if_neg c9] at H
      have c9b0 : (t194 == 0) = false := beq_eq_false_iff_ne.mpr c9
      have c9b1 : (t194 != 0) = true := bne_iff_ne.mpr c9
      (first | rw [c9b0] | (simp only [i64_w, i32_w]; rw [c9b0]) | skip)
      have H' := Aside0.mk H
      clear H
      go_wp2_with (first | ((with_reducible refine gate_callee (f := 25) rfl ?_); refine goesL_ (some 16) rfl rfl Try.func25 (by kernel_rfl) rfl #[.pointer (some ⟨g, 0, none⟩)] rfl (by (try simp only [List.map_toArray, List.map_cons, List.map_nil]); first | done | rfl | (simp only [List.length_drop, List.length_take]; rfl) | (go_simp; simp [IntKind.wrap, IntKind.bits, IntKind.signed]; omega)) ?_; (with_reducible refine (tally_Cursor_Err.calls g t192 t193 t194 t195 t196 w0 _ ?side1 ?side2 A8.out).mono ?_); (case side1 => repeat (first | (with_reducible first | exact HI0.out | apply IsS66.alloc | apply IsS66.drewN | apply IsS66.drew | apply IsS66.set_0 | apply IsS66.set_1) | exact HI0.out)); (case side2 => repeat (first | (with_reducible first | exact HB.out | apply below_alloc | apply pw_below_drewN | apply below_drew1 | refine below_set ?_ (IsS66.ge HI0.out)) | exact HB.out)); rintro e w13 ⟨rfl, hi, hb, hk⟩; refine ⟨_, rfl, ?_⟩; have n0_ := Aside0.mk (Kd.R_mono (Kd.R_keep (IsS66.apart (show IsS66 w0 _ g t192 t193 from z4_) (by (with_reducible repeat (first | apply Kd.R_alloc | apply Kd.R_drewN | apply Kd.R_drew)); exact HO_6.out) (by decide)) hk (fun _ h => h.2)) (fun _ h => h.1)); have n1_ := Aside0.mk (KeepBut.trans z0_ hk (.inl rfl)); have n2_ := Aside0.mk (hb); have n3_ := Aside0.mk (hi); clear HO_6; clear HK; clear HB; clear HI0; have HO_6 := n0_; have HK := n1_; have HB := n2_; have HI0 := n3_; clear n0_ n1_ n2_ n3_; (try clear hb); (try clear hb2); (try clear hk); (try clear hi)))
      go_meet
      case rel => exact ⟨_, (false), (t195), (t196), z11_, H', ⟨by have := HK1.out; first | omega | exact Nat.le_refl _⟩, ⟨by (with_reducible repeat (first | apply Kd.R_alloc | apply Kd.R_drewN | apply Kd.R_drew)); exact HO_6.out⟩, ⟨z4_⟩, ⟨z0_⟩, ⟨z5_⟩⟩
    case rest =>
     clear HC5
     try clear c1
     try clear c2
     try clear p2
     try clear c3
     try clear c3b0
     try clear p6
     try clear c9
     try clear c9b0
     try clear c9b1
     try clear c10
     try clear c10b0
     try clear c10b1
     try clear p2
     obtain ⟨kq, x30_4, x1000_4, x1001_4, rfl, HA, HJ4, HO_6, HI0, HK, HB⟩ := hcut
     cases kq with
     | zero => exact absurd HA.out (by simp [ints_readRuns.j1])
     | succ kj4 =>
      have H := HA.out
      clear HA
      simp only [ints_readRuns.j1] at H
      by_cases c14 : x30_4 = true
      ·subst c14
       have H1 : (some (([] : List Int), 4, x1000_4, x1001_4)) = some (r1, r2, r3, r4) := by rw [if_pos rfl] at H; exact H
       clear H
       have H := H1
       clear H1
       simp only [Option.some.injEq, Prod.mk.injEq] at H
       obtain ⟨rfl, rfl, rfl, rfl⟩ := H
       go_wp2
       go_ret2
       exact ⟨_, z6_, z10_, z4_, z5_, z0_⟩
      ·replace c14 := Bool.eq_false_iff.mpr c14
       subst c14
       have H1 : ((tally_Cursor_Int.f x1000_4 x1001_4).bind fun bt197 => ((tally_Cursor_Err.f bt197.2.1 bt197.2.2).bind fun bt200 => (if bt200.1 = 0 then (if (x6_1.length : Int) > 0 then (if 0 ≤ (wrap64 ((x6_1.length : Int) - 1)) then (if (wrap64 ((x6_1.length : Int) - 1)) < (x6_1.length : Int) then (if (rd x6_1 (wrap64 ((x6_1.length : Int) - 1))) = bt197.1 then (some (([] : List Int), 4, bt200.2.1, bt200.2.2)) else ((slices_Repeat_int64_int64.f (([bt197.1] : List Int)) (wrap64 (t191))).bind fun t207 => (if x6_1.length + t207.length < 17592186044416 then (ints_readRuns.l0 kj4 a1 (x6_1 ++ t207) bt200.2.1 bt200.2.2) else (none)))) else (none)) else (none)) else ((slices_Repeat_int64_int64.f (([bt197.1] : List Int)) (wrap64 (t191))).bind fun t216 => (if x6_1.length + t216.length < 17592186044416 then (ints_readRuns.l0 kj4 a1 (x6_1 ++ t216) bt200.2.1 bt200.2.2) else (none)))) else ((tally_Cursor_Err.f bt200.2.1 bt200.2.2).bind fun bt222 => (some (([] : List Int), bt222.1, bt222.2.1, bt222.2.2)))))) = some (r1, r2, r3, r4) := by rw [if_neg (show ¬ (false = true) by decide)] at H; exact H
       clear H
       have H := H1
       clear H1
       replace H := Option.bind_eq_some_iff.mp H
       obtain ⟨⟨t197, t198, t199⟩, A150, H⟩ := H
       replace H : ((tally_Cursor_Err.f t198 t199).bind fun bt200 => (if bt200.1 = 0 then (if (x6_1.length : Int) > 0 then (if 0 ≤ (wrap64 ((x6_1.length : Int) - 1)) then (if (wrap64 ((x6_1.length : Int) - 1)) < (x6_1.length : Int) then (if (rd x6_1 (wrap64 ((x6_1.length : Int) - 1))) = t197 then (some (([] : List Int), 4, bt200.2.1, bt200.2.2)) else ((slices_Repeat_int64_int64.f (([t197] : List Int)) (wrap64 (t191))).bind fun t207 => (if x6_1.length + t207.length < 17592186044416 then (ints_readRuns.l0 kj4 a1 (x6_1 ++ t207) bt200.2.1 bt200.2.2) else (none)))) else (none)) else (none)) else ((slices_Repeat_int64_int64.f (([t197] : List Int)) (wrap64 (t191))).bind fun t216 => (if x6_1.length + t216.length < 17592186044416 then (ints_readRuns.l0 kj4 a1 (x6_1 ++ t216) bt200.2.1 bt200.2.2) else (none)))) else ((tally_Cursor_Err.f bt200.2.1 bt200.2.2).bind fun bt222 => (some (([] : List Int), bt222.1, bt222.2.1, bt222.2.2))))) = some (r1, r2, r3, r4) := H
       have A15 := Aside0.mk A150
       clear A150
       replace H := Option.bind_eq_some_iff.mp H
       obtain ⟨⟨t200, t201, t202⟩, A160, H⟩ := H
       replace H : (if t200 = 0 then (if (x6_1.length : Int) > 0 then (if 0 ≤ (wrap64 ((x6_1.length : Int) - 1)) then (if (wrap64 ((x6_1.length : Int) - 1)) < (x6_1.length : Int) then (if (rd x6_1 (wrap64 ((x6_1.length : Int) - 1))) = t197 then (some (([] : List Int), 4, t201, t202)) else ((slices_Repeat_int64_int64.f (([t197] : List Int)) (wrap64 (t191))).bind fun t207 => (if x6_1.length + t207.length < 17592186044416 then (ints_readRuns.l0 kj4 a1 (x6_1 ++ t207) t201 t202) else (none)))) else (none)) else (none)) else ((slices_Repeat_int64_int64.f (([t197] : List Int)) (wrap64 (t191))).bind fun t216 => (if x6_1.length + t216.length < 17592186044416 then (ints_readRuns.l0 kj4 a1 (x6_1 ++ t216) t201 t202) else (none)))) else ((tally_Cursor_Err.f t201 t202).bind fun bt222 => (some (([] : List Int), bt222.1, bt222.2.1, bt222.2.2)))) = some (r1, r2, r3, r4) := H
       have A16 := Aside0.mk A160
       clear A160
       by_cases c17 : t200 = 0
       ·rw [if_pos c17] at H
        have c17b0 : (t200 == 0) = true := beq_iff_eq.mpr c17
        have c17b1 : (t200 != 0) = false := bne_eq_false_iff_eq.mpr c17
        clear c17
        by_cases c18 : (x6_1.length : Int) > 0
        ·rw [if_pos c18] at H
         have c18b0 : decide (0 < (x6_1.length : Int)) = true := decide_eq_true c18
         have c18b1 : decide (0 < x6_1.length) = true := decide_eq_true (by omega)
         clear c18
         obtain ⟨ji19, hji19⟩ : ∃ j_ : Int, (wrap64 ((x6_1.length : Int) - 1)) = j_ := ⟨_, rfl⟩
         replace H : (if 0 ≤ (ji19) then (if (ji19) < (x6_1.length : Int) then (if (rd x6_1 (ji19)) = t197 then (some (([] : List Int), 4, t201, t202)) else ((slices_Repeat_int64_int64.f (([t197] : List Int)) (wrap64 (t191))).bind fun t207 => (if x6_1.length + t207.length < 17592186044416 then (ints_readRuns.l0 kj4 a1 (x6_1 ++ t207) t201 t202) else (none)))) else (none)) else (none)) = some (r1, r2, r3, r4) := by first | (rw [hji19] at H; exact H) | (simp only [hji19] at H ⊢; exact H)
         (try rw [hji19] at A15)
         (try rw [hji19] at A16)
         have hji19w : (IntKind.i64.wrap ((x6_1.length : Int) - 1)) = ji19 := (i64_w _).trans hji19
         by_cases c20 : 0 ≤ (ji19)
         ·rw [if_pos c20] at H
          have c20b0 : decide (0 ≤ (ji19)) = true := decide_eq_true c20
          clear c20
          by_cases c21 : (ji19) < (x6_1.length : Int)
          ·rw [if_pos c21] at H
           have c21b0 : decide ((ji19) < (x6_1.length : Int)) = true := decide_eq_true c21
           clear c21
           by_cases c22 : (rd x6_1 (ji19)) = t197
           ·rw [if_pos c22] at H
            have c22b0 : ((rd x6_1 (ji19)) == t197) = true := beq_iff_eq.mpr c22
            have c22b1 : ((rd x6_1 (ji19)) != t197) = false := bne_eq_false_iff_eq.mpr c22
            clear c22
            simp only [Option.some.injEq, Prod.mk.injEq] at H
            obtain ⟨rfl, rfl, rfl, rfl⟩ := H
            go_wp2_with (first | ((with_reducible refine gate_callee (f := 56) rfl ?_); refine goesL_ (some 32) rfl rfl Try.func56 (by kernel_rfl) rfl #[.pointer (some ⟨g, 0, none⟩)] rfl (by (try simp only [List.map_toArray, List.map_cons, List.map_nil]); first | done | rfl | (simp only [List.length_drop, List.length_take]; rfl) | (go_simp; simp [IntKind.wrap, IntKind.bits, IntKind.signed]; omega)) ?_; (with_reducible refine (tally_Cursor_Int.calls g x1000_4 x1001_4 t197 t198 t199 w0 _ ?side1 ?side2 A15.out).mono ?_); (case side1 => repeat (first | (with_reducible first | exact HI0.out | apply IsS66.alloc | apply IsS66.drewN | apply IsS66.drew | apply IsS66.set_0 | apply IsS66.set_1) | exact HI0.out)); (case side2 => repeat (first | (with_reducible first | exact HB.out | apply below_alloc | apply pw_below_drewN | apply below_drew1 | refine below_set ?_ (IsS66.ge HI0.out)) | exact HB.out)); rintro e w23 ⟨rfl, hi, hb, hk⟩; refine ⟨_, rfl, ?_⟩; have n0_ := Aside0.mk (Kd.R_mono (Kd.R_keep (IsS66.apart (show IsS66 w0 _ g x1000_4 x1001_4 from z4_) (by (with_reducible repeat (first | apply Kd.R_alloc | apply Kd.R_drewN | apply Kd.R_drew)); exact HO_6.out) (by decide)) hk (fun _ h => h.2)) (fun _ h => h.1)); have n1_ := Aside0.mk (KeepBut.trans z0_ hk (.inl rfl)); have n2_ := Aside0.mk (hb); have n3_ := Aside0.mk (hi); clear HO_6; clear HK; clear HB; clear HI0; have HO_6 := n0_; have HK := n1_; have HB := n2_; have HI0 := n3_; clear n0_ n1_ n2_ n3_; (try clear hb); (try clear hb2); (try clear hk); (try clear hi)) | ((with_reducible refine gate_callee (f := 25) rfl ?_); refine goesL_ (some 35) rfl rfl Try.func25 (by kernel_rfl) rfl #[.pointer (some ⟨g, 0, none⟩)] rfl (by (try simp only [List.map_toArray, List.map_cons, List.map_nil]); first | done | rfl | (simp only [List.length_drop, List.length_take]; rfl) | (go_simp; simp [IntKind.wrap, IntKind.bits, IntKind.signed]; omega)) ?_; (with_reducible refine (tally_Cursor_Err.calls g t198 t199 t200 t201 t202 w0 _ ?side1 ?side2 A16.out).mono ?_); (case side1 => repeat (first | (with_reducible first | exact HI0.out | apply IsS66.alloc | apply IsS66.drewN | apply IsS66.drew | apply IsS66.set_0 | apply IsS66.set_1) | exact HI0.out)); (case side2 => repeat (first | (with_reducible first | exact HB.out | apply below_alloc | apply pw_below_drewN | apply below_drew1 | refine below_set ?_ (IsS66.ge HI0.out)) | exact HB.out)); rintro e w24 ⟨rfl, hi, hb, hk⟩; refine ⟨_, rfl, ?_⟩; have n0_ := Aside0.mk (Kd.R_mono (Kd.R_keep (IsS66.apart (show IsS66 w0 _ g t198 t199 from z4_) (by (with_reducible repeat (first | apply Kd.R_alloc | apply Kd.R_drewN | apply Kd.R_drew)); exact HO_6.out) (by decide)) hk (fun _ h => h.2)) (fun _ h => h.1)); have n1_ := Aside0.mk (KeepBut.trans z0_ hk (.inl rfl)); have n2_ := Aside0.mk (hb); have n3_ := Aside0.mk (hi); clear HO_6; clear HK; clear HB; clear HI0; have HO_6 := n0_; have HK := n1_; have HB := n2_; have HI0 := n3_; clear n0_ n1_ n2_ n3_; (try clear hb); (try clear hb2); (try clear hk); (try clear hi); have p203 : 0 ≤ ((ji19) : Int) := of_decide_eq_true z12_; have q203 : (ji19) < (x6_1.length : Int) := of_decide_eq_true z12_; obtain ⟨ad203, e203, hx203_0⟩ := Kd.at_int (Kd.R_reads' HO_6.out).2.2 (ji19) p203 q203; cases e203; replace p203 := eq_true p203; replace q203 := eq_true q203))
            go_ret2
            exact ⟨_, by first | rfl | (simp [errW_none, errW_some] <;> rfl) | (simp only [← hji19]; first | rfl | (simp [errW_none, errW_some] <;> rfl)) | (simp [*, errW_none, errW_some] <;> rfl), z10_, z4_, z5_, z0_⟩
           ·rw [if_neg c22] at H
            have c22b0 : ((rd x6_1 (ji19)) == t197) = false := beq_eq_false_iff_ne.mpr c22
            have c22b1 : ((rd x6_1 (ji19)) != t197) = true := bne_iff_ne.mpr c22
            obtain ⟨y204, hy204⟩ : ∃ y_ : List Int, y_ = (([t197] : List Int)) := ⟨_, rfl⟩
            replace H : ((slices_Repeat_int64_int64.f y204 (wrap64 (t191))).bind fun t207 => (if x6_1.length + t207.length < 17592186044416 then (ints_readRuns.l0 kj4 a1 (x6_1 ++ t207) t201 t202) else (none))) = some (r1, r2, r3, r4) := by first | (rw [hy204]; with_reducible exact H) | (have H2_ := (Option.bind_some _ _).symm.trans H; rw [hy204]; with_reducible exact H2_) | (have H2_ := (Option.bind_some _ _).symm.trans H; with_reducible exact H2_) | with_reducible exact H | (rw [hy204]; exact H) | exact H
            have Ny204 := Aside0.mk hy204
            clear hy204
            replace H := Option.bind_eq_some_iff.mp H
            obtain ⟨t207, A250, H⟩ := H
            replace H : (if x6_1.length + t207.length < 17592186044416 then (ints_readRuns.l0 kj4 a1 (x6_1 ++ t207) t201 t202) else (none)) = some (r1, r2, r3, r4) := H
            have A25 := Aside0.mk A250
            clear A250
            by_cases c26 : x6_1.length + t207.length < 17592186044416
            ·rw [if_pos c26] at H
             have LMc26 := Aside0.mk c26
             clear c26
             obtain ⟨y210, hy210⟩ : ∃ y_ : List Int, y_ = (x6_1 ++ t207) := ⟨_, rfl⟩
             replace H : (ints_readRuns.l0 kj4 a1 y210 t201 t202) = some (r1, r2, r3, r4) := by first | (rw [hy210]; with_reducible exact H) | (have H2_ := (Option.bind_some _ _).symm.trans H; rw [hy210]; with_reducible exact H2_) | (have H2_ := (Option.bind_some _ _).symm.trans H; with_reducible exact H2_) | with_reducible exact H | (rw [hy210]; exact H) | exact H
             have Ny210 := Aside0.mk hy210
             clear hy210
             have H' := Aside0.mk H
             clear H
             go_wp2_with (first | ((with_reducible refine gate_callee (f := 56) rfl ?_); refine goesL_ (some 32) rfl rfl Try.func56 (by kernel_rfl) rfl #[.pointer (some ⟨g, 0, none⟩)] rfl (by (try simp only [List.map_toArray, List.map_cons, List.map_nil]); first | done | rfl | (simp only [List.length_drop, List.length_take]; rfl) | (go_simp; simp [IntKind.wrap, IntKind.bits, IntKind.signed]; omega)) ?_; (with_reducible refine (tally_Cursor_Int.calls g x1000_4 x1001_4 t197 t198 t199 w0 _ ?side1 ?side2 A15.out).mono ?_); (case side1 => repeat (first | (with_reducible first | exact HI0.out | apply IsS66.alloc | apply IsS66.drewN | apply IsS66.drew | apply IsS66.set_0 | apply IsS66.set_1) | exact HI0.out)); (case side2 => repeat (first | (with_reducible first | exact HB.out | apply below_alloc | apply pw_below_drewN | apply below_drew1 | refine below_set ?_ (IsS66.ge HI0.out)) | exact HB.out)); rintro e w27 ⟨rfl, hi, hb, hk⟩; refine ⟨_, rfl, ?_⟩; have n0_ := Aside0.mk (Kd.R_mono (Kd.R_keep (IsS66.apart (show IsS66 w0 _ g x1000_4 x1001_4 from z4_) (by (with_reducible repeat (first | apply Kd.R_alloc | apply Kd.R_drewN | apply Kd.R_drew)); exact HO_6.out) (by decide)) hk (fun _ h => h.2)) (fun _ h => h.1)); have n1_ := Aside0.mk (KeepBut.trans z0_ hk (.inl rfl)); have n2_ := Aside0.mk (hb); have n3_ := Aside0.mk (hi); clear HO_6; clear HK; clear HB; clear HI0; have HO_6 := n0_; have HK := n1_; have HB := n2_; have HI0 := n3_; clear n0_ n1_ n2_ n3_; (try clear hb); (try clear hb2); (try clear hk); (try clear hi)) | ((with_reducible refine gate_callee (f := 25) rfl ?_); refine goesL_ (some 35) rfl rfl Try.func25 (by kernel_rfl) rfl #[.pointer (some ⟨g, 0, none⟩)] rfl (by (try simp only [List.map_toArray, List.map_cons, List.map_nil]); first | done | rfl | (simp only [List.length_drop, List.length_take]; rfl) | (go_simp; simp [IntKind.wrap, IntKind.bits, IntKind.signed]; omega)) ?_; (with_reducible refine (tally_Cursor_Err.calls g t198 t199 t200 t201 t202 w0 _ ?side1 ?side2 A16.out).mono ?_); (case side1 => repeat (first | (with_reducible first | exact HI0.out | apply IsS66.alloc | apply IsS66.drewN | apply IsS66.drew | apply IsS66.set_0 | apply IsS66.set_1) | exact HI0.out)); (case side2 => repeat (first | (with_reducible first | exact HB.out | apply below_alloc | apply pw_below_drewN | apply below_drew1 | refine below_set ?_ (IsS66.ge HI0.out)) | exact HB.out)); rintro e w28 ⟨rfl, hi, hb, hk⟩; refine ⟨_, rfl, ?_⟩; have n0_ := Aside0.mk (Kd.R_mono (Kd.R_keep (IsS66.apart (show IsS66 w0 _ g t198 t199 from z4_) (by (with_reducible repeat (first | apply Kd.R_alloc | apply Kd.R_drewN | apply Kd.R_drew)); exact HO_6.out) (by decide)) hk (fun _ h => h.2)) (fun _ h => h.1)); have n1_ := Aside0.mk (KeepBut.trans z0_ hk (.inl rfl)); have n2_ := Aside0.mk (hb); have n3_ := Aside0.mk (hi); clear HO_6; clear HK; clear HB; clear HI0; have HO_6 := n0_; have HK := n1_; have HB := n2_; have HI0 := n3_; clear n0_ n1_ n2_ n3_; (try clear hb); (try clear hb2); (try clear hk); (try clear hi); have p203 : 0 ≤ ((ji19) : Int) := of_decide_eq_true z12_; have q203 : (ji19) < (x6_1.length : Int) := of_decide_eq_true z12_; obtain ⟨ad203, e203, hx203_0⟩ := Kd.at_int (Kd.R_reads' HO_6.out).2.2 (ji19) p203 q203; cases e203; replace p203 := eq_true p203; replace q203 := eq_true q203) | ((with_reducible refine gate_dst (N := 55) rfl ?_); (try (refine gate_guard (by rfl) ?_; dsimp only)); refine Kd.R_lit (Kd.int .i64) _ 2 ?hg (N := 55) ?hd (xs := ([t197] : List Int)) (inner := [.int .i64 t197]) (ok := fun _ => True) (okp := fun _ => True) ?hr ?hp (fun _ hk => hk) trivial (Below.refl _ _) (Nat.le_refl _) (by simp) ?_; (case hd => rfl); (case hg => rfl); (case hr => first | (go_simp; done) | (go_simp; rfl)); (case hp => exact (Reps.one (show Kd.M (Kd.int .i64) _ _ _ t197 [.int .i64 t197] from rfl) (Reps.none _ _))); intro v205 w29 ho30 hb hg_ hnew_; clear hg_ hnew_; (first | rw [← Ny204.out] at ho30 | (simp only [Int.reduceToNat] at ho30; rw [← Ny204.out] at ho30)); have n0_ := Aside0.mk (Kd.R_elder' (by (with_reducible repeat (first | apply Kd.R_alloc | apply Kd.R_drewN | apply Kd.R_drew)); exact HO_6.out) (Kd.R_base ho30) hb); have n1_ := Aside0.mk (Kd.R_lower (Kd.R_new' ho30 (Kd.R_lt (by (with_reducible repeat (first | apply Kd.R_alloc | apply Kd.R_drewN | apply Kd.R_drew)); exact HO_6.out))) (keep_size (w := w) (g := g) (row := none) z0_)); have n2_ := Aside0.mk (IsS66.below z4_ hb); have n3_ := Aside0.mk (KeepBut.trans z0_ (KeepBut.of_below hb g none) (.inl rfl)); have n4_ := Aside0.mk (below_step z5_ hb); clear HO_6; clear HI0; clear HK; clear HB; have HO_6 := n0_; have HO206 := n1_; have HI0 := n2_; have HK := n3_; have HB := n4_; clear n0_ n1_ n2_ n3_ n4_; clear hb ho30; obtain ⟨Ao31, co31, eo31⟩ := Kd.R_slice HO206.out; subst eo31) | ((with_reducible refine gate_callee (f := 57) rfl ?_); refine goesL_ (some 58) rfl rfl Try.func57 (by kernel_rfl) rfl #[.slice Ao31 y204.length co31, .int .i64 (wrap64 (t191))] rfl (by (try simp only [List.map_toArray, List.map_cons, List.map_nil]); first | done | rfl | (simp only [List.length_drop, List.length_take]; rfl) | (go_simp; simp [IntKind.wrap, IntKind.bits, IntKind.signed]; omega)) ?_; (with_reducible refine (slices_Repeat_int64_int64.calls _ _ y204 (wrap64 (t191)) t207 _ ?side1 ?side2 A25.out).mono ?_); (case side1 => repeat (first | exact (Kd.R_reads' HO206.out).2.2 | (with_reducible refine Kd.C_alloc ?_ _) | (with_reducible refine Kd.C_drewN ?_ _) | (with_reducible refine Kd.C_drew ?_))); (case side2 => exact (Kd.R_reads' HO206.out).2.1); rintro e w32 ⟨v208, rfl, ho0, hb⟩; refine ⟨_, rfl, ?_⟩; have n0_ := Aside0.mk (Kd.R_elder' (by (with_reducible repeat (first | apply Kd.R_alloc | apply Kd.R_drewN | apply Kd.R_drew)); exact HO_6.out) (Kd.R_base ho0) hb); have n1_ := Aside0.mk (Kd.R_elder' (by (with_reducible repeat (first | apply Kd.R_alloc | apply Kd.R_drewN | apply Kd.R_drew)); exact HO206.out) (Kd.R_base ho0) hb); have n2_ := Aside0.mk (Kd.R_lower (Kd.R_new' (Kd.R_new' ho0 (Kd.R_lt (by (with_reducible repeat (first | apply Kd.R_alloc | apply Kd.R_drewN | apply Kd.R_drew)); exact HO_6.out))) (Kd.R_lt (by (with_reducible repeat (first | apply Kd.R_alloc | apply Kd.R_drewN | apply Kd.R_drew)); exact HO206.out))) (keep_size (w := w) (g := g) (row := none) z0_)); have n3_ := Aside0.mk (IsS66.below z4_ hb); have n4_ := Aside0.mk (KeepBut.trans z0_ (KeepBut.of_below hb g none) (.inl rfl)); have n5_ := Aside0.mk (below_step z5_ hb); clear HO_6; clear HO206; clear HI0; clear HK; clear HB; have HO_6 := n0_; have HO206 := n1_; have HO209 := n2_; have HI0 := n3_; have HK := n4_; have HB := n5_; clear n0_ n1_ n2_ n3_ n4_ n5_; (try clear hb); (try clear hb2); (try clear hk); (try clear hi); (try clear ho0); obtain ⟨Ao34, co34, eo34⟩ := Kd.R_slice HO209.out; subst eo34) | ((with_reducible refine gate_builtin (b := .append) (xs := #[.tmp 53, .tmp 58]) rfl ?_); (try (refine gate_guard (by rfl) ?_; dsimp only)); at_builtin; refine Kd.R_append_rows (Kd.int .i64) w.heap.size rfl (.tmp 53) (.tmp 58) 22 2 (.int .i64 0) 8 rfl Try.underlying22 info2 rfl (by decide) (by omega) (.slice (some ad203) x6_1.length co6) x6_1 t207 _ _ _ (fun k_ => some k_ ≠ (.slice Ao31 y204.length co31 : Value).ownBlock ∧ some k_ ≠ (.slice Ao34 t207.length co34 : Value).ownBlock) (fun _ => False) rfl rfl ?aO ?aR (fun _ _ h => h) (fun _ h => h.elim) ?aF (Below.refl _ _) ?aS ?aL ?_; (case aR => repeat (first | exact (Kd.R_reads' HO209.out).2.2 | (with_reducible refine Kd.C_alloc ?_ _) | (with_reducible refine Kd.C_drewN ?_ _) | (with_reducible refine Kd.C_drew ?_))); (case aF => exact (fun k_ hk => ⟨Kd.fresh' (Kd.R_lt (by (with_reducible repeat (first | apply Kd.R_alloc | apply Kd.R_drewN | apply Kd.R_drew)); exact HO206.out)) k_ hk, Kd.fresh' (Kd.R_lt (by (with_reducible repeat (first | apply Kd.R_alloc | apply Kd.R_drewN | apply Kd.R_drew)); exact HO209.out)) k_ hk⟩)); (case aO => exact (by (with_reducible repeat (first | apply Kd.R_alloc | apply Kd.R_drewN | apply Kd.R_drew)); exact Kd.R_mono HO_6.out (fun _ hk => ⟨hk.1.2, hk.2⟩))); (case aS => exact (keep_size (w := w) (g := g) (row := none) z0_)); (case aL => have := LMc26.out; omega); intro v211 w33 ho hb hg hat; rw [← Ny210.out] at ho; have n0_ := Aside0.mk (IsS66.grown z4_ hg (IsS66.own_ne HI0.out HO_6.out (by decide))); have n1_ := Aside0.mk (Kd.R_after (ok := (fun k_ => some k_ ≠ (.slice Ao34 t207.length co34 : Value).ownBlock)) (by (with_reducible repeat (first | apply Kd.R_alloc | apply Kd.R_drewN | apply Kd.R_drew)); exact Kd.R_mono HO206.out (fun _ hk => ⟨hk.2, hk.1.2⟩)) hg hat); have n2_ := Aside0.mk (Kd.R_after (ok := (fun k_ => some k_ ≠ (.slice Ao31 y204.length co31 : Value).ownBlock)) (by (with_reducible repeat (first | apply Kd.R_alloc | apply Kd.R_drewN | apply Kd.R_drew)); exact Kd.R_mono HO209.out (fun _ hk => ⟨hk.2, hk.1.2⟩)) hg hat); have n3_ := Aside0.mk (below_weaken z5_ HL.out hb); have n4_ := Aside0.mk (KeepBut.trans z0_ (KeepBut.of_grown hg g) (Kd.R_base2 HO_6.out)); have n5_ := Aside0.mk (ho); clear HI0; clear HO206; clear HO209; clear HB; clear HK; clear HO_6; have HI0 := n0_; have HO206 := n1_; have HO209 := n2_; have HB := n3_; have HK := n4_; have HO212 := n5_; clear n0_ n1_ n2_ n3_ n4_ n5_; clear ho hb hg hat))
             go_roundg kj4
             case measure => have := HK1.out; have := HJ4.out; omega
             case rel => exact ⟨(y210), (t201), (t202), H', ⟨by have := HK1.out; have := HJ4.out; omega⟩, ⟨by (with_reducible repeat (first | apply Kd.R_alloc | apply Kd.R_drewN | apply Kd.R_drew)); exact Kd.R_mono HO212.out (fun _ hk => trivial)⟩, ⟨z4_⟩, ⟨z0_⟩, ⟨z5_⟩⟩
            ·rw [if_neg c26] at H
             exact absurd H (by simp)
          ·rw [if_neg c21] at H
           exact absurd H (by simp)
         ·rw [if_neg c20] at H
          exact absurd H (by simp)
        ·rw [if_neg c18] at H
         have c18b0 : decide (0 < (x6_1.length : Int)) = false := decide_eq_false c18
         have c18b1 : decide (0 < x6_1.length) = false := decide_eq_false (by omega)
         clear c18
         obtain ⟨y213, hy213⟩ : ∃ y_ : List Int, y_ = (([t197] : List Int)) := ⟨_, rfl⟩
         replace H : ((slices_Repeat_int64_int64.f y213 (wrap64 (t191))).bind fun t216 => (if x6_1.length + t216.length < 17592186044416 then (ints_readRuns.l0 kj4 a1 (x6_1 ++ t216) t201 t202) else (none))) = some (r1, r2, r3, r4) := by first | (rw [hy213]; with_reducible exact H) | (have H2_ := (Option.bind_some _ _).symm.trans H; rw [hy213]; with_reducible exact H2_) | (have H2_ := (Option.bind_some _ _).symm.trans H; with_reducible exact H2_) | with_reducible exact H | (rw [hy213]; exact H) | exact H
         have Ny213 := Aside0.mk hy213
         clear hy213
         replace H := Option.bind_eq_some_iff.mp H
         obtain ⟨t216, A350, H⟩ := H
         replace H : (if x6_1.length + t216.length < 17592186044416 then (ints_readRuns.l0 kj4 a1 (x6_1 ++ t216) t201 t202) else (none)) = some (r1, r2, r3, r4) := H
         have A35 := Aside0.mk A350
         clear A350
         by_cases c36 : x6_1.length + t216.length < 17592186044416
         ·rw [if_pos c36] at H
          have LMc36 := Aside0.mk c36
          clear c36
          obtain ⟨y219, hy219⟩ : ∃ y_ : List Int, y_ = (x6_1 ++ t216) := ⟨_, rfl⟩
          replace H : (ints_readRuns.l0 kj4 a1 y219 t201 t202) = some (r1, r2, r3, r4) := by first | (rw [hy219]; with_reducible exact H) | (have H2_ := (Option.bind_some _ _).symm.trans H; rw [hy219]; with_reducible exact H2_) | (have H2_ := (Option.bind_some _ _).symm.trans H; with_reducible exact H2_) | with_reducible exact H | (rw [hy219]; exact H) | exact H
          have Ny219 := Aside0.mk hy219
          clear hy219
          have H' := Aside0.mk H
          clear H
          go_wp2_with (first | ((with_reducible refine gate_callee (f := 56) rfl ?_); refine goesL_ (some 32) rfl rfl Try.func56 (by kernel_rfl) rfl #[.pointer (some ⟨g, 0, none⟩)] rfl (by (try simp only [List.map_toArray, List.map_cons, List.map_nil]); first | done | rfl | (simp only [List.length_drop, List.length_take]; rfl) | (go_simp; simp [IntKind.wrap, IntKind.bits, IntKind.signed]; omega)) ?_; (with_reducible refine (tally_Cursor_Int.calls g x1000_4 x1001_4 t197 t198 t199 w0 _ ?side1 ?side2 A15.out).mono ?_); (case side1 => repeat (first | (with_reducible first | exact HI0.out | apply IsS66.alloc | apply IsS66.drewN | apply IsS66.drew | apply IsS66.set_0 | apply IsS66.set_1) | exact HI0.out)); (case side2 => repeat (first | (with_reducible first | exact HB.out | apply below_alloc | apply pw_below_drewN | apply below_drew1 | refine below_set ?_ (IsS66.ge HI0.out)) | exact HB.out)); rintro e w37 ⟨rfl, hi, hb, hk⟩; refine ⟨_, rfl, ?_⟩; have n0_ := Aside0.mk (Kd.R_mono (Kd.R_keep (IsS66.apart (show IsS66 w0 _ g x1000_4 x1001_4 from z4_) (by (with_reducible repeat (first | apply Kd.R_alloc | apply Kd.R_drewN | apply Kd.R_drew)); exact HO_6.out) (by decide)) hk (fun _ h => h.2)) (fun _ h => h.1)); have n1_ := Aside0.mk (KeepBut.trans z0_ hk (.inl rfl)); have n2_ := Aside0.mk (hb); have n3_ := Aside0.mk (hi); clear HO_6; clear HK; clear HB; clear HI0; have HO_6 := n0_; have HK := n1_; have HB := n2_; have HI0 := n3_; clear n0_ n1_ n2_ n3_; (try clear hb); (try clear hb2); (try clear hk); (try clear hi)) | ((with_reducible refine gate_callee (f := 25) rfl ?_); refine goesL_ (some 35) rfl rfl Try.func25 (by kernel_rfl) rfl #[.pointer (some ⟨g, 0, none⟩)] rfl (by (try simp only [List.map_toArray, List.map_cons, List.map_nil]); first | done | rfl | (simp only [List.length_drop, List.length_take]; rfl) | (go_simp; simp [IntKind.wrap, IntKind.bits, IntKind.signed]; omega)) ?_; (with_reducible refine (tally_Cursor_Err.calls g t198 t199 t200 t201 t202 w0 _ ?side1 ?side2 A16.out).mono ?_); (case side1 => repeat (first | (with_reducible first | exact HI0.out | apply IsS66.alloc | apply IsS66.drewN | apply IsS66.drew | apply IsS66.set_0 | apply IsS66.set_1) | exact HI0.out)); (case side2 => repeat (first | (with_reducible first | exact HB.out | apply below_alloc | apply pw_below_drewN | apply below_drew1 | refine below_set ?_ (IsS66.ge HI0.out)) | exact HB.out)); rintro e w38 ⟨rfl, hi, hb, hk⟩; refine ⟨_, rfl, ?_⟩; have n0_ := Aside0.mk (Kd.R_mono (Kd.R_keep (IsS66.apart (show IsS66 w0 _ g t198 t199 from z4_) (by (with_reducible repeat (first | apply Kd.R_alloc | apply Kd.R_drewN | apply Kd.R_drew)); exact HO_6.out) (by decide)) hk (fun _ h => h.2)) (fun _ h => h.1)); have n1_ := Aside0.mk (KeepBut.trans z0_ hk (.inl rfl)); have n2_ := Aside0.mk (hb); have n3_ := Aside0.mk (hi); clear HO_6; clear HK; clear HB; clear HI0; have HO_6 := n0_; have HK := n1_; have HB := n2_; have HI0 := n3_; clear n0_ n1_ n2_ n3_; (try clear hb); (try clear hb2); (try clear hk); (try clear hi)) | ((with_reducible refine gate_dst (N := 55) rfl ?_); (try (refine gate_guard (by rfl) ?_; dsimp only)); refine Kd.R_lit (Kd.int .i64) _ 2 ?hg (N := 55) ?hd (xs := ([t197] : List Int)) (inner := [.int .i64 t197]) (ok := fun _ => True) (okp := fun _ => True) ?hr ?hp (fun _ hk => hk) trivial (Below.refl _ _) (Nat.le_refl _) (by simp) ?_; (case hd => rfl); (case hg => rfl); (case hr => first | (go_simp; done) | (go_simp; rfl)); (case hp => exact (Reps.one (show Kd.M (Kd.int .i64) _ _ _ t197 [.int .i64 t197] from rfl) (Reps.none _ _))); intro v214 w39 ho40 hb hg_ hnew_; clear hg_ hnew_; (first | rw [← Ny213.out] at ho40 | (simp only [Int.reduceToNat] at ho40; rw [← Ny213.out] at ho40)); have n0_ := Aside0.mk (Kd.R_elder' (by (with_reducible repeat (first | apply Kd.R_alloc | apply Kd.R_drewN | apply Kd.R_drew)); exact HO_6.out) (Kd.R_base ho40) hb); have n1_ := Aside0.mk (Kd.R_lower (Kd.R_new' ho40 (Kd.R_lt (by (with_reducible repeat (first | apply Kd.R_alloc | apply Kd.R_drewN | apply Kd.R_drew)); exact HO_6.out))) (keep_size (w := w) (g := g) (row := none) z0_)); have n2_ := Aside0.mk (IsS66.below z4_ hb); have n3_ := Aside0.mk (KeepBut.trans z0_ (KeepBut.of_below hb g none) (.inl rfl)); have n4_ := Aside0.mk (below_step z5_ hb); clear HO_6; clear HI0; clear HK; clear HB; have HO_6 := n0_; have HO215 := n1_; have HI0 := n2_; have HK := n3_; have HB := n4_; clear n0_ n1_ n2_ n3_ n4_; clear hb ho40; obtain ⟨Ao41, co41, eo41⟩ := Kd.R_slice HO215.out; subst eo41) | ((with_reducible refine gate_callee (f := 57) rfl ?_); refine goesL_ (some 58) rfl rfl Try.func57 (by kernel_rfl) rfl #[.slice Ao41 y213.length co41, .int .i64 (wrap64 (t191))] rfl (by (try simp only [List.map_toArray, List.map_cons, List.map_nil]); first | done | rfl | (simp only [List.length_drop, List.length_take]; rfl) | (go_simp; simp [IntKind.wrap, IntKind.bits, IntKind.signed]; omega)) ?_; (with_reducible refine (slices_Repeat_int64_int64.calls _ _ y213 (wrap64 (t191)) t216 _ ?side1 ?side2 A35.out).mono ?_); (case side1 => repeat (first | exact (Kd.R_reads' HO215.out).2.2 | (with_reducible refine Kd.C_alloc ?_ _) | (with_reducible refine Kd.C_drewN ?_ _) | (with_reducible refine Kd.C_drew ?_))); (case side2 => exact (Kd.R_reads' HO215.out).2.1); rintro e w42 ⟨v217, rfl, ho0, hb⟩; refine ⟨_, rfl, ?_⟩; have n0_ := Aside0.mk (Kd.R_elder' (by (with_reducible repeat (first | apply Kd.R_alloc | apply Kd.R_drewN | apply Kd.R_drew)); exact HO_6.out) (Kd.R_base ho0) hb); have n1_ := Aside0.mk (Kd.R_elder' (by (with_reducible repeat (first | apply Kd.R_alloc | apply Kd.R_drewN | apply Kd.R_drew)); exact HO215.out) (Kd.R_base ho0) hb); have n2_ := Aside0.mk (Kd.R_lower (Kd.R_new' (Kd.R_new' ho0 (Kd.R_lt (by (with_reducible repeat (first | apply Kd.R_alloc | apply Kd.R_drewN | apply Kd.R_drew)); exact HO_6.out))) (Kd.R_lt (by (with_reducible repeat (first | apply Kd.R_alloc | apply Kd.R_drewN | apply Kd.R_drew)); exact HO215.out))) (keep_size (w := w) (g := g) (row := none) z0_)); have n3_ := Aside0.mk (IsS66.below z4_ hb); have n4_ := Aside0.mk (KeepBut.trans z0_ (KeepBut.of_below hb g none) (.inl rfl)); have n5_ := Aside0.mk (below_step z5_ hb); clear HO_6; clear HO215; clear HI0; clear HK; clear HB; have HO_6 := n0_; have HO215 := n1_; have HO218 := n2_; have HI0 := n3_; have HK := n4_; have HB := n5_; clear n0_ n1_ n2_ n3_ n4_ n5_; (try clear hb); (try clear hb2); (try clear hk); (try clear hi); (try clear ho0); obtain ⟨Ao44, co44, eo44⟩ := Kd.R_slice HO218.out; subst eo44) | ((with_reducible refine gate_builtin (b := .append) (xs := #[.tmp 53, .tmp 58]) rfl ?_); (try (refine gate_guard (by rfl) ?_; dsimp only)); at_builtin; refine Kd.R_append_rows (Kd.int .i64) w.heap.size rfl (.tmp 53) (.tmp 58) 22 2 (.int .i64 0) 8 rfl Try.underlying22 info2 rfl (by decide) (by omega) (.slice Ao6 x6_1.length co6) x6_1 t216 _ _ _ (fun k_ => some k_ ≠ (.slice Ao41 y213.length co41 : Value).ownBlock ∧ some k_ ≠ (.slice Ao44 t216.length co44 : Value).ownBlock) (fun _ => False) rfl rfl ?aO ?aR (fun _ _ h => h) (fun _ h => h.elim) ?aF (Below.refl _ _) ?aS ?aL ?_; (case aR => repeat (first | exact (Kd.R_reads' HO218.out).2.2 | (with_reducible refine Kd.C_alloc ?_ _) | (with_reducible refine Kd.C_drewN ?_ _) | (with_reducible refine Kd.C_drew ?_))); (case aF => exact (fun k_ hk => ⟨Kd.fresh' (Kd.R_lt (by (with_reducible repeat (first | apply Kd.R_alloc | apply Kd.R_drewN | apply Kd.R_drew)); exact HO215.out)) k_ hk, Kd.fresh' (Kd.R_lt (by (with_reducible repeat (first | apply Kd.R_alloc | apply Kd.R_drewN | apply Kd.R_drew)); exact HO218.out)) k_ hk⟩)); (case aO => exact (by (with_reducible repeat (first | apply Kd.R_alloc | apply Kd.R_drewN | apply Kd.R_drew)); exact Kd.R_mono HO_6.out (fun _ hk => ⟨hk.1.2, hk.2⟩))); (case aS => exact (keep_size (w := w) (g := g) (row := none) z0_)); (case aL => have := LMc36.out; omega); intro v220 w43 ho hb hg hat; rw [← Ny219.out] at ho; have n0_ := Aside0.mk (IsS66.grown z4_ hg (IsS66.own_ne HI0.out HO_6.out (by decide))); have n1_ := Aside0.mk (Kd.R_after (ok := (fun k_ => some k_ ≠ (.slice Ao44 t216.length co44 : Value).ownBlock)) (by (with_reducible repeat (first | apply Kd.R_alloc | apply Kd.R_drewN | apply Kd.R_drew)); exact Kd.R_mono HO215.out (fun _ hk => ⟨hk.2, hk.1.2⟩)) hg hat); have n2_ := Aside0.mk (Kd.R_after (ok := (fun k_ => some k_ ≠ (.slice Ao41 y213.length co41 : Value).ownBlock)) (by (with_reducible repeat (first | apply Kd.R_alloc | apply Kd.R_drewN | apply Kd.R_drew)); exact Kd.R_mono HO218.out (fun _ hk => ⟨hk.2, hk.1.2⟩)) hg hat); have n3_ := Aside0.mk (below_weaken z5_ HL.out hb); have n4_ := Aside0.mk (KeepBut.trans z0_ (KeepBut.of_grown hg g) (Kd.R_base2 HO_6.out)); have n5_ := Aside0.mk (ho); clear HI0; clear HO215; clear HO218; clear HB; clear HK; clear HO_6; have HI0 := n0_; have HO215 := n1_; have HO218 := n2_; have HB := n3_; have HK := n4_; have HO221 := n5_; clear n0_ n1_ n2_ n3_ n4_ n5_; clear ho hb hg hat))
          go_roundg kj4
          case measure => have := HK1.out; have := HJ4.out; omega
          case rel => exact ⟨(y219), (t201), (t202), H', ⟨by have := HK1.out; have := HJ4.out; omega⟩, ⟨by (with_reducible repeat (first | apply Kd.R_alloc | apply Kd.R_drewN | apply Kd.R_drew)); exact Kd.R_mono HO221.out (fun _ hk => trivial)⟩, ⟨z4_⟩, ⟨z0_⟩, ⟨z5_⟩⟩
         ·rw [if_neg c36] at H
          exact absurd H (by simp)
       ·rw [if_neg c17] at H
        have c17b0 : (t200 == 0) = false := beq_eq_false_iff_ne.mpr c17
        have c17b1 : (t200 != 0) = true := bne_iff_ne.mpr c17
        replace H := Option.bind_eq_some_iff.mp H
        obtain ⟨⟨t222, t223, t224⟩, A450, H⟩ := H
        replace H : (some (([] : List Int), t222, t223, t224)) = some (r1, r2, r3, r4) := H
        have A45 := Aside0.mk A450
        clear A450
        simp only [Option.some.injEq, Prod.mk.injEq] at H
        obtain ⟨rfl, rfl, rfl, rfl⟩ := H
        go_wp2_with (first | ((with_reducible refine gate_callee (f := 56) rfl ?_); refine goesL_ (some 32) rfl rfl Try.func56 (by kernel_rfl) rfl #[.pointer (some ⟨g, 0, none⟩)] rfl (by (try simp only [List.map_toArray, List.map_cons, List.map_nil]); first | done | rfl | (simp only [List.length_drop, List.length_take]; rfl) | (go_simp; simp [IntKind.wrap, IntKind.bits, IntKind.signed]; omega)) ?_; (with_reducible refine (tally_Cursor_Int.calls g x1000_4 x1001_4 t197 t198 t199 w0 _ ?side1 ?side2 A15.out).mono ?_); (case side1 => repeat (first | (with_reducible first | exact HI0.out | apply IsS66.alloc | apply IsS66.drewN | apply IsS66.drew | apply IsS66.set_0 | apply IsS66.set_1) | exact HI0.out)); (case side2 => repeat (first | (with_reducible first | exact HB.out | apply below_alloc | apply pw_below_drewN | apply below_drew1 | refine below_set ?_ (IsS66.ge HI0.out)) | exact HB.out)); rintro e w46 ⟨rfl, hi, hb, hk⟩; refine ⟨_, rfl, ?_⟩; have n0_ := Aside0.mk (Kd.R_mono (Kd.R_keep (IsS66.apart (show IsS66 w0 _ g x1000_4 x1001_4 from z4_) (by (with_reducible repeat (first | apply Kd.R_alloc | apply Kd.R_drewN | apply Kd.R_drew)); exact HO_6.out) (by decide)) hk (fun _ h => h.2)) (fun _ h => h.1)); have n1_ := Aside0.mk (KeepBut.trans z0_ hk (.inl rfl)); have n2_ := Aside0.mk (hb); have n3_ := Aside0.mk (hi); clear HO_6; clear HK; clear HB; clear HI0; have HO_6 := n0_; have HK := n1_; have HB := n2_; have HI0 := n3_; clear n0_ n1_ n2_ n3_; (try clear hb); (try clear hb2); (try clear hk); (try clear hi)) | ((with_reducible refine gate_callee (f := 25) rfl ?_); refine goesL_ (some 35) rfl rfl Try.func25 (by kernel_rfl) rfl #[.pointer (some ⟨g, 0, none⟩)] rfl (by (try simp only [List.map_toArray, List.map_cons, List.map_nil]); first | done | rfl | (simp only [List.length_drop, List.length_take]; rfl) | (go_simp; simp [IntKind.wrap, IntKind.bits, IntKind.signed]; omega)) ?_; (with_reducible refine (tally_Cursor_Err.calls g t198 t199 t200 t201 t202 w0 _ ?side1 ?side2 A16.out).mono ?_); (case side1 => repeat (first | (with_reducible first | exact HI0.out | apply IsS66.alloc | apply IsS66.drewN | apply IsS66.drew | apply IsS66.set_0 | apply IsS66.set_1) | exact HI0.out)); (case side2 => repeat (first | (with_reducible first | exact HB.out | apply below_alloc | apply pw_below_drewN | apply below_drew1 | refine below_set ?_ (IsS66.ge HI0.out)) | exact HB.out)); rintro e w47 ⟨rfl, hi, hb, hk⟩; refine ⟨_, rfl, ?_⟩; have n0_ := Aside0.mk (Kd.R_mono (Kd.R_keep (IsS66.apart (show IsS66 w0 _ g t198 t199 from z4_) (by (with_reducible repeat (first | apply Kd.R_alloc | apply Kd.R_drewN | apply Kd.R_drew)); exact HO_6.out) (by decide)) hk (fun _ h => h.2)) (fun _ h => h.1)); have n1_ := Aside0.mk (KeepBut.trans z0_ hk (.inl rfl)); have n2_ := Aside0.mk (hb); have n3_ := Aside0.mk (hi); clear HO_6; clear HK; clear HB; clear HI0; have HO_6 := n0_; have HK := n1_; have HB := n2_; have HI0 := n3_; clear n0_ n1_ n2_ n3_; (try clear hb); (try clear hb2); (try clear hk); (try clear hi)) | ((with_reducible refine gate_callee (f := 25) rfl ?_); refine goesL_ (some 38) rfl rfl Try.func25 (by kernel_rfl) rfl #[.pointer (some ⟨g, 0, none⟩)] rfl (by (try simp only [List.map_toArray, List.map_cons, List.map_nil]); first | done | rfl | (simp only [List.length_drop, List.length_take]; rfl) | (go_simp; simp [IntKind.wrap, IntKind.bits, IntKind.signed]; omega)) ?_; (with_reducible refine (tally_Cursor_Err.calls g t201 t202 t222 t223 t224 w0 _ ?side1 ?side2 A45.out).mono ?_); (case side1 => repeat (first | (with_reducible first | exact HI0.out | apply IsS66.alloc | apply IsS66.drewN | apply IsS66.drew | apply IsS66.set_0 | apply IsS66.set_1) | exact HI0.out)); (case side2 => repeat (first | (with_reducible first | exact HB.out | apply below_alloc | apply pw_below_drewN | apply below_drew1 | refine below_set ?_ (IsS66.ge HI0.out)) | exact HB.out)); rintro e w48 ⟨rfl, hi, hb, hk⟩; refine ⟨_, rfl, ?_⟩; have n0_ := Aside0.mk (Kd.R_mono (Kd.R_keep (IsS66.apart (show IsS66 w0 _ g t201 t202 from z4_) (by (with_reducible repeat (first | apply Kd.R_alloc | apply Kd.R_drewN | apply Kd.R_drew)); exact HO_6.out) (by decide)) hk (fun _ h => h.2)) (fun _ h => h.1)); have n1_ := Aside0.mk (KeepBut.trans z0_ hk (.inl rfl)); have n2_ := Aside0.mk (hb); have n3_ := Aside0.mk (hi); clear HO_6; clear HK; clear HB; clear HI0; have HO_6 := n0_; have HK := n1_; have HB := n2_; have HI0 := n3_; clear n0_ n1_ n2_ n3_; (try clear hb); (try clear hb2); (try clear hk); (try clear hi)))
        go_ret2
        exact ⟨_, z6_, z10_, z4_, z5_, z0_⟩
   ·rw [if_neg c3] at H
    have c3b0 : decide ((x6_1.length : Int) < a1) = false := decide_eq_false c3
    clear c3
    simp only [Option.some.injEq, Prod.mk.injEq] at H
    obtain ⟨rfl, rfl, rfl, rfl⟩ := H
    obtain ⟨Ao49, co49, eo49⟩ := Kd.R_slice HO_6.out
    subst eo49
    go_wp2
    go_ret2
    exact ⟨_, z6_, by (with_reducible repeat (first | apply Kd.R_alloc | apply Kd.R_drewN | apply Kd.R_drew)); exact HO_6.out, z4_, z5_, z0_⟩
end Go.Proofs.Ytgeddoklmcjdcaa.G
namespace Go.Proofs.Ytgeddoklmcjdcaa.G
open Go.RowKit Go.Proofs.YtgeddoklmcjdcaaQ Go.Proofs.YtgeddoklmcjdcaaW.PrintWords Go.Proofs.YtgeddoklmcjdcaaW.PrintLast Go.Proofs.YtgeddoklmcjdcaaW.PrintMore
attribute [local go_sem] max2_int min2_int max_two min_two max_three min_three max_four min_four   -- for this text's walks alone
set_option linter.unusedVariables false
set_option linter.unusedSimpArgs false
def tally_Cursor_Byte.f (s0_0 : ByteArray) (s0_1 : Int) : Option (Int × ByteArray × Int) := (tally_Cursor_ok.f s0_0 s0_1).bind fun bt249 => (if bt249.1 = true then (if bt249.2.1.toList = ([] : List UInt8) then (some (0, bt249.2.1, 2)) else (if 0 < (bt249.2.1.size : Int) then (if 1 ≤ (bt249.2.1.size : Int) then (some (wrap64 (bt bt249.2.1 0), bt249.2.1.extract 1 bt249.2.1.size, bt249.2.2)) else (none)) else (none))) else (some (0, bt249.2.1, bt249.2.2)))
set_option maxHeartbeats 8000000 in
set_option maxRecDepth 100000 in
theorem tally_Cursor_Byte.calls (g : Nat) (s0_0 : ByteArray) (s0_1 : Int) (r1 : Int) (r2 : ByteArray) (r3 : Int) (w0 w : World) (hI : IsS66 w0 w g s0_0 s0_1) (hB : Below w0.heap.size w0 w) (h : tally_Cursor_Byte.f s0_0 s0_1 = some (r1, r2, r3)) :
  Calls Try.prog 24 #[.pointer (some ⟨g, 0, none⟩)] w fun e w' => e = .returned (.int .i64 r1) ∧ IsS66 w0 w' g r2 r3 ∧ Below w0.heap.size w0 w' ∧ KeepBut w w' g none := by
 have HI0 := Aside0.mk hI
 have HK := Aside0.mk (KeepBut.refl w g none)
 have HL := Aside0.mk hB.size
 clear hI
 have HW0 := Aside0.mk hB.size
 have HB := Aside0.mk hB
 clear hB
 have H : ((tally_Cursor_ok.f s0_0 s0_1).bind fun bt249 => (if bt249.1 = true then (if bt249.2.1.toList = ([] : List UInt8) then (some (0, bt249.2.1, 2)) else (if 0 < (bt249.2.1.size : Int) then (if 1 ≤ (bt249.2.1.size : Int) then (some (wrap64 (bt bt249.2.1 0), bt249.2.1.extract 1 bt249.2.1.size, bt249.2.2)) else (none)) else (none))) else (some (0, bt249.2.1, bt249.2.2)))) = some (r1, r2, r3) := h
 clear h
 replace H := Option.bind_eq_some_iff.mp H
 obtain ⟨⟨t249, t250, t251⟩, A20, H⟩ := H
 replace H : (if t249 = true then (if t250.toList = ([] : List UInt8) then (some (0, t250, 2)) else (if 0 < (t250.size : Int) then (if 1 ≤ (t250.size : Int) then (some (wrap64 (bt t250 0), t250.extract 1 t250.size, t251)) else (none)) else (none))) else (some (0, t250, t251))) = some (r1, r2, r3) := H
 have A2 := Aside0.mk A20
 clear A20
 by_cases c3 : t249 = true
 ·subst c3
  have H1 : (if t250.toList = ([] : List UInt8) then (some (0, t250, 2)) else (if 0 < (t250.size : Int) then (if 1 ≤ (t250.size : Int) then (some (wrap64 (bt t250 0), t250.extract 1 t250.size, t251)) else (none)) else (none))) = some (r1, r2, r3) := by rw [if_pos rfl] at H; exact H
  clear H
  have H := H1
  clear H1
  by_cases c4 : t250.toList = ([] : List UInt8)
  ·rw [if_pos c4] at H
   have c4b0 : (t250.toList == ([] : List UInt8)) = true := beq_iff_eq.mpr c4
   have c4b1 : (t250.toList != ([] : List UInt8)) = false := bne_eq_false_iff_eq.mpr c4
   clear c4
   simp only [Option.some.injEq, Prod.mk.injEq] at H
   obtain ⟨rfl, rfl, rfl⟩ := H
   go_enter Try.func24, Try.ntmps24
   go_wp2_with (first | ((with_reducible refine gate_callee (f := 47) rfl ?_); refine goesL_ (some 5) rfl rfl Try.func47 (by kernel_rfl) rfl #[.pointer (some ⟨g, 0, none⟩)] rfl (by (try simp only [List.map_toArray, List.map_cons, List.map_nil]); first | done | rfl | (simp only [List.length_drop, List.length_take]; rfl) | (go_simp; simp [IntKind.wrap, IntKind.bits, IntKind.signed]; omega)) ?_; (with_reducible refine (tally_Cursor_ok.calls g s0_0 s0_1 true t250 t251 w0 _ ?side1 ?side2 A2.out).mono ?_); (case side1 => repeat (first | (with_reducible first | exact HI0.out | apply IsS66.alloc | apply IsS66.drewN | apply IsS66.drew | apply IsS66.set_0 | apply IsS66.set_1) | exact HI0.out)); (case side2 => repeat (first | (with_reducible first | exact HB.out | apply below_alloc | apply pw_below_drewN | apply below_drew1 | refine below_set ?_ (IsS66.ge HI0.out)) | exact HB.out)); rintro e w5 ⟨rfl, hi, hb, hk⟩; refine ⟨_, rfl, ?_⟩; have n0_ := Aside0.mk (KeepBut.trans z0_ hk (.inl rfl)); have n1_ := Aside0.mk (hb); have n2_ := Aside0.mk (hi); clear HK; clear HB; clear HI0; have HK := n0_; have HB := n1_; have HI0 := n2_; clear n0_ n1_ n2_; (try clear hb); (try clear hb2); (try clear hk); (try clear hi); obtain ⟨HGz6, hgz6⟩ := HI0.out; have hcz6_0 := cellS66_0 HGz6; have hcz6_1 := cellS66_1 HGz6; have hfz6_0 := blk_frozen HGz6 0; have hfz6_1 := blk_frozen HGz6 1; clear HGz6 hgz6))
   go_ret
   exact ⟨z6_, z4_, z5_, z0_⟩
  ·rw [if_neg c4] at H
   have c4b0 : (t250.toList == ([] : List UInt8)) = false := beq_eq_false_iff_ne.mpr c4
   have c4b1 : (t250.toList != ([] : List UInt8)) = true := bne_iff_ne.mpr c4
   by_cases c7 : 0 < (t250.size : Int)
   ·rw [if_pos c7] at H
    have c7b0 : decide (0 < (t250.size : Int)) = true := decide_eq_true c7
    have c7b1 : decide (0 < t250.size) = true := decide_eq_true (by omega)
    clear c7
    by_cases c9 : 1 ≤ (t250.size : Int)
    ·rw [if_pos c9] at H
     have c9b0 := eq_true c9
     have c9b1 : decide (1 ≤ (t250.size : Int)) = true := decide_eq_true c9
     clear c9
     simp only [Option.some.injEq, Prod.mk.injEq] at H
     obtain ⟨rfl, rfl, rfl⟩ := H
     go_enter Try.func24, Try.ntmps24
     go_wp2_with (first | ((with_reducible refine gate_callee (f := 47) rfl ?_); refine goesL_ (some 5) rfl rfl Try.func47 (by kernel_rfl) rfl #[.pointer (some ⟨g, 0, none⟩)] rfl (by (try simp only [List.map_toArray, List.map_cons, List.map_nil]); first | done | rfl | (simp only [List.length_drop, List.length_take]; rfl) | (go_simp; simp [IntKind.wrap, IntKind.bits, IntKind.signed]; omega)) ?_; (with_reducible refine (tally_Cursor_ok.calls g s0_0 s0_1 true t250 t251 w0 _ ?side1 ?side2 A2.out).mono ?_); (case side1 => repeat (first | (with_reducible first | exact HI0.out | apply IsS66.alloc | apply IsS66.drewN | apply IsS66.drew | apply IsS66.set_0 | apply IsS66.set_1) | exact HI0.out)); (case side2 => repeat (first | (with_reducible first | exact HB.out | apply below_alloc | apply pw_below_drewN | apply below_drew1 | refine below_set ?_ (IsS66.ge HI0.out)) | exact HB.out)); rintro e w10 ⟨rfl, hi, hb, hk⟩; refine ⟨_, rfl, ?_⟩; have n0_ := Aside0.mk (KeepBut.trans z0_ hk (.inl rfl)); have n1_ := Aside0.mk (hb); have n2_ := Aside0.mk (hi); clear HK; clear HB; clear HI0; have HK := n0_; have HB := n1_; have HI0 := n2_; clear n0_ n1_ n2_; (try clear hb); (try clear hb2); (try clear hk); (try clear hi); obtain ⟨HGz11, hgz11⟩ := HI0.out; have hcz11_0 := cellS66_0 HGz11; have hcz11_1 := cellS66_1 HGz11; have hfz11_0 := blk_frozen HGz11 0; have hfz11_1 := blk_frozen HGz11 1; clear HGz11 hgz11; have p8 : 0 ≤ (0 : Int) := (by omega); have q8 : 0 < t250.size := (by have : (0 : Int) < (t250.size : Int) := of_decide_eq_true z12_; omega); have hx8 : ∀ h : 0 < t250.size, ((t250[0]'h).toNat : Int) = bt t250 0 := bt_at t250 0; clear p8; have qi8 : (0 < (t250.size : Int)) = True := eq_true (of_decide_eq_true z12_); replace q8 := eq_true q8))
     go_ret
     exact ⟨z6_, z4_, z5_, z0_⟩
    ·rw [if_neg c9] at H
     exact absurd H (by simp)
   ·rw [if_neg c7] at H
    exact absurd H (by simp)
 ·replace c3 := Bool.eq_false_iff.mpr c3
  subst c3
  have H1 : (some (0, t250, t251)) = some (r1, r2, r3) := by rw [if_neg (show ¬ (false = true) by decide)] at H; exact H
  clear H
  have H := H1
  clear H1
  simp only [Option.some.injEq, Prod.mk.injEq] at H
  obtain ⟨rfl, rfl, rfl⟩ := H
  go_enter Try.func24, Try.ntmps24
  go_wp2_with (first | ((with_reducible refine gate_callee (f := 47) rfl ?_); refine goesL_ (some 5) rfl rfl Try.func47 (by kernel_rfl) rfl #[.pointer (some ⟨g, 0, none⟩)] rfl (by (try simp only [List.map_toArray, List.map_cons, List.map_nil]); first | done | rfl | (simp only [List.length_drop, List.length_take]; rfl) | (go_simp; simp [IntKind.wrap, IntKind.bits, IntKind.signed]; omega)) ?_; (with_reducible refine (tally_Cursor_ok.calls g s0_0 s0_1 false t250 t251 w0 _ ?side1 ?side2 A2.out).mono ?_); (case side1 => repeat (first | (with_reducible first | exact HI0.out | apply IsS66.alloc | apply IsS66.drewN | apply IsS66.drew | apply IsS66.set_0 | apply IsS66.set_1) | exact HI0.out)); (case side2 => repeat (first | (with_reducible first | exact HB.out | apply below_alloc | apply pw_below_drewN | apply below_drew1 | refine below_set ?_ (IsS66.ge HI0.out)) | exact HB.out)); rintro e w12 ⟨rfl, hi, hb, hk⟩; refine ⟨_, rfl, ?_⟩; have n0_ := Aside0.mk (KeepBut.trans z0_ hk (.inl rfl)); have n1_ := Aside0.mk (hb); have n2_ := Aside0.mk (hi); clear HK; clear HB; clear HI0; have HK := n0_; have HB := n1_; have HI0 := n2_; clear n0_ n1_ n2_; (try clear hb); (try clear hb2); (try clear hk); (try clear hi)))
  go_ret
  exact ⟨z6_, z4_, z5_, z0_⟩
def tally_Cursor_Left.f (s0_0 : ByteArray) (s0_1 : Int) : Option (Int × ByteArray × Int) := some ((s0_0.size : Int), s0_0, s0_1)
set_option maxHeartbeats 8000000 in
set_option maxRecDepth 100000 in
theorem tally_Cursor_Left.calls (g : Nat) (s0_0 : ByteArray) (s0_1 : Int) (r1 : Int) (r2 : ByteArray) (r3 : Int) (w0 w : World) (hI : IsS66 w0 w g s0_0 s0_1) (hB : Below w0.heap.size w0 w) (h : tally_Cursor_Left.f s0_0 s0_1 = some (r1, r2, r3)) :
  Calls Try.prog 62 #[.pointer (some ⟨g, 0, none⟩)] w fun e w' => e = .returned (.int .i64 r1) ∧ IsS66 w0 w' g r2 r3 ∧ Below w0.heap.size w0 w' ∧ KeepBut w w' g none := by
 have HI0 := Aside0.mk hI
 have HK := Aside0.mk (KeepBut.refl w g none)
 have HL := Aside0.mk hB.size
 clear hI
 have HW0 := Aside0.mk hB.size
 have HB := Aside0.mk hB
 clear hB
 have H : (some ((s0_0.size : Int), s0_0, s0_1)) = some (r1, r2, r3) := h
 clear h
 simp only [Option.some.injEq, Prod.mk.injEq] at H
 obtain ⟨rfl, rfl, rfl⟩ := H
 obtain ⟨HGz2, hgz2⟩ := HI0.out
 have hcz2_0 := cellS66_0 HGz2
 have hcz2_1 := cellS66_1 HGz2
 have hfz2_0 := blk_frozen HGz2 0
 have hfz2_1 := blk_frozen HGz2 1
 clear HGz2 hgz2
 go_enter Try.func62, Try.ntmps62
 go_wp2
 go_ret
 exact ⟨z6_, z4_, z5_, z0_⟩
def bits_fits.f (a0 : ByteArray) (a1 : Int) : Option (Int) := if (a0.size : Int) < (wrap64 (Int.tdiv (wrap64 (a1 + 7)) 8)) then (some 2) else (if (a0.size : Int) > (wrap64 (Int.tdiv (wrap64 (a1 + 7)) 8)) then (some 3) else (if (Int.tmod a1 8) = 0 then (some 0) else (if 0 ≤ (wrap64 ((wrap64 (Int.tdiv (wrap64 (a1 + 7)) 8)) - 1)) then (if (wrap64 ((wrap64 (Int.tdiv (wrap64 (a1 + 7)) 8)) - 1)) < (a0.size : Int) then (if 0 ≤ (Int.tmod a1 8) then (if (shr .u8 (bt a0 (wrap64 ((wrap64 (Int.tdiv (wrap64 (a1 + 7)) 8)) - 1))) (Int.tmod a1 8)) = 0 then (some 0) else (some 5)) else (none)) else (none)) else (none))))
set_option maxHeartbeats 8000000 in
set_option maxRecDepth 100000 in
theorem bits_fits.calls (a0 : ByteArray) (a1 : Int) (r : Int) (w : World) (h : bits_fits.f a0 a1 = some r) :
  Calls Try.prog 71 #[.string a0, .int .i64 a1] w fun e w' => e = .returned (.int .i64 r) ∧ Drawn0 w w' := by
 have H : (if (a0.size : Int) < (wrap64 (Int.tdiv (wrap64 (a1 + 7)) 8)) then (some 2) else (if (a0.size : Int) > (wrap64 (Int.tdiv (wrap64 (a1 + 7)) 8)) then (some 3) else (if (Int.tmod a1 8) = 0 then (some 0) else (if 0 ≤ (wrap64 ((wrap64 (Int.tdiv (wrap64 (a1 + 7)) 8)) - 1)) then (if (wrap64 ((wrap64 (Int.tdiv (wrap64 (a1 + 7)) 8)) - 1)) < (a0.size : Int) then (if 0 ≤ (Int.tmod a1 8) then (if (shr .u8 (bt a0 (wrap64 ((wrap64 (Int.tdiv (wrap64 (a1 + 7)) 8)) - 1))) (Int.tmod a1 8)) = 0 then (some 0) else (some 5)) else (none)) else (none)) else (none))))) = some r := h
 clear h
 by_cases c3 : (a0.size : Int) < (wrap64 (Int.tdiv (wrap64 (a1 + 7)) 8))
 ·rw [if_pos c3] at H
  have c3b0 : decide ((a0.size : Int) < (wrap64 (Int.tdiv (wrap64 (a1 + 7)) 8))) = true := decide_eq_true c3
  clear c3
  obtain rfl := Option.some.inj H
  go_enter Try.func71, Try.ntmps71
  go_wp2
  go_ret
  exact ⟨z11_, z13_⟩
 ·rw [if_neg c3] at H
  have c3b0 : decide ((a0.size : Int) < (wrap64 (Int.tdiv (wrap64 (a1 + 7)) 8))) = false := decide_eq_false c3
  clear c3
  by_cases c4 : (a0.size : Int) > (wrap64 (Int.tdiv (wrap64 (a1 + 7)) 8))
  ·rw [if_pos c4] at H
   have c4b0 : decide ((wrap64 (Int.tdiv (wrap64 (a1 + 7)) 8)) < (a0.size : Int)) = true := decide_eq_true c4
   clear c4
   obtain rfl := Option.some.inj H
   go_enter Try.func71, Try.ntmps71
   go_wp2
   go_ret
   exact ⟨z11_, z13_⟩
  ·rw [if_neg c4] at H
   have c4b0 : decide ((wrap64 (Int.tdiv (wrap64 (a1 + 7)) 8)) < (a0.size : Int)) = false := decide_eq_false c4
   clear c4
   by_cases c5 : (Int.tmod a1 8) = 0
   ·rw [if_pos c5] at H
    have c5b0 : ((Int.tmod a1 8) == 0) = true := beq_iff_eq.mpr c5
    have c5b1 : ((Int.tmod a1 8) != 0) = false := bne_eq_false_iff_eq.mpr c5
    clear c5
    obtain rfl := Option.some.inj H
    go_enter Try.func71, Try.ntmps71
    go_wp2
    go_ret
    exact ⟨z11_, z13_⟩
   ·rw [if_neg c5] at H
    have c5b0 : ((Int.tmod a1 8) == 0) = false := beq_eq_false_iff_ne.mpr c5
    have c5b1 : ((Int.tmod a1 8) != 0) = true := bne_iff_ne.mpr c5
    obtain ⟨ji6, hji6⟩ : ∃ j_ : Int, (wrap64 ((wrap64 (Int.tdiv (wrap64 (a1 + 7)) 8)) - 1)) = j_ := ⟨_, rfl⟩
    replace H : (if 0 ≤ (ji6) then (if (ji6) < (a0.size : Int) then (if 0 ≤ (Int.tmod a1 8) then (if (shr .u8 (bt a0 (ji6)) (Int.tmod a1 8)) = 0 then (some 0) else (some 5)) else (none)) else (none)) else (none)) = some r := by first | (rw [hji6] at H; exact H) | (simp only [hji6] at H ⊢; exact H)
    have hji6w : (IntKind.i64.wrap ((wrap64 (Int.tdiv (wrap64 (a1 + 7)) 8)) - 1)) = ji6 := (i64_w _).trans hji6
    by_cases c7 : 0 ≤ (ji6)
    ·rw [if_pos c7] at H
     have c7b0 : decide (0 ≤ (ji6)) = true := decide_eq_true c7
     clear c7
     by_cases c8 : (ji6) < (a0.size : Int)
     ·rw [if_pos c8] at H
      have c8b0 : decide ((ji6) < (a0.size : Int)) = true := decide_eq_true c8
      clear c8
      obtain ⟨ji10, hji10⟩ : ∃ j_ : Int, (Int.tmod a1 8) = j_ := ⟨_, rfl⟩
      replace H : (if 0 ≤ (ji10) then (if (shr .u8 (bt a0 (ji6)) (ji10)) = 0 then (some 0) else (some 5)) else (none)) = some r := by first | (rw [hji10] at H; exact H) | (simp only [hji10] at H ⊢; exact H)
      (try rw [hji10] at c5b0)
      (try rw [hji10] at c5b1)
      by_cases c11 : 0 ≤ (ji10)
      ·rw [if_pos c11] at H
       have c11b0 := eq_true c11
       have c11b1 : decide (0 ≤ (ji10)) = true := decide_eq_true c11
       clear c11
       obtain ⟨ji12, hji12⟩ : ∃ j_ : Int, (shr .u8 (bt a0 (ji6)) (ji10)) = j_ := ⟨_, rfl⟩
       replace H : (if (ji12) = 0 then (some 0) else (some 5)) = some r := by first | (rw [hji12] at H; exact H) | (simp only [hji12] at H ⊢; exact H)
       have hji12_ : ((bt a0 (ji6)) / 2 ^ min (ji10).toNat 8) = ji12 := hji12
       have hji12z : (ji10) ≤ 8 → ((bt a0 (ji6)) / 2 ^ (ji10).toNat) = ji12 := shr_small hji12
       by_cases c13 : (ji12) = 0
       ·rw [if_pos c13] at H
        have c13b0 : ((ji12) == 0) = true := beq_iff_eq.mpr c13
        have c13b1 : ((ji12) != 0) = false := bne_eq_false_iff_eq.mpr c13
        clear c13
        obtain rfl := Option.some.inj H
        have p9 : 0 ≤ ((ji6) : Int) := of_decide_eq_true z12_
        have q9 : (ji6) < (a0.size : Int) := of_decide_eq_true z12_
        have hx9 := bt_at a0 (ji6)
        replace p9 := eq_true p9
        replace q9 := eq_true q9
        go_enter Try.func71, Try.ntmps71
        go_wp2
        go_ret
        exact ⟨by first | rfl | (simp; done) | (simp only [← hji6, ← hji10, ← hji12] <;> (first | rfl | simp)) | (simp [*]; done), z13_⟩
       ·rw [if_neg c13] at H
        have c13b0 : ((ji12) == 0) = false := beq_eq_false_iff_ne.mpr c13
        have c13b1 : ((ji12) != 0) = true := bne_iff_ne.mpr c13
        obtain rfl := Option.some.inj H
        have p9 : 0 ≤ ((ji6) : Int) := of_decide_eq_true z12_
        have q9 : (ji6) < (a0.size : Int) := of_decide_eq_true z12_
        have hx9 := bt_at a0 (ji6)
        replace p9 := eq_true p9
        replace q9 := eq_true q9
        go_enter Try.func71, Try.ntmps71
        go_wp2
        go_ret
        exact ⟨by first | rfl | (simp; done) | (simp only [← hji6, ← hji10, ← hji12] <;> (first | rfl | simp)) | (simp [*]; done), z13_⟩
      ·rw [if_neg c11] at H
       exact absurd H (by simp)
     ·rw [if_neg c8] at H
      exact absurd H (by simp)
    ·rw [if_neg c7] at H
     exact absurd H (by simp)
end Go.Proofs.Ytgeddoklmcjdcaa.G
namespace Go.Proofs.Ytgeddoklmcjdcaa.G
open Go.RowKit Go.Proofs.YtgeddoklmcjdcaaQ Go.Proofs.YtgeddoklmcjdcaaW.PrintWords Go.Proofs.YtgeddoklmcjdcaaW.PrintLast Go.Proofs.YtgeddoklmcjdcaaW.PrintMore
attribute [local go_sem] max2_int min2_int max_two min_two max_three min_three max_four min_four   -- for this text's walks alone
set_option linter.unusedVariables false
set_option linter.unusedSimpArgs false
def slices_Min_int64_int64.l0 : Nat → List Int → Int → Int → Option (Int)
 | 0, _, _, _ => none
 | k + 1, x0, x3, x4 => if x4 < (x0.length : Int) then (if 0 ≤ x4 then (slices_Min_int64_int64.l0 k x0 (mn x3 (rd x0 x4)) (wrap64 (x4 + 1))) else (none)) else (some x3)
def slices_Min_int64_int64.f (k : Nat) (l0 : List Int) : Option (Int) := if (l0.length : Int) < 1 then (none) else (if 0 < (l0.length : Int) then (slices_Min_int64_int64.l0 k l0 (rd l0 0) 1) else (none))
theorem slices_Min_int64_int64.mono_l : ∀ k, (∀ y0 y1 y2, LeO (slices_Min_int64_int64.l0 k y0 y1 y2) (slices_Min_int64_int64.l0 (k + 1) y0 y1 y2))
 | 0 => fun _ _ _ r h => by simp [slices_Min_int64_int64.l0] at h
 | k + 1 => by
  have ih0 := slices_Min_int64_int64.mono_l k
  ·intro y0 y1 y2
   unfold slices_Min_int64_int64.l0
   repeat' first
   | (with_reducible exact ih0 _ _ _)
   | (with_reducible exact LeO.refl _)
   | (with_reducible exact LeO.none _)
   | (with_reducible refine LeO.ite ?_ ?_)
   | (with_reducible refine LeO.bind ?_ (fun _ => ?_))
   | exact ih0 _ _ _
   | exact LeO.none _
   | refine LeO.ite ?_ ?_
   | refine LeO.bind ?_ (fun _ => ?_)
theorem slices_Min_int64_int64.mono : ∀ a0 k, LeO (slices_Min_int64_int64.f k a0) (slices_Min_int64_int64.f (k + 1) a0) := by
 intro a0 k
 have ih0 := slices_Min_int64_int64.mono_l k
 unfold slices_Min_int64_int64.f
 repeat' first
   | (with_reducible exact ih0 _ _ _)
   | (with_reducible exact LeO.refl _)
   | (with_reducible exact LeO.none _)
   | (with_reducible refine LeO.ite ?_ ?_)
   | (with_reducible refine LeO.bind ?_ (fun _ => ?_))
   | exact ih0 _ _ _
   | exact LeO.none _
   | refine LeO.ite ?_ ?_
   | refine LeO.bind ?_ (fun _ => ?_)
set_option maxHeartbeats 8000000 in
set_option maxRecDepth 100000 in
theorem slices_Min_int64_int64.calls (k : Nat) (A0 : Option Addr) (c0 : Nat) (l0 : List Int) (r : Int) (w : World) (hr0 : Kd.C (Kd.int .i64) w A0 l0.length l0) (hc0 : l0.length ≤ c0) (h : slices_Min_int64_int64.f k l0 = some r) :
  Calls Try.prog 58 #[.slice A0 l0.length c0] w fun e w' => e = .returned (.int .i64 r) ∧ Below w.heap.size w w' := by
 have HR0 := Aside0.mk hr0
 have HC0 := Aside0.mk hc0
 clear hr0 hc0
 have HB := Aside0.mk (Below.refl w.heap.size w)
 have H : (if (l0.length : Int) < 1 then (none) else (if 0 < (l0.length : Int) then (slices_Min_int64_int64.l0 k l0 (rd l0 0) 1) else (none))) = some r := h
 clear h
 by_cases c2 : (l0.length : Int) < 1
 ·rw [if_pos c2] at H
  exact absurd H (by simp)
 ·rw [if_neg c2] at H
  have c2b0 : decide ((l0.length : Int) < 1) = false := decide_eq_false c2
  have c2b1 : decide (l0.length < 1) = false := decide_eq_false (by omega)
  clear c2
  by_cases c3 : 0 < (l0.length : Int)
  ·rw [if_pos c3] at H
   have c3b0 : decide (0 < (l0.length : Int)) = true := decide_eq_true c3
   have c3b1 : decide (0 < l0.length) = true := decide_eq_true (by omega)
   clear c3
   have H' := Aside0.mk H
   clear H
   have p225 : 0 ≤ (0 : Int) := (by omega)
   have q225 : 0 < (l0.length : Int) := of_decide_eq_true z12_
   obtain ⟨ad225, e225, hx225_0⟩ := Kd.at_int HR0.out 0 p225 q225
   cases e225
   have qi225 : (0 < l0.length) = True := eq_true (by omega)
   (try rw [show ((0 : Int)).toNat = 0 from rfl] at hx225_0)
   (try rw [Addr.add_zero'] at hx225_0)
   replace p225 := eq_true p225
   replace q225 := eq_true q225
   go_enter Try.func58, Try.ntmps58
   go_wp2
   go_loopg [3, 4] k (fun kq v3 v4 w' => ∃ (x3_1 : Int) (x4_1 : Int), v3 = .int .i64 x3_1 ∧ v4 = .int .i64 x4_1 ∧ Aside0 (slices_Min_int64_int64.l0 kq l0 x3_1 x4_1 = some r) ∧ Aside0 (kq ≤ k) ∧ Aside0 (Below w.heap.size w w'))
   case atStart => exact ⟨(rd l0 0), (1), z11_, z11_, H', ⟨Nat.le_refl _⟩, ⟨z1_⟩⟩
   case round =>
    clear H'
    try clear c2
    try clear c2b0
    try clear c2b1
    try clear p2
    try clear q2
    try clear hx2
    try clear qi2
    try clear c3
    try clear c3b0
    try clear c3b1
    try clear hx225_0
    try clear p225
    try clear q225
    obtain ⟨x3_1, x4_1, rfl, rfl, HA, HK1, HB⟩ := hrel
    cases gk with
    | zero => exact absurd HA.out (by simp [slices_Min_int64_int64.l0])
    | succ k1 =>
     have H := HA.out
     clear HA
     simp only [slices_Min_int64_int64.l0] at H
     by_cases c4 : x4_1 < (l0.length : Int)
     ·rw [if_pos c4] at H
      have c4b0 : decide (x4_1 < (l0.length : Int)) = true := decide_eq_true c4
      clear c4
      by_cases c5 : 0 ≤ x4_1
      ·rw [if_pos c5] at H
       have c5b0 : decide (0 ≤ x4_1) = true := decide_eq_true c5
       clear c5
       obtain ⟨ji6, hji6⟩ : ∃ j_ : Int, (mn x3_1 (rd l0 x4_1)) = j_ := ⟨_, rfl⟩
       replace H : (slices_Min_int64_int64.l0 k1 l0 ji6 (wrap64 (x4_1 + 1))) = some r := by first | (rw [hji6] at H; exact H) | (simp only [hji6] at H ⊢; exact H)
       have hji6_ : (if (rd l0 x4_1) < x3_1 then (rd l0 x4_1) else x3_1) = ji6 := hji6
       have H' := Aside0.mk H
       clear H
       have p226 : 0 ≤ (x4_1 : Int) := of_decide_eq_true z12_
       have q226 : x4_1 < (l0.length : Int) := of_decide_eq_true z12_
       obtain ⟨ad226, e226, hx226_0⟩ := Kd.at_int HR0.out x4_1 p226 q226
       obtain rfl : ad225 = ad226 := (by injection e226)
       replace hx226_0 := (HB.out.cell (World.block_lt_of_cell? w _ hx226_0)).trans hx226_0
       replace p226 := eq_true p226
       replace q226 := eq_true q226
       go_wp2
       go_roundg k1
       case measure => have := HK1.out; omega
       case rel => exact ⟨(ji6), (wrap64 (x4_1 + 1)), (by first | rfl | (simp; done) | (simp only [← hji6] <;> (first | rfl | simp)) | (simp [*]; done)), z11_, H', ⟨by have := HK1.out; omega⟩, ⟨z1_⟩⟩
      ·rw [if_neg c5] at H
       exact absurd H (by simp)
     ·rw [if_neg c4] at H
      have c4b0 : decide (x4_1 < (l0.length : Int)) = false := decide_eq_false c4
      clear c4
      obtain rfl := Option.some.inj H
      go_wp2
      go_ret
      exact ⟨z6_, z1_⟩
  ·rw [if_neg c3] at H
   exact absurd H (by simp)
def ints_above.l0 : Nat → Int → List Int → List Int → Int → Int → Option (List Int)
 | 0, _, _, _, _, _ => none
 | k + 1, x1, x5, x8, x9, x10 => if x10 < x9 then (if 0 ≤ x10 then (if x10 < (x8.length : Int) then (if x5.length < 17592186044416 then (ints_above.l0 k x1 (x5 ++ [IntKind.u64.wrap (wrap64 ((rd x8 x10) - x1))]) x8 x9 (wrap64 (x10 + 1))) else (none)) else (none)) else (none)) else (some x5)
def ints_above.f (k : Nat) (l0 : List Int) (a1 : Int) : Option (List Int) := ints_above.l0 k a1 ([] : List Int) l0 (l0.length : Int) 0
theorem ints_above.mono_l : ∀ k, (∀ y0 y1 y2 y3 y4, LeO (ints_above.l0 k y0 y1 y2 y3 y4) (ints_above.l0 (k + 1) y0 y1 y2 y3 y4))
 | 0 => fun _ _ _ _ _ r h => by simp [ints_above.l0] at h
 | k + 1 => by
  have ih0 := ints_above.mono_l k
  ·intro y0 y1 y2 y3 y4
   unfold ints_above.l0
   repeat' first
   | (with_reducible exact ih0 _ _ _ _ _)
   | (with_reducible exact LeO.refl _)
   | (with_reducible exact LeO.none _)
   | (with_reducible refine LeO.ite ?_ ?_)
   | (with_reducible refine LeO.bind ?_ (fun _ => ?_))
   | exact ih0 _ _ _ _ _
   | exact LeO.none _
   | refine LeO.ite ?_ ?_
   | refine LeO.bind ?_ (fun _ => ?_)
theorem ints_above.mono : ∀ a0 a1 k, LeO (ints_above.f k a0 a1) (ints_above.f (k + 1) a0 a1) := by
 intro a0 a1 k
 have ih0 := ints_above.mono_l k
 unfold ints_above.f
 repeat' first
   | (with_reducible exact ih0 _ _ _ _ _)
   | (with_reducible exact LeO.refl _)
   | (with_reducible exact LeO.none _)
   | (with_reducible refine LeO.ite ?_ ?_)
   | (with_reducible refine LeO.bind ?_ (fun _ => ?_))
   | exact ih0 _ _ _ _ _
   | exact LeO.none _
   | refine LeO.ite ?_ ?_
   | refine LeO.bind ?_ (fun _ => ?_)
set_option maxHeartbeats 8000000 in
set_option maxRecDepth 100000 in
theorem ints_above.calls (k : Nat) (A0 : Option Addr) (c0 : Nat) (l0 : List Int) (a1 : Int) (r : List Int) (w : World) (hr0 : Kd.C (Kd.int .i64) w A0 l0.length l0) (hc0 : l0.length ≤ c0) (h : ints_above.f k l0 a1 = some r) :
  Calls Try.prog 59 #[.slice A0 l0.length c0, .int .i64 a1] w fun e w' => ∃ v0_ : Value, e = .returned (v0_) ∧ Kd.R (Kd.int .u64) 44 w' w.heap.size (fun _ => True) v0_ r ∧ Below w.heap.size w w' := by
 have HR0 := Aside0.mk hr0
 have HC0 := Aside0.mk hc0
 clear hr0 hc0
 have HB := Aside0.mk (Below.refl w.heap.size w)
 have H : (ints_above.l0 k a1 ([] : List Int) l0 (l0.length : Int) 0) = some r := h
 clear h
 have H' := Aside0.mk H
 clear H
 go_enter Try.func59, Try.ntmps59
 go_wp2
 go_loopg [5, 10] k (fun kq v5 v10 w' => ∃ (x5_1 : List Int) (x10_1 : Int), v10 = .int .i64 x10_1 ∧ Aside0 (ints_above.l0 kq a1 x5_1 l0 (l0.length : Int) x10_1 = some r) ∧ Aside0 (kq ≤ k) ∧ Aside0 (Kd.R (Kd.int .u64) 44 w' w.heap.size (fun _ => True) v5 x5_1) ∧ Aside0 (Below w.heap.size w w'))
 case atStart => exact ⟨(([] : List Int)), (0), z11_, H', ⟨Nat.le_refl _⟩, ⟨z10_⟩, ⟨z1_⟩⟩
 case round =>
  clear H'
  try clear p2
  obtain ⟨x5_1, x10_1, rfl, HA, HK1, HO_5, HB⟩ := hrel
  cases gk with
  | zero => exact absurd HA.out (by simp [ints_above.l0])
  | succ k1 =>
   have H := HA.out
   clear HA
   simp only [ints_above.l0] at H
   by_cases c3 : x10_1 < (l0.length : Int)
   ·rw [if_pos c3] at H
    have c3b0 : decide (x10_1 < (l0.length : Int)) = true := decide_eq_true c3
    clear c3
    by_cases c4 : 0 ≤ x10_1
    ·rw [if_pos c4] at H
     have c4b0 : decide (0 ≤ x10_1) = true := decide_eq_true c4
     clear c4
     by_cases c5 : x10_1 < (l0.length : Int)
     ·rw [if_pos c5] at H
      have c5b0 : decide (x10_1 < (l0.length : Int)) = true := decide_eq_true c5
      clear c5
      by_cases c6 : x5_1.length < 17592186044416
      ·rw [if_pos c6] at H
       have LMc6 := Aside0.mk c6
       clear c6
       obtain ⟨y228, hy228⟩ : ∃ y_ : List Int, y_ = (x5_1 ++ [IntKind.u64.wrap (wrap64 ((rd l0 x10_1) - a1))]) := ⟨_, rfl⟩
       replace H : (ints_above.l0 k1 a1 y228 l0 (l0.length : Int) (wrap64 (x10_1 + 1))) = some r := by first | (rw [hy228]; with_reducible exact H) | (have H2_ := (Option.bind_some _ _).symm.trans H; rw [hy228]; with_reducible exact H2_) | (have H2_ := (Option.bind_some _ _).symm.trans H; with_reducible exact H2_) | with_reducible exact H | (rw [hy228]; exact H) | exact H
       have Ny228 := Aside0.mk hy228
       clear hy228
       have H' := Aside0.mk H
       clear H
       have p227 : 0 ≤ (x10_1 : Int) := of_decide_eq_true z12_
       have q227 : x10_1 < (l0.length : Int) := of_decide_eq_true z12_
       obtain ⟨ad227, e227, hx227_0⟩ := Kd.at_int HR0.out x10_1 p227 q227
       cases e227
       replace hx227_0 := (HB.out.cell (World.block_lt_of_cell? w _ hx227_0)).trans hx227_0
       replace p227 := eq_true p227
       replace q227 := eq_true q227
       go_wp2_with (first | ((with_reducible refine gate_builtin (b := .append) (xs := #[.tmp 14, .tmp 19]) rfl ?_); at_builtin; refine Kd.R_append (Kd.int .u64) (w0 := w) w.heap.size rfl (.tmp 14) (.tmp 19) 59 44 (.int .u64 0) 8 rfl Try.underlying59 info44 rfl (by decide) (by omega) u5 x5_1 (IntKind.u64.wrap (wrap64 ((rd l0 x10_1) - a1))) [.int .u64 (IntKind.u64.wrap (wrap64 ((rd l0 x10_1) - a1)))] (fun _ => True) (fun _ => False) rfl rfl ?aP (fun _ hk => hk.elim) ?aF ?aO ?aB ?aS ?aL ?_; (case aP => exact rfl); (case aB => exact z1_); (case aF => exact (fun _ _ => trivial)); (case aO => exact (by (with_reducible repeat (first | apply Kd.R_alloc | apply Kd.R_drewN | apply Kd.R_drew)); exact HO_5.out)); (case aS => exact (below_size z1_)); (case aL => have := LMc6.out; omega); intro v229 w7 ho hb hg hat; rw [← Ny228.out] at ho; have n0_ := Aside0.mk (hb); have n1_ := Aside0.mk (ho); clear HB; clear HO_5; have HB := n0_; have HO230 := n1_; clear n0_ n1_; clear ho hb hg hat))
       go_roundg k1
       case measure => have := HK1.out; omega
       case rel => exact ⟨(y228), (wrap64 (x10_1 + 1)), z11_, H', ⟨by have := HK1.out; omega⟩, ⟨by (with_reducible repeat (first | apply Kd.R_alloc | apply Kd.R_drewN | apply Kd.R_drew)); exact HO230.out⟩, ⟨z1_⟩⟩
      ·rw [if_neg c6] at H
       exact absurd H (by simp)
     ·rw [if_neg c5] at H
      exact absurd H (by simp)
    ·rw [if_neg c4] at H
     exact absurd H (by simp)
   ·rw [if_neg c3] at H
    have c3b0 : decide (x10_1 < (l0.length : Int)) = false := decide_eq_false c3
    clear c3
    obtain rfl := Option.some.inj H
    go_wp2
    go_ret
    exact ⟨_, z6_, by (with_reducible repeat (first | apply Kd.R_alloc | apply Kd.R_drewN | apply Kd.R_drew)); exact HO_5.out, z1_⟩
end Go.Proofs.Ytgeddoklmcjdcaa.G
namespace Go.Proofs.Ytgeddoklmcjdcaa.G
open Go.RowKit Go.Proofs.YtgeddoklmcjdcaaQ Go.Proofs.YtgeddoklmcjdcaaW.PrintWords Go.Proofs.YtgeddoklmcjdcaaW.PrintLast Go.Proofs.YtgeddoklmcjdcaaW.PrintMore
attribute [local go_sem] max2_int min2_int max_two min_two max_three min_three max_four min_four   -- for this text's walks alone
set_option linter.unusedVariables false
set_option linter.unusedSimpArgs false
def bits_Len64.j0 : Nat → Int → Int → Option (Int)
 | 0, _, _ => none
 | k + 1, x0, x2 => if x0 ≥ 65536 then (if (x0 / 65536) ≥ 256 then (if 0 ≤ (((x0 / 65536) / 256) % 256) then (if (((x0 / 65536) / 256) % 256) < 256 then (some (wrap64 ((wrap64 ((wrap64 (x2 + 16)) + 8)) + (wrap64 (bt (⟨#[0, 1, 2, 2, 3, 3, 3, 3, 4, 4, 4, 4, 4, 4, 4, 4, 5, 5, 5, 5, 5, 5, 5, 5, 5, 5, 5, 5, 5, 5, 5, 5, 6, 6, 6, 6, 6, 6, 6, 6, 6, 6, 6, 6, 6, 6, 6, 6, 6, 6, 6, 6, 6, 6, 6, 6, 6, 6, 6, 6, 6, 6, 6, 6, 7, 7, 7, 7, 7, 7, 7, 7, 7, 7, 7, 7, 7, 7, 7, 7, 7, 7, 7, 7, 7, 7, 7, 7, 7, 7, 7, 7, 7, 7, 7, 7, 7, 7, 7, 7, 7, 7, 7, 7, 7, 7, 7, 7, 7, 7, 7, 7, 7, 7, 7, 7, 7, 7, 7, 7, 7, 7, 7, 7, 7, 7, 7, 7, 8, 8, 8, 8, 8, 8, 8, 8, 8, 8, 8, 8, 8, 8, 8, 8, 8, 8, 8, 8, 8, 8, 8, 8, 8, 8, 8, 8, 8, 8, 8, 8, 8, 8, 8, 8, 8, 8, 8, 8, 8, 8, 8, 8, 8, 8, 8, 8, 8, 8, 8, 8, 8, 8, 8, 8, 8, 8, 8, 8, 8, 8, 8, 8, 8, 8, 8, 8, 8, 8, 8, 8, 8, 8, 8, 8, 8, 8, 8, 8, 8, 8, 8, 8, 8, 8, 8, 8, 8, 8, 8, 8, 8, 8, 8, 8, 8, 8, 8, 8, 8, 8, 8, 8, 8, 8, 8, 8, 8, 8, 8, 8, 8, 8, 8, 8, 8, 8, 8, 8, 8, 8, 8, 8, 8, 8, 8, 8]⟩ : ByteArray) (((x0 / 65536) / 256) % 256)))))) else (none)) else (none)) else (if 0 ≤ ((x0 / 65536) % 256) then (if ((x0 / 65536) % 256) < 256 then (some (wrap64 ((wrap64 (x2 + 16)) + (wrap64 (bt (⟨#[0, 1, 2, 2, 3, 3, 3, 3, 4, 4, 4, 4, 4, 4, 4, 4, 5, 5, 5, 5, 5, 5, 5, 5, 5, 5, 5, 5, 5, 5, 5, 5, 6, 6, 6, 6, 6, 6, 6, 6, 6, 6, 6, 6, 6, 6, 6, 6, 6, 6, 6, 6, 6, 6, 6, 6, 6, 6, 6, 6, 6, 6, 6, 6, 7, 7, 7, 7, 7, 7, 7, 7, 7, 7, 7, 7, 7, 7, 7, 7, 7, 7, 7, 7, 7, 7, 7, 7, 7, 7, 7, 7, 7, 7, 7, 7, 7, 7, 7, 7, 7, 7, 7, 7, 7, 7, 7, 7, 7, 7, 7, 7, 7, 7, 7, 7, 7, 7, 7, 7, 7, 7, 7, 7, 7, 7, 7, 7, 8, 8, 8, 8, 8, 8, 8, 8, 8, 8, 8, 8, 8, 8, 8, 8, 8, 8, 8, 8, 8, 8, 8, 8, 8, 8, 8, 8, 8, 8, 8, 8, 8, 8, 8, 8, 8, 8, 8, 8, 8, 8, 8, 8, 8, 8, 8, 8, 8, 8, 8, 8, 8, 8, 8, 8, 8, 8, 8, 8, 8, 8, 8, 8, 8, 8, 8, 8, 8, 8, 8, 8, 8, 8, 8, 8, 8, 8, 8, 8, 8, 8, 8, 8, 8, 8, 8, 8, 8, 8, 8, 8, 8, 8, 8, 8, 8, 8, 8, 8, 8, 8, 8, 8, 8, 8, 8, 8, 8, 8, 8, 8, 8, 8, 8, 8, 8, 8, 8, 8, 8, 8, 8, 8, 8, 8, 8, 8]⟩ : ByteArray) ((x0 / 65536) % 256)))))) else (none)) else (none))) else (if x0 ≥ 256 then (if 0 ≤ ((x0 / 256) % 256) then (if ((x0 / 256) % 256) < 256 then (some (wrap64 ((wrap64 (x2 + 8)) + (wrap64 (bt (⟨#[0, 1, 2, 2, 3, 3, 3, 3, 4, 4, 4, 4, 4, 4, 4, 4, 5, 5, 5, 5, 5, 5, 5, 5, 5, 5, 5, 5, 5, 5, 5, 5, 6, 6, 6, 6, 6, 6, 6, 6, 6, 6, 6, 6, 6, 6, 6, 6, 6, 6, 6, 6, 6, 6, 6, 6, 6, 6, 6, 6, 6, 6, 6, 6, 7, 7, 7, 7, 7, 7, 7, 7, 7, 7, 7, 7, 7, 7, 7, 7, 7, 7, 7, 7, 7, 7, 7, 7, 7, 7, 7, 7, 7, 7, 7, 7, 7, 7, 7, 7, 7, 7, 7, 7, 7, 7, 7, 7, 7, 7, 7, 7, 7, 7, 7, 7, 7, 7, 7, 7, 7, 7, 7, 7, 7, 7, 7, 7, 8, 8, 8, 8, 8, 8, 8, 8, 8, 8, 8, 8, 8, 8, 8, 8, 8, 8, 8, 8, 8, 8, 8, 8, 8, 8, 8, 8, 8, 8, 8, 8, 8, 8, 8, 8, 8, 8, 8, 8, 8, 8, 8, 8, 8, 8, 8, 8, 8, 8, 8, 8, 8, 8, 8, 8, 8, 8, 8, 8, 8, 8, 8, 8, 8, 8, 8, 8, 8, 8, 8, 8, 8, 8, 8, 8, 8, 8, 8, 8, 8, 8, 8, 8, 8, 8, 8, 8, 8, 8, 8, 8, 8, 8, 8, 8, 8, 8, 8, 8, 8, 8, 8, 8, 8, 8, 8, 8, 8, 8, 8, 8, 8, 8, 8, 8, 8, 8, 8, 8, 8, 8, 8, 8, 8, 8, 8, 8]⟩ : ByteArray) ((x0 / 256) % 256)))))) else (none)) else (none)) else (if 0 ≤ ((x0) % 256) then (if ((x0) % 256) < 256 then (some (wrap64 (x2 + (wrap64 (bt (⟨#[0, 1, 2, 2, 3, 3, 3, 3, 4, 4, 4, 4, 4, 4, 4, 4, 5, 5, 5, 5, 5, 5, 5, 5, 5, 5, 5, 5, 5, 5, 5, 5, 6, 6, 6, 6, 6, 6, 6, 6, 6, 6, 6, 6, 6, 6, 6, 6, 6, 6, 6, 6, 6, 6, 6, 6, 6, 6, 6, 6, 6, 6, 6, 6, 7, 7, 7, 7, 7, 7, 7, 7, 7, 7, 7, 7, 7, 7, 7, 7, 7, 7, 7, 7, 7, 7, 7, 7, 7, 7, 7, 7, 7, 7, 7, 7, 7, 7, 7, 7, 7, 7, 7, 7, 7, 7, 7, 7, 7, 7, 7, 7, 7, 7, 7, 7, 7, 7, 7, 7, 7, 7, 7, 7, 7, 7, 7, 7, 8, 8, 8, 8, 8, 8, 8, 8, 8, 8, 8, 8, 8, 8, 8, 8, 8, 8, 8, 8, 8, 8, 8, 8, 8, 8, 8, 8, 8, 8, 8, 8, 8, 8, 8, 8, 8, 8, 8, 8, 8, 8, 8, 8, 8, 8, 8, 8, 8, 8, 8, 8, 8, 8, 8, 8, 8, 8, 8, 8, 8, 8, 8, 8, 8, 8, 8, 8, 8, 8, 8, 8, 8, 8, 8, 8, 8, 8, 8, 8, 8, 8, 8, 8, 8, 8, 8, 8, 8, 8, 8, 8, 8, 8, 8, 8, 8, 8, 8, 8, 8, 8, 8, 8, 8, 8, 8, 8, 8, 8, 8, 8, 8, 8, 8, 8, 8, 8, 8, 8, 8, 8, 8, 8, 8, 8, 8, 8]⟩ : ByteArray) ((x0) % 256)))))) else (none)) else (none)))
def bits_Len64.f (k : Nat) (a0 : Int) : Option (Int) := if a0 ≥ 4294967296 then (bits_Len64.j0 k (a0 / 4294967296) 32) else (bits_Len64.j0 k a0 0)
theorem bits_Len64.mono_l : ∀ k, (∀ y0 y1, LeO (bits_Len64.j0 k y0 y1) (bits_Len64.j0 (k + 1) y0 y1))
 | 0 => fun _ _ r h => by simp [bits_Len64.j0] at h
 | k + 1 => by
  have ih0 := bits_Len64.mono_l k
  ·intro y0 y1
   unfold bits_Len64.j0
   repeat' first
   | (with_reducible exact ih0 _ _)
   | (with_reducible exact LeO.refl _)
   | (with_reducible exact LeO.none _)
   | (with_reducible refine LeO.ite ?_ ?_)
   | (with_reducible refine LeO.bind ?_ (fun _ => ?_))
   | exact ih0 _ _
   | exact LeO.none _
   | refine LeO.ite ?_ ?_
   | refine LeO.bind ?_ (fun _ => ?_)
theorem bits_Len64.mono : ∀ a0 k, LeO (bits_Len64.f k a0) (bits_Len64.f (k + 1) a0) := by
 intro a0 k
 have ih0 := bits_Len64.mono_l k
 unfold bits_Len64.f
 repeat' first
   | (with_reducible exact ih0 _ _)
   | (with_reducible exact LeO.refl _)
   | (with_reducible exact LeO.none _)
   | (with_reducible refine LeO.ite ?_ ?_)
   | (with_reducible refine LeO.bind ?_ (fun _ => ?_))
   | exact ih0 _ _
   | exact LeO.none _
   | refine LeO.ite ?_ ?_
   | refine LeO.bind ?_ (fun _ => ?_)
set_option maxHeartbeats 8000000 in
set_option maxRecDepth 100000 in
theorem bits_Len64.calls (k : Nat) (a0 : Int) (r : Int) (w : World) (h : bits_Len64.f k a0 = some r) :
  Calls Try.prog 69 #[.int .u64 a0] w fun e w' => e = .returned (.int .i64 r) ∧ Drawn0 w w' := by
 have H : (if a0 ≥ 4294967296 then (bits_Len64.j0 k (a0 / 4294967296) 32) else (bits_Len64.j0 k a0 0)) = some r := h
 clear h
 have HC2 := Aside0.mk H
 clear H
 go_enter Try.func69, Try.ntmps69
 go_upto_if 4 with (fail)
 go_cut [0, 2] (fun v0 v2 wc => ∃ (kq : Nat) (x0_1 : Int) (x2_1 : Int), v0 = .int .u64 x0_1 ∧ v2 = .int .i64 x2_1 ∧ Aside0 (bits_Len64.j0 kq x0_1 x2_1 = some r) ∧ Aside0 (kq ≤ k) ∧ Drawn0 w wc)
 case first =>
  have H := HC2.out
  clear HC2
  by_cases c3 : a0 ≥ 4294967296
  ·rw [if_pos c3] at H
   have c3b0 : decide (4294967296 ≤ a0) = true := decide_eq_true c3
   clear c3
   (first | rw [c3b0] | (simp only [i64_w, i32_w]; rw [c3b0]) | skip)
   have H' := Aside0.mk H
   clear H
   go_wp2
   go_meet
   case rel => exact ⟨_, (a0 / 4294967296), (32), z11_, z11_, H', ⟨by first | omega | exact Nat.le_refl _⟩, z13_⟩
  ·rw [if_neg c3] at H
   have c3b0 : decide (4294967296 ≤ a0) = false := decide_eq_false c3
   clear c3
   (first | rw [c3b0] | (simp only [i64_w, i32_w]; rw [c3b0]) | skip)
   have H' := Aside0.mk H
   clear H
   go_wp2
   go_meet
   case rel => exact ⟨_, (a0), (0), z11_, z11_, H', ⟨by first | omega | exact Nat.le_refl _⟩, z13_⟩
 case rest =>
  clear HC2
  try clear p2
  try clear c3
  try clear c3b0
  obtain ⟨kq, x0_1, x2_1, rfl, rfl, HA, HJ1, ⟨mc1, rfl⟩⟩ := hcut
  cases kq with
  | zero => exact absurd HA.out (by simp [bits_Len64.j0])
  | succ kj1 =>
   have H := HA.out
   clear HA
   simp only [bits_Len64.j0] at H
   by_cases c4 : x0_1 ≥ 65536
   ·rw [if_pos c4] at H
    have c4b0 : decide (65536 ≤ x0_1) = true := decide_eq_true c4
    clear c4
    by_cases c5 : (x0_1 / 65536) ≥ 256
    ·rw [if_pos c5] at H
     have c5b0 : decide (256 ≤ (x0_1 / 65536)) = true := decide_eq_true c5
     clear c5
     obtain ⟨ji6, hji6⟩ : ∃ j_ : Int, (((x0_1 / 65536) / 256) % 256) = j_ := ⟨_, rfl⟩
     replace H : (if 0 ≤ (ji6) then (if (ji6) < 256 then (some (wrap64 ((wrap64 ((wrap64 (x2_1 + 16)) + 8)) + (wrap64 (bt (⟨#[0, 1, 2, 2, 3, 3, 3, 3, 4, 4, 4, 4, 4, 4, 4, 4, 5, 5, 5, 5, 5, 5, 5, 5, 5, 5, 5, 5, 5, 5, 5, 5, 6, 6, 6, 6, 6, 6, 6, 6, 6, 6, 6, 6, 6, 6, 6, 6, 6, 6, 6, 6, 6, 6, 6, 6, 6, 6, 6, 6, 6, 6, 6, 6, 7, 7, 7, 7, 7, 7, 7, 7, 7, 7, 7, 7, 7, 7, 7, 7, 7, 7, 7, 7, 7, 7, 7, 7, 7, 7, 7, 7, 7, 7, 7, 7, 7, 7, 7, 7, 7, 7, 7, 7, 7, 7, 7, 7, 7, 7, 7, 7, 7, 7, 7, 7, 7, 7, 7, 7, 7, 7, 7, 7, 7, 7, 7, 7, 8, 8, 8, 8, 8, 8, 8, 8, 8, 8, 8, 8, 8, 8, 8, 8, 8, 8, 8, 8, 8, 8, 8, 8, 8, 8, 8, 8, 8, 8, 8, 8, 8, 8, 8, 8, 8, 8, 8, 8, 8, 8, 8, 8, 8, 8, 8, 8, 8, 8, 8, 8, 8, 8, 8, 8, 8, 8, 8, 8, 8, 8, 8, 8, 8, 8, 8, 8, 8, 8, 8, 8, 8, 8, 8, 8, 8, 8, 8, 8, 8, 8, 8, 8, 8, 8, 8, 8, 8, 8, 8, 8, 8, 8, 8, 8, 8, 8, 8, 8, 8, 8, 8, 8, 8, 8, 8, 8, 8, 8, 8, 8, 8, 8, 8, 8, 8, 8, 8, 8, 8, 8, 8, 8, 8, 8, 8, 8]⟩ : ByteArray) (ji6)))))) else (none)) else (none)) = some r := by first | (rw [hji6] at H; exact H) | (simp only [hji6] at H ⊢; exact H)
     by_cases c7 : 0 ≤ (ji6)
     ·rw [if_pos c7] at H
      have c7b0 : decide (0 ≤ (ji6)) = true := decide_eq_true c7
      clear c7
      by_cases c8 : (ji6) < 256
      ·rw [if_pos c8] at H
       have c8b0 : decide ((ji6) < 256) = true := decide_eq_true c8
       clear c8
       obtain rfl := Option.some.inj H
       have p9 : 0 ≤ ((ji6) : Int) := of_decide_eq_true z12_
       have q9 : (ji6) < (256 : Int) := of_decide_eq_true z12_
       have hx9 := bt_at (⟨#[0, 1, 2, 2, 3, 3, 3, 3, 4, 4, 4, 4, 4, 4, 4, 4, 5, 5, 5, 5, 5, 5, 5, 5, 5, 5, 5, 5, 5, 5, 5, 5, 6, 6, 6, 6, 6, 6, 6, 6, 6, 6, 6, 6, 6, 6, 6, 6, 6, 6, 6, 6, 6, 6, 6, 6, 6, 6, 6, 6, 6, 6, 6, 6, 7, 7, 7, 7, 7, 7, 7, 7, 7, 7, 7, 7, 7, 7, 7, 7, 7, 7, 7, 7, 7, 7, 7, 7, 7, 7, 7, 7, 7, 7, 7, 7, 7, 7, 7, 7, 7, 7, 7, 7, 7, 7, 7, 7, 7, 7, 7, 7, 7, 7, 7, 7, 7, 7, 7, 7, 7, 7, 7, 7, 7, 7, 7, 7, 8, 8, 8, 8, 8, 8, 8, 8, 8, 8, 8, 8, 8, 8, 8, 8, 8, 8, 8, 8, 8, 8, 8, 8, 8, 8, 8, 8, 8, 8, 8, 8, 8, 8, 8, 8, 8, 8, 8, 8, 8, 8, 8, 8, 8, 8, 8, 8, 8, 8, 8, 8, 8, 8, 8, 8, 8, 8, 8, 8, 8, 8, 8, 8, 8, 8, 8, 8, 8, 8, 8, 8, 8, 8, 8, 8, 8, 8, 8, 8, 8, 8, 8, 8, 8, 8, 8, 8, 8, 8, 8, 8, 8, 8, 8, 8, 8, 8, 8, 8, 8, 8, 8, 8, 8, 8, 8, 8, 8, 8, 8, 8, 8, 8, 8, 8, 8, 8, 8, 8, 8, 8, 8, 8, 8, 8, 8, 8]⟩ : ByteArray) (ji6)
       replace p9 := eq_true p9
       replace q9 := eq_true q9
       go_wp2
       go_ret
       exact ⟨by first | rfl | (simp; done) | (simp only [← hji6] <;> (first | rfl | simp)) | (simp [*]; done), z13_⟩
      ·rw [if_neg c8] at H
       exact absurd H (by simp)
     ·rw [if_neg c7] at H
      exact absurd H (by simp)
    ·rw [if_neg c5] at H
     have c5b0 : decide (256 ≤ (x0_1 / 65536)) = false := decide_eq_false c5
     clear c5
     obtain ⟨ji10, hji10⟩ : ∃ j_ : Int, ((x0_1 / 65536) % 256) = j_ := ⟨_, rfl⟩
     replace H : (if 0 ≤ (ji10) then (if (ji10) < 256 then (some (wrap64 ((wrap64 (x2_1 + 16)) + (wrap64 (bt (⟨#[0, 1, 2, 2, 3, 3, 3, 3, 4, 4, 4, 4, 4, 4, 4, 4, 5, 5, 5, 5, 5, 5, 5, 5, 5, 5, 5, 5, 5, 5, 5, 5, 6, 6, 6, 6, 6, 6, 6, 6, 6, 6, 6, 6, 6, 6, 6, 6, 6, 6, 6, 6, 6, 6, 6, 6, 6, 6, 6, 6, 6, 6, 6, 6, 7, 7, 7, 7, 7, 7, 7, 7, 7, 7, 7, 7, 7, 7, 7, 7, 7, 7, 7, 7, 7, 7, 7, 7, 7, 7, 7, 7, 7, 7, 7, 7, 7, 7, 7, 7, 7, 7, 7, 7, 7, 7, 7, 7, 7, 7, 7, 7, 7, 7, 7, 7, 7, 7, 7, 7, 7, 7, 7, 7, 7, 7, 7, 7, 8, 8, 8, 8, 8, 8, 8, 8, 8, 8, 8, 8, 8, 8, 8, 8, 8, 8, 8, 8, 8, 8, 8, 8, 8, 8, 8, 8, 8, 8, 8, 8, 8, 8, 8, 8, 8, 8, 8, 8, 8, 8, 8, 8, 8, 8, 8, 8, 8, 8, 8, 8, 8, 8, 8, 8, 8, 8, 8, 8, 8, 8, 8, 8, 8, 8, 8, 8, 8, 8, 8, 8, 8, 8, 8, 8, 8, 8, 8, 8, 8, 8, 8, 8, 8, 8, 8, 8, 8, 8, 8, 8, 8, 8, 8, 8, 8, 8, 8, 8, 8, 8, 8, 8, 8, 8, 8, 8, 8, 8, 8, 8, 8, 8, 8, 8, 8, 8, 8, 8, 8, 8, 8, 8, 8, 8, 8, 8]⟩ : ByteArray) (ji10)))))) else (none)) else (none)) = some r := by first | (rw [hji10] at H; exact H) | (simp only [hji10] at H ⊢; exact H)
     by_cases c11 : 0 ≤ (ji10)
     ·rw [if_pos c11] at H
      have c11b0 : decide (0 ≤ (ji10)) = true := decide_eq_true c11
      clear c11
      by_cases c12 : (ji10) < 256
      ·rw [if_pos c12] at H
       have c12b0 : decide ((ji10) < 256) = true := decide_eq_true c12
       clear c12
       obtain rfl := Option.some.inj H
       have p13 : 0 ≤ ((ji10) : Int) := of_decide_eq_true z12_
       have q13 : (ji10) < (256 : Int) := of_decide_eq_true z12_
       have hx13 := bt_at (⟨#[0, 1, 2, 2, 3, 3, 3, 3, 4, 4, 4, 4, 4, 4, 4, 4, 5, 5, 5, 5, 5, 5, 5, 5, 5, 5, 5, 5, 5, 5, 5, 5, 6, 6, 6, 6, 6, 6, 6, 6, 6, 6, 6, 6, 6, 6, 6, 6, 6, 6, 6, 6, 6, 6, 6, 6, 6, 6, 6, 6, 6, 6, 6, 6, 7, 7, 7, 7, 7, 7, 7, 7, 7, 7, 7, 7, 7, 7, 7, 7, 7, 7, 7, 7, 7, 7, 7, 7, 7, 7, 7, 7, 7, 7, 7, 7, 7, 7, 7, 7, 7, 7, 7, 7, 7, 7, 7, 7, 7, 7, 7, 7, 7, 7, 7, 7, 7, 7, 7, 7, 7, 7, 7, 7, 7, 7, 7, 7, 8, 8, 8, 8, 8, 8, 8, 8, 8, 8, 8, 8, 8, 8, 8, 8, 8, 8, 8, 8, 8, 8, 8, 8, 8, 8, 8, 8, 8, 8, 8, 8, 8, 8, 8, 8, 8, 8, 8, 8, 8, 8, 8, 8, 8, 8, 8, 8, 8, 8, 8, 8, 8, 8, 8, 8, 8, 8, 8, 8, 8, 8, 8, 8, 8, 8, 8, 8, 8, 8, 8, 8, 8, 8, 8, 8, 8, 8, 8, 8, 8, 8, 8, 8, 8, 8, 8, 8, 8, 8, 8, 8, 8, 8, 8, 8, 8, 8, 8, 8, 8, 8, 8, 8, 8, 8, 8, 8, 8, 8, 8, 8, 8, 8, 8, 8, 8, 8, 8, 8, 8, 8, 8, 8, 8, 8, 8, 8]⟩ : ByteArray) (ji10)
       replace p13 := eq_true p13
       replace q13 := eq_true q13
       go_wp2
       go_ret
       exact ⟨by first | rfl | (simp; done) | (simp only [← hji10] <;> (first | rfl | simp)) | (simp [*]; done), z13_⟩
      ·rw [if_neg c12] at H
       exact absurd H (by simp)
     ·rw [if_neg c11] at H
      exact absurd H (by simp)
   ·rw [if_neg c4] at H
    have c4b0 : decide (65536 ≤ x0_1) = false := decide_eq_false c4
    clear c4
    by_cases c14 : x0_1 ≥ 256
    ·rw [if_pos c14] at H
     have c14b0 : decide (256 ≤ x0_1) = true := decide_eq_true c14
     clear c14
     obtain ⟨ji15, hji15⟩ : ∃ j_ : Int, ((x0_1 / 256) % 256) = j_ := ⟨_, rfl⟩
     replace H : (if 0 ≤ (ji15) then (if (ji15) < 256 then (some (wrap64 ((wrap64 (x2_1 + 8)) + (wrap64 (bt (⟨#[0, 1, 2, 2, 3, 3, 3, 3, 4, 4, 4, 4, 4, 4, 4, 4, 5, 5, 5, 5, 5, 5, 5, 5, 5, 5, 5, 5, 5, 5, 5, 5, 6, 6, 6, 6, 6, 6, 6, 6, 6, 6, 6, 6, 6, 6, 6, 6, 6, 6, 6, 6, 6, 6, 6, 6, 6, 6, 6, 6, 6, 6, 6, 6, 7, 7, 7, 7, 7, 7, 7, 7, 7, 7, 7, 7, 7, 7, 7, 7, 7, 7, 7, 7, 7, 7, 7, 7, 7, 7, 7, 7, 7, 7, 7, 7, 7, 7, 7, 7, 7, 7, 7, 7, 7, 7, 7, 7, 7, 7, 7, 7, 7, 7, 7, 7, 7, 7, 7, 7, 7, 7, 7, 7, 7, 7, 7, 7, 8, 8, 8, 8, 8, 8, 8, 8, 8, 8, 8, 8, 8, 8, 8, 8, 8, 8, 8, 8, 8, 8, 8, 8, 8, 8, 8, 8, 8, 8, 8, 8, 8, 8, 8, 8, 8, 8, 8, 8, 8, 8, 8, 8, 8, 8, 8, 8, 8, 8, 8, 8, 8, 8, 8, 8, 8, 8, 8, 8, 8, 8, 8, 8, 8, 8, 8, 8, 8, 8, 8, 8, 8, 8, 8, 8, 8, 8, 8, 8, 8, 8, 8, 8, 8, 8, 8, 8, 8, 8, 8, 8, 8, 8, 8, 8, 8, 8, 8, 8, 8, 8, 8, 8, 8, 8, 8, 8, 8, 8, 8, 8, 8, 8, 8, 8, 8, 8, 8, 8, 8, 8, 8, 8, 8, 8, 8, 8]⟩ : ByteArray) (ji15)))))) else (none)) else (none)) = some r := by first | (rw [hji15] at H; exact H) | (simp only [hji15] at H ⊢; exact H)
     by_cases c16 : 0 ≤ (ji15)
     ·rw [if_pos c16] at H
      have c16b0 : decide (0 ≤ (ji15)) = true := decide_eq_true c16
      clear c16
      by_cases c17 : (ji15) < 256
      ·rw [if_pos c17] at H
       have c17b0 : decide ((ji15) < 256) = true := decide_eq_true c17
       clear c17
       obtain rfl := Option.some.inj H
       have p18 : 0 ≤ ((ji15) : Int) := of_decide_eq_true z12_
       have q18 : (ji15) < (256 : Int) := of_decide_eq_true z12_
       have hx18 := bt_at (⟨#[0, 1, 2, 2, 3, 3, 3, 3, 4, 4, 4, 4, 4, 4, 4, 4, 5, 5, 5, 5, 5, 5, 5, 5, 5, 5, 5, 5, 5, 5, 5, 5, 6, 6, 6, 6, 6, 6, 6, 6, 6, 6, 6, 6, 6, 6, 6, 6, 6, 6, 6, 6, 6, 6, 6, 6, 6, 6, 6, 6, 6, 6, 6, 6, 7, 7, 7, 7, 7, 7, 7, 7, 7, 7, 7, 7, 7, 7, 7, 7, 7, 7, 7, 7, 7, 7, 7, 7, 7, 7, 7, 7, 7, 7, 7, 7, 7, 7, 7, 7, 7, 7, 7, 7, 7, 7, 7, 7, 7, 7, 7, 7, 7, 7, 7, 7, 7, 7, 7, 7, 7, 7, 7, 7, 7, 7, 7, 7, 8, 8, 8, 8, 8, 8, 8, 8, 8, 8, 8, 8, 8, 8, 8, 8, 8, 8, 8, 8, 8, 8, 8, 8, 8, 8, 8, 8, 8, 8, 8, 8, 8, 8, 8, 8, 8, 8, 8, 8, 8, 8, 8, 8, 8, 8, 8, 8, 8, 8, 8, 8, 8, 8, 8, 8, 8, 8, 8, 8, 8, 8, 8, 8, 8, 8, 8, 8, 8, 8, 8, 8, 8, 8, 8, 8, 8, 8, 8, 8, 8, 8, 8, 8, 8, 8, 8, 8, 8, 8, 8, 8, 8, 8, 8, 8, 8, 8, 8, 8, 8, 8, 8, 8, 8, 8, 8, 8, 8, 8, 8, 8, 8, 8, 8, 8, 8, 8, 8, 8, 8, 8, 8, 8, 8, 8, 8, 8]⟩ : ByteArray) (ji15)
       replace p18 := eq_true p18
       replace q18 := eq_true q18
       go_wp2
       go_ret
       exact ⟨by first | rfl | (simp; done) | (simp only [← hji15] <;> (first | rfl | simp)) | (simp [*]; done), z13_⟩
      ·rw [if_neg c17] at H
       exact absurd H (by simp)
     ·rw [if_neg c16] at H
      exact absurd H (by simp)
    ·rw [if_neg c14] at H
     have c14b0 : decide (256 ≤ x0_1) = false := decide_eq_false c14
     clear c14
     obtain ⟨ji19, hji19⟩ : ∃ j_ : Int, ((x0_1) % 256) = j_ := ⟨_, rfl⟩
     replace H : (if 0 ≤ (ji19) then (if (ji19) < 256 then (some (wrap64 (x2_1 + (wrap64 (bt (⟨#[0, 1, 2, 2, 3, 3, 3, 3, 4, 4, 4, 4, 4, 4, 4, 4, 5, 5, 5, 5, 5, 5, 5, 5, 5, 5, 5, 5, 5, 5, 5, 5, 6, 6, 6, 6, 6, 6, 6, 6, 6, 6, 6, 6, 6, 6, 6, 6, 6, 6, 6, 6, 6, 6, 6, 6, 6, 6, 6, 6, 6, 6, 6, 6, 7, 7, 7, 7, 7, 7, 7, 7, 7, 7, 7, 7, 7, 7, 7, 7, 7, 7, 7, 7, 7, 7, 7, 7, 7, 7, 7, 7, 7, 7, 7, 7, 7, 7, 7, 7, 7, 7, 7, 7, 7, 7, 7, 7, 7, 7, 7, 7, 7, 7, 7, 7, 7, 7, 7, 7, 7, 7, 7, 7, 7, 7, 7, 7, 8, 8, 8, 8, 8, 8, 8, 8, 8, 8, 8, 8, 8, 8, 8, 8, 8, 8, 8, 8, 8, 8, 8, 8, 8, 8, 8, 8, 8, 8, 8, 8, 8, 8, 8, 8, 8, 8, 8, 8, 8, 8, 8, 8, 8, 8, 8, 8, 8, 8, 8, 8, 8, 8, 8, 8, 8, 8, 8, 8, 8, 8, 8, 8, 8, 8, 8, 8, 8, 8, 8, 8, 8, 8, 8, 8, 8, 8, 8, 8, 8, 8, 8, 8, 8, 8, 8, 8, 8, 8, 8, 8, 8, 8, 8, 8, 8, 8, 8, 8, 8, 8, 8, 8, 8, 8, 8, 8, 8, 8, 8, 8, 8, 8, 8, 8, 8, 8, 8, 8, 8, 8, 8, 8, 8, 8, 8, 8]⟩ : ByteArray) (ji19)))))) else (none)) else (none)) = some r := by first | (rw [hji19] at H; exact H) | (simp only [hji19] at H ⊢; exact H)
     by_cases c20 : 0 ≤ (ji19)
     ·rw [if_pos c20] at H
      have c20b0 : decide (0 ≤ (ji19)) = true := decide_eq_true c20
      clear c20
      by_cases c21 : (ji19) < 256
      ·rw [if_pos c21] at H
       have c21b0 : decide ((ji19) < 256) = true := decide_eq_true c21
       clear c21
       obtain rfl := Option.some.inj H
       have p22 : 0 ≤ ((ji19) : Int) := of_decide_eq_true z12_
       have q22 : (ji19) < (256 : Int) := of_decide_eq_true z12_
       have hx22 := bt_at (⟨#[0, 1, 2, 2, 3, 3, 3, 3, 4, 4, 4, 4, 4, 4, 4, 4, 5, 5, 5, 5, 5, 5, 5, 5, 5, 5, 5, 5, 5, 5, 5, 5, 6, 6, 6, 6, 6, 6, 6, 6, 6, 6, 6, 6, 6, 6, 6, 6, 6, 6, 6, 6, 6, 6, 6, 6, 6, 6, 6, 6, 6, 6, 6, 6, 7, 7, 7, 7, 7, 7, 7, 7, 7, 7, 7, 7, 7, 7, 7, 7, 7, 7, 7, 7, 7, 7, 7, 7, 7, 7, 7, 7, 7, 7, 7, 7, 7, 7, 7, 7, 7, 7, 7, 7, 7, 7, 7, 7, 7, 7, 7, 7, 7, 7, 7, 7, 7, 7, 7, 7, 7, 7, 7, 7, 7, 7, 7, 7, 8, 8, 8, 8, 8, 8, 8, 8, 8, 8, 8, 8, 8, 8, 8, 8, 8, 8, 8, 8, 8, 8, 8, 8, 8, 8, 8, 8, 8, 8, 8, 8, 8, 8, 8, 8, 8, 8, 8, 8, 8, 8, 8, 8, 8, 8, 8, 8, 8, 8, 8, 8, 8, 8, 8, 8, 8, 8, 8, 8, 8, 8, 8, 8, 8, 8, 8, 8, 8, 8, 8, 8, 8, 8, 8, 8, 8, 8, 8, 8, 8, 8, 8, 8, 8, 8, 8, 8, 8, 8, 8, 8, 8, 8, 8, 8, 8, 8, 8, 8, 8, 8, 8, 8, 8, 8, 8, 8, 8, 8, 8, 8, 8, 8, 8, 8, 8, 8, 8, 8, 8, 8, 8, 8, 8, 8, 8, 8]⟩ : ByteArray) (ji19)
       replace p22 := eq_true p22
       replace q22 := eq_true q22
       go_wp2
       go_ret
       exact ⟨by first | rfl | (simp; done) | (simp only [← hji19] <;> (first | rfl | simp)) | (simp [*]; done), z13_⟩
      ·rw [if_neg c21] at H
       exact absurd H (by simp)
     ·rw [if_neg c20] at H
      exact absurd H (by simp)
def bits_Width.l0 : Nat → Int → List Int → Int → Int → Option (Int)
 | 0, _, _, _, _ => none
 | k + 1, x3, x6, x7, x8 => if x8 < x7 then (if 0 ≤ x8 then (if x8 < (x6.length : Int) then (bits_Width.l0 k (Go.bits .or .u64 x3 (rd x6 x8)) x6 x7 (wrap64 (x8 + 1))) else (none)) else (none)) else ((bits_Len64.f k x3).bind fun t232 => (some t232))
def bits_Width.f (k : Nat) (l0 : List Int) : Option (Int) := bits_Width.l0 k 0 l0 (l0.length : Int) 0
theorem bits_Width.mono_l : ∀ k, (∀ y0 y1 y2 y3, LeO (bits_Width.l0 k y0 y1 y2 y3) (bits_Width.l0 (k + 1) y0 y1 y2 y3))
 | 0 => fun _ _ _ _ r h => by simp [bits_Width.l0] at h
 | k + 1 => by
  have ih0 := bits_Width.mono_l k
  ·intro y0 y1 y2 y3
   unfold bits_Width.l0
   repeat' first
   | (with_reducible exact ih0 _ _ _ _)
   | (with_reducible exact bits_Len64.mono _ _)
   | (with_reducible exact LeO.refl _)
   | (with_reducible exact LeO.none _)
   | (with_reducible refine LeO.ite ?_ ?_)
   | (with_reducible refine LeO.bind ?_ (fun _ => ?_))
   | exact ih0 _ _ _ _
   | exact bits_Len64.mono _ _
   | exact LeO.none _
   | refine LeO.ite ?_ ?_
   | refine LeO.bind ?_ (fun _ => ?_)
theorem bits_Width.mono : ∀ a0 k, LeO (bits_Width.f k a0) (bits_Width.f (k + 1) a0) := by
 intro a0 k
 have ih0 := bits_Width.mono_l k
 unfold bits_Width.f
 repeat' first
   | (with_reducible exact ih0 _ _ _ _)
   | (with_reducible exact bits_Len64.mono _ _)
   | (with_reducible exact LeO.refl _)
   | (with_reducible exact LeO.none _)
   | (with_reducible refine LeO.ite ?_ ?_)
   | (with_reducible refine LeO.bind ?_ (fun _ => ?_))
   | exact ih0 _ _ _ _
   | exact bits_Len64.mono _ _
   | exact LeO.none _
   | refine LeO.ite ?_ ?_
   | refine LeO.bind ?_ (fun _ => ?_)
set_option maxHeartbeats 8000000 in
set_option maxRecDepth 100000 in
theorem bits_Width.calls (k : Nat) (A0 : Option Addr) (c0 : Nat) (l0 : List Int) (r : Int) (w : World) (hr0 : Kd.C (Kd.int .u64) w A0 l0.length l0) (hc0 : l0.length ≤ c0) (h : bits_Width.f k l0 = some r) :
  Calls Try.prog 60 #[.slice A0 l0.length c0] w fun e w' => e = .returned (.int .i64 r) ∧ Drawn0 w w' := by
 have HR0 := Aside0.mk hr0
 have HC0 := Aside0.mk hc0
 clear hr0 hc0
 have H : (bits_Width.l0 k 0 l0 (l0.length : Int) 0) = some r := h
 clear h
 have H' := Aside0.mk H
 clear H
 go_enter Try.func60, Try.ntmps60
 go_wp2
 go_loopg [3, 8] k (fun kq v3 v8 w' => ∃ (x3_1 : Int) (x8_1 : Int), v3 = .int .u64 x3_1 ∧ v8 = .int .i64 x8_1 ∧ Aside0 (bits_Width.l0 kq x3_1 l0 (l0.length : Int) x8_1 = some r) ∧ Aside0 (kq ≤ k) ∧ Drawn0 w w')
 case atStart => exact ⟨(0), (0), z11_, z11_, H', ⟨Nat.le_refl _⟩, z13_⟩
 case round =>
  clear H'
  obtain ⟨x3_1, x8_1, rfl, rfl, HA, HK1, ⟨m1, rfl⟩⟩ := hrel
  cases gk with
  | zero => exact absurd HA.out (by simp [bits_Width.l0])
  | succ k1 =>
   have H := HA.out
   clear HA
   simp only [bits_Width.l0] at H
   by_cases c2 : x8_1 < (l0.length : Int)
   ·rw [if_pos c2] at H
    have c2b0 : decide (x8_1 < (l0.length : Int)) = true := decide_eq_true c2
    clear c2
    by_cases c3 : 0 ≤ x8_1
    ·rw [if_pos c3] at H
     have c3b0 : decide (0 ≤ x8_1) = true := decide_eq_true c3
     clear c3
     by_cases c4 : x8_1 < (l0.length : Int)
     ·rw [if_pos c4] at H
      have c4b0 : decide (x8_1 < (l0.length : Int)) = true := decide_eq_true c4
      clear c4
      have H' := Aside0.mk H
      clear H
      have p231 : 0 ≤ (x8_1 : Int) := of_decide_eq_true z12_
      have q231 : x8_1 < (l0.length : Int) := of_decide_eq_true z12_
      obtain ⟨ad231, e231, hx231_0⟩ := Kd.at_int HR0.out x8_1 p231 q231
      cases e231
      replace p231 := eq_true p231
      replace q231 := eq_true q231
      go_wp2
      go_roundg k1
      case measure => have := HK1.out; omega
      case rel => exact ⟨(Go.bits .or .u64 x3_1 (rd l0 x8_1)), (wrap64 (x8_1 + 1)), z11_, z11_, H', ⟨by have := HK1.out; omega⟩, z13_⟩
     ·rw [if_neg c4] at H
      exact absurd H (by simp)
    ·rw [if_neg c3] at H
     exact absurd H (by simp)
   ·rw [if_neg c2] at H
    have c2b0 : decide (x8_1 < (l0.length : Int)) = false := decide_eq_false c2
    clear c2
    replace H := Option.bind_eq_some_iff.mp H
    obtain ⟨t232, A50, H⟩ := H
    replace H : (some t232) = some r := H
    have A5 := Aside0.mk A50
    clear A50
    obtain rfl := Option.some.inj H
    go_wp2_with (first | ((with_reducible refine gate_callee (f := 69) rfl ?_); refine goesL_ (some 17) rfl rfl Try.func69 (by kernel_rfl) rfl #[.int .u64 x3_1] rfl (by (try simp only [List.map_toArray, List.map_cons, List.map_nil]); first | done | rfl | (simp only [List.length_drop, List.length_take]; rfl) | (go_simp; simp [IntKind.wrap, IntKind.bits, IntKind.signed]; omega)) ?_; (with_reducible refine (bits_Len64.calls k1 x3_1 t232 _ A5.out).mono ?_); rintro e w' ⟨rfl, ⟨nd, rfl⟩⟩; refine ⟨_, rfl, ?_⟩))
    go_ret
    exact ⟨z11_, z13_⟩
theorem bits_Pack.tab : ∀ i : Nat, i < 256 → bt (⟨#[0, 1, 2, 2, 3, 3, 3, 3, 4, 4, 4, 4, 4, 4, 4, 4, 5, 5, 5, 5, 5, 5, 5, 5, 5, 5, 5, 5, 5, 5, 5, 5, 6, 6, 6, 6, 6, 6, 6, 6, 6, 6, 6, 6, 6, 6, 6, 6, 6, 6, 6, 6, 6, 6, 6, 6, 6, 6, 6, 6, 6, 6, 6, 6, 7, 7, 7, 7, 7, 7, 7, 7, 7, 7, 7, 7, 7, 7, 7, 7, 7, 7, 7, 7, 7, 7, 7, 7, 7, 7, 7, 7, 7, 7, 7, 7, 7, 7, 7, 7, 7, 7, 7, 7, 7, 7, 7, 7, 7, 7, 7, 7, 7, 7, 7, 7, 7, 7, 7, 7, 7, 7, 7, 7, 7, 7, 7, 7, 8, 8, 8, 8, 8, 8, 8, 8, 8, 8, 8, 8, 8, 8, 8, 8, 8, 8, 8, 8, 8, 8, 8, 8, 8, 8, 8, 8, 8, 8, 8, 8, 8, 8, 8, 8, 8, 8, 8, 8, 8, 8, 8, 8, 8, 8, 8, 8, 8, 8, 8, 8, 8, 8, 8, 8, 8, 8, 8, 8, 8, 8, 8, 8, 8, 8, 8, 8, 8, 8, 8, 8, 8, 8, 8, 8, 8, 8, 8, 8, 8, 8, 8, 8, 8, 8, 8, 8, 8, 8, 8, 8, 8, 8, 8, 8, 8, 8, 8, 8, 8, 8, 8, 8, 8, 8, 8, 8, 8, 8, 8, 8, 8, 8, 8, 8, 8, 8, 8, 8, 8, 8, 8, 8, 8, 8, 8, 8]⟩ : ByteArray) (i : Int) = ((blen i : Nat) : Int) := by decide +kernel
theorem bits_Pack.len0 {k x : Nat} {n : Int} (hx : x < 4294967296) (h0 : 0 ≤ n) (h1 : n ≤ 32) : bits_Len64.j0 (k + 1) (x : Int) n = some (((blen x : Nat) : Int) + n) := by
 have T := bits_Pack.tab
 unfold bits_Len64.j0
 generalize (⟨#[0, 1, 2, 2, 3, 3, 3, 3, 4, 4, 4, 4, 4, 4, 4, 4, 5, 5, 5, 5, 5, 5, 5, 5, 5, 5, 5, 5, 5, 5, 5, 5, 6, 6, 6, 6, 6, 6, 6, 6, 6, 6, 6, 6, 6, 6, 6, 6, 6, 6, 6, 6, 6, 6, 6, 6, 6, 6, 6, 6, 6, 6, 6, 6, 7, 7, 7, 7, 7, 7, 7, 7, 7, 7, 7, 7, 7, 7, 7, 7, 7, 7, 7, 7, 7, 7, 7, 7, 7, 7, 7, 7, 7, 7, 7, 7, 7, 7, 7, 7, 7, 7, 7, 7, 7, 7, 7, 7, 7, 7, 7, 7, 7, 7, 7, 7, 7, 7, 7, 7, 7, 7, 7, 7, 7, 7, 7, 7, 8, 8, 8, 8, 8, 8, 8, 8, 8, 8, 8, 8, 8, 8, 8, 8, 8, 8, 8, 8, 8, 8, 8, 8, 8, 8, 8, 8, 8, 8, 8, 8, 8, 8, 8, 8, 8, 8, 8, 8, 8, 8, 8, 8, 8, 8, 8, 8, 8, 8, 8, 8, 8, 8, 8, 8, 8, 8, 8, 8, 8, 8, 8, 8, 8, 8, 8, 8, 8, 8, 8, 8, 8, 8, 8, 8, 8, 8, 8, 8, 8, 8, 8, 8, 8, 8, 8, 8, 8, 8, 8, 8, 8, 8, 8, 8, 8, 8, 8, 8, 8, 8, 8, 8, 8, 8, 8, 8, 8, 8, 8, 8, 8, 8, 8, 8, 8, 8, 8, 8, 8, 8, 8, 8, 8, 8, 8, 8]⟩ : ByteArray) = tb at *
 dsimp only
 have b8 : ∀ y : Nat, y < 65536 → 256 ≤ y → blen y = blen (y / 256) + 8 := fun y _ h => blen_div (k := 8) h
 have w0 : ∀ y : Nat, y < 256 → wrap64 (bt tb (y : Int)) = ((blen y : Nat) : Int) := fun y hy => by
  have h := blen_le (n := y) (w := 8); have : blen y ≤ 8 := h.2 (by omega)
  rw [T y hy, w64 (by omega) (by omega)]
 have w1 : ∀ y : Nat, y < 256 → ((blen y : Nat) : Int) ≤ 8 := fun y hy => by
  have h := blen_le (n := y) (w := 8); have : blen y ≤ 8 := h.2 (by omega)
  omega
 by_cases c1 : 65536 ≤ x
 ·have e1 : ((x : Int) / 65536) = ((x / 65536 : Nat) : Int) := by omega
  have b16 : blen x = blen (x / 65536) + 16 := blen_div (k := 16) c1
  rw [if_pos (by omega), e1]
  obtain ⟨y, hy⟩ : ∃ y, x / 65536 = y := ⟨_, rfl⟩
  rw [hy] at b16 ⊢
  have hyl : y < 65536 := by omega
  by_cases c2 : 256 ≤ y
  ·have e2 : (((y : Nat) : Int) / 256) % 256 = ((y / 256 : Nat) : Int) := by omega
   have h := w1 (y / 256) (by omega)
   rw [if_pos (by omega), e2, if_pos (by omega), if_pos (by omega), w0 _ (by omega), w64 (x := n + 16) (by omega) (by omega), w64 (x := n + 16 + 8) (by omega) (by omega), w64 (by omega) (by omega), b16, b8 y hyl c2]
   congr 1 <;> omega
  ·have e2 : (((y : Nat) : Int)) % 256 = ((y : Nat) : Int) := by omega
   have h := w1 y (by omega)
   rw [if_neg (by omega), e2, if_pos (by omega), if_pos (by omega), w0 _ (by omega), w64 (x := n + 16) (by omega) (by omega), w64 (by omega) (by omega), b16]
   congr 1 <;> omega
 ·rw [if_neg (by omega)]
  by_cases c2 : 256 ≤ x
  ·have e2 : (((x : Nat) : Int) / 256) % 256 = ((x / 256 : Nat) : Int) := by omega
   have h := w1 (x / 256) (by omega)
   rw [if_pos (by omega), e2, if_pos (by omega), if_pos (by omega), w0 _ (by omega), w64 (x := n + 8) (by omega) (by omega), w64 (by omega) (by omega), b8 x (by omega) c2]
   congr 1 <;> omega
  ·have e2 : (((x : Nat) : Int)) % 256 = ((x : Nat) : Int) := by omega
   have h := w1 x (by omega)
   rw [if_neg (by omega), e2, if_pos (by omega), if_pos (by omega), w0 _ (by omega), w64 (by omega) (by omega)]
   congr 1 <;> omega
theorem bits_Pack.len {k x : Nat} (hk : 1 ≤ k) (hx : x < 18446744073709551616) : bits_Len64.f k (x : Int) = some ((blen x : Nat) : Int) := by
 obtain ⟨k, rfl⟩ : ∃ m, k = m + 1 := ⟨k - 1, by omega⟩
 unfold bits_Len64.f
 by_cases c : 4294967296 ≤ x
 ·have e : ((x : Int) / 4294967296) = ((x / 4294967296 : Nat) : Int) := by omega
  have b : blen x = blen (x / 4294967296) + 32 := blen_div (k := 32) c
  rw [if_pos (by omega), e, bits_Pack.len0 (by omega) (by omega) (by omega), b]
  congr 1
 ·rw [if_neg (by omega), bits_Pack.len0 (by omega) (by omega) (by omega)]
  congr 1 <;> omega
theorem bits_Pack.wid0 {l : List Int} (hl : l.length ≤ 17592186044416) (h : U64 l) : ∀ (d k i a : Nat), i + d = l.length → d + 1 < k → a < 18446744073709551616 → bits_Width.l0 k (a : Int) l (l.length : Int) (i : Int) = some ((blen (((unats l).drop i).foldl (· ||| ·) a) : Nat) : Int) := by
 intro d
 induction d with
 | zero =>
  intro k i a hi hk ha
  obtain ⟨k, rfl⟩ : ∃ m, k = m + 1 := ⟨k - 1, by omega⟩
  simp only [bits_Width.l0]
  rw [if_neg (by omega), bits_Pack.len (by omega) ha, List.drop_eq_nil_of_le (by rw [unats_len]; omega)]
  rfl
 | succ d ih =>
  intro k i a hi hk ha
  obtain ⟨k, rfl⟩ : ∃ m, k = m + 1 := ⟨k - 1, by omega⟩
  obtain ⟨e, hx⟩ := rd_unats h (show i < l.length by omega)
  simp only [bits_Width.l0]
  have e2 : wrap64 ((i : Int) + 1) = ((i + 1 : Nat) : Int) := by rw [w64 (by omega) (by omega)]; omega
  have hil : i < (unats l).length := by rw [unats_len]; omega
  have e3 : (unats l).drop i = (unats l).getD i 0 :: (unats l).drop (i + 1) := by
   rw [List.drop_eq_getElem_cons hil, List.getD_eq_getElem?_getD, List.getElem?_eq_getElem hil]; rfl
  rw [if_pos (by omega), if_pos (by omega), if_pos (by omega), e, e2, Go.u64_or_nat _ _ ha hx, ih k (i + 1) _ (by omega) (by omega) (or_lt (w := 64) |>.2 ⟨ha, hx⟩), e3]
  rfl
theorem bits_Pack.wid {l : List Int} {k : Nat} (hl : l.length ≤ 17592186044416) (h : U64 l) (hk : l.length + 1 < k) : bits_Width.f k l = some ((wd (unats l) : Nat) : Int) := by
 unfold bits_Width.f
 exact bits_Pack.wid0 hl h l.length k 0 0 (by omega) (by omega) (by omega)
set_option maxHeartbeats 1000000 in
set_option maxRecDepth 100000 in
theorem bits_Pack.w1 (A0 : Option Addr) (c0 : Nat) (l0 : List Int) (a1 : Int) (w : World) (h : a1 < 0 ∨ 64 < a1) :
  Calls Try.prog 61 #[.slice A0 l0.length c0, .int .i64 a1] w fun e w' => e = .returned (.tuple #[.string ⟨#[]⟩, .int .i64 1]) ∧ Below w.heap.size w w' := by
 by_cases c : a1 < 0
 ·have d1 : decide (a1 < 0) = true := decide_eq_true c
  clear h c
  go_enter Try.func61, Try.ntmps61
  go_wp2
  go_ret2
  exact ⟨rfl, Below.refl _ _⟩
 ·have d1 : decide (a1 < 0) = false := decide_eq_false c
  have d2 : decide (64 < a1) = true := decide_eq_true (by omega)
  clear h c
  go_enter Try.func61, Try.ntmps61
  go_wp2
  go_ret2
  exact ⟨rfl, Below.refl _ _⟩
set_option maxHeartbeats 1000000 in
set_option maxRecDepth 100000 in
theorem bits_Pack.w2 (A0 : Option Addr) (c0 : Nat) (l0 : List Int) (a1 : Int) (w : World) (hr0 : Kd.C (Kd.int .u64) w A0 l0.length l0) (hc0 : l0.length ≤ c0) (h1 : ¬ a1 < 0) (h2 : ¬ 64 < a1) (k : Nat) (W : Int) (hW : bits_Width.f k l0 = some W) (h3 : a1 < W) :
  Calls Try.prog 61 #[.slice A0 l0.length c0, .int .i64 a1] w fun e w' => e = .returned (.tuple #[.string ⟨#[]⟩, .int .i64 4]) ∧ Below w.heap.size w w' := by
 have d1 : decide (a1 < 0) = false := decide_eq_false h1
 have d2 : decide (64 < a1) = false := decide_eq_false h2
 have d3 : decide (a1 < W) = true := decide_eq_true h3
 have HR := Aside0.mk hr0; have HC := Aside0.mk hc0; have HW := Aside0.mk hW
 clear h1 h2 h3 hr0 hc0 hW
 go_enter Try.func61, Try.ntmps61
 go_wp2_with fail
 refine (bits_Width.calls k A0 c0 l0 W _ HR.out HC.out HW.out).mono ?_; rintro e w1 ⟨rfl, ⟨nd, rfl⟩⟩
 go_wp2
 go_ret2
 exact ⟨rfl, pw_below_drewN (Below.refl _ _) _⟩
set_option maxHeartbeats 4000000 in
set_option maxRecDepth 100000 in
theorem bits_Pack.w3 (A0 : Option Addr) (c0 : Nat) (l0 : List Int) (q : Nat) (w : World) (hr0 : Kd.C (Kd.int .u64) w A0 l0.length l0) (hc0 : l0.length ≤ c0) (hq : q ≤ 64) (hU : U64 l0) (hl : l0.length ≤ 17592186043904) (hwd : wd (unats l0) ≤ q) :
  Calls Try.prog 61 #[.slice A0 l0.length c0, .int .i64 (q : Int)] w fun e w' => e = .returned (.tuple #[.string (strOfNums (ints (pk q (unats l0)))), .int .i64 0]) ∧ Below w.heap.size w w' := by
 have hW := bits_Pack.wid (k := l0.length + 2) (by omega) hU (by omega)
 obtain ⟨W, hWW⟩ : ∃ W, wd (unats l0) = W := ⟨_, rfl⟩
 have hlt : ∀ x ∈ unats l0, x < 2 ^ q := wd_le.1 hwd
 rw [hWW] at hW hwd
 have d1 : decide ((q : Int) < 0) = false := decide_eq_false (by omega)
 have d2 : decide (64 < (q : Int)) = false := decide_eq_false (by omega)
 have d3 : decide ((q : Int) < (W : Int)) = false := decide_eq_false (by omega)
 have d4 : decide (q < W) = false := decide_eq_false (by omega)
 have d5 : decide (64 < q) = false := decide_eq_false (by omega)
 have HR := Aside0.mk hr0; have HC := Aside0.mk hc0; have HW := Aside0.mk hW; have HU := Aside0.mk hU; have HLT := Aside0.mk hlt
 clear hWW hr0 hc0 hW hU hlt hwd
 go_enter Try.func61, Try.ntmps61
 go_wp2_with fail
 refine (bits_Width.calls (l0.length + 2) A0 c0 l0 _ _ HR.out HC.out HW.out).mono ?_; rintro e w1 ⟨rfl, ⟨nd, rfl⟩⟩
 go_wp2_with fail
 have hnew : WR w ((w.drewN nd).alloc (.cells #[.slice none 0 0, .int .i64 0] 92)) w.heap.size (ints (wb (val (2 ^ q) ((unats l0).take 0)) (0 * q))) (0 * q) := by
  refine ⟨.slice none 0 0, ?_, Nat.le_refl _, ?_⟩
  ·rw [Nat.zero_mul]; exact heap_alloc_new (w.drewN nd) _
  ·rw [Nat.zero_mul]; exact Kd.R_nil _ _ _ _ _
 have hbw : Below w.heap.size w ((w.drewN nd).alloc (.cells #[.slice none 0 0, .int .i64 0] 92)) := below_alloc (pw_below_drewN (Below.refl _ _) _) _
 have HN := Aside0.mk hnew; have HB := Aside0.mk hbw
 clear hnew hbw
 go_loopg [25] l0.length (fun gq s25 wx => ∃ i : Nat, i ≤ l0.length ∧ gq = l0.length - i ∧ s25 = .int .i64 (i : Int) ∧ Aside0 (WR w wx w.heap.size (ints (wb (val (2 ^ q) ((unats l0).take i)) (i * q))) (i * q)) ∧ Aside0 (Below w.heap.size w wx))
 case atStart => exact ⟨0, by omega, by omega, rfl, HN, HB⟩
 case round =>
  clear HN HB
  obtain ⟨i, hi, rfl, rfl, HN, HB⟩ := hrel
  by_cases hlt : i < l0.length
  ·obtain ⟨g1, hg1⟩ : ∃ g1, l0.length - i = g1 + 1 := ⟨l0.length - i - 1, by omega⟩
   have k2 : decide ((i : Int) < (l0.length : Int)) = true := decide_eq_true (by omega)
   have k2' : decide (i < l0.length) = true := decide_eq_true hlt
   obtain ⟨ad, hA, hcell⟩ := Kd.at_int HR.out (i : Int) (by omega) (by omega)
   obtain ⟨hx1, hx2⟩ := rd_unats HU.out hlt
   have htk := take_unats (l := l0) hlt
   have hxq : (unats l0).getD i 0 < 2 ^ q := by
    have hil : i < (unats l0).length := by rw [unats_len]; exact hlt
    rw [List.getD_eq_getElem?_getD, List.getElem?_eq_getElem hil]; exact HLT.out _ (List.getElem_mem hil)
   have hvn := val_next (l := unats l0) (i := i) (by rw [unats_len]; omega) hxq
   have hsm := val_take_lt (l := unats l0) (i := i) HLT.out (by rw [unats_len]; omega)
   rw [hx1, Int.toNat_natCast] at hcell
   rw [← htk] at hvn
   cases hA
   replace hcell := (HB.out.cell (World.block_lt_of_cell? w _ hcell)).trans hcell
   obtain ⟨x, hxx⟩ : ∃ x, (unats l0).getD i 0 = x := ⟨_, rfl⟩
   rw [hxx] at hcell hx2 hvn
   have i1 : (0 : Int) ≤ (i : Int) := by omega
   have i2 : (i : Int) < (l0.length : Int) := by omega
   replace i1 := eq_true i1; replace i2 := eq_true i2
   have hmul : i * q + q = (i + 1) * q := by rw [Nat.succ_mul]
   have hbnd : i * q + q ≤ 1125899906842560 := by
    have : (i + 1) * q ≤ 17592186043904 * 64 := Nat.mul_le_mul (by omega) hq
    omega
   have HV := Aside0.mk hvn; have HS := Aside0.mk hsm; have HM := Aside0.mk hmul; have HBN := Aside0.mk hbnd; have HX := Aside0.mk hx2
   clear hvn hsm hmul hbnd hx1 hxx hxq htk hx2
   have HLT2 := Aside0.mk hlt; clear hlt
   go_wp2_with fail
   refine (put_calls (w0 := w) x q HS.out HX.out hq HBN.out HN.out HB.out).mono ?_; rintro e w2 ⟨rfl, hw2, hb2⟩
   rw [HV.out, HM.out] at hw2
   have HN2 := Aside0.mk hw2; have HB2 := Aside0.mk hb2
   clear hw2 hb2 HN HB
   go_wp2
   go_roundg g1
   case measure => omega
   case rel => exact ⟨i + 1, by have := HLT2.out; omega, by omega, by go_num, HN2, HB2⟩
  ·have e : i = l0.length := by omega
   have k2 : decide ((i : Int) < (l0.length : Int)) = false := decide_eq_false (by omega)
   have k2' : decide (i < l0.length) = false := decide_eq_false hlt
   obtain ⟨v, h1, h2, ho⟩ := HN.out
   have hcv := own_string (P := Try.prog) Try.underlying38 Try.underlying5 Try.underlying9 (Kd.own_of_R ho)
   have c0 : wr.cell? ⟨w.heap.size, 0, none⟩ = some v := (blk_cell h1 0).trans rfl
   have HE := Aside0.mk e
   clear hlt e h1 h2 ho hi
   go_wp2
   go_ret2
   refine ⟨?_, HB.out⟩
   have e := HE.out
   subst e
   rw [pk_wb, unats_len, List.take_of_length_le (by rw [unats_len]; exact Nat.le_refl _)]
   rfl
def bits_Pack.f (l0 : List Int) (a1 : Int) : Option (ByteArray × Int) :=
 if l0.length ≤ 17592186043904 ∧ U64 l0 then some (if a1 < 0 ∨ 64 < a1 then (⟨#[]⟩, 1) else if ((wd (unats l0) : Nat) : Int) ≤ a1 then (strOfNums (ints (pk a1.toNat (unats l0))), 0) else (⟨#[]⟩, 4)) else none
theorem bits_Pack.calls (A0 : Option Addr) (c0 : Nat) (l0 : List Int) (a1 : Int) (r1 : ByteArray) (r2 : Int) (w : World) (hr0 : Kd.C (Kd.int .u64) w A0 l0.length l0) (hc0 : l0.length ≤ c0) (h : bits_Pack.f l0 a1 = some (r1, r2)) :
  Calls Try.prog 61 #[.slice A0 l0.length c0, .int .i64 a1] w fun e w' => e = .returned (.tuple #[.string r1, .int .i64 r2]) ∧ Below w.heap.size w w' := by
 unfold bits_Pack.f at h
 split at h
 ·rename_i hU
  obtain ⟨hl, hU⟩ := hU
  have h := Option.some.inj h
  by_cases c : a1 < 0 ∨ 64 < a1
  ·rw [if_pos c] at h
   injection h with h1 h2
   subst h1 h2
   exact bits_Pack.w1 A0 c0 l0 a1 w c
  ·rw [if_neg c] at h
   obtain ⟨q, rfl⟩ : ∃ q : Nat, a1 = (q : Int) := ⟨a1.toNat, by omega⟩
   by_cases c2 : ((wd (unats l0) : Nat) : Int) ≤ (q : Int)
   ·rw [if_pos c2, Int.toNat_natCast] at h
    injection h with h1 h2
    subst h1 h2
    exact bits_Pack.w3 A0 c0 l0 q w hr0 hc0 (by omega) hU hl (by omega)
   ·rw [if_neg c2] at h
    injection h with h1 h2
    subst h1 h2
    exact bits_Pack.w2 A0 c0 l0 q w hr0 hc0 (by omega) (by omega) (l0.length + 2) _ (bits_Pack.wid (by omega) hU (by omega)) (by omega)
 ·exact absurd h (by simp)
end Go.Proofs.Ytgeddoklmcjdcaa.G
namespace Go.Proofs.Ytgeddoklmcjdcaa.G
open Go.RowKit Go.Proofs.YtgeddoklmcjdcaaQ Go.Proofs.YtgeddoklmcjdcaaW.PrintWords Go.Proofs.YtgeddoklmcjdcaaW.PrintLast Go.Proofs.YtgeddoklmcjdcaaW.PrintMore
attribute [local go_sem] max2_int min2_int max_two min_two max_three min_three max_four min_four   -- for this text's walks alone
set_option linter.unusedVariables false
set_option linter.unusedSimpArgs false
theorem bits_Unpack.fits {s : ByteArray} {m : Nat} (hm : m ≤ 4194304) : bits_fits.f s (m : Int) = some (fitE s m) := by
 have e1 : wrap64 ((m : Int) + 7) = ((m + 7 : Nat) : Int) := by rw [w64 (by omega) (by omega)]; omega
 have e2 : Int.tdiv ((m + 7 : Nat) : Int) 8 = ((need m : Nat) : Int) := by rw [Int.tdiv_eq_ediv_of_nonneg (by omega)]; unfold need; omega
 have hnl : need m ≤ 4194304 := by unfold need; omega
 have e3 : wrap64 ((need m : Nat) : Int) = ((need m : Nat) : Int) := w64 (by omega) (by omega)
 have e4 : Int.tmod (m : Int) 8 = ((m % 8 : Nat) : Int) := by rw [Int.tmod_eq_emod_of_nonneg (by omega)]; omega
 unfold bits_fits.f fitE
 rw [e1, e2, e3, e4]
 by_cases c1 : s.size < need m
 ·rw [if_pos (by omega), if_pos c1]
 ·rw [if_neg (by omega), if_neg c1]
  by_cases c2 : need m < s.size
  ·rw [if_pos (by omega), if_pos c2]
  ·have hs : s.size = need m := by omega
   rw [if_neg (by omega), if_neg c2]
   by_cases c3 : m % 8 = 0
   ·rw [if_pos (by omega), if_pos (num_whole hs c3)]
   ·have hn1 : 1 ≤ need m := by unfold need; omega
    have e5 : wrap64 (((need m : Nat) : Int) - 1) = ((need m - 1 : Nat) : Int) := by rw [w64 (by omega) (by omega)]; omega
    have e6 : bt s ((need m - 1 : Nat) : Int) = ((byt s (need m - 1) : Nat) : Int) := by
     have h1 := byt_at s (need m - 1) (by omega)
     have h2 := bt_at s ((need m - 1 : Nat) : Int) (by rw [Int.toNat_natCast]; omega)
     rw [← h2, ← h1]; rfl
    have e7 : shr .u8 ((byt s (need m - 1) : Nat) : Int) ((m % 8 : Nat) : Int) = ((byt s (need m - 1) / 2 ^ (m % 8) : Nat) : Int) := by
     unfold shr
     rw [Int.toNat_natCast, Nat.min_eq_left (show m % 8 ≤ IntKind.u8.bits by show m % 8 ≤ 8; omega)]
     simp
    rw [if_neg (by omega), e5, if_pos (by omega), if_pos (by omega), if_pos (by omega), e6, e7]
    by_cases c4 : byt s (need m - 1) / 2 ^ (m % 8) = 0
    ·rw [if_pos (by omega), if_pos ((num_top hs c3).2 c4)]
    ·rw [if_neg (by omega), if_neg (fun h => c4 ((num_top hs c3).1 h))]
set_option maxHeartbeats 1000000 in
set_option maxRecDepth 100000 in
theorem bits_Unpack.w1 (a0 : ByteArray) (a1 a2 : Int) (w : World) (b1 b2 b3 b4 : Bool) (h1 : decide (a2 < 0) = b1) (h2 : decide (64 < a2) = b2) (h3 : decide (a1 < 0) = b3) (h4 : decide (65536 < a1) = b4) (h : (b1 || b2 || b3 || b4) = true) :
  Calls Try.prog 63 #[.string a0, .int .i64 a1, .int .i64 a2] w fun e w' => e = .returned (.tuple #[.slice none 0 0, .int .i64 1]) ∧ Below w.heap.size w w' := by
 cases b1
 ·cases b2
  ·cases b3
   ·cases b4
    ·exact absurd h (by decide)
    ·clear h
     go_enter Try.func63, Try.ntmps63
     go_wp2
     go_ret2
     exact ⟨rfl, Below.refl _ _⟩
   ·clear h
    go_enter Try.func63, Try.ntmps63
    go_wp2
    go_ret2
    exact ⟨rfl, Below.refl _ _⟩
  ·clear h
   go_enter Try.func63, Try.ntmps63
   go_wp2
   go_ret2
   exact ⟨rfl, Below.refl _ _⟩
 ·clear h
  go_enter Try.func63, Try.ntmps63
  go_wp2
  go_ret2
  exact ⟨rfl, Below.refl _ _⟩
set_option maxHeartbeats 1000000 in
set_option maxRecDepth 100000 in
theorem bits_Unpack.w2 (a0 : ByteArray) (n q : Nat) (w : World) (hn : n ≤ 65536) (hq : q ≤ 64) (E : Int) (hE : fitE a0 (n * q) = E) (h0 : E ≠ 0) :
  Calls Try.prog 63 #[.string a0, .int .i64 (n : Int), .int .i64 (q : Int)] w fun e w' => e = .returned (.tuple #[.slice none 0 0, .int .i64 E]) ∧ Below w.heap.size w w' := by
 have hm : n * q ≤ 4194304 := Nat.le_trans (Nat.mul_le_mul hn hq) (by decide)
 have hf := bits_Unpack.fits (s := a0) hm
 rw [hE] at hf
 have d1 : decide ((q : Int) < 0) = false := decide_eq_false (by omega)
 have d2 : decide (64 < (q : Int)) = false := decide_eq_false (by omega)
 have d3 : decide ((n : Int) < 0) = false := decide_eq_false (by omega)
 have d4 : decide (65536 < (n : Int)) = false := decide_eq_false (by omega)
 have d5 : (E != 0) = true := bne_iff_ne.mpr h0
 have d6 : (E == 0) = false := beq_eq_false_iff_ne.mpr h0
 have d7 : decide (64 < q) = false := decide_eq_false (by omega)
 have d8 : decide (65536 < n) = false := decide_eq_false (by omega)
 have e1 : (n : Int) * (q : Int) = ((n * q : Nat) : Int) := (Int.natCast_mul n q).symm
 have e2 : wrap64 ((n * q : Nat) : Int) = ((n * q : Nat) : Int) := w64 (by omega) (by omega)
 have e3 : IntKind.i64.wrap ((n : Int) * (q : Int)) = ((n * q : Nat) : Int) := by rw [e1, i64_w]; exact e2
 obtain ⟨m, hmm⟩ : ∃ m, n * q = m := ⟨_, rfl⟩
 rw [hmm] at e1 e2 e3 hf
 have HF := Aside0.mk hf
 clear hf hE h0 hm hmm
 go_enter Try.func63, Try.ntmps63
 go_wp2_with fail
 refine (bits_fits.calls a0 (m : Int) E _ HF.out).mono ?_; rintro e w1 ⟨rfl, ⟨nd, rfl⟩⟩
 go_wp2
 go_ret2
 exact ⟨rfl, pw_below_drewN (Below.refl _ _) _⟩
set_option maxHeartbeats 4000000 in
set_option maxRecDepth 100000 in
theorem bits_Unpack.w3 (a0 : ByteArray) (n q : Nat) (w : World) (hS : a0.size ≤ 140737488355328) (hn : n ≤ 65536) (hq : q ≤ 64) (hE : fitE a0 (n * q) = 0) :
  Calls Try.prog 63 #[.string a0, .int .i64 (n : Int), .int .i64 (q : Int)] w fun e w' => ∃ v0_ : Value, e = .returned (.tuple #[v0_, .int .i64 0]) ∧ Kd.R (Kd.int .u64) 44 w' w.heap.size (fun _ => True) v0_ (ints (dig (2 ^ q) n (num a0))) ∧ Below w.heap.size w w' := by
 have hm : n * q ≤ 4194304 := Nat.le_trans (Nat.mul_le_mul hn hq) (by decide)
 have hf := bits_Unpack.fits (s := a0) hm
 have hsz : a0.size = need (n * q) := by
  unfold fitE at hE
  split at hE
  ·exact absurd hE (by decide)
  ·split at hE
   ·exact absurd hE (by decide)
   ·omega
 have hnd := need_le (n * q)
 rw [hE] at hf
 have d1 : decide ((q : Int) < 0) = false := decide_eq_false (by omega)
 have d2 : decide (64 < (q : Int)) = false := decide_eq_false (by omega)
 have d3 : decide ((n : Int) < 0) = false := decide_eq_false (by omega)
 have d4 : decide (65536 < (n : Int)) = false := decide_eq_false (by omega)
 have d7 : decide (64 < q) = false := decide_eq_false (by omega)
 have d8 : decide (65536 < n) = false := decide_eq_false (by omega)
 have e1 : (n : Int) * (q : Int) = ((n * q : Nat) : Int) := (Int.natCast_mul n q).symm
 have e2 : wrap64 ((n * q : Nat) : Int) = ((n * q : Nat) : Int) := w64 (by omega) (by omega)
 have e3 : IntKind.i64.wrap ((n : Int) * (q : Int)) = ((n * q : Nat) : Int) := by rw [e1, i64_w]; exact e2
 have HNQ := Aside0.mk hnd
 rw [← hsz] at HNQ
 obtain ⟨m, hmm⟩ : ∃ m, n * q = m := ⟨_, rfl⟩
 rw [hmm] at e1 e2 e3 hf
 have HF := Aside0.mk hf
 clear hf hE hm hmm hsz hnd
 go_enter Try.func63, Try.ntmps63
 go_wp2_with fail
 refine (bits_fits.calls a0 (m : Int) 0 _ HF.out).mono ?_; rintro e w1 ⟨rfl, ⟨nd, rfl⟩⟩
 clear e1 e2 e3
 go_wp2_with fail
 have hnew : RD w ((w.drewN nd).alloc (.cells #[.string a0, .int .i64 0] 97)) w.heap.size a0 (0 * q) := by
  rw [Nat.zero_mul]
  exact ⟨heap_alloc_new (w.drewN nd) _, Nat.le_refl _⟩
 have hbw : Below w.heap.size w ((w.drewN nd).alloc (.cells #[.string a0, .int .i64 0] 97)) := below_alloc (pw_below_drewN (Below.refl _ _) _) _
 have HN := Aside0.mk hnew; have HB := Aside0.mk hbw
 clear hnew hbw
 have hin : (Try.prog.info? 44).map (fun i => (i.zero, i.size, i.bytes)) = some (some (.int .u64 0), 1, 8) := by kernel_rfl
 have HI := Aside0.mk hin; clear hin
 go_loopg [10, 37] n (fun gq s10 s37 wx => ∃ (i : Nat) (v : Value), i ≤ n ∧ gq = n - i ∧ s10 = v ∧ s37 = .int .i64 (i : Int) ∧ Aside0 (Kd.R (Kd.int .u64) 44 wx w.heap.size (fun k => k ≠ w.heap.size) v (ints (dig (2 ^ q) i (num a0)))) ∧ Aside0 (RD w wx w.heap.size a0 (i * q)) ∧ Aside0 (Below w.heap.size w wx))
 case atStart => exact ⟨0, _, by omega, by omega, rfl, rfl, ⟨Kd.R_nil _ _ _ _ _⟩, HN, HB⟩
 case round =>
  clear HN HB
  obtain ⟨i, v, hi, rfl, rfl, rfl, HO, HN, HB⟩ := hrel
  by_cases hlt : i < n
  ·obtain ⟨g1, hg1⟩ : ∃ g1, n - i = g1 + 1 := ⟨n - i - 1, by omega⟩
   have k2 : decide ((i : Int) < (n : Int)) = true := decide_eq_true (by omega)
   have k2' : decide (i < n) = true := decide_eq_true hlt
   have hmul : i * q + q = (i + 1) * q := by rw [Nat.succ_mul]
   have hle : (i + 1) * q ≤ n * q := Nat.mul_le_mul_right _ hlt
   have hbits : i * q + q ≤ 8 * a0.size := by have := HNQ.out; omega
   have hdig := dig_succ (2 ^ q) i (num a0)
   rw [← Nat.pow_mul, Nat.mul_comm q i] at hdig
   have HM := Aside0.mk hmul; have HBI := Aside0.mk hbits; have HD := Aside0.mk hdig; have HLT2 := Aside0.mk hlt
   clear hmul hle hbits hdig hlt
   go_wp2_with fail
   refine (get_calls (w0 := w) (i * q) q hS hq HBI.out HN.out HB.out).mono ?_; rintro e w2 ⟨rfl, hr2, hb2, hk2⟩
   rw [HM.out] at hr2
   obtain ⟨x, hx⟩ : ∃ x, num a0 / 2 ^ (i * q) % 2 ^ q = x := ⟨_, rfl⟩
   rw [hx] at HD ⊢
   have HO2 := Aside0.mk (Kd.R_keep HO.out hk2 (fun _ hk => hk))
   have HN2 := Aside0.mk hr2; have HB2 := Aside0.mk hb2
   clear hx hr2 hb2 hk2 HO HN HB
   go_wp2_with ((with_reducible refine gate_builtin (b := .append) (xs := #[.tmp 39, .tmp 43]) rfl ?_); at_builtin; refine Kd.R_append (Kd.int .u64) (w0 := w) w.heap.size rfl (.tmp 39) (.tmp 43) 59 44 (.int .u64 0) 8 rfl Try.underlying59 HI.out rfl (by decide) (by omega) u10 (ints (dig (2 ^ q) i (num a0))) (x : Int) [.int .u64 (x : Int)] (fun k => k ≠ w.heap.size) (fun _ => False) rfl rfl ?aP (fun _ hk => hk.elim) ?aF ?aO ?aB ?aS ?aL ?_; (case aP => exact rfl); (case aB => exact HB2.out); (case aF => exact fun k hk e => by have := blk_lt HN2.out.1; omega); (case aO => exact HO2.out); (case aS => exact HB2.out.size); (case aL => rw [ints_len, dig_len]; omega); intro v5 w5 ho hb hg hat; have HO5 := Aside0.mk ho; have HB5 := Aside0.mk hb; have HN5 := Aside0.mk (RD.keep HN2.out hg (Kd.R_away HO2.out (fun _ hk => hk))); clear ho hb hg hat)
   go_roundg g1
   case measure => omega
   case rel =>
    have h := HO5.out
    rw [show ints (dig (2 ^ q) i (num a0)) ++ [(x : Int)] = ints (dig (2 ^ q) (i + 1) (num a0)) by rw [HD.out, ints_app]; rfl] at h
    exact ⟨i + 1, _, by have := HLT2.out; omega, by omega, rfl, by go_num, ⟨h⟩, HN5, HB5⟩
  ·have e : i = n := by omega
   have k2 : decide ((i : Int) < (n : Int)) = false := decide_eq_false (by omega)
   have k2' : decide (i < n) = false := decide_eq_false hlt
   subst e
   clear hlt hi
   go_wp2
   go_ret2
   exact ⟨u10, rfl, Kd.R_mono HO.out (fun _ _ => trivial), HB.out⟩
def bits_Unpack.f (a0 : ByteArray) (a1 a2 : Int) : Option (List Int × Int) :=
 if a0.size ≤ 140737488355328 then some (if a2 < 0 ∨ 64 < a2 ∨ a1 < 0 ∨ 65536 < a1 then ([], 1) else if fitE a0 (a1.toNat * a2.toNat) = 0 then (ints (dig (2 ^ a2.toNat) a1.toNat (num a0)), 0) else ([], fitE a0 (a1.toNat * a2.toNat))) else none
theorem bits_Unpack.calls (a0 : ByteArray) (a1 : Int) (a2 : Int) (r1 : List Int) (r2 : Int) (w : World) (h : bits_Unpack.f a0 a1 a2 = some (r1, r2)) :
  Calls Try.prog 63 #[.string a0, .int .i64 a1, .int .i64 a2] w fun e w' => ∃ v0_ : Value, e = .returned (.tuple #[v0_, .int .i64 r2]) ∧ Kd.R (Kd.int .u64) 44 w' w.heap.size (fun _ => True) v0_ r1 ∧ Below w.heap.size w w' := by
 unfold bits_Unpack.f at h
 split at h
 ·rename_i hS
  have h := Option.some.inj h
  by_cases c : a2 < 0 ∨ 64 < a2 ∨ a1 < 0 ∨ 65536 < a1
  ·rw [if_pos c] at h
   injection h with h1 h2
   subst h1 h2
   refine (bits_Unpack.w1 a0 a1 a2 w _ _ _ _ rfl rfl rfl rfl ?_).mono ?_
   ·rcases c with c | c | c | c <;> simp [c]
   ·rintro e w' ⟨rfl, hb⟩
    exact ⟨_, rfl, Kd.R_nil _ _ _ _ _, hb⟩
  ·rw [if_neg c] at h
   obtain ⟨q, rfl⟩ : ∃ q : Nat, a2 = (q : Int) := ⟨a2.toNat, by omega⟩
   obtain ⟨n, rfl⟩ : ∃ n : Nat, a1 = (n : Int) := ⟨a1.toNat, by omega⟩
   rw [Int.toNat_natCast, Int.toNat_natCast] at h
   by_cases c2 : fitE a0 (n * q) = 0
   ·rw [if_pos c2] at h
    injection h with h1 h2
    subst h1 h2
    exact bits_Unpack.w3 a0 n q w hS (by omega) (by omega) c2
   ·rw [if_neg c2] at h
    injection h with h1 h2
    subst h1 h2
    refine (bits_Unpack.w2 a0 n q w (by omega) (by omega) _ rfl c2).mono ?_
    rintro e w' ⟨rfl, hb⟩
    exact ⟨_, rfl, Kd.R_nil _ _ _ _ _, hb⟩
 ·exact absurd h (by simp)
end Go.Proofs.Ytgeddoklmcjdcaa.G
