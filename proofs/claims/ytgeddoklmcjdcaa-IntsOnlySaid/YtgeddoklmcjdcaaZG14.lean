import Derived.Test.YtgeddoklmcjdcaaZQA
import Derived.Test.YtgeddoklmcjdcaaZG3
namespace Go.Proofs.Ytgeddoklmcjdcaa.G
open Go.RowKit Go.Proofs.YtgeddoklmcjdcaaQ Go.Proofs.YtgeddoklmcjdcaaW.PrintWords Go.Proofs.YtgeddoklmcjdcaaW.PrintLast Go.Proofs.YtgeddoklmcjdcaaW.PrintMore
attribute [local go_sem] max2_int min2_int max_two min_two max_three min_three max_four min_four   -- for this text's walks alone
set_option linter.unusedVariables false
set_option linter.unusedSimpArgs false
section
variable {P : Program} {ops : Array Oper} {Q : Exit → Act → World → Prop}
theorem goesV_ {oi : Oper} {N : Option Tmp} {a : Act} {w : World} {K : Act → World → Prop} {f : FuncId} {fn : Func} {o : Operand} {ao : Array Operand} {ts : Array TypeId} (hf : P.funcs[f]? = some fn) (hname : (fn.name == "runtime.NumGoroutine") = false) (hb : fn.body.isSome = true) (args : Array Value)
  (hw : Region.wanted oi (yielded ops a.tmps) = true) (hN : oi.dst = N) (hop : oi.op = .call { callee := .value o, args := ao, argTypes := ts }) (ho : a.eval o = .func (.func f) #[] #[]) (hargs : ao.map a.eval = args)
  (h : Calls P f args w fun e w' => ∃ v, e = .returned v ∧ K (a.put N v) w') : if Region.wanted oi (yielded ops a.tmps) = true then Oper.wp P oi a w K Q else K (a.put N undef) w := by
 refine call_ f args hw hN ?_ h
 have he := enters_ hf hname hb args w
 unfold execOp
 simp [hop, resolve, Deferred.ofValue, invoke, ho, hargs, he]
end
def ints_With.tab : Array Value := #[.func (.func 34) #[] #[], .func (.func 35) #[] #[], .func (.func 36) #[] #[], .func (.func 37) #[] #[], .func (.func 38) #[] #[], .func (.func 39) #[] #[], .func (.func 40) #[] #[], .func (.func 41) #[] #[]]
def ints_With.Tab (W : World) (b : Nat) : Prop := W.heap[b]? = some (.cells ints_With.tab 42 (0, 0))
theorem ints_With.codecs (w : World) : Calls Try.prog 17 #[] w fun e w' => ∃ b, e = .returned (.slice (some ⟨b, 0, none⟩) 4 4) ∧ ints_With.Tab w' b ∧ w.heap.size ≤ b ∧ Below w.heap.size w w' := by
 go_enter Try.func17, Try.ntmps17
 go_wp2
 go_ret
 exact ⟨w.heap.size, rfl, heap_alloc_new w _, Nat.le_refl _, below_alloc (Below.refl _ _) _⟩
def ints_With.wr (k : Nat) (a1 : Int) (b l : List Int) : Option (List Int) := if a1 = 0 then ints_writePlain.f k b l else if a1 = 1 then ints_writeDelta.f k b l else if a1 = 2 then ints_writeRuns.f k b l else ints_writePacked.f k b l
def ints_With.f (k : Nat) (l0 : List Int) (a1 : Int) : Option (ByteArray × Int) := if a1 < 0 ∨ 4 ≤ a1 then some (⟨#[]⟩, 1) else if 65536 < l0.length then some (⟨#[]⟩, 3) else (tally_Uint.f k [a1] (l0.length : Int)).bind fun b => (ints_With.wr k a1 b l0).bind fun r => some (strOfNums r, 0)
theorem ints_With.mono : ∀ a0 a1 k, LeO (ints_With.f k a0 a1) (ints_With.f (k + 1) a0 a1) := by
 intro a0 a1 k
 unfold ints_With.f ints_With.wr
 refine LeO.ite (LeO.refl _) (LeO.ite (LeO.refl _) (LeO.bind (tally_Uint.mono _ _ k) (fun _ => LeO.bind ?_ (fun _ => LeO.refl _))))
 exact LeO.ite (ints_writePlain.mono _ _ k) (LeO.ite (ints_writeDelta.mono _ _ k) (LeO.ite (ints_writeRuns.mono _ _ k) (ints_writePacked.mono _ _ k)))
def ints_With.ok (w : World) (b : Nat) : Nat → Prop := fun k => w.heap.size ≤ k ∧ k ≠ b
theorem ints_With.row {w W : World} {b n : Nat} {ok : Nat → Prop} {v : Value} {l : List Int} (h : Kd.R (Kd.int .u8) 5 W n ok v l) (hn : w.heap.size ≤ n) (hb : ∀ k, v.ownBlock = some k → k ≠ b) : Kd.R (Kd.int .u8) 5 W w.heap.size (ints_With.ok w b) v l :=
 Kd.R_of_own (own_less (Kd.own_of_R h) hn) (fun k hk => ⟨Nat.le_trans hn (own_base (Kd.own_of_R h) k hk), hb k hk⟩)
theorem ints_With.arg {w W : World} {n : Nat} {A : Option Addr} {l : List Int} (h : Kd.C (Kd.int .i64) w A n l) (hb : Below w.heap.size w W) : Kd.F (Kd.int .i64) W (fun k => k < w.heap.size) A n l := Kd.F_below (Kd.C_F (Kd.heap_int _) h) hb
set_option maxHeartbeats 4000000 in
set_option maxRecDepth 100000 in
theorem ints_With.w1 (A0 : Option Addr) (c0 : Nat) (l0 : List Int) (a1 : Int) (w : World) (h : a1 < 0 ∨ 4 ≤ a1) :
  Calls Try.prog 10 #[.slice A0 l0.length c0, .int .i64 a1] w fun e w' => e = .returned (.tuple #[.string ⟨#[]⟩, .int .i64 1]) ∧ Below w.heap.size w w' := by
 by_cases c : a1 < 0
 ·have d1 : decide (a1 < 0) = true := decide_eq_true c
  clear h c
  go_enter Try.func10, Try.ntmps10
  go_wp2_with fail
  refine (ints_With.codecs _).mono ?_; rintro e w1 ⟨b, rfl, ht, hle, hb⟩
  have HB := Aside0.mk hb; clear ht hle hb
  go_wp2
  go_ret2
  exact ⟨rfl, HB.out⟩
 ·have d1 : decide (a1 < 0) = false := decide_eq_false c
  have d2 : decide (4 ≤ a1) = true := decide_eq_true (by omega)
  clear h c
  go_enter Try.func10, Try.ntmps10
  go_wp2_with fail
  refine (ints_With.codecs _).mono ?_; rintro e w1 ⟨b, rfl, ht, hle, hb⟩
  have HB := Aside0.mk hb; clear ht hle hb
  go_wp2
  go_ret2
  exact ⟨rfl, HB.out⟩
set_option maxHeartbeats 4000000 in
set_option maxRecDepth 100000 in
theorem ints_With.w2 (A0 : Option Addr) (c0 : Nat) (l0 : List Int) (a1 : Int) (w : World) (h0 : 0 ≤ a1) (h1 : a1 < 4) (hl : 65536 < l0.length) :
  Calls Try.prog 10 #[.slice A0 l0.length c0, .int .i64 a1] w fun e w' => e = .returned (.tuple #[.string ⟨#[]⟩, .int .i64 3]) ∧ Below w.heap.size w w' := by
 have d1 : decide (a1 < 0) = false := decide_eq_false (by omega)
 have d2 : decide (4 ≤ a1) = false := decide_eq_false (by omega)
 have d3 : decide ((65536 : Int) < (l0.length : Int)) = true := decide_eq_true (by omega)
 have d4 : decide (65536 < l0.length) = true := decide_eq_true hl
 clear h0 h1 hl
 go_enter Try.func10, Try.ntmps10
 go_wp2_with fail
 refine (ints_With.codecs _).mono ?_; rintro e w1 ⟨b, rfl, ht, hle, hb⟩
 have HB := Aside0.mk hb; clear ht hle hb
 go_wp2
 go_ret2
 exact ⟨rfl, HB.out⟩
def ints_With.T6 : Bool × List (List Nat × List Nat) := (true, [([], []), ([], []), ([0, 1], [0, 1]), ([2], [2]), ([3], [3]), ([], []), ([5], [5]), ([6], [6]), ([], []), ([8], [8]), ([9], [9]), ([7, 10], [7, 10]), ([], []), ([4, 11, 12, 11], [4, 11, 12]), ([13], [13]), ([14, 13, 0, 1, 2, 3, 4, 5, 6, 7, 8, 9, 10, 11, 12, 13, 14], [14]), ([15, 0, 1, 2, 3, 4, 5, 6, 7, 8, 9, 10, 11, 12, 13, 14, 15], [])])
theorem ints_With.tab6 : rtab .any (opsOf Try.f10 6) = ints_With.T6 := by kernel_rfl
set_option maxHeartbeats 4000000 in
set_option maxRecDepth 100000 in
theorem ints_With.walk (k : Nat) (A0 : Option Addr) (c0 : Nat) (l0 : List Int) (j : Nat) (hj : j < 4) (hl : l0.length ≤ 65536) (F : FuncId) (fn : Func) (hf : Try.prog.funcs[F]? = some fn) (hname : (fn.name == "runtime.NumGoroutine") = false) (hbody : fn.body.isSome = true) (hF : ints_With.tab[j * 2]? = some (.func (.func F) #[] #[])) (bu r : List Int) (w : World) (hu : tally_Uint.f k [(j : Int)] (l0.length : Int) = some bu)
  (hh : ∀ (v2 : Value) (W : World) (b : Nat), Kd.R (Kd.int .u8) 5 W w.heap.size (ints_With.ok w b) v2 bu → Below w.heap.size w W → Calls Try.prog F #[v2, .slice A0 l0.length c0] W fun e w' => ∃ v0_ : Value, e = .returned v0_ ∧ Kd.R (Kd.int .u8) 5 w' w.heap.size (fun _ => True) v0_ r ∧ Below w.heap.size w w') :
  Calls Try.prog 10 #[.slice A0 l0.length c0, .int .i64 (j : Int)] w fun e w' => e = .returned (.tuple #[.string (strOfNums r), .int .i64 0]) ∧ Below w.heap.size w w' := by
 have d1 : decide ((j : Int) < 0) = false := decide_eq_false (by omega)
 have d2 : decide ((4 : Int) ≤ (j : Int)) = false := decide_eq_false (by omega)
 have d2' : decide (4 ≤ j) = false := decide_eq_false (by omega)
 have d3 : decide ((65536 : Int) < (l0.length : Int)) = false := decide_eq_false (by omega)
 have d4 : decide (65536 < l0.length) = false := decide_eq_false (by omega)
 have hw8 : IntKind.u8.wrap (j : Int) = (j : Int) := by simp [IntKind.wrap, IntKind.bits, IntKind.signed]; omega
 have hw64 : IntKind.u64.wrap (l0.length : Int) = (l0.length : Int) := by simp [IntKind.wrap, IntKind.bits, IntKind.signed]; omega
 have b0 : (0 : Int) ≤ (j : Int) := by omega
 have b1 : (j : Int) < 4 := by omega
 have b2 : (0 : Int) ≤ (l0.length : Int) := by omega
 have b3 : (l0.length : Int) ≤ 65536 := by omega
 have HU := Aside0.mk hu; have HF := Aside0.mk hF; have HH := Aside0.mk hh; have HJ := Aside0.mk hj; clear hu hF hh hl hj
 go_enter Try.func10, Try.ntmps10
 go_wp2_with fail
 refine (ints_With.codecs _).mono ?_; rintro e w1 ⟨b, rfl, ht, hle, hb⟩
 have HT := Aside0.mk ht; have HB := Aside0.mk hb; have HLE := Aside0.mk hle; clear ht hb hle
 go_wp2_with fail
 refine start_ (n := 17) (S := fun w' => True) (ds := []) #[false, false, false, false, false, false, false, false, false, false, false, false, false, false, false, false, false] (by kernel_rfl) rfl rfl trivial (fun hHeld => ?_)
 refine with_tab ints_With.tab6 (fun HT_ => ?_)
 replace HT : Aside0 (ints_With.Tab w1.drew b) := ⟨HT.out⟩
 replace HB := Aside0.mk (below_drew HB.out)
 generalize w1.drew = wr at HT HB hHeld ⊢
 refine pure_ (i := 0) (N := (some 21)) (v := ?_) (a' := ?_) #[true, false, false, false, false, false, false, false, false, false, false, false, false, false, false, false, false] rfl rfl (any_of HT_.out (by kernel_rfl)) (fun _ _ _ h => h) (Or.inl ⟨by rfl, ?_⟩) ?_ ?_
 rotate_left
 ·intro w'
  go_simp
  with_reducible rfl
 rotate_left
 ·simp only [Act.put, List.setIfInBounds_toArray, List.set_cons_zero, List.set_cons_succ, i64_w, i32_w]
  rfl
 refine pure_ (i := 1) (N := (some 22)) (v := ?_) (a' := ?_) #[true, true, false, false, false, false, false, false, false, false, false, false, false, false, false, false, false] rfl rfl (any_of HT_.out (by kernel_rfl)) (fun _ _ _ h => h) (Or.inl ⟨by rfl, ?_⟩) ?_ ?_
 rotate_left
 ·intro w'
  go_simp
  with_reducible rfl
 rotate_left
 ·simp only [Act.put, List.setIfInBounds_toArray, List.set_cons_zero, List.set_cons_succ, i64_w, i32_w]
  rfl
 refine pure_ (i := 2) (N := (some 23)) (v := ?_) (a' := ?_) #[true, true, true, false, false, false, false, false, false, false, false, false, false, false, false, false, false] rfl rfl (any_of HT_.out (by kernel_rfl)) (fun _ _ _ h => h) (Or.inl ⟨by rfl, ?_⟩) ?_ ?_
 rotate_left
 ·intro w'
  go_simp
  with_reducible rfl
 rotate_left
 ·simp only [Act.put, List.setIfInBounds_toArray, List.set_cons_zero, List.set_cons_succ, i64_w, i32_w]
  rfl
 refine pure_ (i := 3) (N := (some 24)) (v := ?_) (a' := ?_) #[true, true, true, true, false, false, false, false, false, false, false, false, false, false, false, false, false] rfl rfl (any_of HT_.out (by kernel_rfl)) (fun _ _ _ h => h) (Or.inl ⟨by rfl, ?_⟩) ?_ ?_
 rotate_left
 ·intro w'
  go_simp
  with_reducible rfl
 rotate_left
 ·simp only [Act.put, List.setIfInBounds_toArray, List.set_cons_zero, List.set_cons_succ, i64_w, i32_w]
  rfl
 refine pure_ (i := 5) (N := (some 26)) (v := ?_) (a' := ?_) #[true, true, true, true, false, true, false, false, false, false, false, false, false, false, false, false, false] rfl rfl (any_of HT_.out (by kernel_rfl)) (fun _ _ _ h => h) (Or.inl ⟨by rfl, ?_⟩) ?_ ?_
 rotate_left
 ·intro w'
  go_simp
  with_reducible rfl
 rotate_left
 ·simp only [Act.put, List.setIfInBounds_toArray, List.set_cons_zero, List.set_cons_succ, i64_w, i32_w]
  rfl
 refine pure_ (i := 6) (N := (some 27)) (v := ?_) (a' := ?_) #[true, true, true, true, false, true, true, false, false, false, false, false, false, false, false, false, false] rfl rfl (any_of HT_.out (by kernel_rfl)) (fun _ _ _ h => h) (Or.inl ⟨by rfl, ?_⟩) ?_ ?_
 rotate_left
 ·intro w'
  go_simp
  with_reducible rfl
 rotate_left
 ·simp only [Act.put, List.setIfInBounds_toArray, List.set_cons_zero, List.set_cons_succ, i64_w, i32_w]
  rfl
 refine pure_ (i := 8) (N := (some 29)) (v := ?_) (a' := ?_) #[true, true, true, true, false, true, true, false, true, false, false, false, false, false, false, false, false] rfl rfl (any_of HT_.out (by kernel_rfl)) (fun _ _ _ h => h) (Or.inl ⟨by rfl, ?_⟩) ?_ ?_
 rotate_left
 ·intro w'
  go_simp
  with_reducible rfl
 rotate_left
 ·simp only [Act.put, List.setIfInBounds_toArray, List.set_cons_zero, List.set_cons_succ, i64_w, i32_w]
  rfl
 refine pure_ (i := 9) (N := (some 30)) (v := ?_) (a' := ?_) #[true, true, true, true, false, true, true, false, true, true, false, false, false, false, false, false, false] rfl rfl (any_of HT_.out (by kernel_rfl)) (fun _ _ _ h => h) (Or.inl ⟨by rfl, ?_⟩) ?_ ?_
 rotate_left
 ·intro w'
  go_simp
  with_reducible rfl
 rotate_left
 ·simp only [Act.put, List.setIfInBounds_toArray, List.set_cons_zero, List.set_cons_succ, i64_w, i32_w]
  rfl
 refine pure_ (i := 10) (N := (some 31)) (v := ?_) (a' := ?_) #[true, true, true, true, false, true, true, false, true, true, true, false, false, false, false, false, false] rfl rfl (any_of HT_.out (by kernel_rfl)) (fun _ _ _ h => h) (Or.inl ⟨by rfl, ?_⟩) ?_ ?_
 rotate_left
 ·intro w'
  go_simp
  with_reducible rfl
 rotate_left
 ·simp only [Act.put, List.setIfInBounds_toArray, List.set_cons_zero, List.set_cons_succ, i64_w, i32_w]
  rfl
 refine pure_ (i := 12) (N := (some 33)) (v := ?_) (a' := ?_) #[true, true, true, true, false, true, true, false, true, true, true, false, true, false, false, false, false] rfl rfl (any_of HT_.out (by kernel_rfl)) (fun _ _ _ h => h) (Or.inl ⟨by rfl, ?_⟩) ?_ ?_
 rotate_left
 ·intro w'
  go_simp
  with_reducible rfl
 rotate_left
 ·simp only [Act.put, List.setIfInBounds_toArray, List.set_cons_zero, List.set_cons_succ, i64_w, i32_w]
  rfl
 refine two_ (i := 4) (j := 7) (Ni := (some 25)) (Nj := (some 28)) #[true, true, true, true, true, true, true, false, true, true, true, false, true, false, false, false, false] #[true, true, true, true, false, true, true, true, true, true, true, false, true, false, false, false, false] rfl rfl rfl rfl (two_of HT_.out (by kernel_rfl)) (by decide) (by decide) (fun K hK => ?_) (fun K hK => ?_)
 ·skip
  have q0 : wr.cell? ⟨b, j * 2, none⟩ = some (.func (.func F) #[] #[]) := (blk_cell HT.out (j * 2)).trans HF.out
  refine value_ (w1 := ?_) (v := ?_) (by rfl) rfl ?_ ?_
  rotate_left 2
  ·go_simp
   constructor
   ·rfl
   ·rfl
  clear q0
  refine hK.out _ _ trivial (fun hHeld => ?_)
  clear hK K
  refine norm_ (a' := ?_) ?_ ?_
  rotate_left
  ·show Act.put _ (some 25) _ = _
   simp only [Act.put, List.setIfInBounds_toArray, List.set_cons_zero, List.set_cons_succ, i64_w, i32_w]
   rfl
  refine one_ (i := 7) (N := (some 28)) #[true, true, true, true, true, true, true, true, true, true, true, false, true, false, false, false, false] rfl rfl (one_of HT_.out (by kernel_rfl)) (by decide) (fun K hK => ?_)
  refine Kd.R_lit_step (Kd.int .u8) _ 5 ?hg (N := 28) ?hd (xs := ([(j : Int)] : List Int)) (inner := [.int .u8 (j : Int)]) (ok := fun _ => True) (okp := fun _ => True) ?hr ?hp (fun _ hk => hk) trivial (Below.refl _ _) (Nat.le_refl _) (by simp) ?_; (case hd => rfl); (case hg => rfl); (case hr => first | (go_simp; done) | (go_simp; rfl)); (case hp => exact (Reps.one (show Kd.M (Kd.int .u8) _ _ _ (j : Int) [.int .u8 (j : Int)] from rfl) (Reps.none _ _)))
  intro v1 w1 ho hb hg_ hnew_
  clear hg_ hnew_
  have HO1 := Aside0.mk (ints_With.row (w := w) (b := b) ho HB.out.size (fun k hk he => by have := own_base (Kd.own_of_R ho) k hk; have := blk_lt HT.out; omega))
  replace HT : Aside0 (ints_With.Tab w1 b) := ⟨(hb.block _ (blk_lt HT.out)).trans HT.out⟩
  replace HB := Aside0.mk (below_then HB.out HB.out.size hb)
  clear ho hb hHeld
  skip
  refine hK.out _ _ trivial (fun hHeld => ?_)
  clear hK K
  refine norm_ (a' := ?_) ?_ ?_
  rotate_left
  ·show Act.put _ (some 28) _ = _
   simp only [Act.put, List.setIfInBounds_toArray, List.set_cons_zero, List.set_cons_succ, i64_w, i32_w]
   rfl
  refine one_ (i := 11) (N := (some 32)) #[true, true, true, true, true, true, true, true, true, true, true, true, true, false, false, false, false] rfl rfl (one_of HT_.out (by kernel_rfl)) (by decide) (fun K hK => ?_)
  refine goes_ Try.func18 (by kernel_rfl) rfl #[v1, .int .u64 (l0.length : Int)] (by rfl) rfl rfl (by first | rfl | (simp only [List.map_toArray, List.map_cons, List.map_nil]; rfl)) ?_
  refine (tally_Uint.calls k (ints_With.ok w b) v1 [(j : Int)] (l0.length : Int) bu w _ HB.out HO1.out HU.out).mono ?_
  rintro e w2 ⟨v2, rfl, ho, hb, hk⟩
  refine ⟨_, rfl, ?_⟩
  have HO2 := Aside0.mk (ints_With.row (w := w) (b := b) ho (Nat.le_refl _) (fun k hk he => (ho.1 k hk).elim (fun h => h.2 he) (fun h => by have := blk_lt HT.out; omega)))
  replace HT : Aside0 (ints_With.Tab w2 b) := ⟨blk_kept HT.out hk (fun h => h.2 rfl)⟩
  replace HB := Aside0.mk hb
  clear ho hb hk HO1 HU
  refine hK.out _ _ trivial (fun hHeld => ?_)
  clear hK K
  refine norm_ (a' := ?_) ?_ ?_
  rotate_left
  ·show Act.put _ (some 32) _ = _
   simp only [Act.put, List.setIfInBounds_toArray, List.set_cons_zero, List.set_cons_succ, i64_w, i32_w]
   rfl
  refine one_ (i := 13) (N := (some 34)) #[true, true, true, true, true, true, true, true, true, true, true, true, true, true, false, false, false] rfl rfl (one_of HT_.out (by kernel_rfl)) (by decide) (fun K hK => ?_)
  refine goesV_ hf hname hbody #[v2, .slice A0 l0.length c0] (by rfl) rfl rfl (by rfl) (by first | rfl | (simp only [List.map_toArray, List.map_cons, List.map_nil]; rfl)) ?_
  refine (HH.out v2 _ b HO2.out HB.out).mono ?_
  rintro e w3 ⟨v3, rfl, ho, hb⟩
  refine ⟨_, rfl, ?_⟩
  have HO3 := Aside0.mk ho; replace HB := Aside0.mk hb
  clear ho hb HO2 HT HF
  refine hK.out _ _ trivial (fun hHeld => ?_)
  clear hK K
  refine norm_ (a' := ?_) ?_ ?_
  rotate_left
  ·show Act.put _ (some 34) _ = _
   simp only [Act.put, List.setIfInBounds_toArray, List.set_cons_zero, List.set_cons_succ, i64_w, i32_w]
   rfl
  refine one_ (i := 14) (N := (some 35)) #[true, true, true, true, true, true, true, true, true, true, true, true, true, true, true, false, false] rfl rfl (one_of HT_.out (by kernel_rfl)) (by decide) (fun K hK => ?_)
  have hcv := own_string (P := Try.prog) Try.underlying38 Try.underlying5 Try.underlying9 (Kd.own_of_R HO3.out)
  refine value_ (w1 := ?_) (v := ?_) (by rfl) rfl ?_ ?_
  rotate_left 2
  ·go_simp
   constructor
   ·rfl
   ·rfl
  clear hcv
  refine hK.out _ _ trivial (fun hHeld => ?_)
  clear hK K
  refine norm_ (a' := ?_) ?_ ?_
  rotate_left
  ·show Act.put _ (some 35) _ = _
   simp only [Act.put, List.setIfInBounds_toArray, List.set_cons_zero, List.set_cons_succ, i64_w, i32_w]
   rfl
  refine pure_ (i := 15) (N := (some 4)) (v := ?_) (a' := ?_) #[true, true, true, true, true, true, true, true, true, true, true, true, true, true, true, true, false] rfl rfl (any_of HT_.out (by kernel_rfl)) (fun _ _ _ h => h) (Or.inl ⟨by rfl, ?_⟩) ?_ ?_
  rotate_left
  ·intro w'
   go_simp
   with_reducible rfl
  rotate_left
  ·simp only [Act.put, List.setIfInBounds_toArray, List.set_cons_zero, List.set_cons_succ, i64_w, i32_w]
   rfl
  refine pure_ (i := 16) (N := (some 5)) (v := ?_) (a' := ?_) #[true, true, true, true, true, true, true, true, true, true, true, true, true, true, true, true, true] rfl rfl (any_of HT_.out (by kernel_rfl)) (fun _ _ _ h => h) (Or.inl ⟨by rfl, ?_⟩) ?_ ?_
  rotate_left
  ·intro w'
   go_simp
   with_reducible rfl
  rotate_left
  ·simp only [Act.put, List.setIfInBounds_toArray, List.set_cons_zero, List.set_cons_succ, i64_w, i32_w]
   rfl
  refine done_ (done_of HT_.out (by kernel_rfl)) ?_
  go_wp2
  go_ret2
  exact ⟨rfl, HB.out⟩
 ·skip
  refine Kd.R_lit_step (Kd.int .u8) _ 5 ?hg (N := 28) ?hd (xs := ([(j : Int)] : List Int)) (inner := [.int .u8 (j : Int)]) (ok := fun _ => True) (okp := fun _ => True) ?hr ?hp (fun _ hk => hk) trivial (Below.refl _ _) (Nat.le_refl _) (by simp) ?_; (case hd => rfl); (case hg => rfl); (case hr => first | (go_simp; done) | (go_simp; rfl)); (case hp => exact (Reps.one (show Kd.M (Kd.int .u8) _ _ _ (j : Int) [.int .u8 (j : Int)] from rfl) (Reps.none _ _)))
  intro v1 w1 ho hb hg_ hnew_
  clear hg_ hnew_
  have HO1 := Aside0.mk (ints_With.row (w := w) (b := b) ho HB.out.size (fun k hk he => by have := own_base (Kd.own_of_R ho) k hk; have := blk_lt HT.out; omega))
  replace HT : Aside0 (ints_With.Tab w1 b) := ⟨(hb.block _ (blk_lt HT.out)).trans HT.out⟩
  replace HB := Aside0.mk (below_then HB.out HB.out.size hb)
  clear ho hb hHeld
  skip
  refine hK.out _ _ trivial (fun hHeld => ?_)
  clear hK K
  refine norm_ (a' := ?_) ?_ ?_
  rotate_left
  ·show Act.put _ (some 28) _ = _
   simp only [Act.put, List.setIfInBounds_toArray, List.set_cons_zero, List.set_cons_succ, i64_w, i32_w]
   rfl
  refine two_ (i := 4) (j := 11) (Ni := (some 25)) (Nj := (some 32)) #[true, true, true, true, true, true, true, true, true, true, true, false, true, false, false, false, false] #[true, true, true, true, false, true, true, true, true, true, true, true, true, false, false, false, false] rfl rfl rfl rfl (two_of HT_.out (by kernel_rfl)) (by decide) (by decide) (fun K hK => ?_) (fun K hK => ?_)
  ·skip
   have q0 : w1.cell? ⟨b, j * 2, none⟩ = some (.func (.func F) #[] #[]) := (blk_cell HT.out (j * 2)).trans HF.out
   refine value_ (w1 := ?_) (v := ?_) (by rfl) rfl ?_ ?_
   rotate_left 2
   ·go_simp
    constructor
    ·rfl
    ·rfl
   clear q0
   refine hK.out _ _ trivial (fun hHeld => ?_)
   clear hK K
   refine norm_ (a' := ?_) ?_ ?_
   rotate_left
   ·show Act.put _ (some 25) _ = _
    simp only [Act.put, List.setIfInBounds_toArray, List.set_cons_zero, List.set_cons_succ, i64_w, i32_w]
    rfl
   refine one_ (i := 11) (N := (some 32)) #[true, true, true, true, true, true, true, true, true, true, true, true, true, false, false, false, false] rfl rfl (one_of HT_.out (by kernel_rfl)) (by decide) (fun K hK => ?_)
   refine goes_ Try.func18 (by kernel_rfl) rfl #[v1, .int .u64 (l0.length : Int)] (by rfl) rfl rfl (by first | rfl | (simp only [List.map_toArray, List.map_cons, List.map_nil]; rfl)) ?_
   refine (tally_Uint.calls k (ints_With.ok w b) v1 [(j : Int)] (l0.length : Int) bu w _ HB.out HO1.out HU.out).mono ?_
   rintro e w2 ⟨v2, rfl, ho, hb, hk⟩
   refine ⟨_, rfl, ?_⟩
   have HO2 := Aside0.mk (ints_With.row (w := w) (b := b) ho (Nat.le_refl _) (fun k hk he => (ho.1 k hk).elim (fun h => h.2 he) (fun h => by have := blk_lt HT.out; omega)))
   replace HT : Aside0 (ints_With.Tab w2 b) := ⟨blk_kept HT.out hk (fun h => h.2 rfl)⟩
   replace HB := Aside0.mk hb
   clear ho hb hk HO1 HU
   refine hK.out _ _ trivial (fun hHeld => ?_)
   clear hK K
   refine norm_ (a' := ?_) ?_ ?_
   rotate_left
   ·show Act.put _ (some 32) _ = _
    simp only [Act.put, List.setIfInBounds_toArray, List.set_cons_zero, List.set_cons_succ, i64_w, i32_w]
    rfl
   refine one_ (i := 13) (N := (some 34)) #[true, true, true, true, true, true, true, true, true, true, true, true, true, true, false, false, false] rfl rfl (one_of HT_.out (by kernel_rfl)) (by decide) (fun K hK => ?_)
   refine goesV_ hf hname hbody #[v2, .slice A0 l0.length c0] (by rfl) rfl rfl (by rfl) (by first | rfl | (simp only [List.map_toArray, List.map_cons, List.map_nil]; rfl)) ?_
   refine (HH.out v2 _ b HO2.out HB.out).mono ?_
   rintro e w3 ⟨v3, rfl, ho, hb⟩
   refine ⟨_, rfl, ?_⟩
   have HO3 := Aside0.mk ho; replace HB := Aside0.mk hb
   clear ho hb HO2 HT HF
   refine hK.out _ _ trivial (fun hHeld => ?_)
   clear hK K
   refine norm_ (a' := ?_) ?_ ?_
   rotate_left
   ·show Act.put _ (some 34) _ = _
    simp only [Act.put, List.setIfInBounds_toArray, List.set_cons_zero, List.set_cons_succ, i64_w, i32_w]
    rfl
   refine one_ (i := 14) (N := (some 35)) #[true, true, true, true, true, true, true, true, true, true, true, true, true, true, true, false, false] rfl rfl (one_of HT_.out (by kernel_rfl)) (by decide) (fun K hK => ?_)
   have hcv := own_string (P := Try.prog) Try.underlying38 Try.underlying5 Try.underlying9 (Kd.own_of_R HO3.out)
   refine value_ (w1 := ?_) (v := ?_) (by rfl) rfl ?_ ?_
   rotate_left 2
   ·go_simp
    constructor
    ·rfl
    ·rfl
   clear hcv
   refine hK.out _ _ trivial (fun hHeld => ?_)
   clear hK K
   refine norm_ (a' := ?_) ?_ ?_
   rotate_left
   ·show Act.put _ (some 35) _ = _
    simp only [Act.put, List.setIfInBounds_toArray, List.set_cons_zero, List.set_cons_succ, i64_w, i32_w]
    rfl
   refine pure_ (i := 15) (N := (some 4)) (v := ?_) (a' := ?_) #[true, true, true, true, true, true, true, true, true, true, true, true, true, true, true, true, false] rfl rfl (any_of HT_.out (by kernel_rfl)) (fun _ _ _ h => h) (Or.inl ⟨by rfl, ?_⟩) ?_ ?_
   rotate_left
   ·intro w'
    go_simp
    with_reducible rfl
   rotate_left
   ·simp only [Act.put, List.setIfInBounds_toArray, List.set_cons_zero, List.set_cons_succ, i64_w, i32_w]
    rfl
   refine pure_ (i := 16) (N := (some 5)) (v := ?_) (a' := ?_) #[true, true, true, true, true, true, true, true, true, true, true, true, true, true, true, true, true] rfl rfl (any_of HT_.out (by kernel_rfl)) (fun _ _ _ h => h) (Or.inl ⟨by rfl, ?_⟩) ?_ ?_
   rotate_left
   ·intro w'
    go_simp
    with_reducible rfl
   rotate_left
   ·simp only [Act.put, List.setIfInBounds_toArray, List.set_cons_zero, List.set_cons_succ, i64_w, i32_w]
    rfl
   refine done_ (done_of HT_.out (by kernel_rfl)) ?_
   go_wp2
   go_ret2
   exact ⟨rfl, HB.out⟩
  ·skip
   refine goes_ Try.func18 (by kernel_rfl) rfl #[v1, .int .u64 (l0.length : Int)] (by rfl) rfl rfl (by first | rfl | (simp only [List.map_toArray, List.map_cons, List.map_nil]; rfl)) ?_
   refine (tally_Uint.calls k (ints_With.ok w b) v1 [(j : Int)] (l0.length : Int) bu w _ HB.out HO1.out HU.out).mono ?_
   rintro e w2 ⟨v2, rfl, ho, hb, hk⟩
   refine ⟨_, rfl, ?_⟩
   have HO2 := Aside0.mk (ints_With.row (w := w) (b := b) ho (Nat.le_refl _) (fun k hk he => (ho.1 k hk).elim (fun h => h.2 he) (fun h => by have := blk_lt HT.out; omega)))
   replace HT : Aside0 (ints_With.Tab w2 b) := ⟨blk_kept HT.out hk (fun h => h.2 rfl)⟩
   replace HB := Aside0.mk hb
   clear ho hb hk HO1 HU
   refine hK.out _ _ trivial (fun hHeld => ?_)
   clear hK K
   refine norm_ (a' := ?_) ?_ ?_
   rotate_left
   ·show Act.put _ (some 32) _ = _
    simp only [Act.put, List.setIfInBounds_toArray, List.set_cons_zero, List.set_cons_succ, i64_w, i32_w]
    rfl
   refine one_ (i := 4) (N := (some 25)) #[true, true, true, true, true, true, true, true, true, true, true, true, true, false, false, false, false] rfl rfl (one_of HT_.out (by kernel_rfl)) (by decide) (fun K hK => ?_)
   have q0 : w2.cell? ⟨b, j * 2, none⟩ = some (.func (.func F) #[] #[]) := (blk_cell HT.out (j * 2)).trans HF.out
   refine value_ (w1 := ?_) (v := ?_) (by rfl) rfl ?_ ?_
   rotate_left 2
   ·go_simp
    constructor
    ·rfl
    ·rfl
   clear q0
   refine hK.out _ _ trivial (fun hHeld => ?_)
   clear hK K
   refine norm_ (a' := ?_) ?_ ?_
   rotate_left
   ·show Act.put _ (some 25) _ = _
    simp only [Act.put, List.setIfInBounds_toArray, List.set_cons_zero, List.set_cons_succ, i64_w, i32_w]
    rfl
   refine one_ (i := 13) (N := (some 34)) #[true, true, true, true, true, true, true, true, true, true, true, true, true, true, false, false, false] rfl rfl (one_of HT_.out (by kernel_rfl)) (by decide) (fun K hK => ?_)
   refine goesV_ hf hname hbody #[v2, .slice A0 l0.length c0] (by rfl) rfl rfl (by rfl) (by first | rfl | (simp only [List.map_toArray, List.map_cons, List.map_nil]; rfl)) ?_
   refine (HH.out v2 _ b HO2.out HB.out).mono ?_
   rintro e w3 ⟨v3, rfl, ho, hb⟩
   refine ⟨_, rfl, ?_⟩
   have HO3 := Aside0.mk ho; replace HB := Aside0.mk hb
   clear ho hb HO2 HT HF
   refine hK.out _ _ trivial (fun hHeld => ?_)
   clear hK K
   refine norm_ (a' := ?_) ?_ ?_
   rotate_left
   ·show Act.put _ (some 34) _ = _
    simp only [Act.put, List.setIfInBounds_toArray, List.set_cons_zero, List.set_cons_succ, i64_w, i32_w]
    rfl
   refine one_ (i := 14) (N := (some 35)) #[true, true, true, true, true, true, true, true, true, true, true, true, true, true, true, false, false] rfl rfl (one_of HT_.out (by kernel_rfl)) (by decide) (fun K hK => ?_)
   have hcv := own_string (P := Try.prog) Try.underlying38 Try.underlying5 Try.underlying9 (Kd.own_of_R HO3.out)
   refine value_ (w1 := ?_) (v := ?_) (by rfl) rfl ?_ ?_
   rotate_left 2
   ·go_simp
    constructor
    ·rfl
    ·rfl
   clear hcv
   refine hK.out _ _ trivial (fun hHeld => ?_)
   clear hK K
   refine norm_ (a' := ?_) ?_ ?_
   rotate_left
   ·show Act.put _ (some 35) _ = _
    simp only [Act.put, List.setIfInBounds_toArray, List.set_cons_zero, List.set_cons_succ, i64_w, i32_w]
    rfl
   refine pure_ (i := 15) (N := (some 4)) (v := ?_) (a' := ?_) #[true, true, true, true, true, true, true, true, true, true, true, true, true, true, true, true, false] rfl rfl (any_of HT_.out (by kernel_rfl)) (fun _ _ _ h => h) (Or.inl ⟨by rfl, ?_⟩) ?_ ?_
   rotate_left
   ·intro w'
    go_simp
    with_reducible rfl
   rotate_left
   ·simp only [Act.put, List.setIfInBounds_toArray, List.set_cons_zero, List.set_cons_succ, i64_w, i32_w]
    rfl
   refine pure_ (i := 16) (N := (some 5)) (v := ?_) (a' := ?_) #[true, true, true, true, true, true, true, true, true, true, true, true, true, true, true, true, true] rfl rfl (any_of HT_.out (by kernel_rfl)) (fun _ _ _ h => h) (Or.inl ⟨by rfl, ?_⟩) ?_ ?_
   rotate_left
   ·intro w'
    go_simp
    with_reducible rfl
   rotate_left
   ·simp only [Act.put, List.setIfInBounds_toArray, List.set_cons_zero, List.set_cons_succ, i64_w, i32_w]
    rfl
   refine done_ (done_of HT_.out (by kernel_rfl)) ?_
   go_wp2
   go_ret2
   exact ⟨rfl, HB.out⟩
theorem ints_With.calls (k : Nat) (A0 : Option Addr) (c0 : Nat) (l0 : List Int) (a1 : Int) (r1 : ByteArray) (r2 : Int) (w : World) (hr0 : Kd.C (Kd.int .i64) w A0 l0.length l0) (hc0 : l0.length ≤ c0) (h : ints_With.f k l0 a1 = some (r1, r2)) :
  Calls Try.prog 10 #[.slice A0 l0.length c0, .int .i64 a1] w fun e w' => e = .returned (.tuple #[.string r1, .int .i64 r2]) ∧ Below w.heap.size w w' := by
 unfold ints_With.f at h
 by_cases c : a1 < 0 ∨ 4 ≤ a1
 ·rw [if_pos c] at h
  injection h with h; injection h with h1 h2; subst h1 h2
  exact ints_With.w1 A0 c0 l0 a1 w c
 ·rw [if_neg c] at h
  by_cases c2 : 65536 < l0.length
  ·rw [if_pos c2] at h
   injection h with h; injection h with h1 h2; subst h1 h2
   exact ints_With.w2 A0 c0 l0 a1 w (by omega) (by omega) c2
  ·rw [if_neg c2] at h
   obtain ⟨bu, hu, h⟩ := Option.bind_eq_some_iff.mp h
   obtain ⟨r, hr, h⟩ := Option.bind_eq_some_iff.mp h
   injection h with h; injection h with h1 h2; subst h1 h2
   obtain ⟨j, rfl⟩ : ∃ j : Nat, a1 = (j : Int) := ⟨a1.toNat, by omega⟩
   unfold ints_With.wr at hr
   rcases (by omega : j = 0 ∨ j = 1 ∨ j = 2 ∨ j = 3) with rfl | rfl | rfl | rfl
   ·replace hr : ints_writePlain.f k bu l0 = some r := hr
    refine ints_With.walk k A0 c0 l0 0 (by omega) (by omega) 34 _ Try.func34 (by kernel_rfl) rfl rfl bu r w hu (fun v2 W b ho hb => ?_)
    exact (ints_writePlain.calls k (ints_With.ok w b) v2 bu A0 c0 l0 r w W hb ho (fun W_ hk => Kd.F_now (Kd.F_kept (ints_With.arg hr0 hb) hk (fun k h1 h2 => by have := h2.1; omega))) hc0 hr).mono (fun e w' ⟨v0, he, hr', hb', hk'⟩ => ⟨v0, he, Kd.R_mono hr' (fun _ _ => trivial), hb'⟩)
   ·replace hr : ints_writeDelta.f k bu l0 = some r := hr
    refine ints_With.walk k A0 c0 l0 1 (by omega) (by omega) 36 _ Try.func36 (by kernel_rfl) rfl rfl bu r w hu (fun v2 W b ho hb => ?_)
    exact (ints_writeDelta.calls k (ints_With.ok w b) v2 bu A0 c0 l0 r w W hb ho (fun W_ hk => Kd.F_now (Kd.F_kept (ints_With.arg hr0 hb) hk (fun k h1 h2 => by have := h2.1; omega))) hc0 hr).mono (fun e w' ⟨v0, he, hr', hb', hk'⟩ => ⟨v0, he, Kd.R_mono hr' (fun _ _ => trivial), hb'⟩)
   ·replace hr : ints_writeRuns.f k bu l0 = some r := hr
    refine ints_With.walk k A0 c0 l0 2 (by omega) (by omega) 38 _ Try.func38 (by kernel_rfl) rfl rfl bu r w hu (fun v2 W b ho hb => ?_)
    exact (ints_writeRuns.calls k (ints_With.ok w b) v2 bu (fun k => k < w.heap.size) A0 c0 l0 r w W hb ho (Kd.V_mk hc0 (Kd.F_mono (ints_With.arg hr0 hb) (fun k hk => ⟨hk, fun he => by have := (ho.1 k he.symm).1; omega⟩))) hr).mono (fun e w' ⟨v0, he, hr', hb', hk'⟩ => ⟨v0, he, Kd.R_mono hr' (fun _ _ => trivial), hb'⟩)
   ·replace hr : ints_writePacked.f k bu l0 = some r := hr
    refine ints_With.walk k A0 c0 l0 3 (by omega) (by omega) 40 _ Try.func40 (by kernel_rfl) rfl rfl bu r w hu (fun v2 W b ho hb => ?_)
    exact (ints_writePacked.calls k (ints_With.ok w b) v2 bu A0 c0 l0 r w W hb ho (fun W_ hk => Kd.F_now (Kd.F_kept (ints_With.arg hr0 hb) hk (fun k h1 h2 => by have := h2.1; omega))) hc0 hr).mono (fun e w' ⟨v0, he, hr', hb', hk'⟩ => ⟨v0, he, Kd.R_mono hr' (fun _ _ => trivial), hb'⟩)
end Go.Proofs.Ytgeddoklmcjdcaa.G
namespace Go.Proofs.Ytgeddoklmcjdcaa.G
open Go.RowKit Go.Proofs.YtgeddoklmcjdcaaQ Go.Proofs.YtgeddoklmcjdcaaW.PrintWords Go.Proofs.YtgeddoklmcjdcaaW.PrintLast Go.Proofs.YtgeddoklmcjdcaaW.PrintMore
attribute [local go_sem] max2_int min2_int max_two min_two max_three min_three max_four min_four   -- for this text's walks alone
set_option linter.unusedVariables false
set_option linter.unusedSimpArgs false
def bits_Mul64.f (a0 : Int) (a1 : Int) : Option (Int × Int) := some (IntKind.u64.wrap ((IntKind.u64.wrap ((IntKind.u64.wrap ((a0 / 4294967296) * (a1 / 4294967296))) + ((IntKind.u64.wrap ((IntKind.u64.wrap ((a0 / 4294967296) * (Go.bits .and .u64 a1 4294967295))) + ((IntKind.u64.wrap ((Go.bits .and .u64 a0 4294967295) * (Go.bits .and .u64 a1 4294967295))) / 4294967296))) / 4294967296))) + ((IntKind.u64.wrap ((Go.bits .and .u64 (IntKind.u64.wrap ((IntKind.u64.wrap ((a0 / 4294967296) * (Go.bits .and .u64 a1 4294967295))) + ((IntKind.u64.wrap ((Go.bits .and .u64 a0 4294967295) * (Go.bits .and .u64 a1 4294967295))) / 4294967296))) 4294967295) + (IntKind.u64.wrap ((Go.bits .and .u64 a0 4294967295) * (a1 / 4294967296))))) / 4294967296)), IntKind.u64.wrap (a0 * a1))
set_option maxHeartbeats 8000000 in
set_option maxRecDepth 100000 in
theorem bits_Mul64.calls (a0 : Int) (a1 : Int) (r1 : Int) (r2 : Int) (w : World) (h : bits_Mul64.f a0 a1 = some (r1, r2)) :
  Calls Try.prog 75 #[.int .u64 a0, .int .u64 a1] w fun e w' => e = .returned (.tuple #[.int .u64 r1, .int .u64 r2]) ∧ Drawn0 w w' := by
 have H : (some (IntKind.u64.wrap ((IntKind.u64.wrap ((IntKind.u64.wrap ((a0 / 4294967296) * (a1 / 4294967296))) + ((IntKind.u64.wrap ((IntKind.u64.wrap ((a0 / 4294967296) * (Go.bits .and .u64 a1 4294967295))) + ((IntKind.u64.wrap ((Go.bits .and .u64 a0 4294967295) * (Go.bits .and .u64 a1 4294967295))) / 4294967296))) / 4294967296))) + ((IntKind.u64.wrap ((Go.bits .and .u64 (IntKind.u64.wrap ((IntKind.u64.wrap ((a0 / 4294967296) * (Go.bits .and .u64 a1 4294967295))) + ((IntKind.u64.wrap ((Go.bits .and .u64 a0 4294967295) * (Go.bits .and .u64 a1 4294967295))) / 4294967296))) 4294967295) + (IntKind.u64.wrap ((Go.bits .and .u64 a0 4294967295) * (a1 / 4294967296))))) / 4294967296)), IntKind.u64.wrap (a0 * a1))) = some (r1, r2) := h
 clear h
 simp only [Option.some.injEq, Prod.mk.injEq] at H
 obtain ⟨rfl, rfl⟩ := H
 go_enter Try.func75, Try.ntmps75
 go_wp2
 go_ret2
 exact ⟨by first | rfl | (simp; done) | (simp [*]; done), by repeat (first | exact Drawn0.refl _ | apply Drawn0.step)⟩
def bits_Mul.f (a0 : Int) (a1 : Int) : Option (Int × Int) := (bits_Mul64.f a0 a1).bind fun bt189 => (some (bt189.1, bt189.2))
set_option maxHeartbeats 8000000 in
set_option maxRecDepth 100000 in
theorem bits_Mul.calls (a0 : Int) (a1 : Int) (r1 : Int) (r2 : Int) (w : World) (h : bits_Mul.f a0 a1 = some (r1, r2)) :
  Calls Try.prog 68 #[.int .u64 a0, .int .u64 a1] w fun e w' => e = .returned (.tuple #[.int .u64 r1, .int .u64 r2]) ∧ Drawn0 w w' := by
 have H : ((bits_Mul64.f a0 a1).bind fun bt189 => (some (bt189.1, bt189.2))) = some (r1, r2) := h
 clear h
 replace H := Option.bind_eq_some_iff.mp H
 obtain ⟨⟨t189, t190⟩, A30, H⟩ := H
 replace H : (some (t189, t190)) = some (r1, r2) := H
 have A3 := Aside0.mk A30
 clear A30
 simp only [Option.some.injEq, Prod.mk.injEq] at H
 obtain ⟨rfl, rfl⟩ := H
 go_enter Try.func68, Try.ntmps68
 go_wp2_with (first | ((with_reducible refine gate_callee (f := 75) rfl ?_); refine goesL_ (some 25) rfl rfl Try.func75 (by kernel_rfl) rfl #[.int .u64 a0, .int .u64 a1] rfl (by (try simp only [List.map_toArray, List.map_cons, List.map_nil]); first | done | rfl | (simp only [List.length_drop, List.length_take]; rfl) | (go_simp; simp [IntKind.wrap, IntKind.bits, IntKind.signed]; omega)) ?_; (with_reducible refine (bits_Mul64.calls a0 a1 t189 t190 _ A3.out).mono ?_); rintro e w' ⟨rfl, ⟨nd, rfl⟩⟩; refine ⟨_, rfl, ?_⟩))
 go_ret2
 exact ⟨by first | rfl | (simp; done) | (simp [*]; done), by repeat (first | exact Drawn0.refl _ | apply Drawn0.step)⟩
end Go.Proofs.Ytgeddoklmcjdcaa.G
namespace Go.Proofs.Ytgeddoklmcjdcaa.G
open Go.RowKit Go.Proofs.YtgeddoklmcjdcaaQ Go.Proofs.YtgeddoklmcjdcaaW.PrintWords Go.Proofs.YtgeddoklmcjdcaaW.PrintLast Go.Proofs.YtgeddoklmcjdcaaW.PrintMore
attribute [local go_sem] max2_int min2_int max_two min_two max_three min_three max_four min_four   -- for this text's walks alone
set_option linter.unusedVariables false
set_option linter.unusedSimpArgs false
def slices_Repeat_int64_int64.f (l0 : List Int) (a1 : Int) : Option (List Int) := if l0.length = 1 ∧ 0 ≤ a1 ∧ a1 ≤ 1000000 then some (List.replicate a1.toNat (rd l0 0)) else none
theorem slices_Repeat_int64_int64.mul {c : Int} (h0 : 0 ≤ c) (h1 : c ≤ 1000000) : bits_Mul.f 1 c = some (0, c) := by
 have a1 : Go.bits .and .u64 1 4294967295 = 1 := by decide
 have a2 : Go.bits .and .u64 0 4294967295 = 0 := by decide
 have a3 : Go.bits .and .u64 c 4294967295 = c := by
  obtain ⟨n, rfl⟩ : ∃ n : Nat, c = (n : Int) := ⟨c.toNat, by omega⟩
  have h := Go.u64_and_nat n 4294967295 (by omega) (by decide)
  have e : n &&& 4294967295 = n := by
   have := Nat.and_two_pow_sub_one_eq_mod n 32
   rw [show (4294967295 : Nat) = 2 ^ 32 - 1 from rfl, this]
   exact Nat.mod_eq_of_lt (by omega)
  rw [e] at h
  exact h
 have e1 : (1 : Int) / 4294967296 = 0 := by decide
 have e2 : c / 4294967296 = 0 := by omega
 have w0 : IntKind.u64.wrap 0 = 0 := by decide
 have wc : IntKind.u64.wrap c = c := by simp [IntKind.wrap, IntKind.bits, IntKind.signed]; omega
 unfold bits_Mul.f bits_Mul64.f
 simp only [a1, a2, a3, e1, e2, Int.zero_mul, Int.mul_zero, Int.one_mul, Int.zero_add, Int.add_zero, w0, wc, Int.zero_ediv, Option.bind_some]
def slices_Repeat_int64_int64.cells (x : Int) (n c : Nat) : List Value := List.replicate n (Value.int .i64 x) ++ List.replicate (c - n) (Value.int .i64 0)
theorem slices_Repeat_int64_int64.cells_len (x : Int) {n c : Nat} (h : n ≤ c) : (slices_Repeat_int64_int64.cells x n c).length = c := by simp [slices_Repeat_int64_int64.cells]; omega
theorem slices_Repeat_int64_int64.cells_next (x : Int) {n m c : Nat} (h : n + m ≤ c) : splice (slices_Repeat_int64_int64.cells x n c) n (List.replicate m (Value.int .i64 x)) = slices_Repeat_int64_int64.cells x (n + m) c := by
 unfold splice slices_Repeat_int64_int64.cells
 rw [List.take_left' (by simp), List.length_replicate, List.drop_append, List.drop_eq_nil_of_le (by simp), List.nil_append, List.length_replicate, List.drop_replicate, ← List.append_assoc, List.replicate_append_replicate]
 congr 2; omega
theorem slices_Repeat_int64_int64.cells_at (x : Int) {n c j : Nat} (h : j < n) : (slices_Repeat_int64_int64.cells x n c)[j]? = some (.int .i64 x) := by
 unfold slices_Repeat_int64_int64.cells
 rw [List.getElem?_append_left (by simpa using h), List.getElem?_replicate, if_pos h]
theorem slices_Repeat_int64_int64.pos {W : World} {ad : Addr} {x : Int} {c : Nat} (h : W.cell? (ad.add 0) = some (.int .i64 x)) : ∀ j v, (List.replicate (min 1 c) (Value.int .i64 x))[j]? = some v → W.cell? (ad.add j) = some v := by
 intro j v hj
 rw [List.getElem?_replicate] at hj
 split at hj
 ·obtain rfl : j = 0 := by omega
  obtain rfl := Option.some.inj hj
  exact h
 ·cases hj
theorem slices_Repeat_int64_int64.posn {W : World} {g n c e : Nat} {x : Int} (h : W.heap[g]? = some (.cells (slices_Repeat_int64_int64.cells x n c).toArray e (0, 0))) : ∀ j v, (List.replicate (min n (c - n)) (Value.int .i64 x))[j]? = some v → W.cell? ((⟨g, 0, none⟩ : Addr).add j) = some v := by
 intro j v hj
 rw [List.getElem?_replicate] at hj
 split at hj
 ·obtain rfl := Option.some.inj hj
  rw [add_plain, blk_cell h j, List.getElem?_toArray]
  exact slices_Repeat_int64_int64.cells_at x (by omega)
 ·cases hj
theorem slices_Repeat_int64_int64.made (x : Int) (c : Nat) : madeCells #[Value.int .i64 0] c = (slices_Repeat_int64_int64.cells x 0 c).toArray := by
 apply Array.toList_inj.1
 apply List.ext_getElem
 ·simp [madeCells, slices_Repeat_int64_int64.cells]
 ·intro i h1 h2
  simp [madeCells, slices_Repeat_int64_int64.cells, Nat.mod_one]
theorem slices_Repeat_int64_int64.own {w W : World} {g c : Nat} {x : Int} (hg : W.heap[g]? = some (.cells (slices_Repeat_int64_int64.cells x c c).toArray 2 (0, 0))) (hw : w.heap.size ≤ g) (hc : c ≤ 1000000) :
  Kd.R (Kd.int .i64) 2 W w.heap.size (fun _ => True) (.slice (some ⟨g, 0, none⟩) c c) (List.replicate c x) := by
 refine Kd.R_of_own ?_ (fun _ _ => trivial)
 have e : (slices_Repeat_int64_int64.cells x c c) = encs (Value.int .i64) (List.replicate c x) := by simp [slices_Repeat_int64_int64.cells, encs]
 rw [e] at hg
 refine ⟨by simp [encs], .inr ⟨g, c, _, by simp, hw, hg, by simp, by simp [maxLen]; omega, by simp [encs], by simp [encs]⟩⟩
def slices_Repeat_int64_int64.T9 : Bool × List (List Nat × List Nat) := (true, [([], []), ([], []), ([], []), ([1, 2], [1, 2]), ([], []), ([], []), ([4, 5], [4, 5]), ([3, 6], [3, 6]), ([0, 7], [0, 7]), ([8, 7, 0, 1, 2, 3, 4, 5, 6, 7, 8], [0, 2, 5, 8])])
theorem slices_Repeat_int64_int64.tab9 : rtab .any (opsOf Try.f57 9) = slices_Repeat_int64_int64.T9 := by kernel_rfl
set_option maxHeartbeats 4000000 in
set_option maxRecDepth 100000 in
theorem slices_Repeat_int64_int64.walk (ad : Addr) (c0 c : Nat) (x : Int) (w : World) (hcell : w.cell? (ad.add 0) = some (.int .i64 x)) (hc : c ≤ 1000000) :
  Calls Try.prog 57 #[.slice (some ad) 1 c0, .int .i64 (c : Int)] w fun e w' => ∃ v0_ : Value, e = .returned (v0_) ∧ Kd.R (Kd.int .i64) 2 w' w.heap.size (fun _ => True) v0_ (List.replicate c x) ∧ Below w.heap.size w w' := by
 have hm := slices_Repeat_int64_int64.mul (c := (c : Int)) (by omega) (by omega)
 have HM := Aside0.mk hm
 have HC := Aside0.mk hc
 have HX := Aside0.mk hcell
 have d1 : decide ((c : Int) < 0) = false := decide_eq_false (by omega)
 have d2 : decide ((9223372036854775807 : Int) < (c : Int)) = false := decide_eq_false (by omega)
 have d3 : decide (9223372036854775807 < c) = false := decide_eq_false (by omega)
 have hmk := print_make (P := Try.prog) 22 2 .i64 8 Try.underlying22 (by kernel_rfl) (by decide) c (by omega)
 have b0 : (0 : Int) ≤ (c : Int) := by omega
 have b1 : (c : Int) ≤ 1000000 := by omega
 clear hm hc hcell
 go_enter Try.func57, Try.ntmps57
 go_wp2_with fail
 refine (bits_Mul.calls 1 (c : Int) 0 (c : Int) _ HM.out).mono ?_; rintro e w1 ⟨rfl, ⟨nd, rfl⟩⟩
 have hg0 : ((w.drewN nd).alloc (.cells (madeCells #[Value.int .i64 0] c) 2)).heap[w.heap.size]? = some (.cells (slices_Repeat_int64_int64.cells x 0 c).toArray 2 (0, 0)) := by
  rw [slices_Repeat_int64_int64.made x]; exact heap_alloc_new (w.drewN nd) _
 have hb0 : Below w.heap.size w ((w.drewN nd).alloc (.cells (madeCells #[Value.int .i64 0] c) 2)) := below_alloc (pw_below_drewN (Below.refl _ _) _) _
 have HG0 := Aside0.mk hg0; have HB0 := Aside0.mk hb0
 clear hg0 hb0
 go_wp2_with ((with_reducible refine wpList_copy_splice rfl (.tmp 31) (.tmp 32) 22 22 rfl 2 Try.underlying22 (by kernel_rfl) (some ⟨w.heap.size, 0, none⟩) (some ad) c c 1 c0 rfl rfl w.heap.size 0 (slices_Repeat_int64_int64.cells x 0 c) 2 HG0.out (List.replicate (min 1 c) (Value.int .i64 x)) ?hn (fun _ => ⟨rfl, ad, rfl, slices_Repeat_int64_int64.pos ((HB0.out.cell (World.block_lt_of_cell? w _ HX.out)).trans HX.out)⟩) ?hf ?ho w.heap.size w HB0.out (Nat.le_refl _) ?_); (case hn => simp [Nat.min_comm]); (case hf => rw [slices_Repeat_int64_int64.cells_len x (Nat.zero_le _)]; simp; omega); (case ho => intro v hv; rw [(List.mem_replicate.1 hv).2]; rfl); intro w2 hg2 hb2; (have HG2 := Aside0.mk hg2.out); (have HB2 := Aside0.mk hb2); clear hg2 hb2)
 have hn1 := HG2.out
 rw [slices_Repeat_int64_int64.cells_next x (n := 0) (m := min 1 c) (by omega), Nat.zero_add] at hn1
 have HN := Aside0.mk hn1
 clear hn1 HG2 HG0 HB0 HX HM hmk d1 d2 d3 b0 b1
 go_loopg [8] (c - min 1 c) (fun gq s8 wx => ∃ n : Nat, n ≤ c ∧ (n = 0 → c = 0) ∧ gq = c - n ∧ s8 = .int .i64 (n : Int) ∧ Aside0 (wx.heap[w.heap.size]? = some (.cells (slices_Repeat_int64_int64.cells x n c).toArray 2 (0, 0))) ∧ Aside0 (Below w.heap.size w wx))
 case atStart => exact ⟨min 1 c, by omega, by omega, rfl, rfl, HN, HB2⟩
 case round =>
  clear HN HB2
  obtain ⟨n, hn, hn0, rfl, rfl, HN, HB⟩ := hrel
  by_cases hlt : n < c
  ·have HL := Aside0.mk hlt
   have hpos : 0 < n := by omega
   obtain ⟨g1, hg1⟩ : ∃ g1, c - n = g1 + 1 := ⟨c - n - 1, by omega⟩
   have k1 : decide ((n : Int) < (c : Int)) = true := decide_eq_true (by omega)
   have k2 : decide (n < c) = true := decide_eq_true hlt
   have b0 : (0 : Int) ≤ (n : Int) := by omega
   have b1 : (n : Int) ≤ (c : Int) := by omega
   have b2 : ¬ c = n := by omega
   have b3 : (c : Int) ≤ 1000000 := by have := HC.out; omega
   have HG1 := Aside0.mk hg1; clear hg1 hn0
   go_wp2_with fail
   refine start_ (n := 10) (S := fun w' => True) (ds := []) #[false, false, false, false, false, false, false, false, false, false] (by kernel_rfl) rfl rfl trivial (fun hHeld => ?_)
   refine with_tab slices_Repeat_int64_int64.tab9 (fun HT_ => ?_)
   replace HN : Aside0 (wr.drew.heap[w.heap.size]? = some (.cells (slices_Repeat_int64_int64.cells x n c).toArray 2 (0, 0))) := ⟨HN.out⟩
   replace HB : Aside0 (Below w.heap.size w wr.drew) := ⟨below_drew HB.out⟩
   generalize wr.drew = wr at HN HB hHeld ⊢
   refine pure_ (i := 0) (N := (some 38)) (v := ?_) (a' := ?_) #[true, false, false, false, false, false, false, false, false, false] rfl rfl (any_of HT_.out (by kernel_rfl)) (fun _ _ _ h => h) (Or.inl ⟨by rfl, ?_⟩) ?_ ?_
   rotate_left
   ·intro w'
    go_simp
    with_reducible rfl
   rotate_left
   ·simp only [Act.put, List.setIfInBounds_toArray, List.set_cons_zero, List.set_cons_succ, i64_w, i32_w]
    rfl
   refine pure_ (i := 1) (N := (some 39)) (v := ?_) (a' := ?_) #[true, true, false, false, false, false, false, false, false, false] rfl rfl (any_of HT_.out (by kernel_rfl)) (fun _ _ _ h => h) (Or.inl ⟨by rfl, ?_⟩) ?_ ?_
   rotate_left
   ·intro w'
    go_simp
    with_reducible rfl
   rotate_left
   ·simp only [Act.put, List.setIfInBounds_toArray, List.set_cons_zero, List.set_cons_succ, i64_w, i32_w]
    rfl
   refine pure_ (i := 2) (N := (some 40)) (v := ?_) (a' := ?_) #[true, true, true, false, false, false, false, false, false, false] rfl rfl (any_of HT_.out (by kernel_rfl)) (fun _ _ _ h => h) (Or.inl ⟨by rfl, ?_⟩) ?_ ?_
   rotate_left
   ·intro w'
    go_simp
    with_reducible rfl
   rotate_left
   ·simp only [Act.put, List.setIfInBounds_toArray, List.set_cons_zero, List.set_cons_succ, i64_w, i32_w]
    rfl
   refine pure_ (i := 3) (N := (some 41)) (v := ?_) (a' := ?_) #[true, true, true, true, false, false, false, false, false, false] rfl rfl (any_of HT_.out (by kernel_rfl)) (fun _ _ _ h => h) (Or.inl ⟨by rfl, ?_⟩) ?_ ?_
   rotate_left
   ·intro w'
    go_simp
    with_reducible rfl
   rotate_left
   ·simp only [Act.put, List.setIfInBounds_toArray, List.set_cons_zero, List.set_cons_succ, i64_w, i32_w]
    rfl
   refine pure_ (i := 4) (N := (some 42)) (v := ?_) (a' := ?_) #[true, true, true, true, true, false, false, false, false, false] rfl rfl (any_of HT_.out (by kernel_rfl)) (fun _ _ _ h => h) (Or.inl ⟨by rfl, ?_⟩) ?_ ?_
   rotate_left
   ·intro w'
    go_simp
    with_reducible rfl
   rotate_left
   ·simp only [Act.put, List.setIfInBounds_toArray, List.set_cons_zero, List.set_cons_succ, i64_w, i32_w]
    rfl
   refine pure_ (i := 5) (N := (some 43)) (v := ?_) (a' := ?_) #[true, true, true, true, true, true, false, false, false, false] rfl rfl (any_of HT_.out (by kernel_rfl)) (fun _ _ _ h => h) (Or.inl ⟨by rfl, ?_⟩) ?_ ?_
   rotate_left
   ·intro w'
    go_simp
    with_reducible rfl
   rotate_left
   ·simp only [Act.put, List.setIfInBounds_toArray, List.set_cons_zero, List.set_cons_succ, i64_w, i32_w]
    rfl
   refine pure_ (i := 6) (N := (some 44)) (v := ?_) (a' := ?_) #[true, true, true, true, true, true, true, false, false, false] rfl rfl (any_of HT_.out (by kernel_rfl)) (fun _ _ _ h => h) (Or.inl ⟨by rfl, ?_⟩) ?_ ?_
   rotate_left
   ·intro w'
    go_simp
    with_reducible rfl
   rotate_left
   ·simp only [Act.put, List.setIfInBounds_toArray, List.set_cons_zero, List.set_cons_succ, i64_w, i32_w]
    rfl
   refine one_ (i := 7) (N := (some 45)) #[true, true, true, true, true, true, true, true, false, false] rfl rfl (one_of HT_.out (by kernel_rfl)) (by decide) (fun K hK => ?_)
   refine step_copy_splice rfl (.tmp 41) (.tmp 44) 22 22 rfl 2 Try.underlying22 (by kernel_rfl) (some ⟨w.heap.size, n, none⟩) (some ⟨w.heap.size, 0, none⟩) (c - n) (c - n) n c (by rfl) (by rfl) w.heap.size n (slices_Repeat_int64_int64.cells x n c) 2 HN.out (List.replicate (min n (c - n)) (Value.int .i64 x)) (by simp) (fun _ => ⟨rfl, _, rfl, slices_Repeat_int64_int64.posn HN.out⟩) (by rw [slices_Repeat_int64_int64.cells_len x (by have := HL.out; omega)]; simp; have := HL.out; omega) (by intro v hv; rw [(List.mem_replicate.1 hv).2]; rfl) w.heap.size w HB.out (Nat.le_refl _) ?_
   intro w4 hg4 hb4
   have HG4 := Aside0.mk hg4.out; have HB4 := Aside0.mk hb4; clear hg4 hb4 HN HB
   refine hK.out _ _ trivial (fun hHeld => ?_)
   clear hK K
   refine norm_ (a' := ?_) ?_ ?_
   rotate_left
   ·show Act.put _ (some 45) _ = _
    simp only [Act.put, List.setIfInBounds_toArray, List.set_cons_zero, List.set_cons_succ, i64_w, i32_w]
    rfl
   refine pure_ (i := 8) (N := (some 46)) (v := ?_) (a' := ?_) #[true, true, true, true, true, true, true, true, true, false] rfl rfl (any_of HT_.out (by kernel_rfl)) (fun _ _ _ h => h) (Or.inl ⟨by rfl, ?_⟩) ?_ ?_
   rotate_left
   ·intro w'
    go_simp
    with_reducible rfl
   rotate_left
   ·simp only [Act.put, List.setIfInBounds_toArray, List.set_cons_zero, List.set_cons_succ, i64_w, i32_w]
    rfl
   refine pure_ (i := 9) (N := (some 8)) (v := ?_) (a' := ?_) #[true, true, true, true, true, true, true, true, true, true] rfl rfl (any_of HT_.out (by kernel_rfl)) (fun _ _ _ h => h) (Or.inl ⟨by rfl, ?_⟩) ?_ ?_
   rotate_left
   ·intro w'
    go_simp
    with_reducible rfl
   rotate_left
   ·simp only [Act.put, List.setIfInBounds_toArray, List.set_cons_zero, List.set_cons_succ, i64_w, i32_w]
    rfl
   refine done_ (done_of HT_.out (by kernel_rfl)) ?_
   have hn4 := HG4.out
   rw [slices_Repeat_int64_int64.cells_next x (by have := HL.out; omega)] at hn4
   have HN4 := Aside0.mk hn4; clear hn4 HG4
   have hw : wrap64 ((n : Int) + ((min n (c - n) : Nat) : Int)) = ((n + min n (c - n) : Nat) : Int) := by have := HL.out; have := HC.out; rw [w64 (by omega) (by omega)]; rfl
   rw [hw]
   have HW := Aside0.mk hw; clear hw
   go_wp2
   go_roundg (c - (n + min n (c - n)))
   case measure => have := HG1.out; have := HL.out; omega
   case rel => exact ⟨n + min n (c - n), by have := HL.out; omega, by have := HL.out; omega, rfl, by go_num, HN4, HB4⟩
  ·have e : n = c := by omega
   subst e
   have k1 : decide ((n : Int) < (n : Int)) = false := decide_eq_false (by omega)
   have k2 : decide (n < n) = false := decide_eq_false (by omega)
   clear hlt hn hn0
   go_wp2
   go_ret
   exact ⟨_, rfl, slices_Repeat_int64_int64.own HN.out (Nat.le_refl _) HC.out, HB.out⟩
theorem slices_Repeat_int64_int64.calls (A0 : Option Addr) (c0 : Nat) (l0 : List Int) (a1 : Int) (r : List Int) (w : World) (hr0 : Kd.C (Kd.int .i64) w A0 l0.length l0) (hc0 : l0.length ≤ c0) (h : slices_Repeat_int64_int64.f l0 a1 = some r) :
  Calls Try.prog 57 #[.slice A0 l0.length c0, .int .i64 a1] w fun e w' => ∃ v0_ : Value, e = .returned (v0_) ∧ Kd.R (Kd.int .i64) 2 w' w.heap.size (fun _ => True) v0_ r ∧ Below w.heap.size w w' := by
 unfold slices_Repeat_int64_int64.f at h
 split at h
 ·rename_i hl
  obtain ⟨h1, h2, h3⟩ := hl
  obtain rfl := Option.some.inj h
  obtain ⟨c, rfl⟩ : ∃ c : Nat, a1 = (c : Int) := ⟨a1.toNat, by omega⟩
  obtain ⟨ad, hA, hcell⟩ := Kd.at_int hr0 0 (by omega) (by omega)
  cases hA
  rw [h1, Int.toNat_natCast]
  exact slices_Repeat_int64_int64.walk ad c0 c (rd l0 0) w hcell (by omega)
 ·exact absurd h (by simp)
end Go.Proofs.Ytgeddoklmcjdcaa.G
namespace Go.Proofs.Ytgeddoklmcjdcaa.G
open Go.RowKit Go.Proofs.YtgeddoklmcjdcaaQ Go.Proofs.YtgeddoklmcjdcaaW.PrintWords Go.Proofs.YtgeddoklmcjdcaaW.PrintLast Go.Proofs.YtgeddoklmcjdcaaW.PrintMore
attribute [local go_sem] max2_int min2_int max_two min_two max_three min_three max_four min_four   -- for this text's walks alone
set_option linter.unusedVariables false
set_option linter.unusedSimpArgs false
mutual
def ints_readRuns.l0 : Nat → Int → List Int → ByteArray → Int → Option (List Int × Int × ByteArray × Int)
 | 0, _, _, _, _ => none
 | k + 1, x1, x6, x1000, x1001 => if (x6.length : Int) < x1 then ((tally_Cursor_Uint.f x1000 x1001).bind fun bt191 => ((tally_Cursor_Err.f bt191.2.1 bt191.2.2).bind fun bt194 => (if bt194.1 = 0 then (if bt191.1 = 0 then (ints_readRuns.j1 k x1 x6 bt191.1 true bt194.2.1 bt194.2.2) else (ints_readRuns.j1 k x1 x6 bt191.1 (decide (bt191.1 > (IntKind.u64.wrap (wrap64 (x1 - (x6.length : Int)))))) bt194.2.1 bt194.2.2)) else (ints_readRuns.j1 k x1 x6 bt191.1 false bt194.2.1 bt194.2.2)))) else (some (x6, 0, x1000, x1001))
def ints_readRuns.j1 : Nat → Int → List Int → Int → Bool → ByteArray → Int → Option (List Int × Int × ByteArray × Int)
 | 0, _, _, _, _, _, _ => none
 | k + 1, x1, x6, x7, x30, x1000, x1001 => if x30 = true then (some (([] : List Int), 4, x1000, x1001)) else ((tally_Cursor_Int.f x1000 x1001).bind fun bt197 => ((tally_Cursor_Err.f bt197.2.1 bt197.2.2).bind fun bt200 => (if bt200.1 = 0 then (if (x6.length : Int) > 0 then (if 0 ≤ (wrap64 ((x6.length : Int) - 1)) then (if (wrap64 ((x6.length : Int) - 1)) < (x6.length : Int) then (if (rd x6 (wrap64 ((x6.length : Int) - 1))) = bt197.1 then (some (([] : List Int), 4, bt200.2.1, bt200.2.2)) else ((slices_Repeat_int64_int64.f (([bt197.1] : List Int)) (wrap64 (x7))).bind fun t207 => (if x6.length + t207.length < 17592186044416 then (ints_readRuns.l0 k x1 (x6 ++ t207) bt200.2.1 bt200.2.2) else (none)))) else (none)) else (none)) else ((slices_Repeat_int64_int64.f (([bt197.1] : List Int)) (wrap64 (x7))).bind fun t216 => (if x6.length + t216.length < 17592186044416 then (ints_readRuns.l0 k x1 (x6 ++ t216) bt200.2.1 bt200.2.2) else (none)))) else ((tally_Cursor_Err.f bt200.2.1 bt200.2.2).bind fun bt222 => (some (([] : List Int), bt222.1, bt222.2.1, bt222.2.2))))))
end
def ints_readRuns.f (k : Nat) (s0_0 : ByteArray) (s0_1 : Int) (a1 : Int) : Option (List Int × Int × ByteArray × Int) := ints_readRuns.l0 k a1 ([] : List Int) s0_0 s0_1
theorem ints_readRuns.mono_l : ∀ k, (∀ y0 y1 y2 y3, LeO (ints_readRuns.l0 k y0 y1 y2 y3) (ints_readRuns.l0 (k + 1) y0 y1 y2 y3)) ∧ (∀ y0 y1 y2 y3 y4 y5, LeO (ints_readRuns.j1 k y0 y1 y2 y3 y4 y5) (ints_readRuns.j1 (k + 1) y0 y1 y2 y3 y4 y5))
 | 0 => ⟨fun _ _ _ _ r h => by simp [ints_readRuns.l0] at h, fun _ _ _ _ _ _ r h => by simp [ints_readRuns.j1] at h⟩
 | k + 1 => by
  obtain ⟨ih0, ih1⟩ := ints_readRuns.mono_l k
  refine ⟨?_, ?_⟩
  ·intro y0 y1 y2 y3
   unfold ints_readRuns.l0
   repeat' first
   | (with_reducible exact ih0 _ _ _ _)
   | (with_reducible exact ih1 _ _ _ _ _ _)
   | (with_reducible exact LeO.refl _)
   | (with_reducible exact LeO.none _)
   | (with_reducible refine LeO.ite ?_ ?_)
   | (with_reducible refine LeO.bind ?_ (fun _ => ?_))
   | exact ih0 _ _ _ _
   | exact ih1 _ _ _ _ _ _
   | exact LeO.none _
   | refine LeO.ite ?_ ?_
   | refine LeO.bind ?_ (fun _ => ?_)
  ·intro y0 y1 y2 y3 y4 y5
   unfold ints_readRuns.j1
   repeat' first
   | (with_reducible exact ih0 _ _ _ _)
   | (with_reducible exact ih1 _ _ _ _ _ _)
   | (with_reducible exact LeO.refl _)
   | (with_reducible exact LeO.none _)
   | (with_reducible refine LeO.ite ?_ ?_)
   | (with_reducible refine LeO.bind ?_ (fun _ => ?_))
   | exact ih0 _ _ _ _
   | exact ih1 _ _ _ _ _ _
   | exact LeO.none _
   | refine LeO.ite ?_ ?_
   | refine LeO.bind ?_ (fun _ => ?_)
theorem ints_readRuns.mono : ∀ a0 a1 a2 k, LeO (ints_readRuns.f k a0 a1 a2) (ints_readRuns.f (k + 1) a0 a1 a2) := by
 intro a0 a1 a2 k
 obtain ⟨ih0, ih1⟩ := ints_readRuns.mono_l k
 unfold ints_readRuns.f
 repeat' first
   | (with_reducible exact ih0 _ _ _ _)
   | (with_reducible exact ih1 _ _ _ _ _ _)
   | (with_reducible exact LeO.refl _)
   | (with_reducible exact LeO.none _)
   | (with_reducible refine LeO.ite ?_ ?_)
   | (with_reducible refine LeO.bind ?_ (fun _ => ?_))
   | exact ih0 _ _ _ _
   | exact ih1 _ _ _ _ _ _
   | exact LeO.none _
   | refine LeO.ite ?_ ?_
   | refine LeO.bind ?_ (fun _ => ?_)
set_option maxHeartbeats 8000000 in
set_option maxRecDepth 100000 in
theorem ints_readRuns.calls (k : Nat) (g : Nat) (s0_0 : ByteArray) (s0_1 : Int) (a1 : Int) (r1 : List Int) (r2 : Int) (r3 : ByteArray) (r4 : Int) (w0 w : World) (hI : IsS66 w0 w g s0_0 s0_1) (hB : Below w0.heap.size w0 w) (h : ints_readRuns.f k s0_0 s0_1 a1 = some (r1, r2, r3, r4)) :
  Calls Try.prog 39 #[.pointer (some ⟨g, 0, none⟩), .int .i64 a1] w fun e w' => ∃ v0_ : Value, e = .returned (.tuple #[v0_, .int .i64 r2]) ∧ Kd.R (Kd.int .i64) 2 w' w.heap.size (fun _ => True) v0_ r1 ∧ IsS66 w0 w' g r3 r4 ∧ Below w0.heap.size w0 w' ∧ KeepBut w w' g none := by
 have HI0 := Aside0.mk hI
 have HK := Aside0.mk (KeepBut.refl w g none)
 have HL := Aside0.mk hB.size
 clear hI
 have HW0 := Aside0.mk hB.size
 have HB := Aside0.mk hB
 clear hB
 have H : (ints_readRuns.l0 k a1 ([] : List Int) s0_0 s0_1) = some (r1, r2, r3, r4) := h
 clear h
 have H' := Aside0.mk H
 clear H
 go_enter Try.func39, Try.ntmps39
 go_wp2
 go_loopg [6] k (fun kq v6 w' => ∃ (x6_1 : List Int) (x1000_1 : ByteArray) (x1001_1 : Int), Aside0 (ints_readRuns.l0 kq a1 x6_1 x1000_1 x1001_1 = some (r1, r2, r3, r4)) ∧ Aside0 (kq ≤ k) ∧ Aside0 (Kd.R (Kd.int .i64) 2 w' w.heap.size (fun _ => True) v6 x6_1) ∧ Aside0 (IsS66 w0 w' g x1000_1 x1001_1) ∧ Aside0 (KeepBut w w' g none) ∧ Aside0 (Below w0.heap.size w0 w'))
 case atStart => exact ⟨(([] : List Int)), (s0_0), (s0_1), H', ⟨Nat.le_refl _⟩, ⟨by first | exact Kd.R_nil _ _ _ _ _ | exact Kd.N_nil _ _ _ _ _ | exact Kd.V_nil _ _ _ _ _ | exact Kd.Q_nil _ _ _ _ _ | exact Kd.S_nil _ _ _ _ _⟩, ⟨by repeat (first | (with_reducible first | exact HI0.out | apply IsS66.alloc | apply IsS66.drewN | apply IsS66.drew | apply IsS66.set_0 | apply IsS66.set_1) | exact HI0.out)⟩, ⟨by repeat (first | (with_reducible first | exact HK.out | apply KeepBut.set_ | apply keep_drewN | apply keep_drew | apply keep_alloc) | exact HK.out)⟩, ⟨by repeat (first | (with_reducible first | exact HB.out | apply below_alloc | apply pw_below_drewN | apply below_drew1 | refine below_set ?_ (IsS66.ge HI0.out)) | exact HB.out)⟩⟩
 case round =>
  clear H'
  try clear p2
  obtain ⟨x6_1, x1000_1, x1001_1, HA, HK1, HO_6, HI0, HK, HB⟩ := hrel
  cases gk with
  | zero => exact absurd HA.out (by simp [ints_readRuns.l0])
  | succ k1 =>
   have H := HA.out
   clear HA
   simp only [ints_readRuns.l0] at H
   by_cases c3 : (x6_1.length : Int) < a1
   ·rw [if_pos c3] at H
    have c3b0 : decide ((x6_1.length : Int) < a1) = true := decide_eq_true c3
    clear c3
    replace H := Option.bind_eq_some_iff.mp H
    obtain ⟨⟨t191, t192, t193⟩, A40, H⟩ := H
    replace H : ((tally_Cursor_Err.f t192 t193).bind fun bt194 => (if bt194.1 = 0 then (if t191 = 0 then (ints_readRuns.j1 k1 a1 x6_1 t191 true bt194.2.1 bt194.2.2) else (ints_readRuns.j1 k1 a1 x6_1 t191 (decide (t191 > (IntKind.u64.wrap (wrap64 (a1 - (x6_1.length : Int)))))) bt194.2.1 bt194.2.2)) else (ints_readRuns.j1 k1 a1 x6_1 t191 false bt194.2.1 bt194.2.2))) = some (r1, r2, r3, r4) := H
    have A4 := Aside0.mk A40
    clear A40
    have HC5 := Aside0.mk H
    clear H
    obtain ⟨Ao6, co6, eo6⟩ := Kd.R_slice HO_6.out
    subst eo6
    go_upto_region 4 with (first | ((with_reducible refine gate_callee (f := 26) rfl ?_); refine goesL_ (some 14) rfl rfl Try.func26 (by kernel_rfl) rfl #[.pointer (some ⟨g, 0, none⟩)] rfl (by (try simp only [List.map_toArray, List.map_cons, List.map_nil]); first | done | rfl | (simp only [List.length_drop, List.length_take]; rfl) | (go_simp; simp [IntKind.wrap, IntKind.bits, IntKind.signed]; omega)) ?_; (with_reducible refine (tally_Cursor_Uint.calls g x1000_1 x1001_1 t191 t192 t193 w0 _ ?side1 ?side2 A4.out).mono ?_); (case side1 => repeat (first | (with_reducible first | exact HI0.out | apply IsS66.alloc | apply IsS66.drewN | apply IsS66.drew | apply IsS66.set_0 | apply IsS66.set_1) | exact HI0.out)); (case side2 => repeat (first | (with_reducible first | exact HB.out | apply below_alloc | apply pw_below_drewN | apply below_drew1 | refine below_set ?_ (IsS66.ge HI0.out)) | exact HB.out)); rintro e w7 ⟨rfl, hi, hb, hk⟩; refine ⟨_, rfl, ?_⟩; have n0_ := Aside0.mk (Kd.R_mono (Kd.R_keep (IsS66.apart (show IsS66 w0 _ g x1000_1 x1001_1 from by repeat (first | (with_reducible first | exact HI0.out | apply IsS66.alloc | apply IsS66.drewN | apply IsS66.drew | apply IsS66.set_0 | apply IsS66.set_1) | exact HI0.out)) (by (with_reducible repeat (first | apply Kd.R_alloc | apply Kd.R_drewN | apply Kd.R_drew)); exact HO_6.out) (by decide)) hk (fun _ h => h.2)) (fun _ h => h.1)); have n1_ := Aside0.mk (KeepBut.trans (by repeat (first | (with_reducible first | exact HK.out | apply KeepBut.set_ | apply keep_drewN | apply keep_drew | apply keep_alloc) | exact HK.out)) hk (.inl rfl)); have n2_ := Aside0.mk (hb); have n3_ := Aside0.mk (hi); clear HO_6; clear HK; clear HB; clear HI0; have HO_6 := n0_; have HK := n1_; have HB := n2_; have HI0 := n3_; clear n0_ n1_ n2_ n3_; (try clear hb); (try clear hb2); (try clear hk); (try clear hi)))
    (try simp only [Act.put, List.setIfInBounds_toArray, List.set_cons_zero, List.set_cons_succ])
    go_cut [30] (fun v30 wc => ∃ (kq : Nat) (x30_4 : Bool) (x1000_4 : ByteArray) (x1001_4 : Int), v30 = .bool x30_4 ∧ Aside0 (ints_readRuns.j1 kq a1 x6_1 t191 x30_4 x1000_4 x1001_4 = some (r1, r2, r3, r4)) ∧ Aside0 (kq ≤ k1) ∧ Aside0 (Kd.R (Kd.int .i64) 2 wc w.heap.size (fun _ => True) (.slice Ao6 x6_1.length co6) x6_1) ∧ Aside0 (IsS66 w0 wc g x1000_4 x1001_4) ∧ Aside0 (KeepBut w wc g none) ∧ Aside0 (Below w0.heap.size w0 wc))
    case first =>
     have H := HC5.out
     clear HC5
     replace H := Option.bind_eq_some_iff.mp H
     obtain ⟨⟨t194, t195, t196⟩, A80, H⟩ := H
     replace H : (if t194 = 0 then (if t191 = 0 then (ints_readRuns.j1 k1 a1 x6_1 t191 true t195 t196) else (ints_readRuns.j1 k1 a1 x6_1 t191 (decide (t191 > (IntKind.u64.wrap (wrap64 (a1 - (x6_1.length : Int)))))) t195 t196)) else (ints_readRuns.j1 k1 a1 x6_1 t191 false t195 t196)) = some (r1, r2, r3, r4) := H
     have A8 := Aside0.mk A80
     clear A80
     by_cases c9 : t194 = 0
     ·rw [if_pos c9] at H
      have c9b0 : (t194 == 0) = true := beq_iff_eq.mpr c9
      have c9b1 : (t194 != 0) = false := bne_eq_false_iff_eq.mpr c9
      clear c9
      (first | rw [c9b0] | (simp only [i64_w, i32_w]; rw [c9b0]) | skip)
      by_cases c10 : t191 = 0
      ·rw [if_pos c10] at H
       have c10b0 : (t191 == 0) = true := beq_iff_eq.mpr c10
       have c10b1 : (t191 != 0) = false := bne_eq_false_iff_eq.mpr c10
       clear c10
       have H' := Aside0.mk H
       clear H
       go_wp2_with (first | ((with_reducible refine gate_callee (f := 25) rfl ?_); refine goesL_ (some 16) rfl rfl Try.func25 (by kernel_rfl) rfl #[.pointer (some ⟨g, 0, none⟩)] rfl (by (try simp only [List.map_toArray, List.map_cons, List.map_nil]); first | done | rfl | (simp only [List.length_drop, List.length_take]; rfl) | (go_simp; simp [IntKind.wrap, IntKind.bits, IntKind.signed]; omega)) ?_; (with_reducible refine (tally_Cursor_Err.calls g t192 t193 t194 t195 t196 w0 _ ?side1 ?side2 A8.out).mono ?_); (case side1 => repeat (first | (with_reducible first | exact HI0.out | apply IsS66.alloc | apply IsS66.drewN | apply IsS66.drew | apply IsS66.set_0 | apply IsS66.set_1) | exact HI0.out)); (case side2 => repeat (first | (with_reducible first | exact HB.out | apply below_alloc | apply pw_below_drewN | apply below_drew1 | refine below_set ?_ (IsS66.ge HI0.out)) | exact HB.out)); rintro e w11 ⟨rfl, hi, hb, hk⟩; refine ⟨_, rfl, ?_⟩; have n0_ := Aside0.mk (Kd.R_mono (Kd.R_keep (IsS66.apart (show IsS66 w0 _ g t192 t193 from by repeat (first | (with_reducible first | exact HI0.out | apply IsS66.alloc | apply IsS66.drewN | apply IsS66.drew | apply IsS66.set_0 | apply IsS66.set_1) | exact HI0.out)) (by (with_reducible repeat (first | apply Kd.R_alloc | apply Kd.R_drewN | apply Kd.R_drew)); exact HO_6.out) (by decide)) hk (fun _ h => h.2)) (fun _ h => h.1)); have n1_ := Aside0.mk (KeepBut.trans (by repeat (first | (with_reducible first | exact HK.out | apply KeepBut.set_ | apply keep_drewN | apply keep_drew | apply keep_alloc) | exact HK.out)) hk (.inl rfl)); have n2_ := Aside0.mk (hb); have n3_ := Aside0.mk (hi); clear HO_6; clear HK; clear HB; clear HI0; have HO_6 := n0_; have HK := n1_; have HB := n2_; have HI0 := n3_; clear n0_ n1_ n2_ n3_; (try clear hb); (try clear hb2); (try clear hk); (try clear hi)))
       go_meet
       case rel => exact ⟨_, (true), (t195), (t196), (by first | rfl | (simp; done) | (simp [*]; done)), H', ⟨by have := HK1.out; first | omega | exact Nat.le_refl _⟩, ⟨by (with_reducible repeat (first | apply Kd.R_alloc | apply Kd.R_drewN | apply Kd.R_drew)); exact HO_6.out⟩, ⟨by repeat (first | (with_reducible first | exact HI0.out | apply IsS66.alloc | apply IsS66.drewN | apply IsS66.drew | apply IsS66.set_0 | apply IsS66.set_1) | exact HI0.out)⟩, ⟨by repeat (first | (with_reducible first | exact HK.out | apply KeepBut.set_ | apply keep_drewN | apply keep_drew | apply keep_alloc) | exact HK.out)⟩, ⟨by repeat (first | (with_reducible first | exact HB.out | apply below_alloc | apply pw_below_drewN | apply below_drew1 | refine below_set ?_ (IsS66.ge HI0.out)) | exact HB.out)⟩⟩
      ·rw [if_neg c10] at H
       have c10b0 : (t191 == 0) = false := beq_eq_false_iff_ne.mpr c10
       have c10b1 : (t191 != 0) = true := bne_iff_ne.mpr c10
       have H' := Aside0.mk H
       clear H
       go_wp2_with (first | ((with_reducible refine gate_callee (f := 25) rfl ?_); refine goesL_ (some 16) rfl rfl Try.func25 (by kernel_rfl) rfl #[.pointer (some ⟨g, 0, none⟩)] rfl (by (try simp only [List.map_toArray, List.map_cons, List.map_nil]); first | done | rfl | (simp only [List.length_drop, List.length_take]; rfl) | (go_simp; simp [IntKind.wrap, IntKind.bits, IntKind.signed]; omega)) ?_; (with_reducible refine (tally_Cursor_Err.calls g t192 t193 t194 t195 t196 w0 _ ?side1 ?side2 A8.out).mono ?_); (case side1 => repeat (first | (with_reducible first | exact HI0.out | apply IsS66.alloc | apply IsS66.drewN | apply IsS66.drew | apply IsS66.set_0 | apply IsS66.set_1) | exact HI0.out)); (case side2 => repeat (first | (with_reducible first | exact HB.out | apply below_alloc | apply pw_below_drewN | apply below_drew1 | refine below_set ?_ (IsS66.ge HI0.out)) | exact HB.out)); rintro e w12 ⟨rfl, hi, hb, hk⟩; refine ⟨_, rfl, ?_⟩; have n0_ := Aside0.mk (Kd.R_mono (Kd.R_keep (IsS66.apart (show IsS66 w0 _ g t192 t193 from by repeat (first | (with_reducible first | exact HI0.out | apply IsS66.alloc | apply IsS66.drewN | apply IsS66.drew | apply IsS66.set_0 | apply IsS66.set_1) | exact HI0.out)) (by (with_reducible repeat (first | apply Kd.R_alloc | apply Kd.R_drewN | apply Kd.R_drew)); exact HO_6.out) (by decide)) hk (fun _ h => h.2)) (fun _ h => h.1)); have n1_ := Aside0.mk (KeepBut.trans (by repeat (first | (with_reducible first | exact HK.out | apply KeepBut.set_ | apply keep_drewN | apply keep_drew | apply keep_alloc) | exact HK.out)) hk (.inl rfl)); have n2_ := Aside0.mk (hb); have n3_ := Aside0.mk (hi); clear HO_6; clear HK; clear HB; clear HI0; have HO_6 := n0_; have HK := n1_; have HB := n2_; have HI0 := n3_; clear n0_ n1_ n2_ n3_; (try clear hb); (try clear hb2); (try clear hk); (try clear hi)))
       go_meet
       case rel => exact ⟨_, (decide (t191 > (IntKind.u64.wrap (wrap64 (a1 - (x6_1.length : Int)))))), (t195), (t196), (by first | rfl | (simp; done) | (simp [*]; done)), H', ⟨by have := HK1.out; first | omega | exact Nat.le_refl _⟩, ⟨by (with_reducible repeat (first | apply Kd.R_alloc | apply Kd.R_drewN | apply Kd.R_drew)); exact HO_6.out⟩, ⟨by repeat (first | (with_reducible first | exact HI0.out | apply IsS66.alloc | apply IsS66.drewN | apply IsS66.drew | apply IsS66.set_0 | apply IsS66.set_1) | exact HI0.out)⟩, ⟨by repeat (first | (with_reducible first | exact HK.out | apply KeepBut.set_ | apply keep_drewN | apply keep_drew | apply keep_alloc) | exact HK.out)⟩, ⟨by repeat (first | (with_reducible first | exact HB.out | apply below_alloc | apply pw_below_drewN | apply below_drew1 | refine below_set ?_ (IsS66.ge HI0.out)) | exact HB.out)⟩⟩
     ·rw [if_neg c9] at H
      have c9b0 : (t194 == 0) = false := beq_eq_false_iff_ne.mpr c9
      have c9b1 : (t194 != 0) = true := bne_iff_ne.mpr c9
      (first | rw [c9b0] | (simp only [i64_w, i32_w]; rw [c9b0]) | skip)
      have H' := Aside0.mk H
      clear H
      go_wp2_with (first | ((with_reducible refine gate_callee (f := 25) rfl ?_); refine goesL_ (some 16) rfl rfl Try.func25 (by kernel_rfl) rfl #[.pointer (some ⟨g, 0, none⟩)] rfl (by (try simp only [List.map_toArray, List.map_cons, List.map_nil]); first | done | rfl | (simp only [List.length_drop, List.length_take]; rfl) | (go_simp; simp [IntKind.wrap, IntKind.bits, IntKind.signed]; omega)) ?_; (with_reducible refine (tally_Cursor_Err.calls g t192 t193 t194 t195 t196 w0 _ ?side1 ?side2 A8.out).mono ?_); (case side1 => repeat (first | (with_reducible first | exact HI0.out | apply IsS66.alloc | apply IsS66.drewN | apply IsS66.drew | apply IsS66.set_0 | apply IsS66.set_1) | exact HI0.out)); (case side2 => repeat (first | (with_reducible first | exact HB.out | apply below_alloc | apply pw_below_drewN | apply below_drew1 | refine below_set ?_ (IsS66.ge HI0.out)) | exact HB.out)); rintro e w13 ⟨rfl, hi, hb, hk⟩; refine ⟨_, rfl, ?_⟩; have n0_ := Aside0.mk (Kd.R_mono (Kd.R_keep (IsS66.apart (show IsS66 w0 _ g t192 t193 from by repeat (first | (with_reducible first | exact HI0.out | apply IsS66.alloc | apply IsS66.drewN | apply IsS66.drew | apply IsS66.set_0 | apply IsS66.set_1) | exact HI0.out)) (by (with_reducible repeat (first | apply Kd.R_alloc | apply Kd.R_drewN | apply Kd.R_drew)); exact HO_6.out) (by decide)) hk (fun _ h => h.2)) (fun _ h => h.1)); have n1_ := Aside0.mk (KeepBut.trans (by repeat (first | (with_reducible first | exact HK.out | apply KeepBut.set_ | apply keep_drewN | apply keep_drew | apply keep_alloc) | exact HK.out)) hk (.inl rfl)); have n2_ := Aside0.mk (hb); have n3_ := Aside0.mk (hi); clear HO_6; clear HK; clear HB; clear HI0; have HO_6 := n0_; have HK := n1_; have HB := n2_; have HI0 := n3_; clear n0_ n1_ n2_ n3_; (try clear hb); (try clear hb2); (try clear hk); (try clear hi)))
      go_meet
      case rel => exact ⟨_, (false), (t195), (t196), (by first | rfl | (simp; done) | (simp [*]; done)), H', ⟨by have := HK1.out; first | omega | exact Nat.le_refl _⟩, ⟨by (with_reducible repeat (first | apply Kd.R_alloc | apply Kd.R_drewN | apply Kd.R_drew)); exact HO_6.out⟩, ⟨by repeat (first | (with_reducible first | exact HI0.out | apply IsS66.alloc | apply IsS66.drewN | apply IsS66.drew | apply IsS66.set_0 | apply IsS66.set_1) | exact HI0.out)⟩, ⟨by repeat (first | (with_reducible first | exact HK.out | apply KeepBut.set_ | apply keep_drewN | apply keep_drew | apply keep_alloc) | exact HK.out)⟩, ⟨by repeat (first | (with_reducible first | exact HB.out | apply below_alloc | apply pw_below_drewN | apply below_drew1 | refine below_set ?_ (IsS66.ge HI0.out)) | exact HB.out)⟩⟩
    case rest =>
     clear HC5
     try clear c1
     try clear c2
     try clear p2
     try clear c3
     try clear c3b0
     try clear p6
     try clear c9
     try clear c9b0
     try clear c9b1
     try clear c10
     try clear c10b0
     try clear c10b1
     try clear p2
     obtain ⟨kq, x30_4, x1000_4, x1001_4, rfl, HA, HJ4, HO_6, HI0, HK, HB⟩ := hcut
     cases kq with
     | zero => exact absurd HA.out (by simp [ints_readRuns.j1])
     | succ kj4 =>
      have H := HA.out
      clear HA
      simp only [ints_readRuns.j1] at H
      by_cases c14 : x30_4 = true
      ·subst c14
       have H1 : (some (([] : List Int), 4, x1000_4, x1001_4)) = some (r1, r2, r3, r4) := by rw [if_pos rfl] at H; exact H
       clear H
       have H := H1
       clear H1
       simp only [Option.some.injEq, Prod.mk.injEq] at H
       obtain ⟨rfl, rfl, rfl, rfl⟩ := H
       go_wp2
       go_ret2
       exact ⟨_, by first | rfl | (simp [errW_none, errW_some] <;> rfl) | (simp [*, errW_none, errW_some] <;> rfl), by first | exact Kd.R_nil _ _ _ _ _ | exact Kd.N_nil _ _ _ _ _ | exact Kd.V_nil _ _ _ _ _ | exact Kd.Q_nil _ _ _ _ _ | exact Kd.S_nil _ _ _ _ _, by repeat (first | (with_reducible first | exact HI0.out | apply IsS66.alloc | apply IsS66.drewN | apply IsS66.drew | apply IsS66.set_0 | apply IsS66.set_1) | exact HI0.out), by repeat (first | (with_reducible first | exact HB.out | apply below_alloc | apply pw_below_drewN | apply below_drew1 | refine below_set ?_ (IsS66.ge HI0.out)) | exact HB.out), by repeat (first | (with_reducible first | exact HK.out | apply KeepBut.set_ | apply keep_drewN | apply keep_drew | apply keep_alloc) | exact HK.out)⟩
      ·replace c14 := Bool.eq_false_iff.mpr c14
       subst c14
       have H1 : ((tally_Cursor_Int.f x1000_4 x1001_4).bind fun bt197 => ((tally_Cursor_Err.f bt197.2.1 bt197.2.2).bind fun bt200 => (if bt200.1 = 0 then (if (x6_1.length : Int) > 0 then (if 0 ≤ (wrap64 ((x6_1.length : Int) - 1)) then (if (wrap64 ((x6_1.length : Int) - 1)) < (x6_1.length : Int) then (if (rd x6_1 (wrap64 ((x6_1.length : Int) - 1))) = bt197.1 then (some (([] : List Int), 4, bt200.2.1, bt200.2.2)) else ((slices_Repeat_int64_int64.f (([bt197.1] : List Int)) (wrap64 (t191))).bind fun t207 => (if x6_1.length + t207.length < 17592186044416 then (ints_readRuns.l0 kj4 a1 (x6_1 ++ t207) bt200.2.1 bt200.2.2) else (none)))) else (none)) else (none)) else ((slices_Repeat_int64_int64.f (([bt197.1] : List Int)) (wrap64 (t191))).bind fun t216 => (if x6_1.length + t216.length < 17592186044416 then (ints_readRuns.l0 kj4 a1 (x6_1 ++ t216) bt200.2.1 bt200.2.2) else (none)))) else ((tally_Cursor_Err.f bt200.2.1 bt200.2.2).bind fun bt222 => (some (([] : List Int), bt222.1, bt222.2.1, bt222.2.2)))))) = some (r1, r2, r3, r4) := by rw [if_neg (show ¬ (false = true) by decide)] at H; exact H
       clear H
       have H := H1
       clear H1
       replace H := Option.bind_eq_some_iff.mp H
       obtain ⟨⟨t197, t198, t199⟩, A150, H⟩ := H
       replace H : ((tally_Cursor_Err.f t198 t199).bind fun bt200 => (if bt200.1 = 0 then (if (x6_1.length : Int) > 0 then (if 0 ≤ (wrap64 ((x6_1.length : Int) - 1)) then (if (wrap64 ((x6_1.length : Int) - 1)) < (x6_1.length : Int) then (if (rd x6_1 (wrap64 ((x6_1.length : Int) - 1))) = t197 then (some (([] : List Int), 4, bt200.2.1, bt200.2.2)) else ((slices_Repeat_int64_int64.f (([t197] : List Int)) (wrap64 (t191))).bind fun t207 => (if x6_1.length + t207.length < 17592186044416 then (ints_readRuns.l0 kj4 a1 (x6_1 ++ t207) bt200.2.1 bt200.2.2) else (none)))) else (none)) else (none)) else ((slices_Repeat_int64_int64.f (([t197] : List Int)) (wrap64 (t191))).bind fun t216 => (if x6_1.length + t216.length < 17592186044416 then (ints_readRuns.l0 kj4 a1 (x6_1 ++ t216) bt200.2.1 bt200.2.2) else (none)))) else ((tally_Cursor_Err.f bt200.2.1 bt200.2.2).bind fun bt222 => (some (([] : List Int), bt222.1, bt222.2.1, bt222.2.2))))) = some (r1, r2, r3, r4) := H
       have A15 := Aside0.mk A150
       clear A150
       replace H := Option.bind_eq_some_iff.mp H
       obtain ⟨⟨t200, t201, t202⟩, A160, H⟩ := H
       replace H : (if t200 = 0 then (if (x6_1.length : Int) > 0 then (if 0 ≤ (wrap64 ((x6_1.length : Int) - 1)) then (if (wrap64 ((x6_1.length : Int) - 1)) < (x6_1.length : Int) then (if (rd x6_1 (wrap64 ((x6_1.length : Int) - 1))) = t197 then (some (([] : List Int), 4, t201, t202)) else ((slices_Repeat_int64_int64.f (([t197] : List Int)) (wrap64 (t191))).bind fun t207 => (if x6_1.length + t207.length < 17592186044416 then (ints_readRuns.l0 kj4 a1 (x6_1 ++ t207) t201 t202) else (none)))) else (none)) else (none)) else ((slices_Repeat_int64_int64.f (([t197] : List Int)) (wrap64 (t191))).bind fun t216 => (if x6_1.length + t216.length < 17592186044416 then (ints_readRuns.l0 kj4 a1 (x6_1 ++ t216) t201 t202) else (none)))) else ((tally_Cursor_Err.f t201 t202).bind fun bt222 => (some (([] : List Int), bt222.1, bt222.2.1, bt222.2.2)))) = some (r1, r2, r3, r4) := H
       have A16 := Aside0.mk A160
       clear A160
       by_cases c17 : t200 = 0
       ·rw [if_pos c17] at H
        have c17b0 : (t200 == 0) = true := beq_iff_eq.mpr c17
        have c17b1 : (t200 != 0) = false := bne_eq_false_iff_eq.mpr c17
        clear c17
        by_cases c18 : (x6_1.length : Int) > 0
        ·rw [if_pos c18] at H
         have c18b0 : decide (0 < (x6_1.length : Int)) = true := decide_eq_true c18
         have c18b1 : decide (0 < x6_1.length) = true := decide_eq_true (by omega)
         clear c18
         obtain ⟨ji19, hji19⟩ : ∃ j_ : Int, (wrap64 ((x6_1.length : Int) - 1)) = j_ := ⟨_, rfl⟩
         replace H : (if 0 ≤ (ji19) then (if (ji19) < (x6_1.length : Int) then (if (rd x6_1 (ji19)) = t197 then (some (([] : List Int), 4, t201, t202)) else ((slices_Repeat_int64_int64.f (([t197] : List Int)) (wrap64 (t191))).bind fun t207 => (if x6_1.length + t207.length < 17592186044416 then (ints_readRuns.l0 kj4 a1 (x6_1 ++ t207) t201 t202) else (none)))) else (none)) else (none)) = some (r1, r2, r3, r4) := by first | (rw [hji19] at H; exact H) | (simp only [hji19] at H ⊢; exact H)
         (try rw [hji19] at A15)
         (try rw [hji19] at A16)
         have hji19w : (IntKind.i64.wrap ((x6_1.length : Int) - 1)) = ji19 := (i64_w _).trans hji19
         by_cases c20 : 0 ≤ (ji19)
         ·rw [if_pos c20] at H
          have c20b0 : decide (0 ≤ (ji19)) = true := decide_eq_true c20
          clear c20
          by_cases c21 : (ji19) < (x6_1.length : Int)
          ·rw [if_pos c21] at H
           have c21b0 : decide ((ji19) < (x6_1.length : Int)) = true := decide_eq_true c21
           clear c21
           by_cases c22 : (rd x6_1 (ji19)) = t197
           ·rw [if_pos c22] at H
            have c22b0 : ((rd x6_1 (ji19)) == t197) = true := beq_iff_eq.mpr c22
            have c22b1 : ((rd x6_1 (ji19)) != t197) = false := bne_eq_false_iff_eq.mpr c22
            clear c22
            simp only [Option.some.injEq, Prod.mk.injEq] at H
            obtain ⟨rfl, rfl, rfl, rfl⟩ := H
            go_wp2_with (first | ((with_reducible refine gate_callee (f := 56) rfl ?_); refine goesL_ (some 32) rfl rfl Try.func56 (by kernel_rfl) rfl #[.pointer (some ⟨g, 0, none⟩)] rfl (by (try simp only [List.map_toArray, List.map_cons, List.map_nil]); first | done | rfl | (simp only [List.length_drop, List.length_take]; rfl) | (go_simp; simp [IntKind.wrap, IntKind.bits, IntKind.signed]; omega)) ?_; (with_reducible refine (tally_Cursor_Int.calls g x1000_4 x1001_4 t197 t198 t199 w0 _ ?side1 ?side2 A15.out).mono ?_); (case side1 => repeat (first | (with_reducible first | exact HI0.out | apply IsS66.alloc | apply IsS66.drewN | apply IsS66.drew | apply IsS66.set_0 | apply IsS66.set_1) | exact HI0.out)); (case side2 => repeat (first | (with_reducible first | exact HB.out | apply below_alloc | apply pw_below_drewN | apply below_drew1 | refine below_set ?_ (IsS66.ge HI0.out)) | exact HB.out)); rintro e w23 ⟨rfl, hi, hb, hk⟩; refine ⟨_, rfl, ?_⟩; have n0_ := Aside0.mk (Kd.R_mono (Kd.R_keep (IsS66.apart (show IsS66 w0 _ g x1000_4 x1001_4 from by repeat (first | (with_reducible first | exact HI0.out | apply IsS66.alloc | apply IsS66.drewN | apply IsS66.drew | apply IsS66.set_0 | apply IsS66.set_1) | exact HI0.out)) (by (with_reducible repeat (first | apply Kd.R_alloc | apply Kd.R_drewN | apply Kd.R_drew)); exact HO_6.out) (by decide)) hk (fun _ h => h.2)) (fun _ h => h.1)); have n1_ := Aside0.mk (KeepBut.trans (by repeat (first | (with_reducible first | exact HK.out | apply KeepBut.set_ | apply keep_drewN | apply keep_drew | apply keep_alloc) | exact HK.out)) hk (.inl rfl)); have n2_ := Aside0.mk (hb); have n3_ := Aside0.mk (hi); clear HO_6; clear HK; clear HB; clear HI0; have HO_6 := n0_; have HK := n1_; have HB := n2_; have HI0 := n3_; clear n0_ n1_ n2_ n3_; (try clear hb); (try clear hb2); (try clear hk); (try clear hi)) | ((with_reducible refine gate_callee (f := 25) rfl ?_); refine goesL_ (some 35) rfl rfl Try.func25 (by kernel_rfl) rfl #[.pointer (some ⟨g, 0, none⟩)] rfl (by (try simp only [List.map_toArray, List.map_cons, List.map_nil]); first | done | rfl | (simp only [List.length_drop, List.length_take]; rfl) | (go_simp; simp [IntKind.wrap, IntKind.bits, IntKind.signed]; omega)) ?_; (with_reducible refine (tally_Cursor_Err.calls g t198 t199 t200 t201 t202 w0 _ ?side1 ?side2 A16.out).mono ?_); (case side1 => repeat (first | (with_reducible first | exact HI0.out | apply IsS66.alloc | apply IsS66.drewN | apply IsS66.drew | apply IsS66.set_0 | apply IsS66.set_1) | exact HI0.out)); (case side2 => repeat (first | (with_reducible first | exact HB.out | apply below_alloc | apply pw_below_drewN | apply below_drew1 | refine below_set ?_ (IsS66.ge HI0.out)) | exact HB.out)); rintro e w24 ⟨rfl, hi, hb, hk⟩; refine ⟨_, rfl, ?_⟩; have n0_ := Aside0.mk (Kd.R_mono (Kd.R_keep (IsS66.apart (show IsS66 w0 _ g t198 t199 from by repeat (first | (with_reducible first | exact HI0.out | apply IsS66.alloc | apply IsS66.drewN | apply IsS66.drew | apply IsS66.set_0 | apply IsS66.set_1) | exact HI0.out)) (by (with_reducible repeat (first | apply Kd.R_alloc | apply Kd.R_drewN | apply Kd.R_drew)); exact HO_6.out) (by decide)) hk (fun _ h => h.2)) (fun _ h => h.1)); have n1_ := Aside0.mk (KeepBut.trans (by repeat (first | (with_reducible first | exact HK.out | apply KeepBut.set_ | apply keep_drewN | apply keep_drew | apply keep_alloc) | exact HK.out)) hk (.inl rfl)); have n2_ := Aside0.mk (hb); have n3_ := Aside0.mk (hi); clear HO_6; clear HK; clear HB; clear HI0; have HO_6 := n0_; have HK := n1_; have HB := n2_; have HI0 := n3_; clear n0_ n1_ n2_ n3_; (try clear hb); (try clear hb2); (try clear hk); (try clear hi); have p203 : 0 ≤ ((ji19) : Int) := of_decide_eq_true (by first | (with_reducible assumption) | assumption); have q203 : (ji19) < (x6_1.length : Int) := of_decide_eq_true (by first | (with_reducible assumption) | assumption); obtain ⟨ad203, e203, hx203_0⟩ := Kd.at_int (Kd.R_reads' HO_6.out).2.2 (ji19) p203 q203; cases e203; replace p203 := eq_true p203; replace q203 := eq_true q203))
            go_ret2
            exact ⟨_, by first | rfl | (simp [errW_none, errW_some] <;> rfl) | (simp only [← hji19]; first | rfl | (simp [errW_none, errW_some] <;> rfl)) | (simp [*, errW_none, errW_some] <;> rfl), by first | exact Kd.R_nil _ _ _ _ _ | exact Kd.N_nil _ _ _ _ _ | exact Kd.V_nil _ _ _ _ _ | exact Kd.Q_nil _ _ _ _ _ | exact Kd.S_nil _ _ _ _ _, by repeat (first | (with_reducible first | exact HI0.out | apply IsS66.alloc | apply IsS66.drewN | apply IsS66.drew | apply IsS66.set_0 | apply IsS66.set_1) | exact HI0.out), by repeat (first | (with_reducible first | exact HB.out | apply below_alloc | apply pw_below_drewN | apply below_drew1 | refine below_set ?_ (IsS66.ge HI0.out)) | exact HB.out), by repeat (first | (with_reducible first | exact HK.out | apply KeepBut.set_ | apply keep_drewN | apply keep_drew | apply keep_alloc) | exact HK.out)⟩
           ·rw [if_neg c22] at H
            have c22b0 : ((rd x6_1 (ji19)) == t197) = false := beq_eq_false_iff_ne.mpr c22
            have c22b1 : ((rd x6_1 (ji19)) != t197) = true := bne_iff_ne.mpr c22
            obtain ⟨y204, hy204⟩ : ∃ y_ : List Int, y_ = (([t197] : List Int)) := ⟨_, rfl⟩
            replace H : ((slices_Repeat_int64_int64.f y204 (wrap64 (t191))).bind fun t207 => (if x6_1.length + t207.length < 17592186044416 then (ints_readRuns.l0 kj4 a1 (x6_1 ++ t207) t201 t202) else (none))) = some (r1, r2, r3, r4) := by first | (rw [hy204]; with_reducible exact H) | (have H2_ := (Option.bind_some _ _).symm.trans H; rw [hy204]; with_reducible exact H2_) | (have H2_ := (Option.bind_some _ _).symm.trans H; with_reducible exact H2_) | with_reducible exact H | (rw [hy204]; exact H) | exact H
            have Ny204 := Aside0.mk hy204
            clear hy204
            replace H := Option.bind_eq_some_iff.mp H
            obtain ⟨t207, A250, H⟩ := H
            replace H : (if x6_1.length + t207.length < 17592186044416 then (ints_readRuns.l0 kj4 a1 (x6_1 ++ t207) t201 t202) else (none)) = some (r1, r2, r3, r4) := H
            have A25 := Aside0.mk A250
            clear A250
            by_cases c26 : x6_1.length + t207.length < 17592186044416
            ·rw [if_pos c26] at H
             have LMc26 := Aside0.mk c26
             clear c26
             obtain ⟨y210, hy210⟩ : ∃ y_ : List Int, y_ = (x6_1 ++ t207) := ⟨_, rfl⟩
             replace H : (ints_readRuns.l0 kj4 a1 y210 t201 t202) = some (r1, r2, r3, r4) := by first | (rw [hy210]; with_reducible exact H) | (have H2_ := (Option.bind_some _ _).symm.trans H; rw [hy210]; with_reducible exact H2_) | (have H2_ := (Option.bind_some _ _).symm.trans H; with_reducible exact H2_) | with_reducible exact H | (rw [hy210]; exact H) | exact H
             have Ny210 := Aside0.mk hy210
             clear hy210
             have H' := Aside0.mk H
             clear H
             go_wp2_with (first | ((with_reducible refine gate_callee (f := 56) rfl ?_); refine goesL_ (some 32) rfl rfl Try.func56 (by kernel_rfl) rfl #[.pointer (some ⟨g, 0, none⟩)] rfl (by (try simp only [List.map_toArray, List.map_cons, List.map_nil]); first | done | rfl | (simp only [List.length_drop, List.length_take]; rfl) | (go_simp; simp [IntKind.wrap, IntKind.bits, IntKind.signed]; omega)) ?_; (with_reducible refine (tally_Cursor_Int.calls g x1000_4 x1001_4 t197 t198 t199 w0 _ ?side1 ?side2 A15.out).mono ?_); (case side1 => repeat (first | (with_reducible first | exact HI0.out | apply IsS66.alloc | apply IsS66.drewN | apply IsS66.drew | apply IsS66.set_0 | apply IsS66.set_1) | exact HI0.out)); (case side2 => repeat (first | (with_reducible first | exact HB.out | apply below_alloc | apply pw_below_drewN | apply below_drew1 | refine below_set ?_ (IsS66.ge HI0.out)) | exact HB.out)); rintro e w27 ⟨rfl, hi, hb, hk⟩; refine ⟨_, rfl, ?_⟩; have n0_ := Aside0.mk (Kd.R_mono (Kd.R_keep (IsS66.apart (show IsS66 w0 _ g x1000_4 x1001_4 from by repeat (first | (with_reducible first | exact HI0.out | apply IsS66.alloc | apply IsS66.drewN | apply IsS66.drew | apply IsS66.set_0 | apply IsS66.set_1) | exact HI0.out)) (by (with_reducible repeat (first | apply Kd.R_alloc | apply Kd.R_drewN | apply Kd.R_drew)); exact HO_6.out) (by decide)) hk (fun _ h => h.2)) (fun _ h => h.1)); have n1_ := Aside0.mk (KeepBut.trans (by repeat (first | (with_reducible first | exact HK.out | apply KeepBut.set_ | apply keep_drewN | apply keep_drew | apply keep_alloc) | exact HK.out)) hk (.inl rfl)); have n2_ := Aside0.mk (hb); have n3_ := Aside0.mk (hi); clear HO_6; clear HK; clear HB; clear HI0; have HO_6 := n0_; have HK := n1_; have HB := n2_; have HI0 := n3_; clear n0_ n1_ n2_ n3_; (try clear hb); (try clear hb2); (try clear hk); (try clear hi)) | ((with_reducible refine gate_callee (f := 25) rfl ?_); refine goesL_ (some 35) rfl rfl Try.func25 (by kernel_rfl) rfl #[.pointer (some ⟨g, 0, none⟩)] rfl (by (try simp only [List.map_toArray, List.map_cons, List.map_nil]); first | done | rfl | (simp only [List.length_drop, List.length_take]; rfl) | (go_simp; simp [IntKind.wrap, IntKind.bits, IntKind.signed]; omega)) ?_; (with_reducible refine (tally_Cursor_Err.calls g t198 t199 t200 t201 t202 w0 _ ?side1 ?side2 A16.out).mono ?_); (case side1 => repeat (first | (with_reducible first | exact HI0.out | apply IsS66.alloc | apply IsS66.drewN | apply IsS66.drew | apply IsS66.set_0 | apply IsS66.set_1) | exact HI0.out)); (case side2 => repeat (first | (with_reducible first | exact HB.out | apply below_alloc | apply pw_below_drewN | apply below_drew1 | refine below_set ?_ (IsS66.ge HI0.out)) | exact HB.out)); rintro e w28 ⟨rfl, hi, hb, hk⟩; refine ⟨_, rfl, ?_⟩; have n0_ := Aside0.mk (Kd.R_mono (Kd.R_keep (IsS66.apart (show IsS66 w0 _ g t198 t199 from by repeat (first | (with_reducible first | exact HI0.out | apply IsS66.alloc | apply IsS66.drewN | apply IsS66.drew | apply IsS66.set_0 | apply IsS66.set_1) | exact HI0.out)) (by (with_reducible repeat (first | apply Kd.R_alloc | apply Kd.R_drewN | apply Kd.R_drew)); exact HO_6.out) (by decide)) hk (fun _ h => h.2)) (fun _ h => h.1)); have n1_ := Aside0.mk (KeepBut.trans (by repeat (first | (with_reducible first | exact HK.out | apply KeepBut.set_ | apply keep_drewN | apply keep_drew | apply keep_alloc) | exact HK.out)) hk (.inl rfl)); have n2_ := Aside0.mk (hb); have n3_ := Aside0.mk (hi); clear HO_6; clear HK; clear HB; clear HI0; have HO_6 := n0_; have HK := n1_; have HB := n2_; have HI0 := n3_; clear n0_ n1_ n2_ n3_; (try clear hb); (try clear hb2); (try clear hk); (try clear hi); have p203 : 0 ≤ ((ji19) : Int) := of_decide_eq_true (by first | (with_reducible assumption) | assumption); have q203 : (ji19) < (x6_1.length : Int) := of_decide_eq_true (by first | (with_reducible assumption) | assumption); obtain ⟨ad203, e203, hx203_0⟩ := Kd.at_int (Kd.R_reads' HO_6.out).2.2 (ji19) p203 q203; cases e203; replace p203 := eq_true p203; replace q203 := eq_true q203) | ((with_reducible refine gate_dst (N := 55) rfl ?_); (try (refine gate_guard (by rfl) ?_; dsimp only)); refine Kd.R_lit (Kd.int .i64) _ 2 ?hg (N := 55) ?hd (xs := ([t197] : List Int)) (inner := [.int .i64 t197]) (ok := fun _ => True) (okp := fun _ => True) ?hr ?hp (fun _ hk => hk) trivial (Below.refl _ _) (Nat.le_refl _) (by simp) ?_; (case hd => rfl); (case hg => rfl); (case hr => first | (go_simp; done) | (go_simp; rfl)); (case hp => exact (Reps.one (show Kd.M (Kd.int .i64) _ _ _ t197 [.int .i64 t197] from rfl) (Reps.none _ _))); intro v205 w29 ho30 hb hg_ hnew_; clear hg_ hnew_; (first | rw [← Ny204.out] at ho30 | (simp only [Int.reduceToNat] at ho30; rw [← Ny204.out] at ho30)); have n0_ := Aside0.mk (Kd.R_elder' (by (with_reducible repeat (first | apply Kd.R_alloc | apply Kd.R_drewN | apply Kd.R_drew)); exact HO_6.out) (Kd.R_base ho30) hb); have n1_ := Aside0.mk (Kd.R_lower (Kd.R_new' ho30 (Kd.R_lt (by (with_reducible repeat (first | apply Kd.R_alloc | apply Kd.R_drewN | apply Kd.R_drew)); exact HO_6.out))) (keep_size (w := w) (g := g) (row := none) (by repeat (first | (with_reducible first | exact HK.out | apply KeepBut.set_ | apply keep_drewN | apply keep_drew | apply keep_alloc) | exact HK.out)))); have n2_ := Aside0.mk (IsS66.below (by repeat (first | (with_reducible first | exact HI0.out | apply IsS66.alloc | apply IsS66.drewN | apply IsS66.drew | apply IsS66.set_0 | apply IsS66.set_1) | exact HI0.out)) hb); have n3_ := Aside0.mk (KeepBut.trans (by repeat (first | (with_reducible first | exact HK.out | apply KeepBut.set_ | apply keep_drewN | apply keep_drew | apply keep_alloc) | exact HK.out)) (KeepBut.of_below hb g none) (.inl rfl)); have n4_ := Aside0.mk (below_step (by repeat (first | (with_reducible first | exact HB.out | apply below_alloc | apply pw_below_drewN | apply below_drew1 | refine below_set ?_ (IsS66.ge HI0.out)) | exact HB.out)) hb); clear HO_6; clear HI0; clear HK; clear HB; have HO_6 := n0_; have HO206 := n1_; have HI0 := n2_; have HK := n3_; have HB := n4_; clear n0_ n1_ n2_ n3_ n4_; clear hb ho30; obtain ⟨Ao31, co31, eo31⟩ := Kd.R_slice HO206.out; subst eo31) | ((with_reducible refine gate_callee (f := 57) rfl ?_); refine goesL_ (some 58) rfl rfl Try.func57 (by kernel_rfl) rfl #[.slice Ao31 y204.length co31, .int .i64 (wrap64 (t191))] rfl (by (try simp only [List.map_toArray, List.map_cons, List.map_nil]); first | done | rfl | (simp only [List.length_drop, List.length_take]; rfl) | (go_simp; simp [IntKind.wrap, IntKind.bits, IntKind.signed]; omega)) ?_; (with_reducible refine (slices_Repeat_int64_int64.calls _ _ y204 (wrap64 (t191)) t207 _ ?side1 ?side2 A25.out).mono ?_); (case side1 => repeat (first | exact (Kd.R_reads' HO206.out).2.2 | (with_reducible refine Kd.C_alloc ?_ _) | (with_reducible refine Kd.C_drewN ?_ _) | (with_reducible refine Kd.C_drew ?_))); (case side2 => exact (Kd.R_reads' HO206.out).2.1); rintro e w32 ⟨v208, rfl, ho0, hb⟩; refine ⟨_, rfl, ?_⟩; have n0_ := Aside0.mk (Kd.R_elder' (by (with_reducible repeat (first | apply Kd.R_alloc | apply Kd.R_drewN | apply Kd.R_drew)); exact HO_6.out) (Kd.R_base ho0) hb); have n1_ := Aside0.mk (Kd.R_elder' (by (with_reducible repeat (first | apply Kd.R_alloc | apply Kd.R_drewN | apply Kd.R_drew)); exact HO206.out) (Kd.R_base ho0) hb); have n2_ := Aside0.mk (Kd.R_lower (Kd.R_new' (Kd.R_new' ho0 (Kd.R_lt (by (with_reducible repeat (first | apply Kd.R_alloc | apply Kd.R_drewN | apply Kd.R_drew)); exact HO_6.out))) (Kd.R_lt (by (with_reducible repeat (first | apply Kd.R_alloc | apply Kd.R_drewN | apply Kd.R_drew)); exact HO206.out))) (keep_size (w := w) (g := g) (row := none) (by repeat (first | (with_reducible first | exact HK.out | apply KeepBut.set_ | apply keep_drewN | apply keep_drew | apply keep_alloc) | exact HK.out)))); have n3_ := Aside0.mk (IsS66.below (by repeat (first | (with_reducible first | exact HI0.out | apply IsS66.alloc | apply IsS66.drewN | apply IsS66.drew | apply IsS66.set_0 | apply IsS66.set_1) | exact HI0.out)) hb); have n4_ := Aside0.mk (KeepBut.trans (by repeat (first | (with_reducible first | exact HK.out | apply KeepBut.set_ | apply keep_drewN | apply keep_drew | apply keep_alloc) | exact HK.out)) (KeepBut.of_below hb g none) (.inl rfl)); have n5_ := Aside0.mk (below_step (by repeat (first | (with_reducible first | exact HB.out | apply below_alloc | apply pw_below_drewN | apply below_drew1 | refine below_set ?_ (IsS66.ge HI0.out)) | exact HB.out)) hb); clear HO_6; clear HO206; clear HI0; clear HK; clear HB; have HO_6 := n0_; have HO206 := n1_; have HO209 := n2_; have HI0 := n3_; have HK := n4_; have HB := n5_; clear n0_ n1_ n2_ n3_ n4_ n5_; (try clear hb); (try clear hb2); (try clear hk); (try clear hi); (try clear ho0); obtain ⟨Ao34, co34, eo34⟩ := Kd.R_slice HO209.out; subst eo34) | ((with_reducible refine gate_builtin (b := .append) (xs := #[.tmp 53, .tmp 58]) rfl ?_); (try (refine gate_guard (by rfl) ?_; dsimp only)); at_builtin; refine Kd.R_append_rows (Kd.int .i64) w.heap.size rfl (.tmp 53) (.tmp 58) 22 2 (.int .i64 0) 8 rfl Try.underlying22 info2 rfl (by decide) (by omega) (.slice (some ad203) x6_1.length co6) x6_1 t207 _ _ _ (fun k_ => some k_ ≠ (.slice Ao31 y204.length co31 : Value).ownBlock ∧ some k_ ≠ (.slice Ao34 t207.length co34 : Value).ownBlock) (fun _ => False) rfl rfl ?aO ?aR (fun _ _ h => h) (fun _ h => h.elim) ?aF (Below.refl _ _) ?aS ?aL ?_; (case aR => repeat (first | exact (Kd.R_reads' HO209.out).2.2 | (with_reducible refine Kd.C_alloc ?_ _) | (with_reducible refine Kd.C_drewN ?_ _) | (with_reducible refine Kd.C_drew ?_))); (case aF => exact (fun k_ hk => ⟨Kd.fresh' (Kd.R_lt (by (with_reducible repeat (first | apply Kd.R_alloc | apply Kd.R_drewN | apply Kd.R_drew)); exact HO206.out)) k_ hk, Kd.fresh' (Kd.R_lt (by (with_reducible repeat (first | apply Kd.R_alloc | apply Kd.R_drewN | apply Kd.R_drew)); exact HO209.out)) k_ hk⟩)); (case aO => exact (by (with_reducible repeat (first | apply Kd.R_alloc | apply Kd.R_drewN | apply Kd.R_drew)); exact Kd.R_mono HO_6.out (fun _ hk => ⟨hk.1.2, hk.2⟩))); (case aS => exact (keep_size (w := w) (g := g) (row := none) (by repeat (first | (with_reducible first | exact HK.out | apply KeepBut.set_ | apply keep_drewN | apply keep_drew | apply keep_alloc) | exact HK.out)))); (case aL => have := LMc26.out; omega); intro v211 w33 ho hb hg hat; rw [← Ny210.out] at ho; have n0_ := Aside0.mk (IsS66.grown (by repeat (first | (with_reducible first | exact HI0.out | apply IsS66.alloc | apply IsS66.drewN | apply IsS66.drew | apply IsS66.set_0 | apply IsS66.set_1) | exact HI0.out)) hg (IsS66.own_ne HI0.out HO_6.out (by decide))); have n1_ := Aside0.mk (Kd.R_after (ok := (fun k_ => some k_ ≠ (.slice Ao34 t207.length co34 : Value).ownBlock)) (by (with_reducible repeat (first | apply Kd.R_alloc | apply Kd.R_drewN | apply Kd.R_drew)); exact Kd.R_mono HO206.out (fun _ hk => ⟨hk.2, hk.1.2⟩)) hg hat); have n2_ := Aside0.mk (Kd.R_after (ok := (fun k_ => some k_ ≠ (.slice Ao31 y204.length co31 : Value).ownBlock)) (by (with_reducible repeat (first | apply Kd.R_alloc | apply Kd.R_drewN | apply Kd.R_drew)); exact Kd.R_mono HO209.out (fun _ hk => ⟨hk.2, hk.1.2⟩)) hg hat); have n3_ := Aside0.mk (below_weaken (by repeat (first | (with_reducible first | exact HB.out | apply below_alloc | apply pw_below_drewN | apply below_drew1 | refine below_set ?_ (IsS66.ge HI0.out)) | exact HB.out)) HL.out hb); have n4_ := Aside0.mk (KeepBut.trans (by repeat (first | (with_reducible first | exact HK.out | apply KeepBut.set_ | apply keep_drewN | apply keep_drew | apply keep_alloc) | exact HK.out)) (KeepBut.of_grown hg g) (Kd.R_base2 HO_6.out)); have n5_ := Aside0.mk (ho); clear HI0; clear HO206; clear HO209; clear HB; clear HK; clear HO_6; have HI0 := n0_; have HO206 := n1_; have HO209 := n2_; have HB := n3_; have HK := n4_; have HO212 := n5_; clear n0_ n1_ n2_ n3_ n4_ n5_; clear ho hb hg hat))
             go_roundg kj4
             case measure => have := HK1.out; have := HJ4.out; omega
             case rel => exact ⟨(y210), (t201), (t202), H', ⟨by have := HK1.out; have := HJ4.out; omega⟩, ⟨by (with_reducible repeat (first | apply Kd.R_alloc | apply Kd.R_drewN | apply Kd.R_drew)); exact Kd.R_mono HO212.out (fun _ hk => trivial)⟩, ⟨by repeat (first | (with_reducible first | exact HI0.out | apply IsS66.alloc | apply IsS66.drewN | apply IsS66.drew | apply IsS66.set_0 | apply IsS66.set_1) | exact HI0.out)⟩, ⟨by repeat (first | (with_reducible first | exact HK.out | apply KeepBut.set_ | apply keep_drewN | apply keep_drew | apply keep_alloc) | exact HK.out)⟩, ⟨by repeat (first | (with_reducible first | exact HB.out | apply below_alloc | apply pw_below_drewN | apply below_drew1 | refine below_set ?_ (IsS66.ge HI0.out)) | exact HB.out)⟩⟩
            ·rw [if_neg c26] at H
             exact absurd H (by simp)
          ·rw [if_neg c21] at H
           exact absurd H (by simp)
         ·rw [if_neg c20] at H
          exact absurd H (by simp)
        ·rw [if_neg c18] at H
         have c18b0 : decide (0 < (x6_1.length : Int)) = false := decide_eq_false c18
         have c18b1 : decide (0 < x6_1.length) = false := decide_eq_false (by omega)
         clear c18
         obtain ⟨y213, hy213⟩ : ∃ y_ : List Int, y_ = (([t197] : List Int)) := ⟨_, rfl⟩
         replace H : ((slices_Repeat_int64_int64.f y213 (wrap64 (t191))).bind fun t216 => (if x6_1.length + t216.length < 17592186044416 then (ints_readRuns.l0 kj4 a1 (x6_1 ++ t216) t201 t202) else (none))) = some (r1, r2, r3, r4) := by first | (rw [hy213]; with_reducible exact H) | (have H2_ := (Option.bind_some _ _).symm.trans H; rw [hy213]; with_reducible exact H2_) | (have H2_ := (Option.bind_some _ _).symm.trans H; with_reducible exact H2_) | with_reducible exact H | (rw [hy213]; exact H) | exact H
         have Ny213 := Aside0.mk hy213
         clear hy213
         replace H := Option.bind_eq_some_iff.mp H
         obtain ⟨t216, A350, H⟩ := H
         replace H : (if x6_1.length + t216.length < 17592186044416 then (ints_readRuns.l0 kj4 a1 (x6_1 ++ t216) t201 t202) else (none)) = some (r1, r2, r3, r4) := H
         have A35 := Aside0.mk A350
         clear A350
         by_cases c36 : x6_1.length + t216.length < 17592186044416
         ·rw [if_pos c36] at H
          have LMc36 := Aside0.mk c36
          clear c36
          obtain ⟨y219, hy219⟩ : ∃ y_ : List Int, y_ = (x6_1 ++ t216) := ⟨_, rfl⟩
          replace H : (ints_readRuns.l0 kj4 a1 y219 t201 t202) = some (r1, r2, r3, r4) := by first | (rw [hy219]; with_reducible exact H) | (have H2_ := (Option.bind_some _ _).symm.trans H; rw [hy219]; with_reducible exact H2_) | (have H2_ := (Option.bind_some _ _).symm.trans H; with_reducible exact H2_) | with_reducible exact H | (rw [hy219]; exact H) | exact H
          have Ny219 := Aside0.mk hy219
          clear hy219
          have H' := Aside0.mk H
          clear H
          go_wp2_with (first | ((with_reducible refine gate_callee (f := 56) rfl ?_); refine goesL_ (some 32) rfl rfl Try.func56 (by kernel_rfl) rfl #[.pointer (some ⟨g, 0, none⟩)] rfl (by (try simp only [List.map_toArray, List.map_cons, List.map_nil]); first | done | rfl | (simp only [List.length_drop, List.length_take]; rfl) | (go_simp; simp [IntKind.wrap, IntKind.bits, IntKind.signed]; omega)) ?_; (with_reducible refine (tally_Cursor_Int.calls g x1000_4 x1001_4 t197 t198 t199 w0 _ ?side1 ?side2 A15.out).mono ?_); (case side1 => repeat (first | (with_reducible first | exact HI0.out | apply IsS66.alloc | apply IsS66.drewN | apply IsS66.drew | apply IsS66.set_0 | apply IsS66.set_1) | exact HI0.out)); (case side2 => repeat (first | (with_reducible first | exact HB.out | apply below_alloc | apply pw_below_drewN | apply below_drew1 | refine below_set ?_ (IsS66.ge HI0.out)) | exact HB.out)); rintro e w37 ⟨rfl, hi, hb, hk⟩; refine ⟨_, rfl, ?_⟩; have n0_ := Aside0.mk (Kd.R_mono (Kd.R_keep (IsS66.apart (show IsS66 w0 _ g x1000_4 x1001_4 from by repeat (first | (with_reducible first | exact HI0.out | apply IsS66.alloc | apply IsS66.drewN | apply IsS66.drew | apply IsS66.set_0 | apply IsS66.set_1) | exact HI0.out)) (by (with_reducible repeat (first | apply Kd.R_alloc | apply Kd.R_drewN | apply Kd.R_drew)); exact HO_6.out) (by decide)) hk (fun _ h => h.2)) (fun _ h => h.1)); have n1_ := Aside0.mk (KeepBut.trans (by repeat (first | (with_reducible first | exact HK.out | apply KeepBut.set_ | apply keep_drewN | apply keep_drew | apply keep_alloc) | exact HK.out)) hk (.inl rfl)); have n2_ := Aside0.mk (hb); have n3_ := Aside0.mk (hi); clear HO_6; clear HK; clear HB; clear HI0; have HO_6 := n0_; have HK := n1_; have HB := n2_; have HI0 := n3_; clear n0_ n1_ n2_ n3_; (try clear hb); (try clear hb2); (try clear hk); (try clear hi)) | ((with_reducible refine gate_callee (f := 25) rfl ?_); refine goesL_ (some 35) rfl rfl Try.func25 (by kernel_rfl) rfl #[.pointer (some ⟨g, 0, none⟩)] rfl (by (try simp only [List.map_toArray, List.map_cons, List.map_nil]); first | done | rfl | (simp only [List.length_drop, List.length_take]; rfl) | (go_simp; simp [IntKind.wrap, IntKind.bits, IntKind.signed]; omega)) ?_; (with_reducible refine (tally_Cursor_Err.calls g t198 t199 t200 t201 t202 w0 _ ?side1 ?side2 A16.out).mono ?_); (case side1 => repeat (first | (with_reducible first | exact HI0.out | apply IsS66.alloc | apply IsS66.drewN | apply IsS66.drew | apply IsS66.set_0 | apply IsS66.set_1) | exact HI0.out)); (case side2 => repeat (first | (with_reducible first | exact HB.out | apply below_alloc | apply pw_below_drewN | apply below_drew1 | refine below_set ?_ (IsS66.ge HI0.out)) | exact HB.out)); rintro e w38 ⟨rfl, hi, hb, hk⟩; refine ⟨_, rfl, ?_⟩; have n0_ := Aside0.mk (Kd.R_mono (Kd.R_keep (IsS66.apart (show IsS66 w0 _ g t198 t199 from by repeat (first | (with_reducible first | exact HI0.out | apply IsS66.alloc | apply IsS66.drewN | apply IsS66.drew | apply IsS66.set_0 | apply IsS66.set_1) | exact HI0.out)) (by (with_reducible repeat (first | apply Kd.R_alloc | apply Kd.R_drewN | apply Kd.R_drew)); exact HO_6.out) (by decide)) hk (fun _ h => h.2)) (fun _ h => h.1)); have n1_ := Aside0.mk (KeepBut.trans (by repeat (first | (with_reducible first | exact HK.out | apply KeepBut.set_ | apply keep_drewN | apply keep_drew | apply keep_alloc) | exact HK.out)) hk (.inl rfl)); have n2_ := Aside0.mk (hb); have n3_ := Aside0.mk (hi); clear HO_6; clear HK; clear HB; clear HI0; have HO_6 := n0_; have HK := n1_; have HB := n2_; have HI0 := n3_; clear n0_ n1_ n2_ n3_; (try clear hb); (try clear hb2); (try clear hk); (try clear hi)) | ((with_reducible refine gate_dst (N := 55) rfl ?_); (try (refine gate_guard (by rfl) ?_; dsimp only)); refine Kd.R_lit (Kd.int .i64) _ 2 ?hg (N := 55) ?hd (xs := ([t197] : List Int)) (inner := [.int .i64 t197]) (ok := fun _ => True) (okp := fun _ => True) ?hr ?hp (fun _ hk => hk) trivial (Below.refl _ _) (Nat.le_refl _) (by simp) ?_; (case hd => rfl); (case hg => rfl); (case hr => first | (go_simp; done) | (go_simp; rfl)); (case hp => exact (Reps.one (show Kd.M (Kd.int .i64) _ _ _ t197 [.int .i64 t197] from rfl) (Reps.none _ _))); intro v214 w39 ho40 hb hg_ hnew_; clear hg_ hnew_; (first | rw [← Ny213.out] at ho40 | (simp only [Int.reduceToNat] at ho40; rw [← Ny213.out] at ho40)); have n0_ := Aside0.mk (Kd.R_elder' (by (with_reducible repeat (first | apply Kd.R_alloc | apply Kd.R_drewN | apply Kd.R_drew)); exact HO_6.out) (Kd.R_base ho40) hb); have n1_ := Aside0.mk (Kd.R_lower (Kd.R_new' ho40 (Kd.R_lt (by (with_reducible repeat (first | apply Kd.R_alloc | apply Kd.R_drewN | apply Kd.R_drew)); exact HO_6.out))) (keep_size (w := w) (g := g) (row := none) (by repeat (first | (with_reducible first | exact HK.out | apply KeepBut.set_ | apply keep_drewN | apply keep_drew | apply keep_alloc) | exact HK.out)))); have n2_ := Aside0.mk (IsS66.below (by repeat (first | (with_reducible first | exact HI0.out | apply IsS66.alloc | apply IsS66.drewN | apply IsS66.drew | apply IsS66.set_0 | apply IsS66.set_1) | exact HI0.out)) hb); have n3_ := Aside0.mk (KeepBut.trans (by repeat (first | (with_reducible first | exact HK.out | apply KeepBut.set_ | apply keep_drewN | apply keep_drew | apply keep_alloc) | exact HK.out)) (KeepBut.of_below hb g none) (.inl rfl)); have n4_ := Aside0.mk (below_step (by repeat (first | (with_reducible first | exact HB.out | apply below_alloc | apply pw_below_drewN | apply below_drew1 | refine below_set ?_ (IsS66.ge HI0.out)) | exact HB.out)) hb); clear HO_6; clear HI0; clear HK; clear HB; have HO_6 := n0_; have HO215 := n1_; have HI0 := n2_; have HK := n3_; have HB := n4_; clear n0_ n1_ n2_ n3_ n4_; clear hb ho40; obtain ⟨Ao41, co41, eo41⟩ := Kd.R_slice HO215.out; subst eo41) | ((with_reducible refine gate_callee (f := 57) rfl ?_); refine goesL_ (some 58) rfl rfl Try.func57 (by kernel_rfl) rfl #[.slice Ao41 y213.length co41, .int .i64 (wrap64 (t191))] rfl (by (try simp only [List.map_toArray, List.map_cons, List.map_nil]); first | done | rfl | (simp only [List.length_drop, List.length_take]; rfl) | (go_simp; simp [IntKind.wrap, IntKind.bits, IntKind.signed]; omega)) ?_; (with_reducible refine (slices_Repeat_int64_int64.calls _ _ y213 (wrap64 (t191)) t216 _ ?side1 ?side2 A35.out).mono ?_); (case side1 => repeat (first | exact (Kd.R_reads' HO215.out).2.2 | (with_reducible refine Kd.C_alloc ?_ _) | (with_reducible refine Kd.C_drewN ?_ _) | (with_reducible refine Kd.C_drew ?_))); (case side2 => exact (Kd.R_reads' HO215.out).2.1); rintro e w42 ⟨v217, rfl, ho0, hb⟩; refine ⟨_, rfl, ?_⟩; have n0_ := Aside0.mk (Kd.R_elder' (by (with_reducible repeat (first | apply Kd.R_alloc | apply Kd.R_drewN | apply Kd.R_drew)); exact HO_6.out) (Kd.R_base ho0) hb); have n1_ := Aside0.mk (Kd.R_elder' (by (with_reducible repeat (first | apply Kd.R_alloc | apply Kd.R_drewN | apply Kd.R_drew)); exact HO215.out) (Kd.R_base ho0) hb); have n2_ := Aside0.mk (Kd.R_lower (Kd.R_new' (Kd.R_new' ho0 (Kd.R_lt (by (with_reducible repeat (first | apply Kd.R_alloc | apply Kd.R_drewN | apply Kd.R_drew)); exact HO_6.out))) (Kd.R_lt (by (with_reducible repeat (first | apply Kd.R_alloc | apply Kd.R_drewN | apply Kd.R_drew)); exact HO215.out))) (keep_size (w := w) (g := g) (row := none) (by repeat (first | (with_reducible first | exact HK.out | apply KeepBut.set_ | apply keep_drewN | apply keep_drew | apply keep_alloc) | exact HK.out)))); have n3_ := Aside0.mk (IsS66.below (by repeat (first | (with_reducible first | exact HI0.out | apply IsS66.alloc | apply IsS66.drewN | apply IsS66.drew | apply IsS66.set_0 | apply IsS66.set_1) | exact HI0.out)) hb); have n4_ := Aside0.mk (KeepBut.trans (by repeat (first | (with_reducible first | exact HK.out | apply KeepBut.set_ | apply keep_drewN | apply keep_drew | apply keep_alloc) | exact HK.out)) (KeepBut.of_below hb g none) (.inl rfl)); have n5_ := Aside0.mk (below_step (by repeat (first | (with_reducible first | exact HB.out | apply below_alloc | apply pw_below_drewN | apply below_drew1 | refine below_set ?_ (IsS66.ge HI0.out)) | exact HB.out)) hb); clear HO_6; clear HO215; clear HI0; clear HK; clear HB; have HO_6 := n0_; have HO215 := n1_; have HO218 := n2_; have HI0 := n3_; have HK := n4_; have HB := n5_; clear n0_ n1_ n2_ n3_ n4_ n5_; (try clear hb); (try clear hb2); (try clear hk); (try clear hi); (try clear ho0); obtain ⟨Ao44, co44, eo44⟩ := Kd.R_slice HO218.out; subst eo44) | ((with_reducible refine gate_builtin (b := .append) (xs := #[.tmp 53, .tmp 58]) rfl ?_); (try (refine gate_guard (by rfl) ?_; dsimp only)); at_builtin; refine Kd.R_append_rows (Kd.int .i64) w.heap.size rfl (.tmp 53) (.tmp 58) 22 2 (.int .i64 0) 8 rfl Try.underlying22 info2 rfl (by decide) (by omega) (.slice Ao6 x6_1.length co6) x6_1 t216 _ _ _ (fun k_ => some k_ ≠ (.slice Ao41 y213.length co41 : Value).ownBlock ∧ some k_ ≠ (.slice Ao44 t216.length co44 : Value).ownBlock) (fun _ => False) rfl rfl ?aO ?aR (fun _ _ h => h) (fun _ h => h.elim) ?aF (Below.refl _ _) ?aS ?aL ?_; (case aR => repeat (first | exact (Kd.R_reads' HO218.out).2.2 | (with_reducible refine Kd.C_alloc ?_ _) | (with_reducible refine Kd.C_drewN ?_ _) | (with_reducible refine Kd.C_drew ?_))); (case aF => exact (fun k_ hk => ⟨Kd.fresh' (Kd.R_lt (by (with_reducible repeat (first | apply Kd.R_alloc | apply Kd.R_drewN | apply Kd.R_drew)); exact HO215.out)) k_ hk, Kd.fresh' (Kd.R_lt (by (with_reducible repeat (first | apply Kd.R_alloc | apply Kd.R_drewN | apply Kd.R_drew)); exact HO218.out)) k_ hk⟩)); (case aO => exact (by (with_reducible repeat (first | apply Kd.R_alloc | apply Kd.R_drewN | apply Kd.R_drew)); exact Kd.R_mono HO_6.out (fun _ hk => ⟨hk.1.2, hk.2⟩))); (case aS => exact (keep_size (w := w) (g := g) (row := none) (by repeat (first | (with_reducible first | exact HK.out | apply KeepBut.set_ | apply keep_drewN | apply keep_drew | apply keep_alloc) | exact HK.out)))); (case aL => have := LMc36.out; omega); intro v220 w43 ho hb hg hat; rw [← Ny219.out] at ho; have n0_ := Aside0.mk (IsS66.grown (by repeat (first | (with_reducible first | exact HI0.out | apply IsS66.alloc | apply IsS66.drewN | apply IsS66.drew | apply IsS66.set_0 | apply IsS66.set_1) | exact HI0.out)) hg (IsS66.own_ne HI0.out HO_6.out (by decide))); have n1_ := Aside0.mk (Kd.R_after (ok := (fun k_ => some k_ ≠ (.slice Ao44 t216.length co44 : Value).ownBlock)) (by (with_reducible repeat (first | apply Kd.R_alloc | apply Kd.R_drewN | apply Kd.R_drew)); exact Kd.R_mono HO215.out (fun _ hk => ⟨hk.2, hk.1.2⟩)) hg hat); have n2_ := Aside0.mk (Kd.R_after (ok := (fun k_ => some k_ ≠ (.slice Ao41 y213.length co41 : Value).ownBlock)) (by (with_reducible repeat (first | apply Kd.R_alloc | apply Kd.R_drewN | apply Kd.R_drew)); exact Kd.R_mono HO218.out (fun _ hk => ⟨hk.2, hk.1.2⟩)) hg hat); have n3_ := Aside0.mk (below_weaken (by repeat (first | (with_reducible first | exact HB.out | apply below_alloc | apply pw_below_drewN | apply below_drew1 | refine below_set ?_ (IsS66.ge HI0.out)) | exact HB.out)) HL.out hb); have n4_ := Aside0.mk (KeepBut.trans (by repeat (first | (with_reducible first | exact HK.out | apply KeepBut.set_ | apply keep_drewN | apply keep_drew | apply keep_alloc) | exact HK.out)) (KeepBut.of_grown hg g) (Kd.R_base2 HO_6.out)); have n5_ := Aside0.mk (ho); clear HI0; clear HO215; clear HO218; clear HB; clear HK; clear HO_6; have HI0 := n0_; have HO215 := n1_; have HO218 := n2_; have HB := n3_; have HK := n4_; have HO221 := n5_; clear n0_ n1_ n2_ n3_ n4_ n5_; clear ho hb hg hat))
          go_roundg kj4
          case measure => have := HK1.out; have := HJ4.out; omega
          case rel => exact ⟨(y219), (t201), (t202), H', ⟨by have := HK1.out; have := HJ4.out; omega⟩, ⟨by (with_reducible repeat (first | apply Kd.R_alloc | apply Kd.R_drewN | apply Kd.R_drew)); exact Kd.R_mono HO221.out (fun _ hk => trivial)⟩, ⟨by repeat (first | (with_reducible first | exact HI0.out | apply IsS66.alloc | apply IsS66.drewN | apply IsS66.drew | apply IsS66.set_0 | apply IsS66.set_1) | exact HI0.out)⟩, ⟨by repeat (first | (with_reducible first | exact HK.out | apply KeepBut.set_ | apply keep_drewN | apply keep_drew | apply keep_alloc) | exact HK.out)⟩, ⟨by repeat (first | (with_reducible first | exact HB.out | apply below_alloc | apply pw_below_drewN | apply below_drew1 | refine below_set ?_ (IsS66.ge HI0.out)) | exact HB.out)⟩⟩
         ·rw [if_neg c36] at H
          exact absurd H (by simp)
       ·rw [if_neg c17] at H
        have c17b0 : (t200 == 0) = false := beq_eq_false_iff_ne.mpr c17
        have c17b1 : (t200 != 0) = true := bne_iff_ne.mpr c17
        replace H := Option.bind_eq_some_iff.mp H
        obtain ⟨⟨t222, t223, t224⟩, A450, H⟩ := H
        replace H : (some (([] : List Int), t222, t223, t224)) = some (r1, r2, r3, r4) := H
        have A45 := Aside0.mk A450
        clear A450
        simp only [Option.some.injEq, Prod.mk.injEq] at H
        obtain ⟨rfl, rfl, rfl, rfl⟩ := H
        go_wp2_with (first | ((with_reducible refine gate_callee (f := 56) rfl ?_); refine goesL_ (some 32) rfl rfl Try.func56 (by kernel_rfl) rfl #[.pointer (some ⟨g, 0, none⟩)] rfl (by (try simp only [List.map_toArray, List.map_cons, List.map_nil]); first | done | rfl | (simp only [List.length_drop, List.length_take]; rfl) | (go_simp; simp [IntKind.wrap, IntKind.bits, IntKind.signed]; omega)) ?_; (with_reducible refine (tally_Cursor_Int.calls g x1000_4 x1001_4 t197 t198 t199 w0 _ ?side1 ?side2 A15.out).mono ?_); (case side1 => repeat (first | (with_reducible first | exact HI0.out | apply IsS66.alloc | apply IsS66.drewN | apply IsS66.drew | apply IsS66.set_0 | apply IsS66.set_1) | exact HI0.out)); (case side2 => repeat (first | (with_reducible first | exact HB.out | apply below_alloc | apply pw_below_drewN | apply below_drew1 | refine below_set ?_ (IsS66.ge HI0.out)) | exact HB.out)); rintro e w46 ⟨rfl, hi, hb, hk⟩; refine ⟨_, rfl, ?_⟩; have n0_ := Aside0.mk (Kd.R_mono (Kd.R_keep (IsS66.apart (show IsS66 w0 _ g x1000_4 x1001_4 from by repeat (first | (with_reducible first | exact HI0.out | apply IsS66.alloc | apply IsS66.drewN | apply IsS66.drew | apply IsS66.set_0 | apply IsS66.set_1) | exact HI0.out)) (by (with_reducible repeat (first | apply Kd.R_alloc | apply Kd.R_drewN | apply Kd.R_drew)); exact HO_6.out) (by decide)) hk (fun _ h => h.2)) (fun _ h => h.1)); have n1_ := Aside0.mk (KeepBut.trans (by repeat (first | (with_reducible first | exact HK.out | apply KeepBut.set_ | apply keep_drewN | apply keep_drew | apply keep_alloc) | exact HK.out)) hk (.inl rfl)); have n2_ := Aside0.mk (hb); have n3_ := Aside0.mk (hi); clear HO_6; clear HK; clear HB; clear HI0; have HO_6 := n0_; have HK := n1_; have HB := n2_; have HI0 := n3_; clear n0_ n1_ n2_ n3_; (try clear hb); (try clear hb2); (try clear hk); (try clear hi)) | ((with_reducible refine gate_callee (f := 25) rfl ?_); refine goesL_ (some 35) rfl rfl Try.func25 (by kernel_rfl) rfl #[.pointer (some ⟨g, 0, none⟩)] rfl (by (try simp only [List.map_toArray, List.map_cons, List.map_nil]); first | done | rfl | (simp only [List.length_drop, List.length_take]; rfl) | (go_simp; simp [IntKind.wrap, IntKind.bits, IntKind.signed]; omega)) ?_; (with_reducible refine (tally_Cursor_Err.calls g t198 t199 t200 t201 t202 w0 _ ?side1 ?side2 A16.out).mono ?_); (case side1 => repeat (first | (with_reducible first | exact HI0.out | apply IsS66.alloc | apply IsS66.drewN | apply IsS66.drew | apply IsS66.set_0 | apply IsS66.set_1) | exact HI0.out)); (case side2 => repeat (first | (with_reducible first | exact HB.out | apply below_alloc | apply pw_below_drewN | apply below_drew1 | refine below_set ?_ (IsS66.ge HI0.out)) | exact HB.out)); rintro e w47 ⟨rfl, hi, hb, hk⟩; refine ⟨_, rfl, ?_⟩; have n0_ := Aside0.mk (Kd.R_mono (Kd.R_keep (IsS66.apart (show IsS66 w0 _ g t198 t199 from by repeat (first | (with_reducible first | exact HI0.out | apply IsS66.alloc | apply IsS66.drewN | apply IsS66.drew | apply IsS66.set_0 | apply IsS66.set_1) | exact HI0.out)) (by (with_reducible repeat (first | apply Kd.R_alloc | apply Kd.R_drewN | apply Kd.R_drew)); exact HO_6.out) (by decide)) hk (fun _ h => h.2)) (fun _ h => h.1)); have n1_ := Aside0.mk (KeepBut.trans (by repeat (first | (with_reducible first | exact HK.out | apply KeepBut.set_ | apply keep_drewN | apply keep_drew | apply keep_alloc) | exact HK.out)) hk (.inl rfl)); have n2_ := Aside0.mk (hb); have n3_ := Aside0.mk (hi); clear HO_6; clear HK; clear HB; clear HI0; have HO_6 := n0_; have HK := n1_; have HB := n2_; have HI0 := n3_; clear n0_ n1_ n2_ n3_; (try clear hb); (try clear hb2); (try clear hk); (try clear hi)) | ((with_reducible refine gate_callee (f := 25) rfl ?_); refine goesL_ (some 38) rfl rfl Try.func25 (by kernel_rfl) rfl #[.pointer (some ⟨g, 0, none⟩)] rfl (by (try simp only [List.map_toArray, List.map_cons, List.map_nil]); first | done | rfl | (simp only [List.length_drop, List.length_take]; rfl) | (go_simp; simp [IntKind.wrap, IntKind.bits, IntKind.signed]; omega)) ?_; (with_reducible refine (tally_Cursor_Err.calls g t201 t202 t222 t223 t224 w0 _ ?side1 ?side2 A45.out).mono ?_); (case side1 => repeat (first | (with_reducible first | exact HI0.out | apply IsS66.alloc | apply IsS66.drewN | apply IsS66.drew | apply IsS66.set_0 | apply IsS66.set_1) | exact HI0.out)); (case side2 => repeat (first | (with_reducible first | exact HB.out | apply below_alloc | apply pw_below_drewN | apply below_drew1 | refine below_set ?_ (IsS66.ge HI0.out)) | exact HB.out)); rintro e w48 ⟨rfl, hi, hb, hk⟩; refine ⟨_, rfl, ?_⟩; have n0_ := Aside0.mk (Kd.R_mono (Kd.R_keep (IsS66.apart (show IsS66 w0 _ g t201 t202 from by repeat (first | (with_reducible first | exact HI0.out | apply IsS66.alloc | apply IsS66.drewN | apply IsS66.drew | apply IsS66.set_0 | apply IsS66.set_1) | exact HI0.out)) (by (with_reducible repeat (first | apply Kd.R_alloc | apply Kd.R_drewN | apply Kd.R_drew)); exact HO_6.out) (by decide)) hk (fun _ h => h.2)) (fun _ h => h.1)); have n1_ := Aside0.mk (KeepBut.trans (by repeat (first | (with_reducible first | exact HK.out | apply KeepBut.set_ | apply keep_drewN | apply keep_drew | apply keep_alloc) | exact HK.out)) hk (.inl rfl)); have n2_ := Aside0.mk (hb); have n3_ := Aside0.mk (hi); clear HO_6; clear HK; clear HB; clear HI0; have HO_6 := n0_; have HK := n1_; have HB := n2_; have HI0 := n3_; clear n0_ n1_ n2_ n3_; (try clear hb); (try clear hb2); (try clear hk); (try clear hi)))
        go_ret2
        exact ⟨_, by first | rfl | (simp [errW_none, errW_some] <;> rfl) | (simp [*, errW_none, errW_some] <;> rfl), by first | exact Kd.R_nil _ _ _ _ _ | exact Kd.N_nil _ _ _ _ _ | exact Kd.V_nil _ _ _ _ _ | exact Kd.Q_nil _ _ _ _ _ | exact Kd.S_nil _ _ _ _ _, by repeat (first | (with_reducible first | exact HI0.out | apply IsS66.alloc | apply IsS66.drewN | apply IsS66.drew | apply IsS66.set_0 | apply IsS66.set_1) | exact HI0.out), by repeat (first | (with_reducible first | exact HB.out | apply below_alloc | apply pw_below_drewN | apply below_drew1 | refine below_set ?_ (IsS66.ge HI0.out)) | exact HB.out), by repeat (first | (with_reducible first | exact HK.out | apply KeepBut.set_ | apply keep_drewN | apply keep_drew | apply keep_alloc) | exact HK.out)⟩
   ·rw [if_neg c3] at H
    have c3b0 : decide ((x6_1.length : Int) < a1) = false := decide_eq_false c3
    clear c3
    simp only [Option.some.injEq, Prod.mk.injEq] at H
    obtain ⟨rfl, rfl, rfl, rfl⟩ := H
    obtain ⟨Ao49, co49, eo49⟩ := Kd.R_slice HO_6.out
    subst eo49
    go_wp2
    go_ret2
    exact ⟨_, by first | rfl | (simp [errW_none, errW_some] <;> rfl) | (simp [*, errW_none, errW_some] <;> rfl), by (with_reducible repeat (first | apply Kd.R_alloc | apply Kd.R_drewN | apply Kd.R_drew)); exact HO_6.out, by repeat (first | (with_reducible first | exact HI0.out | apply IsS66.alloc | apply IsS66.drewN | apply IsS66.drew | apply IsS66.set_0 | apply IsS66.set_1) | exact HI0.out), by repeat (first | (with_reducible first | exact HB.out | apply below_alloc | apply pw_below_drewN | apply below_drew1 | refine below_set ?_ (IsS66.ge HI0.out)) | exact HB.out), by repeat (first | (with_reducible first | exact HK.out | apply KeepBut.set_ | apply keep_drewN | apply keep_drew | apply keep_alloc) | exact HK.out)⟩
end Go.Proofs.Ytgeddoklmcjdcaa.G
namespace Go.Proofs.Ytgeddoklmcjdcaa.G
open Go.RowKit Go.Proofs.YtgeddoklmcjdcaaQ Go.Proofs.YtgeddoklmcjdcaaW.PrintWords Go.Proofs.YtgeddoklmcjdcaaW.PrintLast Go.Proofs.YtgeddoklmcjdcaaW.PrintMore
attribute [local go_sem] max2_int min2_int max_two min_two max_three min_three max_four min_four   -- for this text's walks alone
set_option linter.unusedVariables false
set_option linter.unusedSimpArgs false
def tally_Cursor_Byte.f (s0_0 : ByteArray) (s0_1 : Int) : Option (Int × ByteArray × Int) := (tally_Cursor_ok.f s0_0 s0_1).bind fun bt249 => (if bt249.1 = true then (if bt249.2.1.toList = ([] : List UInt8) then (some (0, bt249.2.1, 2)) else (if 0 < (bt249.2.1.size : Int) then (if 1 ≤ (bt249.2.1.size : Int) then (some (wrap64 (bt bt249.2.1 0), bt249.2.1.extract 1 bt249.2.1.size, bt249.2.2)) else (none)) else (none))) else (some (0, bt249.2.1, bt249.2.2)))
set_option maxHeartbeats 8000000 in
set_option maxRecDepth 100000 in
theorem tally_Cursor_Byte.calls (g : Nat) (s0_0 : ByteArray) (s0_1 : Int) (r1 : Int) (r2 : ByteArray) (r3 : Int) (w0 w : World) (hI : IsS66 w0 w g s0_0 s0_1) (hB : Below w0.heap.size w0 w) (h : tally_Cursor_Byte.f s0_0 s0_1 = some (r1, r2, r3)) :
  Calls Try.prog 24 #[.pointer (some ⟨g, 0, none⟩)] w fun e w' => e = .returned (.int .i64 r1) ∧ IsS66 w0 w' g r2 r3 ∧ Below w0.heap.size w0 w' ∧ KeepBut w w' g none := by
 have HI0 := Aside0.mk hI
 have HK := Aside0.mk (KeepBut.refl w g none)
 have HL := Aside0.mk hB.size
 clear hI
 have HW0 := Aside0.mk hB.size
 have HB := Aside0.mk hB
 clear hB
 have H : ((tally_Cursor_ok.f s0_0 s0_1).bind fun bt249 => (if bt249.1 = true then (if bt249.2.1.toList = ([] : List UInt8) then (some (0, bt249.2.1, 2)) else (if 0 < (bt249.2.1.size : Int) then (if 1 ≤ (bt249.2.1.size : Int) then (some (wrap64 (bt bt249.2.1 0), bt249.2.1.extract 1 bt249.2.1.size, bt249.2.2)) else (none)) else (none))) else (some (0, bt249.2.1, bt249.2.2)))) = some (r1, r2, r3) := h
 clear h
 replace H := Option.bind_eq_some_iff.mp H
 obtain ⟨⟨t249, t250, t251⟩, A20, H⟩ := H
 replace H : (if t249 = true then (if t250.toList = ([] : List UInt8) then (some (0, t250, 2)) else (if 0 < (t250.size : Int) then (if 1 ≤ (t250.size : Int) then (some (wrap64 (bt t250 0), t250.extract 1 t250.size, t251)) else (none)) else (none))) else (some (0, t250, t251))) = some (r1, r2, r3) := H
 have A2 := Aside0.mk A20
 clear A20
 by_cases c3 : t249 = true
 ·subst c3
  have H1 : (if t250.toList = ([] : List UInt8) then (some (0, t250, 2)) else (if 0 < (t250.size : Int) then (if 1 ≤ (t250.size : Int) then (some (wrap64 (bt t250 0), t250.extract 1 t250.size, t251)) else (none)) else (none))) = some (r1, r2, r3) := by rw [if_pos rfl] at H; exact H
  clear H
  have H := H1
  clear H1
  by_cases c4 : t250.toList = ([] : List UInt8)
  ·rw [if_pos c4] at H
   have c4b0 : (t250.toList == ([] : List UInt8)) = true := beq_iff_eq.mpr c4
   have c4b1 : (t250.toList != ([] : List UInt8)) = false := bne_eq_false_iff_eq.mpr c4
   clear c4
   simp only [Option.some.injEq, Prod.mk.injEq] at H
   obtain ⟨rfl, rfl, rfl⟩ := H
   go_enter Try.func24, Try.ntmps24
   go_wp2_with (first | ((with_reducible refine gate_callee (f := 47) rfl ?_); refine goesL_ (some 5) rfl rfl Try.func47 (by kernel_rfl) rfl #[.pointer (some ⟨g, 0, none⟩)] rfl (by (try simp only [List.map_toArray, List.map_cons, List.map_nil]); first | done | rfl | (simp only [List.length_drop, List.length_take]; rfl) | (go_simp; simp [IntKind.wrap, IntKind.bits, IntKind.signed]; omega)) ?_; (with_reducible refine (tally_Cursor_ok.calls g s0_0 s0_1 true t250 t251 w0 _ ?side1 ?side2 A2.out).mono ?_); (case side1 => repeat (first | (with_reducible first | exact HI0.out | apply IsS66.alloc | apply IsS66.drewN | apply IsS66.drew | apply IsS66.set_0 | apply IsS66.set_1) | exact HI0.out)); (case side2 => repeat (first | (with_reducible first | exact HB.out | apply below_alloc | apply pw_below_drewN | apply below_drew1 | refine below_set ?_ (IsS66.ge HI0.out)) | exact HB.out)); rintro e w5 ⟨rfl, hi, hb, hk⟩; refine ⟨_, rfl, ?_⟩; have n0_ := Aside0.mk (KeepBut.trans (by repeat (first | (with_reducible first | exact HK.out | apply KeepBut.set_ | apply keep_drewN | apply keep_drew | apply keep_alloc) | exact HK.out)) hk (.inl rfl)); have n1_ := Aside0.mk (hb); have n2_ := Aside0.mk (hi); clear HK; clear HB; clear HI0; have HK := n0_; have HB := n1_; have HI0 := n2_; clear n0_ n1_ n2_; (try clear hb); (try clear hb2); (try clear hk); (try clear hi); obtain ⟨HGz6, hgz6⟩ := HI0.out; have hcz6_0 := cellS66_0 HGz6; have hcz6_1 := cellS66_1 HGz6; have hfz6_0 := blk_frozen HGz6 0; have hfz6_1 := blk_frozen HGz6 1; clear HGz6 hgz6))
   go_ret
   exact ⟨by first | rfl | (simp [errW_none, errW_some] <;> rfl) | (simp [*, errW_none, errW_some] <;> rfl), by repeat (first | (with_reducible first | exact HI0.out | apply IsS66.alloc | apply IsS66.drewN | apply IsS66.drew | apply IsS66.set_0 | apply IsS66.set_1) | exact HI0.out), by repeat (first | (with_reducible first | exact HB.out | apply below_alloc | apply pw_below_drewN | apply below_drew1 | refine below_set ?_ (IsS66.ge HI0.out)) | exact HB.out), by repeat (first | (with_reducible first | exact HK.out | apply KeepBut.set_ | apply keep_drewN | apply keep_drew | apply keep_alloc) | exact HK.out)⟩
  ·rw [if_neg c4] at H
   have c4b0 : (t250.toList == ([] : List UInt8)) = false := beq_eq_false_iff_ne.mpr c4
   have c4b1 : (t250.toList != ([] : List UInt8)) = true := bne_iff_ne.mpr c4
   by_cases c7 : 0 < (t250.size : Int)
   ·rw [if_pos c7] at H
    have c7b0 : decide (0 < (t250.size : Int)) = true := decide_eq_true c7
    have c7b1 : decide (0 < t250.size) = true := decide_eq_true (by omega)
    clear c7
    by_cases c9 : 1 ≤ (t250.size : Int)
    ·rw [if_pos c9] at H
     have c9b0 := eq_true c9
     have c9b1 : decide (1 ≤ (t250.size : Int)) = true := decide_eq_true c9
     clear c9
     simp only [Option.some.injEq, Prod.mk.injEq] at H
     obtain ⟨rfl, rfl, rfl⟩ := H
     go_enter Try.func24, Try.ntmps24
     go_wp2_with (first | ((with_reducible refine gate_callee (f := 47) rfl ?_); refine goesL_ (some 5) rfl rfl Try.func47 (by kernel_rfl) rfl #[.pointer (some ⟨g, 0, none⟩)] rfl (by (try simp only [List.map_toArray, List.map_cons, List.map_nil]); first | done | rfl | (simp only [List.length_drop, List.length_take]; rfl) | (go_simp; simp [IntKind.wrap, IntKind.bits, IntKind.signed]; omega)) ?_; (with_reducible refine (tally_Cursor_ok.calls g s0_0 s0_1 true t250 t251 w0 _ ?side1 ?side2 A2.out).mono ?_); (case side1 => repeat (first | (with_reducible first | exact HI0.out | apply IsS66.alloc | apply IsS66.drewN | apply IsS66.drew | apply IsS66.set_0 | apply IsS66.set_1) | exact HI0.out)); (case side2 => repeat (first | (with_reducible first | exact HB.out | apply below_alloc | apply pw_below_drewN | apply below_drew1 | refine below_set ?_ (IsS66.ge HI0.out)) | exact HB.out)); rintro e w10 ⟨rfl, hi, hb, hk⟩; refine ⟨_, rfl, ?_⟩; have n0_ := Aside0.mk (KeepBut.trans (by repeat (first | (with_reducible first | exact HK.out | apply KeepBut.set_ | apply keep_drewN | apply keep_drew | apply keep_alloc) | exact HK.out)) hk (.inl rfl)); have n1_ := Aside0.mk (hb); have n2_ := Aside0.mk (hi); clear HK; clear HB; clear HI0; have HK := n0_; have HB := n1_; have HI0 := n2_; clear n0_ n1_ n2_; (try clear hb); (try clear hb2); (try clear hk); (try clear hi); obtain ⟨HGz11, hgz11⟩ := HI0.out; have hcz11_0 := cellS66_0 HGz11; have hcz11_1 := cellS66_1 HGz11; have hfz11_0 := blk_frozen HGz11 0; have hfz11_1 := blk_frozen HGz11 1; clear HGz11 hgz11; have p8 : 0 ≤ (0 : Int) := (by omega); have q8 : 0 < t250.size := (by have : (0 : Int) < (t250.size : Int) := of_decide_eq_true (by first | (with_reducible assumption) | assumption); omega); have hx8 : ∀ h : 0 < t250.size, ((t250[0]'h).toNat : Int) = bt t250 0 := bt_at t250 0; clear p8; have qi8 : (0 < (t250.size : Int)) = True := eq_true (of_decide_eq_true (by first | (with_reducible assumption) | assumption)); replace q8 := eq_true q8))
     go_ret
     exact ⟨by first | rfl | (simp [errW_none, errW_some] <;> rfl) | (simp [*, errW_none, errW_some] <;> rfl), by repeat (first | (with_reducible first | exact HI0.out | apply IsS66.alloc | apply IsS66.drewN | apply IsS66.drew | apply IsS66.set_0 | apply IsS66.set_1) | exact HI0.out), by repeat (first | (with_reducible first | exact HB.out | apply below_alloc | apply pw_below_drewN | apply below_drew1 | refine below_set ?_ (IsS66.ge HI0.out)) | exact HB.out), by repeat (first | (with_reducible first | exact HK.out | apply KeepBut.set_ | apply keep_drewN | apply keep_drew | apply keep_alloc) | exact HK.out)⟩
    ·rw [if_neg c9] at H
     exact absurd H (by simp)
   ·rw [if_neg c7] at H
    exact absurd H (by simp)
 ·replace c3 := Bool.eq_false_iff.mpr c3
  subst c3
  have H1 : (some (0, t250, t251)) = some (r1, r2, r3) := by rw [if_neg (show ¬ (false = true) by decide)] at H; exact H
  clear H
  have H := H1
  clear H1
  simp only [Option.some.injEq, Prod.mk.injEq] at H
  obtain ⟨rfl, rfl, rfl⟩ := H
  go_enter Try.func24, Try.ntmps24
  go_wp2_with (first | ((with_reducible refine gate_callee (f := 47) rfl ?_); refine goesL_ (some 5) rfl rfl Try.func47 (by kernel_rfl) rfl #[.pointer (some ⟨g, 0, none⟩)] rfl (by (try simp only [List.map_toArray, List.map_cons, List.map_nil]); first | done | rfl | (simp only [List.length_drop, List.length_take]; rfl) | (go_simp; simp [IntKind.wrap, IntKind.bits, IntKind.signed]; omega)) ?_; (with_reducible refine (tally_Cursor_ok.calls g s0_0 s0_1 false t250 t251 w0 _ ?side1 ?side2 A2.out).mono ?_); (case side1 => repeat (first | (with_reducible first | exact HI0.out | apply IsS66.alloc | apply IsS66.drewN | apply IsS66.drew | apply IsS66.set_0 | apply IsS66.set_1) | exact HI0.out)); (case side2 => repeat (first | (with_reducible first | exact HB.out | apply below_alloc | apply pw_below_drewN | apply below_drew1 | refine below_set ?_ (IsS66.ge HI0.out)) | exact HB.out)); rintro e w12 ⟨rfl, hi, hb, hk⟩; refine ⟨_, rfl, ?_⟩; have n0_ := Aside0.mk (KeepBut.trans (by repeat (first | (with_reducible first | exact HK.out | apply KeepBut.set_ | apply keep_drewN | apply keep_drew | apply keep_alloc) | exact HK.out)) hk (.inl rfl)); have n1_ := Aside0.mk (hb); have n2_ := Aside0.mk (hi); clear HK; clear HB; clear HI0; have HK := n0_; have HB := n1_; have HI0 := n2_; clear n0_ n1_ n2_; (try clear hb); (try clear hb2); (try clear hk); (try clear hi)))
  go_ret
  exact ⟨by first | rfl | (simp [errW_none, errW_some] <;> rfl) | (simp [*, errW_none, errW_some] <;> rfl), by repeat (first | (with_reducible first | exact HI0.out | apply IsS66.alloc | apply IsS66.drewN | apply IsS66.drew | apply IsS66.set_0 | apply IsS66.set_1) | exact HI0.out), by repeat (first | (with_reducible first | exact HB.out | apply below_alloc | apply pw_below_drewN | apply below_drew1 | refine below_set ?_ (IsS66.ge HI0.out)) | exact HB.out), by repeat (first | (with_reducible first | exact HK.out | apply KeepBut.set_ | apply keep_drewN | apply keep_drew | apply keep_alloc) | exact HK.out)⟩
def tally_Cursor_Left.f (s0_0 : ByteArray) (s0_1 : Int) : Option (Int × ByteArray × Int) := some ((s0_0.size : Int), s0_0, s0_1)
set_option maxHeartbeats 8000000 in
set_option maxRecDepth 100000 in
theorem tally_Cursor_Left.calls (g : Nat) (s0_0 : ByteArray) (s0_1 : Int) (r1 : Int) (r2 : ByteArray) (r3 : Int) (w0 w : World) (hI : IsS66 w0 w g s0_0 s0_1) (hB : Below w0.heap.size w0 w) (h : tally_Cursor_Left.f s0_0 s0_1 = some (r1, r2, r3)) :
  Calls Try.prog 62 #[.pointer (some ⟨g, 0, none⟩)] w fun e w' => e = .returned (.int .i64 r1) ∧ IsS66 w0 w' g r2 r3 ∧ Below w0.heap.size w0 w' ∧ KeepBut w w' g none := by
 have HI0 := Aside0.mk hI
 have HK := Aside0.mk (KeepBut.refl w g none)
 have HL := Aside0.mk hB.size
 clear hI
 have HW0 := Aside0.mk hB.size
 have HB := Aside0.mk hB
 clear hB
 have H : (some ((s0_0.size : Int), s0_0, s0_1)) = some (r1, r2, r3) := h
 clear h
 simp only [Option.some.injEq, Prod.mk.injEq] at H
 obtain ⟨rfl, rfl, rfl⟩ := H
 obtain ⟨HGz2, hgz2⟩ := HI0.out
 have hcz2_0 := cellS66_0 HGz2
 have hcz2_1 := cellS66_1 HGz2
 have hfz2_0 := blk_frozen HGz2 0
 have hfz2_1 := blk_frozen HGz2 1
 clear HGz2 hgz2
 go_enter Try.func62, Try.ntmps62
 go_wp2
 go_ret
 exact ⟨by first | rfl | (simp [errW_none, errW_some] <;> rfl) | (simp [*, errW_none, errW_some] <;> rfl), by repeat (first | (with_reducible first | exact HI0.out | apply IsS66.alloc | apply IsS66.drewN | apply IsS66.drew | apply IsS66.set_0 | apply IsS66.set_1) | exact HI0.out), by repeat (first | (with_reducible first | exact HB.out | apply below_alloc | apply pw_below_drewN | apply below_drew1 | refine below_set ?_ (IsS66.ge HI0.out)) | exact HB.out), by repeat (first | (with_reducible first | exact HK.out | apply KeepBut.set_ | apply keep_drewN | apply keep_drew | apply keep_alloc) | exact HK.out)⟩
def bits_fits.f (a0 : ByteArray) (a1 : Int) : Option (Int) := if (a0.size : Int) < (wrap64 (Int.tdiv (wrap64 (a1 + 7)) 8)) then (some 2) else (if (a0.size : Int) > (wrap64 (Int.tdiv (wrap64 (a1 + 7)) 8)) then (some 3) else (if (Int.tmod a1 8) = 0 then (some 0) else (if 0 ≤ (wrap64 ((wrap64 (Int.tdiv (wrap64 (a1 + 7)) 8)) - 1)) then (if (wrap64 ((wrap64 (Int.tdiv (wrap64 (a1 + 7)) 8)) - 1)) < (a0.size : Int) then (if 0 ≤ (Int.tmod a1 8) then (if (shr .u8 (bt a0 (wrap64 ((wrap64 (Int.tdiv (wrap64 (a1 + 7)) 8)) - 1))) (Int.tmod a1 8)) = 0 then (some 0) else (some 5)) else (none)) else (none)) else (none))))
set_option maxHeartbeats 8000000 in
set_option maxRecDepth 100000 in
theorem bits_fits.calls (a0 : ByteArray) (a1 : Int) (r : Int) (w : World) (h : bits_fits.f a0 a1 = some r) :
  Calls Try.prog 71 #[.string a0, .int .i64 a1] w fun e w' => e = .returned (.int .i64 r) ∧ Drawn0 w w' := by
 have H : (if (a0.size : Int) < (wrap64 (Int.tdiv (wrap64 (a1 + 7)) 8)) then (some 2) else (if (a0.size : Int) > (wrap64 (Int.tdiv (wrap64 (a1 + 7)) 8)) then (some 3) else (if (Int.tmod a1 8) = 0 then (some 0) else (if 0 ≤ (wrap64 ((wrap64 (Int.tdiv (wrap64 (a1 + 7)) 8)) - 1)) then (if (wrap64 ((wrap64 (Int.tdiv (wrap64 (a1 + 7)) 8)) - 1)) < (a0.size : Int) then (if 0 ≤ (Int.tmod a1 8) then (if (shr .u8 (bt a0 (wrap64 ((wrap64 (Int.tdiv (wrap64 (a1 + 7)) 8)) - 1))) (Int.tmod a1 8)) = 0 then (some 0) else (some 5)) else (none)) else (none)) else (none))))) = some r := h
 clear h
 by_cases c3 : (a0.size : Int) < (wrap64 (Int.tdiv (wrap64 (a1 + 7)) 8))
 ·rw [if_pos c3] at H
  have c3b0 : decide ((a0.size : Int) < (wrap64 (Int.tdiv (wrap64 (a1 + 7)) 8))) = true := decide_eq_true c3
  clear c3
  obtain rfl := Option.some.inj H
  go_enter Try.func71, Try.ntmps71
  go_wp2
  go_ret
  exact ⟨by first | rfl | (simp; done) | (simp [*]; done), by repeat (first | exact Drawn0.refl _ | apply Drawn0.step)⟩
 ·rw [if_neg c3] at H
  have c3b0 : decide ((a0.size : Int) < (wrap64 (Int.tdiv (wrap64 (a1 + 7)) 8))) = false := decide_eq_false c3
  clear c3
  by_cases c4 : (a0.size : Int) > (wrap64 (Int.tdiv (wrap64 (a1 + 7)) 8))
  ·rw [if_pos c4] at H
   have c4b0 : decide ((wrap64 (Int.tdiv (wrap64 (a1 + 7)) 8)) < (a0.size : Int)) = true := decide_eq_true c4
   clear c4
   obtain rfl := Option.some.inj H
   go_enter Try.func71, Try.ntmps71
   go_wp2
   go_ret
   exact ⟨by first | rfl | (simp; done) | (simp [*]; done), by repeat (first | exact Drawn0.refl _ | apply Drawn0.step)⟩
  ·rw [if_neg c4] at H
   have c4b0 : decide ((wrap64 (Int.tdiv (wrap64 (a1 + 7)) 8)) < (a0.size : Int)) = false := decide_eq_false c4
   clear c4
   by_cases c5 : (Int.tmod a1 8) = 0
   ·rw [if_pos c5] at H
    have c5b0 : ((Int.tmod a1 8) == 0) = true := beq_iff_eq.mpr c5
    have c5b1 : ((Int.tmod a1 8) != 0) = false := bne_eq_false_iff_eq.mpr c5
    clear c5
    obtain rfl := Option.some.inj H
    go_enter Try.func71, Try.ntmps71
    go_wp2
    go_ret
    exact ⟨by first | rfl | (simp; done) | (simp [*]; done), by repeat (first | exact Drawn0.refl _ | apply Drawn0.step)⟩
   ·rw [if_neg c5] at H
    have c5b0 : ((Int.tmod a1 8) == 0) = false := beq_eq_false_iff_ne.mpr c5
    have c5b1 : ((Int.tmod a1 8) != 0) = true := bne_iff_ne.mpr c5
    obtain ⟨ji6, hji6⟩ : ∃ j_ : Int, (wrap64 ((wrap64 (Int.tdiv (wrap64 (a1 + 7)) 8)) - 1)) = j_ := ⟨_, rfl⟩
    replace H : (if 0 ≤ (ji6) then (if (ji6) < (a0.size : Int) then (if 0 ≤ (Int.tmod a1 8) then (if (shr .u8 (bt a0 (ji6)) (Int.tmod a1 8)) = 0 then (some 0) else (some 5)) else (none)) else (none)) else (none)) = some r := by first | (rw [hji6] at H; exact H) | (simp only [hji6] at H ⊢; exact H)
    have hji6w : (IntKind.i64.wrap ((wrap64 (Int.tdiv (wrap64 (a1 + 7)) 8)) - 1)) = ji6 := (i64_w _).trans hji6
    by_cases c7 : 0 ≤ (ji6)
    ·rw [if_pos c7] at H
     have c7b0 : decide (0 ≤ (ji6)) = true := decide_eq_true c7
     clear c7
     by_cases c8 : (ji6) < (a0.size : Int)
     ·rw [if_pos c8] at H
      have c8b0 : decide ((ji6) < (a0.size : Int)) = true := decide_eq_true c8
      clear c8
      obtain ⟨ji10, hji10⟩ : ∃ j_ : Int, (Int.tmod a1 8) = j_ := ⟨_, rfl⟩
      replace H : (if 0 ≤ (ji10) then (if (shr .u8 (bt a0 (ji6)) (ji10)) = 0 then (some 0) else (some 5)) else (none)) = some r := by first | (rw [hji10] at H; exact H) | (simp only [hji10] at H ⊢; exact H)
      (try rw [hji10] at c5b0)
      (try rw [hji10] at c5b1)
      by_cases c11 : 0 ≤ (ji10)
      ·rw [if_pos c11] at H
       have c11b0 := eq_true c11
       have c11b1 : decide (0 ≤ (ji10)) = true := decide_eq_true c11
       clear c11
       obtain ⟨ji12, hji12⟩ : ∃ j_ : Int, (shr .u8 (bt a0 (ji6)) (ji10)) = j_ := ⟨_, rfl⟩
       replace H : (if (ji12) = 0 then (some 0) else (some 5)) = some r := by first | (rw [hji12] at H; exact H) | (simp only [hji12] at H ⊢; exact H)
       have hji12_ : ((bt a0 (ji6)) / 2 ^ min (ji10).toNat 8) = ji12 := hji12
       have hji12z : (ji10) ≤ 8 → ((bt a0 (ji6)) / 2 ^ (ji10).toNat) = ji12 := shr_small hji12
       by_cases c13 : (ji12) = 0
       ·rw [if_pos c13] at H
        have c13b0 : ((ji12) == 0) = true := beq_iff_eq.mpr c13
        have c13b1 : ((ji12) != 0) = false := bne_eq_false_iff_eq.mpr c13
        clear c13
        obtain rfl := Option.some.inj H
        have p9 : 0 ≤ ((ji6) : Int) := of_decide_eq_true (by first | (with_reducible assumption) | assumption)
        have q9 : (ji6) < (a0.size : Int) := of_decide_eq_true (by first | (with_reducible assumption) | assumption)
        have hx9 := bt_at a0 (ji6)
        replace p9 := eq_true p9
        replace q9 := eq_true q9
        go_enter Try.func71, Try.ntmps71
        go_wp2
        go_ret
        exact ⟨by first | rfl | (simp; done) | (simp only [← hji6, ← hji10, ← hji12] <;> (first | rfl | simp)) | (simp [*]; done), by repeat (first | exact Drawn0.refl _ | apply Drawn0.step)⟩
       ·rw [if_neg c13] at H
        have c13b0 : ((ji12) == 0) = false := beq_eq_false_iff_ne.mpr c13
        have c13b1 : ((ji12) != 0) = true := bne_iff_ne.mpr c13
        obtain rfl := Option.some.inj H
        have p9 : 0 ≤ ((ji6) : Int) := of_decide_eq_true (by first | (with_reducible assumption) | assumption)
        have q9 : (ji6) < (a0.size : Int) := of_decide_eq_true (by first | (with_reducible assumption) | assumption)
        have hx9 := bt_at a0 (ji6)
        replace p9 := eq_true p9
        replace q9 := eq_true q9
        go_enter Try.func71, Try.ntmps71
        go_wp2
        go_ret
        exact ⟨by first | rfl | (simp; done) | (simp only [← hji6, ← hji10, ← hji12] <;> (first | rfl | simp)) | (simp [*]; done), by repeat (first | exact Drawn0.refl _ | apply Drawn0.step)⟩
      ·rw [if_neg c11] at H
       exact absurd H (by simp)
     ·rw [if_neg c8] at H
      exact absurd H (by simp)
    ·rw [if_neg c7] at H
     exact absurd H (by simp)
end Go.Proofs.Ytgeddoklmcjdcaa.G
namespace Go.Proofs.Ytgeddoklmcjdcaa.G
open Go.RowKit Go.Proofs.YtgeddoklmcjdcaaQ Go.Proofs.YtgeddoklmcjdcaaW.PrintWords Go.Proofs.YtgeddoklmcjdcaaW.PrintLast Go.Proofs.YtgeddoklmcjdcaaW.PrintMore
attribute [local go_sem] max2_int min2_int max_two min_two max_three min_three max_four min_four   -- for this text's walks alone
set_option linter.unusedVariables false
set_option linter.unusedSimpArgs false
theorem bits_Unpack.fits {s : ByteArray} {m : Nat} (hm : m ≤ 4194304) : bits_fits.f s (m : Int) = some (fitE s m) := by
 have e1 : wrap64 ((m : Int) + 7) = ((m + 7 : Nat) : Int) := by rw [w64 (by omega) (by omega)]; omega
 have e2 : Int.tdiv ((m + 7 : Nat) : Int) 8 = ((need m : Nat) : Int) := by rw [Int.tdiv_eq_ediv_of_nonneg (by omega)]; unfold need; omega
 have hnl : need m ≤ 4194304 := by unfold need; omega
 have e3 : wrap64 ((need m : Nat) : Int) = ((need m : Nat) : Int) := w64 (by omega) (by omega)
 have e4 : Int.tmod (m : Int) 8 = ((m % 8 : Nat) : Int) := by rw [Int.tmod_eq_emod_of_nonneg (by omega)]; omega
 unfold bits_fits.f fitE
 rw [e1, e2, e3, e4]
 by_cases c1 : s.size < need m
 ·rw [if_pos (by omega), if_pos c1]
 ·rw [if_neg (by omega), if_neg c1]
  by_cases c2 : need m < s.size
  ·rw [if_pos (by omega), if_pos c2]
  ·have hs : s.size = need m := by omega
   rw [if_neg (by omega), if_neg c2]
   by_cases c3 : m % 8 = 0
   ·rw [if_pos (by omega), if_pos (num_whole hs c3)]
   ·have hn1 : 1 ≤ need m := by unfold need; omega
    have e5 : wrap64 (((need m : Nat) : Int) - 1) = ((need m - 1 : Nat) : Int) := by rw [w64 (by omega) (by omega)]; omega
    have e6 : bt s ((need m - 1 : Nat) : Int) = ((byt s (need m - 1) : Nat) : Int) := by
     have h1 := byt_at s (need m - 1) (by omega)
     have h2 := bt_at s ((need m - 1 : Nat) : Int) (by rw [Int.toNat_natCast]; omega)
     rw [← h2, ← h1]; rfl
    have e7 : shr .u8 ((byt s (need m - 1) : Nat) : Int) ((m % 8 : Nat) : Int) = ((byt s (need m - 1) / 2 ^ (m % 8) : Nat) : Int) := by
     unfold shr
     rw [Int.toNat_natCast, Nat.min_eq_left (show m % 8 ≤ IntKind.u8.bits by show m % 8 ≤ 8; omega)]
     simp
    rw [if_neg (by omega), e5, if_pos (by omega), if_pos (by omega), if_pos (by omega), e6, e7]
    by_cases c4 : byt s (need m - 1) / 2 ^ (m % 8) = 0
    ·rw [if_pos (by omega), if_pos ((num_top hs c3).2 c4)]
    ·rw [if_neg (by omega), if_neg (fun h => c4 ((num_top hs c3).1 h))]
set_option maxHeartbeats 1000000 in
set_option maxRecDepth 100000 in
theorem bits_Unpack.w1 (a0 : ByteArray) (a1 a2 : Int) (w : World) (b1 b2 b3 b4 : Bool) (h1 : decide (a2 < 0) = b1) (h2 : decide (64 < a2) = b2) (h3 : decide (a1 < 0) = b3) (h4 : decide (65536 < a1) = b4) (h : (b1 || b2 || b3 || b4) = true) :
  Calls Try.prog 63 #[.string a0, .int .i64 a1, .int .i64 a2] w fun e w' => e = .returned (.tuple #[.slice none 0 0, .int .i64 1]) ∧ Below w.heap.size w w' := by
 cases b1
 ·cases b2
  ·cases b3
   ·cases b4
    ·exact absurd h (by decide)
    ·clear h
     go_enter Try.func63, Try.ntmps63
     go_wp2
     go_ret2
     exact ⟨rfl, Below.refl _ _⟩
   ·clear h
    go_enter Try.func63, Try.ntmps63
    go_wp2
    go_ret2
    exact ⟨rfl, Below.refl _ _⟩
  ·clear h
   go_enter Try.func63, Try.ntmps63
   go_wp2
   go_ret2
   exact ⟨rfl, Below.refl _ _⟩
 ·clear h
  go_enter Try.func63, Try.ntmps63
  go_wp2
  go_ret2
  exact ⟨rfl, Below.refl _ _⟩
set_option maxHeartbeats 1000000 in
set_option maxRecDepth 100000 in
theorem bits_Unpack.w2 (a0 : ByteArray) (n q : Nat) (w : World) (hn : n ≤ 65536) (hq : q ≤ 64) (E : Int) (hE : fitE a0 (n * q) = E) (h0 : E ≠ 0) :
  Calls Try.prog 63 #[.string a0, .int .i64 (n : Int), .int .i64 (q : Int)] w fun e w' => e = .returned (.tuple #[.slice none 0 0, .int .i64 E]) ∧ Below w.heap.size w w' := by
 have hm : n * q ≤ 4194304 := Nat.le_trans (Nat.mul_le_mul hn hq) (by decide)
 have hf := bits_Unpack.fits (s := a0) hm
 rw [hE] at hf
 have d1 : decide ((q : Int) < 0) = false := decide_eq_false (by omega)
 have d2 : decide (64 < (q : Int)) = false := decide_eq_false (by omega)
 have d3 : decide ((n : Int) < 0) = false := decide_eq_false (by omega)
 have d4 : decide (65536 < (n : Int)) = false := decide_eq_false (by omega)
 have d5 : (E != 0) = true := bne_iff_ne.mpr h0
 have d6 : (E == 0) = false := beq_eq_false_iff_ne.mpr h0
 have d7 : decide (64 < q) = false := decide_eq_false (by omega)
 have d8 : decide (65536 < n) = false := decide_eq_false (by omega)
 have e1 : (n : Int) * (q : Int) = ((n * q : Nat) : Int) := (Int.natCast_mul n q).symm
 have e2 : wrap64 ((n * q : Nat) : Int) = ((n * q : Nat) : Int) := w64 (by omega) (by omega)
 have e3 : IntKind.i64.wrap ((n : Int) * (q : Int)) = ((n * q : Nat) : Int) := by rw [e1, i64_w]; exact e2
 obtain ⟨m, hmm⟩ : ∃ m, n * q = m := ⟨_, rfl⟩
 rw [hmm] at e1 e2 e3 hf
 have HF := Aside0.mk hf
 clear hf hE h0 hm hmm
 go_enter Try.func63, Try.ntmps63
 go_wp2_with fail
 refine (bits_fits.calls a0 (m : Int) E _ HF.out).mono ?_; rintro e w1 ⟨rfl, ⟨nd, rfl⟩⟩
 go_wp2
 go_ret2
 exact ⟨rfl, pw_below_drewN (Below.refl _ _) _⟩
set_option maxHeartbeats 4000000 in
set_option maxRecDepth 100000 in
theorem bits_Unpack.w3 (a0 : ByteArray) (n q : Nat) (w : World) (hS : a0.size ≤ 140737488355328) (hn : n ≤ 65536) (hq : q ≤ 64) (hE : fitE a0 (n * q) = 0) :
  Calls Try.prog 63 #[.string a0, .int .i64 (n : Int), .int .i64 (q : Int)] w fun e w' => ∃ v0_ : Value, e = .returned (.tuple #[v0_, .int .i64 0]) ∧ Kd.R (Kd.int .u64) 44 w' w.heap.size (fun _ => True) v0_ (ints (dig (2 ^ q) n (num a0))) ∧ Below w.heap.size w w' := by
 have hm : n * q ≤ 4194304 := Nat.le_trans (Nat.mul_le_mul hn hq) (by decide)
 have hf := bits_Unpack.fits (s := a0) hm
 have hsz : a0.size = need (n * q) := by
  unfold fitE at hE
  split at hE
  ·exact absurd hE (by decide)
  ·split at hE
   ·exact absurd hE (by decide)
   ·omega
 have hnd := need_le (n * q)
 rw [hE] at hf
 have d1 : decide ((q : Int) < 0) = false := decide_eq_false (by omega)
 have d2 : decide (64 < (q : Int)) = false := decide_eq_false (by omega)
 have d3 : decide ((n : Int) < 0) = false := decide_eq_false (by omega)
 have d4 : decide (65536 < (n : Int)) = false := decide_eq_false (by omega)
 have d7 : decide (64 < q) = false := decide_eq_false (by omega)
 have d8 : decide (65536 < n) = false := decide_eq_false (by omega)
 have e1 : (n : Int) * (q : Int) = ((n * q : Nat) : Int) := (Int.natCast_mul n q).symm
 have e2 : wrap64 ((n * q : Nat) : Int) = ((n * q : Nat) : Int) := w64 (by omega) (by omega)
 have e3 : IntKind.i64.wrap ((n : Int) * (q : Int)) = ((n * q : Nat) : Int) := by rw [e1, i64_w]; exact e2
 have HNQ := Aside0.mk hnd
 rw [← hsz] at HNQ
 obtain ⟨m, hmm⟩ : ∃ m, n * q = m := ⟨_, rfl⟩
 rw [hmm] at e1 e2 e3 hf
 have HF := Aside0.mk hf
 clear hf hE hm hmm hsz hnd
 go_enter Try.func63, Try.ntmps63
 go_wp2_with fail
 refine (bits_fits.calls a0 (m : Int) 0 _ HF.out).mono ?_; rintro e w1 ⟨rfl, ⟨nd, rfl⟩⟩
 clear e1 e2 e3
 go_wp2_with fail
 have hnew : RD w ((w.drewN nd).alloc (.cells #[.string a0, .int .i64 0] 97)) w.heap.size a0 (0 * q) := by
  rw [Nat.zero_mul]
  exact ⟨heap_alloc_new (w.drewN nd) _, Nat.le_refl _⟩
 have hbw : Below w.heap.size w ((w.drewN nd).alloc (.cells #[.string a0, .int .i64 0] 97)) := below_alloc (pw_below_drewN (Below.refl _ _) _) _
 have HN := Aside0.mk hnew; have HB := Aside0.mk hbw
 clear hnew hbw
 have hin : (Try.prog.info? 44).map (fun i => (i.zero, i.size, i.bytes)) = some (some (.int .u64 0), 1, 8) := by kernel_rfl
 have HI := Aside0.mk hin; clear hin
 go_loopg [10, 37] n (fun gq s10 s37 wx => ∃ (i : Nat) (v : Value), i ≤ n ∧ gq = n - i ∧ s10 = v ∧ s37 = .int .i64 (i : Int) ∧ Aside0 (Kd.R (Kd.int .u64) 44 wx w.heap.size (fun k => k ≠ w.heap.size) v (ints (dig (2 ^ q) i (num a0)))) ∧ Aside0 (RD w wx w.heap.size a0 (i * q)) ∧ Aside0 (Below w.heap.size w wx))
 case atStart => exact ⟨0, _, by omega, by omega, rfl, rfl, ⟨Kd.R_nil _ _ _ _ _⟩, HN, HB⟩
 case round =>
  clear HN HB
  obtain ⟨i, v, hi, rfl, rfl, rfl, HO, HN, HB⟩ := hrel
  by_cases hlt : i < n
  ·obtain ⟨g1, hg1⟩ : ∃ g1, n - i = g1 + 1 := ⟨n - i - 1, by omega⟩
   have k2 : decide ((i : Int) < (n : Int)) = true := decide_eq_true (by omega)
   have k2' : decide (i < n) = true := decide_eq_true hlt
   have hmul : i * q + q = (i + 1) * q := by rw [Nat.succ_mul]
   have hle : (i + 1) * q ≤ n * q := Nat.mul_le_mul_right _ hlt
   have hbits : i * q + q ≤ 8 * a0.size := by have := HNQ.out; omega
   have hdig := dig_succ (2 ^ q) i (num a0)
   rw [← Nat.pow_mul, Nat.mul_comm q i] at hdig
   have HM := Aside0.mk hmul; have HBI := Aside0.mk hbits; have HD := Aside0.mk hdig; have HLT2 := Aside0.mk hlt
   clear hmul hle hbits hdig hlt
   go_wp2_with fail
   refine (get_calls (w0 := w) (i * q) q hS hq HBI.out HN.out HB.out).mono ?_; rintro e w2 ⟨rfl, hr2, hb2, hk2⟩
   rw [HM.out] at hr2
   obtain ⟨x, hx⟩ : ∃ x, num a0 / 2 ^ (i * q) % 2 ^ q = x := ⟨_, rfl⟩
   rw [hx] at HD ⊢
   have HO2 := Aside0.mk (Kd.R_keep HO.out hk2 (fun _ hk => hk))
   have HN2 := Aside0.mk hr2; have HB2 := Aside0.mk hb2
   clear hx hr2 hb2 hk2 HO HN HB
   go_wp2_with ((with_reducible refine gate_builtin (b := .append) (xs := #[.tmp 39, .tmp 43]) rfl ?_); at_builtin; refine Kd.R_append (Kd.int .u64) (w0 := w) w.heap.size rfl (.tmp 39) (.tmp 43) 59 44 (.int .u64 0) 8 rfl Try.underlying59 HI.out rfl (by decide) (by omega) u10 (ints (dig (2 ^ q) i (num a0))) (x : Int) [.int .u64 (x : Int)] (fun k => k ≠ w.heap.size) (fun _ => False) rfl rfl ?aP (fun _ hk => hk.elim) ?aF ?aO ?aB ?aS ?aL ?_; (case aP => exact rfl); (case aB => exact HB2.out); (case aF => exact fun k hk e => by have := blk_lt HN2.out.1; omega); (case aO => exact HO2.out); (case aS => exact HB2.out.size); (case aL => rw [ints_len, dig_len]; omega); intro v5 w5 ho hb hg hat; have HO5 := Aside0.mk ho; have HB5 := Aside0.mk hb; have HN5 := Aside0.mk (RD.keep HN2.out hg (Kd.R_away HO2.out (fun _ hk => hk))); clear ho hb hg hat)
   go_roundg g1
   case measure => omega
   case rel =>
    have h := HO5.out
    rw [show ints (dig (2 ^ q) i (num a0)) ++ [(x : Int)] = ints (dig (2 ^ q) (i + 1) (num a0)) by rw [HD.out, ints_app]; rfl] at h
    exact ⟨i + 1, _, by have := HLT2.out; omega, by omega, rfl, by go_num, ⟨h⟩, HN5, HB5⟩
  ·have e : i = n := by omega
   have k2 : decide ((i : Int) < (n : Int)) = false := decide_eq_false (by omega)
   have k2' : decide (i < n) = false := decide_eq_false hlt
   subst e
   clear hlt hi
   go_wp2
   go_ret2
   exact ⟨u10, rfl, Kd.R_mono HO.out (fun _ _ => trivial), HB.out⟩
def bits_Unpack.f (a0 : ByteArray) (a1 a2 : Int) : Option (List Int × Int) :=
 if a0.size ≤ 140737488355328 then some (if a2 < 0 ∨ 64 < a2 ∨ a1 < 0 ∨ 65536 < a1 then ([], 1) else if fitE a0 (a1.toNat * a2.toNat) = 0 then (ints (dig (2 ^ a2.toNat) a1.toNat (num a0)), 0) else ([], fitE a0 (a1.toNat * a2.toNat))) else none
theorem bits_Unpack.calls (a0 : ByteArray) (a1 : Int) (a2 : Int) (r1 : List Int) (r2 : Int) (w : World) (h : bits_Unpack.f a0 a1 a2 = some (r1, r2)) :
  Calls Try.prog 63 #[.string a0, .int .i64 a1, .int .i64 a2] w fun e w' => ∃ v0_ : Value, e = .returned (.tuple #[v0_, .int .i64 r2]) ∧ Kd.R (Kd.int .u64) 44 w' w.heap.size (fun _ => True) v0_ r1 ∧ Below w.heap.size w w' := by
 unfold bits_Unpack.f at h
 split at h
 ·rename_i hS
  have h := Option.some.inj h
  by_cases c : a2 < 0 ∨ 64 < a2 ∨ a1 < 0 ∨ 65536 < a1
  ·rw [if_pos c] at h
   injection h with h1 h2
   subst h1 h2
   refine (bits_Unpack.w1 a0 a1 a2 w _ _ _ _ rfl rfl rfl rfl ?_).mono ?_
   ·rcases c with c | c | c | c <;> simp [c]
   ·rintro e w' ⟨rfl, hb⟩
    exact ⟨_, rfl, Kd.R_nil _ _ _ _ _, hb⟩
  ·rw [if_neg c] at h
   obtain ⟨q, rfl⟩ : ∃ q : Nat, a2 = (q : Int) := ⟨a2.toNat, by omega⟩
   obtain ⟨n, rfl⟩ : ∃ n : Nat, a1 = (n : Int) := ⟨a1.toNat, by omega⟩
   rw [Int.toNat_natCast, Int.toNat_natCast] at h
   by_cases c2 : fitE a0 (n * q) = 0
   ·rw [if_pos c2] at h
    injection h with h1 h2
    subst h1 h2
    exact bits_Unpack.w3 a0 n q w hS (by omega) (by omega) c2
   ·rw [if_neg c2] at h
    injection h with h1 h2
    subst h1 h2
    refine (bits_Unpack.w2 a0 n q w (by omega) (by omega) _ rfl c2).mono ?_
    rintro e w' ⟨rfl, hb⟩
    exact ⟨_, rfl, Kd.R_nil _ _ _ _ _, hb⟩
 ·exact absurd h (by simp)
end Go.Proofs.Ytgeddoklmcjdcaa.G
