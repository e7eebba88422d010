import Derived.Test.YtgeddoklmcjdcaaZQA
import Derived.Test.YtgeddoklmcjdcaaZG3
import Derived.Test.YtgeddoklmcjdcaaZG7
namespace Go.Proofs.Ytgeddoklmcjdcaa.G
open Go.RowKit Go.Proofs.YtgeddoklmcjdcaaQ Go.Proofs.YtgeddoklmcjdcaaW.PrintWords Go.Proofs.YtgeddoklmcjdcaaW.PrintLast Go.Proofs.YtgeddoklmcjdcaaW.PrintMore
attribute [local go_sem] max2_int min2_int max_two min_two max_three min_three max_four min_four   -- for this text's walks alone
set_option linter.unusedVariables false
set_option linter.unusedSimpArgs false
section
variable {P : Program} {ops : Array Oper} {Q : Exit → Act → World → Prop}
theorem goesLV_ {rest : List Oper} {oi : Oper} {a : Act} {w : World} (N : Option Tmp) (hd : oi.dst = N) (hg : oi.guard = none) {f : FuncId} {fn : Func} {o : Operand} {ao : Array Operand} {ts : Array TypeId} (hf : P.funcs[f]? = some fn) (hname : (fn.name == "runtime.NumGoroutine") = false) (hb : fn.body.isSome = true) (args : Array Value)
  (hop : oi.op = .call { callee := .value o, args := ao, argTypes := ts }) (ho : a.eval o = .func (.func f) #[] #[]) (hargs : ao.map a.eval = args)
  (h : Calls P f args w fun e w' => ∃ v, e = .returned v ∧ wpList P ops Q rest (a.put N v) w') : wpList P ops Q (oi :: rest) a w := by
 refine wpList_plain hg fun K hK => ?_
 have he := enters_ hf hname hb args w
 have hrun : (execOp a.eval oi).run P w = .ok (.enter f args) w := by
  unfold execOp
  simp [hop, resolve, Deferred.ofValue, invoke, ho, hargs, he]
 unfold Oper.wp
 rw [hrun, Oper.upon_enter]
 refine h.mono fun e w'' hh => ?_
 obtain ⟨v, rfl, hk⟩ := hh
 subst hd
 exact hK _ _ hk
end
theorem ints_Read.err (s : ByteArray) (e : Int) : tally_Cursor_Err.f s e = some (e, s, e) := rfl
def ints_Read.rd (k : Nat) (a : Int) (s : ByteArray) (e n : Int) : Option (List Int × Int × ByteArray × Int) := if a = 0 then ints_readPlain.f k s e n else if a = 1 then ints_readDelta.f k s e n else if a = 2 then ints_readRuns.f k s e n else ints_readPacked.f k s e n
def ints_Read.fin (t : List Int × Int × ByteArray × Int) : Option (List Int × Int) := if t.2.1 = 0 then (tally_Cursor_Done.f t.2.2.1 t.2.2.2).bind fun d => if d.1 = 0 then some (t.1, 0) else some ([], d.1) else some ([], t.2.1)
def ints_Read.go (k : Nat) (a eb : Int) (s : ByteArray) : Option (List Int × Int) := (tally_Cursor_Uint.f s eb).bind fun n => if n.2.2 ≠ 0 then some ([], n.2.2) else if 65536 < n.1 then some ([], 3) else if eb = 0 ∧ 0 ≤ a ∧ 0 ≤ n.1 then (ints_Read.rd k a n.2.1 n.2.2 n.1).bind ints_Read.fin else none
def ints_Read.f (k : Nat) (a0 : ByteArray) : Option (List Int × Int) := (tally_From.f a0).bind fun c => (tally_Cursor_Byte.f c.1 c.2).bind fun b => if b.2.2 = 0 ∧ 4 ≤ b.1 then some ([], 4) else ints_Read.go k b.1 b.2.2 b.2.1
theorem ints_Read.mono : ∀ a0 k, LeO (ints_Read.f k a0) (ints_Read.f (k + 1) a0) := by
 intro a0 k
 unfold ints_Read.f ints_Read.go ints_Read.rd
 refine LeO.bind (LeO.refl _) (fun _ => LeO.bind (LeO.refl _) (fun _ => LeO.ite (LeO.refl _) (LeO.bind (LeO.refl _) (fun _ => LeO.ite (LeO.refl _) (LeO.ite (LeO.refl _) (LeO.ite (LeO.bind ?_ (fun _ => LeO.refl _)) (LeO.refl _)))))))
 exact LeO.ite (ints_readPlain.mono _ _ _ k) (LeO.ite (ints_readDelta.mono _ _ _ k) (LeO.ite (ints_readRuns.mono _ _ _ k) (ints_readPacked.mono _ _ _ k)))
def ints_Read.St (w W : World) (b g : Nat) (s : ByteArray) (e : Int) : Prop := ints_With.Tab W b ∧ IsS66 w W g s e ∧ Below w.heap.size w W
theorem ints_Read.St.ne {w W : World} {b g : Nat} {s : ByteArray} {e : Int} (h : ints_Read.St w W b g s e) : b ≠ g := blk_ne h.1 h.2.1.1 (by decide)
theorem ints_Read.St.on {w W W' : World} {b g : Nat} {s s' : ByteArray} {e e' : Int} (h : ints_Read.St w W b g s e) (hi : IsS66 w W' g s' e') (hb : Below w.heap.size w W') (hk : KeepBut W W' g none) : ints_Read.St w W' b g s' e' :=
 ⟨(hk.2 b (blk_lt h.1) h.ne (by simp)).trans h.1, hi, hb⟩
set_option maxHeartbeats 4000000 in
set_option maxRecDepth 100000 in
theorem ints_Read.far (k : Nat) (a0 s0 s1 : ByteArray) (e0 e1 a : Int) (w : World) (hf : tally_From.f a0 = some (s0, e0)) (hy : tally_Cursor_Byte.f s0 e0 = some (a, s1, e1)) (he : e1 = 0) (ha : 4 ≤ a) :
  Calls Try.prog 12 #[.string a0] w fun e w' => ∃ v0_ : Value, e = .returned (.tuple #[v0_, .int .i64 4]) ∧ Kd.R (Kd.int .i64) 2 w' w.heap.size (fun _ => True) v0_ [] ∧ Below w.heap.size w w' := by
 subst he
 have d1 : decide (4 ≤ a) = true := decide_eq_true ha
 have HF := Aside0.mk hf; have HY := Aside0.mk hy; clear hf hy
 clear ha
 go_enter Try.func12, Try.ntmps12
 go_wp2_with fail
 refine (ints_With.codecs _).mono ?_; rintro e w1 ⟨b, rfl, ht, hle, hb⟩
 have HT := Aside0.mk ht; have HB := Aside0.mk hb; clear ht hb hle
 go_wp2_with fail
 refine (tally_From.calls a0 s0 e0 w _ HB.out HF.out).mono ?_; rintro e w2 ⟨g, rfl, hi, hb, hb2⟩
 have HS : Aside0 (ints_Read.St w w2 b g s0 e0) := ⟨(hb2.block _ (blk_lt HT.out)).trans HT.out, hi, hb⟩
 clear hi hb hb2 HT HB
 go_wp2_with fail
 refine (tally_Cursor_Byte.calls g s0 e0 a s1 0 w _ HS.out.2.1 HS.out.2.2 HY.out).mono ?_; rintro en w3 ⟨rfl, hi, hb, hk⟩
 replace HS := Aside0.mk (HS.out.on hi hb hk); clear hi hb hk
 go_wp2_with fail
 refine (tally_Cursor_Err.calls g s1 0 0 s1 0 w _ HS.out.2.1 HS.out.2.2 (ints_Read.err _ _)).mono ?_; rintro en w4 ⟨rfl, hi, hb, hk⟩
 replace HS := Aside0.mk (HS.out.on hi hb hk); clear hi hb hk
 go_wp2
 go_ret2
 exact ⟨_, rfl, Kd.R_nil _ _ _ _ _, HS.out.2.2⟩
set_option maxHeartbeats 4000000 in
set_option maxRecDepth 100000 in
theorem ints_Read.bad (k : Nat) (a0 s0 s1 : ByteArray) (e0 e1 a : Int) (w : World) (hf : tally_From.f a0 = some (s0, e0)) (hy : tally_Cursor_Byte.f s0 e0 = some (a, s1, e1)) (s2 : ByteArray) (n e2 : Int) (hu : tally_Cursor_Uint.f s1 e1 = some (n, s2, e2)) (hk : e1 ≠ 0 ∨ a < 4) (he : e2 ≠ 0) :
  Calls Try.prog 12 #[.string a0] w fun e w' => ∃ v0_ : Value, e = .returned (.tuple #[v0_, .int .i64 e2]) ∧ Kd.R (Kd.int .i64) 2 w' w.heap.size (fun _ => True) v0_ [] ∧ Below w.heap.size w w' := by
 have z1 : (e2 != 0) = true := bne_iff_ne.mpr he
 have z2 : (e2 == 0) = false := beq_eq_false_iff_ne.mpr he
 have HF := Aside0.mk hf; have HY := Aside0.mk hy; clear hf hy
 have HU := Aside0.mk hu; clear hu
 have HE := Aside0.mk he; clear he
 by_cases c : e1 = 0
 ·subst c
  have d1 : decide (4 ≤ a) = false := decide_eq_false (by omega)
  clear hk
  go_enter Try.func12, Try.ntmps12
  go_wp2_with fail
  refine (ints_With.codecs _).mono ?_; rintro e w1 ⟨b, rfl, ht, hle, hb⟩
  have HT := Aside0.mk ht; have HB := Aside0.mk hb; clear ht hb hle
  go_wp2_with fail
  refine (tally_From.calls a0 s0 e0 w _ HB.out HF.out).mono ?_; rintro e w2 ⟨g, rfl, hi, hb, hb2⟩
  have HS : Aside0 (ints_Read.St w w2 b g s0 e0) := ⟨(hb2.block _ (blk_lt HT.out)).trans HT.out, hi, hb⟩
  clear hi hb hb2 HT HB
  go_wp2_with fail
  refine (tally_Cursor_Byte.calls g s0 e0 a s1 0 w _ HS.out.2.1 HS.out.2.2 HY.out).mono ?_; rintro en w3 ⟨rfl, hi, hb, hk⟩
  replace HS := Aside0.mk (HS.out.on hi hb hk); clear hi hb hk
  go_wp2_with fail
  refine (tally_Cursor_Err.calls g s1 0 0 s1 0 w _ HS.out.2.1 HS.out.2.2 (ints_Read.err _ _)).mono ?_; rintro en w4 ⟨rfl, hi, hb, hk⟩
  replace HS := Aside0.mk (HS.out.on hi hb hk); clear hi hb hk
  go_wp2_with fail
  refine (tally_Cursor_Uint.calls g s1 0 n s2 e2 w _ HS.out.2.1 HS.out.2.2 HU.out).mono ?_; rintro en w5 ⟨rfl, hi, hb, hk⟩
  replace HS := Aside0.mk (HS.out.on hi hb hk); clear hi hb hk
  go_wp2_with fail
  refine (tally_Cursor_Err.calls g s2 e2 e2 s2 e2 w _ HS.out.2.1 HS.out.2.2 (ints_Read.err _ _)).mono ?_; rintro en w6 ⟨rfl, hi, hb, hk⟩
  replace HS := Aside0.mk (HS.out.on hi hb hk); clear hi hb hk
  go_wp2_with fail
  refine (tally_Cursor_Err.calls g s2 e2 e2 s2 e2 w _ HS.out.2.1 HS.out.2.2 (ints_Read.err _ _)).mono ?_; rintro en w7 ⟨rfl, hi, hb, hk⟩
  replace HS := Aside0.mk (HS.out.on hi hb hk); clear hi hb hk
  go_wp2
  go_ret2
  exact ⟨_, rfl, Kd.R_nil _ _ _ _ _, HS.out.2.2⟩
 ·have y1 : (e1 == 0) = false := beq_eq_false_iff_ne.mpr c
  have C1 := Aside0.mk c; clear hk c
  go_enter Try.func12, Try.ntmps12
  go_wp2_with fail
  refine (ints_With.codecs _).mono ?_; rintro e w1 ⟨b, rfl, ht, hle, hb⟩
  have HT := Aside0.mk ht; have HB := Aside0.mk hb; clear ht hb hle
  go_wp2_with fail
  refine (tally_From.calls a0 s0 e0 w _ HB.out HF.out).mono ?_; rintro e w2 ⟨g, rfl, hi, hb, hb2⟩
  have HS : Aside0 (ints_Read.St w w2 b g s0 e0) := ⟨(hb2.block _ (blk_lt HT.out)).trans HT.out, hi, hb⟩
  clear hi hb hb2 HT HB
  go_wp2_with fail
  refine (tally_Cursor_Byte.calls g s0 e0 a s1 e1 w _ HS.out.2.1 HS.out.2.2 HY.out).mono ?_; rintro en w3 ⟨rfl, hi, hb, hk⟩
  replace HS := Aside0.mk (HS.out.on hi hb hk); clear hi hb hk
  go_wp2_with fail
  refine (tally_Cursor_Err.calls g s1 e1 e1 s1 e1 w _ HS.out.2.1 HS.out.2.2 (ints_Read.err _ _)).mono ?_; rintro en w4 ⟨rfl, hi, hb, hk⟩
  replace HS := Aside0.mk (HS.out.on hi hb hk); clear hi hb hk
  go_wp2_with fail
  refine (tally_Cursor_Uint.calls g s1 e1 n s2 e2 w _ HS.out.2.1 HS.out.2.2 HU.out).mono ?_; rintro en w5 ⟨rfl, hi, hb, hk⟩
  replace HS := Aside0.mk (HS.out.on hi hb hk); clear hi hb hk
  go_wp2_with fail
  refine (tally_Cursor_Err.calls g s2 e2 e2 s2 e2 w _ HS.out.2.1 HS.out.2.2 (ints_Read.err _ _)).mono ?_; rintro en w6 ⟨rfl, hi, hb, hk⟩
  replace HS := Aside0.mk (HS.out.on hi hb hk); clear hi hb hk
  go_wp2_with fail
  refine (tally_Cursor_Err.calls g s2 e2 e2 s2 e2 w _ HS.out.2.1 HS.out.2.2 (ints_Read.err _ _)).mono ?_; rintro en w7 ⟨rfl, hi, hb, hk⟩
  replace HS := Aside0.mk (HS.out.on hi hb hk); clear hi hb hk
  go_wp2
  go_ret2
  exact ⟨_, rfl, Kd.R_nil _ _ _ _ _, HS.out.2.2⟩
set_option maxHeartbeats 4000000 in
set_option maxRecDepth 100000 in
theorem ints_Read.long (k : Nat) (a0 s0 s1 : ByteArray) (e0 e1 a : Int) (w : World) (hf : tally_From.f a0 = some (s0, e0)) (hy : tally_Cursor_Byte.f s0 e0 = some (a, s1, e1)) (s2 : ByteArray) (n e2 : Int) (hu : tally_Cursor_Uint.f s1 e1 = some (n, s2, e2)) (hk : e1 ≠ 0 ∨ a < 4) (he : e2 = 0) (hn : 65536 < n) :
  Calls Try.prog 12 #[.string a0] w fun e w' => ∃ v0_ : Value, e = .returned (.tuple #[v0_, .int .i64 3]) ∧ Kd.R (Kd.int .i64) 2 w' w.heap.size (fun _ => True) v0_ [] ∧ Below w.heap.size w w' := by
 subst he
 have z3 : decide (65536 < n) = true := decide_eq_true hn
 have HF := Aside0.mk hf; have HY := Aside0.mk hy; clear hf hy
 have HU := Aside0.mk hu; clear hu
 clear hn
 by_cases c : e1 = 0
 ·subst c
  have d1 : decide (4 ≤ a) = false := decide_eq_false (by omega)
  clear hk
  go_enter Try.func12, Try.ntmps12
  go_wp2_with fail
  refine (ints_With.codecs _).mono ?_; rintro e w1 ⟨b, rfl, ht, hle, hb⟩
  have HT := Aside0.mk ht; have HB := Aside0.mk hb; clear ht hb hle
  go_wp2_with fail
  refine (tally_From.calls a0 s0 e0 w _ HB.out HF.out).mono ?_; rintro e w2 ⟨g, rfl, hi, hb, hb2⟩
  have HS : Aside0 (ints_Read.St w w2 b g s0 e0) := ⟨(hb2.block _ (blk_lt HT.out)).trans HT.out, hi, hb⟩
  clear hi hb hb2 HT HB
  go_wp2_with fail
  refine (tally_Cursor_Byte.calls g s0 e0 a s1 0 w _ HS.out.2.1 HS.out.2.2 HY.out).mono ?_; rintro en w3 ⟨rfl, hi, hb, hk⟩
  replace HS := Aside0.mk (HS.out.on hi hb hk); clear hi hb hk
  go_wp2_with fail
  refine (tally_Cursor_Err.calls g s1 0 0 s1 0 w _ HS.out.2.1 HS.out.2.2 (ints_Read.err _ _)).mono ?_; rintro en w4 ⟨rfl, hi, hb, hk⟩
  replace HS := Aside0.mk (HS.out.on hi hb hk); clear hi hb hk
  go_wp2_with fail
  refine (tally_Cursor_Uint.calls g s1 0 n s2 0 w _ HS.out.2.1 HS.out.2.2 HU.out).mono ?_; rintro en w5 ⟨rfl, hi, hb, hk⟩
  replace HS := Aside0.mk (HS.out.on hi hb hk); clear hi hb hk
  go_wp2_with fail
  refine (tally_Cursor_Err.calls g s2 0 0 s2 0 w _ HS.out.2.1 HS.out.2.2 (ints_Read.err _ _)).mono ?_; rintro en w6 ⟨rfl, hi, hb, hk⟩
  replace HS := Aside0.mk (HS.out.on hi hb hk); clear hi hb hk
  go_wp2
  go_ret2
  exact ⟨_, rfl, Kd.R_nil _ _ _ _ _, HS.out.2.2⟩
 ·have y1 : (e1 == 0) = false := beq_eq_false_iff_ne.mpr c
  have C1 := Aside0.mk c; clear hk c
  go_enter Try.func12, Try.ntmps12
  go_wp2_with fail
  refine (ints_With.codecs _).mono ?_; rintro e w1 ⟨b, rfl, ht, hle, hb⟩
  have HT := Aside0.mk ht; have HB := Aside0.mk hb; clear ht hb hle
  go_wp2_with fail
  refine (tally_From.calls a0 s0 e0 w _ HB.out HF.out).mono ?_; rintro e w2 ⟨g, rfl, hi, hb, hb2⟩
  have HS : Aside0 (ints_Read.St w w2 b g s0 e0) := ⟨(hb2.block _ (blk_lt HT.out)).trans HT.out, hi, hb⟩
  clear hi hb hb2 HT HB
  go_wp2_with fail
  refine (tally_Cursor_Byte.calls g s0 e0 a s1 e1 w _ HS.out.2.1 HS.out.2.2 HY.out).mono ?_; rintro en w3 ⟨rfl, hi, hb, hk⟩
  replace HS := Aside0.mk (HS.out.on hi hb hk); clear hi hb hk
  go_wp2_with fail
  refine (tally_Cursor_Err.calls g s1 e1 e1 s1 e1 w _ HS.out.2.1 HS.out.2.2 (ints_Read.err _ _)).mono ?_; rintro en w4 ⟨rfl, hi, hb, hk⟩
  replace HS := Aside0.mk (HS.out.on hi hb hk); clear hi hb hk
  go_wp2_with fail
  refine (tally_Cursor_Uint.calls g s1 e1 n s2 0 w _ HS.out.2.1 HS.out.2.2 HU.out).mono ?_; rintro en w5 ⟨rfl, hi, hb, hk⟩
  replace HS := Aside0.mk (HS.out.on hi hb hk); clear hi hb hk
  go_wp2_with fail
  refine (tally_Cursor_Err.calls g s2 0 0 s2 0 w _ HS.out.2.1 HS.out.2.2 (ints_Read.err _ _)).mono ?_; rintro en w6 ⟨rfl, hi, hb, hk⟩
  replace HS := Aside0.mk (HS.out.on hi hb hk); clear hi hb hk
  go_wp2
  go_ret2
  exact ⟨_, rfl, Kd.R_nil _ _ _ _ _, HS.out.2.2⟩
set_option maxHeartbeats 4000000 in
set_option maxRecDepth 100000 in
theorem ints_Read.wrong (a0 s0 s1 : ByteArray) (e0 : Int) (j : Nat) (w : World) (hj : j < 4) (hf : tally_From.f a0 = some (s0, e0)) (hy : tally_Cursor_Byte.f s0 e0 = some ((j : Int), s1, 0)) (s2 : ByteArray) (n : Int) (hu : tally_Cursor_Uint.f s1 0 = some (n, s2, 0)) (hn0 : 0 ≤ n) (hn : n ≤ 65536)
  (F : FuncId) (fn : Func) (hf_ : Try.prog.funcs[F]? = some fn) (hname : (fn.name == "runtime.NumGoroutine") = false) (hbody : fn.body.isSome = true) (hF : ints_With.tab[j * 2 + 1]? = some (.func (.func F) #[] #[])) (l : List Int) (e3 e4 : Int) (s3 s4 : ByteArray)
  (hh : ∀ (W : World) (g : Nat), IsS66 w W g s2 0 → Below w.heap.size w W → Calls Try.prog F #[.pointer (some ⟨g, 0, none⟩), .int .i64 n] W fun e w' => ∃ v0_ : Value, e = .returned (.tuple #[v0_, .int .i64 e3]) ∧ Kd.R (Kd.int .i64) 2 w' W.heap.size (fun _ => True) v0_ l ∧ IsS66 w w' g s3 e4 ∧ Below w.heap.size w w' ∧ KeepBut W w' g none) (he : e3 ≠ 0) :
  Calls Try.prog 12 #[.string a0] w fun e w' => ∃ v0_ : Value, e = .returned (.tuple #[v0_, .int .i64 e3]) ∧ Kd.R (Kd.int .i64) 2 w' w.heap.size (fun _ => True) v0_ [] ∧ Below w.heap.size w w' := by
 have z1 : (e3 != 0) = true := bne_iff_ne.mpr he
 have z2 : (e3 == 0) = false := beq_eq_false_iff_ne.mpr he
 have HE := Aside0.mk he; clear he
 have d1 : decide ((4 : Int) ≤ (j : Int)) = false := decide_eq_false (by omega)
 have d2 : decide (4 ≤ j) = false := decide_eq_false (by omega)
 have b0 : (0 : Int) ≤ (j : Int) := by omega
 have b1 : (j : Int) < 4 := by omega
 have z3 : decide (65536 < n) = false := decide_eq_false (by omega)
 have hw : wrap64 n = n := w64 (by omega) (by omega)
 have hw2 : IntKind.i64.wrap n = n := by rw [i64_w]; exact hw
 have HU := Aside0.mk hu; have HF_ := Aside0.mk hF; have HH := Aside0.mk hh; clear hu hF hh hj
 have HF := Aside0.mk hf; have HY := Aside0.mk hy; clear hf hy
 go_enter Try.func12, Try.ntmps12
 go_wp2_with fail
 refine (ints_With.codecs _).mono ?_; rintro e w1 ⟨b, rfl, ht, hle, hb⟩
 have HT := Aside0.mk ht; have HB := Aside0.mk hb; clear ht hb hle
 go_wp2_with fail
 refine (tally_From.calls a0 s0 e0 w _ HB.out HF.out).mono ?_; rintro e w2 ⟨g, rfl, hi, hb, hb2⟩
 have HS : Aside0 (ints_Read.St w w2 b g s0 e0) := ⟨(hb2.block _ (blk_lt HT.out)).trans HT.out, hi, hb⟩
 clear hi hb hb2 HT HB
 go_wp2_with fail
 refine (tally_Cursor_Byte.calls g s0 e0 (j : Int) s1 0 w _ HS.out.2.1 HS.out.2.2 HY.out).mono ?_; rintro en w3 ⟨rfl, hi, hb, hk⟩
 replace HS := Aside0.mk (HS.out.on hi hb hk); clear hi hb hk
 go_wp2_with fail
 refine (tally_Cursor_Err.calls g s1 0 0 s1 0 w _ HS.out.2.1 HS.out.2.2 (ints_Read.err _ _)).mono ?_; rintro en w4 ⟨rfl, hi, hb, hk⟩
 replace HS := Aside0.mk (HS.out.on hi hb hk); clear hi hb hk
 go_wp2_with fail
 refine (tally_Cursor_Uint.calls g s1 0 n s2 0 w _ HS.out.2.1 HS.out.2.2 HU.out).mono ?_; rintro en w5 ⟨rfl, hi, hb, hk⟩
 replace HS := Aside0.mk (HS.out.on hi hb hk); clear hi hb hk
 go_wp2_with fail
 refine (tally_Cursor_Err.calls g s2 0 0 s2 0 w _ HS.out.2.1 HS.out.2.2 (ints_Read.err _ _)).mono ?_; rintro en w6 ⟨rfl, hi, hb, hk⟩
 replace HS := Aside0.mk (HS.out.on hi hb hk); clear hi hb hk
 have q0 : w6.cell? ⟨b, j * 2 + 1, none⟩ = some (.func (.func F) #[] #[]) := (blk_cell HS.out.1 (j * 2 + 1)).trans HF_.out
 go_wp2_with ((with_reducible refine gate_dst (N := 44) rfl ?_); refine goesLV_ (some 44) rfl rfl hf_ hname hbody #[.pointer (some ⟨g, 0, none⟩), .int .i64 n] rfl (by rfl) (by first | rfl | (simp only [List.map_toArray, List.map_cons, List.map_nil]; rfl)) ?_; refine (HH.out _ g HS.out.2.1 HS.out.2.2).mono ?_; rintro en w7 ⟨v0, rfl, ho, hi, hb, hk⟩; refine ⟨_, rfl, ?_⟩; (have HO := Aside0.mk (Kd.R_lower ho HS.out.2.2.size)); (replace HS := Aside0.mk (HS.out.on hi hb hk)); clear ho hi hb hk q0)
 go_wp2
 go_ret2
 exact ⟨_, rfl, Kd.R_nil _ _ _ _ _, HS.out.2.2⟩
set_option maxHeartbeats 4000000 in
set_option maxRecDepth 100000 in
theorem ints_Read.after (a0 s0 s1 : ByteArray) (e0 : Int) (j : Nat) (w : World) (hj : j < 4) (hf : tally_From.f a0 = some (s0, e0)) (hy : tally_Cursor_Byte.f s0 e0 = some ((j : Int), s1, 0)) (s2 : ByteArray) (n : Int) (hu : tally_Cursor_Uint.f s1 0 = some (n, s2, 0)) (hn0 : 0 ≤ n) (hn : n ≤ 65536)
  (F : FuncId) (fn : Func) (hf_ : Try.prog.funcs[F]? = some fn) (hname : (fn.name == "runtime.NumGoroutine") = false) (hbody : fn.body.isSome = true) (hF : ints_With.tab[j * 2 + 1]? = some (.func (.func F) #[] #[])) (l : List Int) (e3 e4 : Int) (s3 s4 : ByteArray)
  (hh : ∀ (W : World) (g : Nat), IsS66 w W g s2 0 → Below w.heap.size w W → Calls Try.prog F #[.pointer (some ⟨g, 0, none⟩), .int .i64 n] W fun e w' => ∃ v0_ : Value, e = .returned (.tuple #[v0_, .int .i64 e3]) ∧ Kd.R (Kd.int .i64) 2 w' W.heap.size (fun _ => True) v0_ l ∧ IsS66 w w' g s3 e4 ∧ Below w.heap.size w w' ∧ KeepBut W w' g none) (he : e3 = 0) (s5 : ByteArray) (dn e5 : Int) (hd : tally_Cursor_Done.f s3 e4 = some (dn, s5, e5)) (hdn : dn ≠ 0) :
  Calls Try.prog 12 #[.string a0] w fun e w' => ∃ v0_ : Value, e = .returned (.tuple #[v0_, .int .i64 dn]) ∧ Kd.R (Kd.int .i64) 2 w' w.heap.size (fun _ => True) v0_ [] ∧ Below w.heap.size w w' := by
 subst he
 have z1 : (dn != 0) = true := bne_iff_ne.mpr hdn
 have z2 : (dn == 0) = false := beq_eq_false_iff_ne.mpr hdn
 have HE := Aside0.mk hdn; have HD := Aside0.mk hd; clear hdn hd
 have d1 : decide ((4 : Int) ≤ (j : Int)) = false := decide_eq_false (by omega)
 have d2 : decide (4 ≤ j) = false := decide_eq_false (by omega)
 have b0 : (0 : Int) ≤ (j : Int) := by omega
 have b1 : (j : Int) < 4 := by omega
 have z3 : decide (65536 < n) = false := decide_eq_false (by omega)
 have hw : wrap64 n = n := w64 (by omega) (by omega)
 have hw2 : IntKind.i64.wrap n = n := by rw [i64_w]; exact hw
 have HU := Aside0.mk hu; have HF_ := Aside0.mk hF; have HH := Aside0.mk hh; clear hu hF hh hj
 have HF := Aside0.mk hf; have HY := Aside0.mk hy; clear hf hy
 go_enter Try.func12, Try.ntmps12
 go_wp2_with fail
 refine (ints_With.codecs _).mono ?_; rintro e w1 ⟨b, rfl, ht, hle, hb⟩
 have HT := Aside0.mk ht; have HB := Aside0.mk hb; clear ht hb hle
 go_wp2_with fail
 refine (tally_From.calls a0 s0 e0 w _ HB.out HF.out).mono ?_; rintro e w2 ⟨g, rfl, hi, hb, hb2⟩
 have HS : Aside0 (ints_Read.St w w2 b g s0 e0) := ⟨(hb2.block _ (blk_lt HT.out)).trans HT.out, hi, hb⟩
 clear hi hb hb2 HT HB
 go_wp2_with fail
 refine (tally_Cursor_Byte.calls g s0 e0 (j : Int) s1 0 w _ HS.out.2.1 HS.out.2.2 HY.out).mono ?_; rintro en w3 ⟨rfl, hi, hb, hk⟩
 replace HS := Aside0.mk (HS.out.on hi hb hk); clear hi hb hk
 go_wp2_with fail
 refine (tally_Cursor_Err.calls g s1 0 0 s1 0 w _ HS.out.2.1 HS.out.2.2 (ints_Read.err _ _)).mono ?_; rintro en w4 ⟨rfl, hi, hb, hk⟩
 replace HS := Aside0.mk (HS.out.on hi hb hk); clear hi hb hk
 go_wp2_with fail
 refine (tally_Cursor_Uint.calls g s1 0 n s2 0 w _ HS.out.2.1 HS.out.2.2 HU.out).mono ?_; rintro en w5 ⟨rfl, hi, hb, hk⟩
 replace HS := Aside0.mk (HS.out.on hi hb hk); clear hi hb hk
 go_wp2_with fail
 refine (tally_Cursor_Err.calls g s2 0 0 s2 0 w _ HS.out.2.1 HS.out.2.2 (ints_Read.err _ _)).mono ?_; rintro en w6 ⟨rfl, hi, hb, hk⟩
 replace HS := Aside0.mk (HS.out.on hi hb hk); clear hi hb hk
 have q0 : w6.cell? ⟨b, j * 2 + 1, none⟩ = some (.func (.func F) #[] #[]) := (blk_cell HS.out.1 (j * 2 + 1)).trans HF_.out
 go_wp2_with ((with_reducible refine gate_dst (N := 44) rfl ?_); refine goesLV_ (some 44) rfl rfl hf_ hname hbody #[.pointer (some ⟨g, 0, none⟩), .int .i64 n] rfl (by rfl) (by first | rfl | (simp only [List.map_toArray, List.map_cons, List.map_nil]; rfl)) ?_; refine (HH.out _ g HS.out.2.1 HS.out.2.2).mono ?_; rintro en w7 ⟨v0, rfl, ho, hi, hb, hk⟩; refine ⟨_, rfl, ?_⟩; (have HO := Aside0.mk (Kd.R_lower ho HS.out.2.2.size)); (replace HS := Aside0.mk (HS.out.on hi hb hk)); clear ho hi hb hk q0)
 go_wp2_with fail
 refine (tally_Cursor_Done.calls g s3 e4 dn s5 e5 w _ HS.out.2.1 HS.out.2.2 HD.out).mono ?_; rintro en w8 ⟨rfl, hi, hb, hk⟩
 have HO2 := Aside0.mk (Kd.R_mono (Kd.R_keep (IsS66.apart HS.out.2.1 HO.out (by decide)) hk (fun _ h => h.2)) (fun _ h => h.1)); replace HS := Aside0.mk (HS.out.on hi hb hk); clear hi hb hk
 go_wp2
 go_ret2
 exact ⟨_, rfl, Kd.R_nil _ _ _ _ _, HS.out.2.2⟩
set_option maxHeartbeats 4000000 in
set_option maxRecDepth 100000 in
theorem ints_Read.good (a0 s0 s1 : ByteArray) (e0 : Int) (j : Nat) (w : World) (hj : j < 4) (hf : tally_From.f a0 = some (s0, e0)) (hy : tally_Cursor_Byte.f s0 e0 = some ((j : Int), s1, 0)) (s2 : ByteArray) (n : Int) (hu : tally_Cursor_Uint.f s1 0 = some (n, s2, 0)) (hn0 : 0 ≤ n) (hn : n ≤ 65536)
  (F : FuncId) (fn : Func) (hf_ : Try.prog.funcs[F]? = some fn) (hname : (fn.name == "runtime.NumGoroutine") = false) (hbody : fn.body.isSome = true) (hF : ints_With.tab[j * 2 + 1]? = some (.func (.func F) #[] #[])) (l : List Int) (e3 e4 : Int) (s3 s4 : ByteArray)
  (hh : ∀ (W : World) (g : Nat), IsS66 w W g s2 0 → Below w.heap.size w W → Calls Try.prog F #[.pointer (some ⟨g, 0, none⟩), .int .i64 n] W fun e w' => ∃ v0_ : Value, e = .returned (.tuple #[v0_, .int .i64 e3]) ∧ Kd.R (Kd.int .i64) 2 w' W.heap.size (fun _ => True) v0_ l ∧ IsS66 w w' g s3 e4 ∧ Below w.heap.size w w' ∧ KeepBut W w' g none) (he : e3 = 0) (s5 : ByteArray) (e5 : Int) (hd : tally_Cursor_Done.f s3 e4 = some (0, s5, e5)) :
  Calls Try.prog 12 #[.string a0] w fun e w' => ∃ v0_ : Value, e = .returned (.tuple #[v0_, .int .i64 0]) ∧ Kd.R (Kd.int .i64) 2 w' w.heap.size (fun _ => True) v0_ l ∧ Below w.heap.size w w' := by
 subst he
 have HD := Aside0.mk hd; clear hd
 have d1 : decide ((4 : Int) ≤ (j : Int)) = false := decide_eq_false (by omega)
 have d2 : decide (4 ≤ j) = false := decide_eq_false (by omega)
 have b0 : (0 : Int) ≤ (j : Int) := by omega
 have b1 : (j : Int) < 4 := by omega
 have z3 : decide (65536 < n) = false := decide_eq_false (by omega)
 have hw : wrap64 n = n := w64 (by omega) (by omega)
 have hw2 : IntKind.i64.wrap n = n := by rw [i64_w]; exact hw
 have HU := Aside0.mk hu; have HF_ := Aside0.mk hF; have HH := Aside0.mk hh; clear hu hF hh hj
 have HF := Aside0.mk hf; have HY := Aside0.mk hy; clear hf hy
 go_enter Try.func12, Try.ntmps12
 go_wp2_with fail
 refine (ints_With.codecs _).mono ?_; rintro e w1 ⟨b, rfl, ht, hle, hb⟩
 have HT := Aside0.mk ht; have HB := Aside0.mk hb; clear ht hb hle
 go_wp2_with fail
 refine (tally_From.calls a0 s0 e0 w _ HB.out HF.out).mono ?_; rintro e w2 ⟨g, rfl, hi, hb, hb2⟩
 have HS : Aside0 (ints_Read.St w w2 b g s0 e0) := ⟨(hb2.block _ (blk_lt HT.out)).trans HT.out, hi, hb⟩
 clear hi hb hb2 HT HB
 go_wp2_with fail
 refine (tally_Cursor_Byte.calls g s0 e0 (j : Int) s1 0 w _ HS.out.2.1 HS.out.2.2 HY.out).mono ?_; rintro en w3 ⟨rfl, hi, hb, hk⟩
 replace HS := Aside0.mk (HS.out.on hi hb hk); clear hi hb hk
 go_wp2_with fail
 refine (tally_Cursor_Err.calls g s1 0 0 s1 0 w _ HS.out.2.1 HS.out.2.2 (ints_Read.err _ _)).mono ?_; rintro en w4 ⟨rfl, hi, hb, hk⟩
 replace HS := Aside0.mk (HS.out.on hi hb hk); clear hi hb hk
 go_wp2_with fail
 refine (tally_Cursor_Uint.calls g s1 0 n s2 0 w _ HS.out.2.1 HS.out.2.2 HU.out).mono ?_; rintro en w5 ⟨rfl, hi, hb, hk⟩
 replace HS := Aside0.mk (HS.out.on hi hb hk); clear hi hb hk
 go_wp2_with fail
 refine (tally_Cursor_Err.calls g s2 0 0 s2 0 w _ HS.out.2.1 HS.out.2.2 (ints_Read.err _ _)).mono ?_; rintro en w6 ⟨rfl, hi, hb, hk⟩
 replace HS := Aside0.mk (HS.out.on hi hb hk); clear hi hb hk
 have q0 : w6.cell? ⟨b, j * 2 + 1, none⟩ = some (.func (.func F) #[] #[]) := (blk_cell HS.out.1 (j * 2 + 1)).trans HF_.out
 go_wp2_with ((with_reducible refine gate_dst (N := 44) rfl ?_); refine goesLV_ (some 44) rfl rfl hf_ hname hbody #[.pointer (some ⟨g, 0, none⟩), .int .i64 n] rfl (by rfl) (by first | rfl | (simp only [List.map_toArray, List.map_cons, List.map_nil]; rfl)) ?_; refine (HH.out _ g HS.out.2.1 HS.out.2.2).mono ?_; rintro en w7 ⟨v0, rfl, ho, hi, hb, hk⟩; refine ⟨_, rfl, ?_⟩; (have HO := Aside0.mk (Kd.R_lower ho HS.out.2.2.size)); (replace HS := Aside0.mk (HS.out.on hi hb hk)); clear ho hi hb hk q0)
 go_wp2_with fail
 refine (tally_Cursor_Done.calls g s3 e4 0 s5 e5 w _ HS.out.2.1 HS.out.2.2 HD.out).mono ?_; rintro en w8 ⟨rfl, hi, hb, hk⟩
 have HO2 := Aside0.mk (Kd.R_mono (Kd.R_keep (IsS66.apart HS.out.2.1 HO.out (by decide)) hk (fun _ h => h.2)) (fun _ h => h.1)); replace HS := Aside0.mk (HS.out.on hi hb hk); clear hi hb hk
 go_wp2
 go_ret2
 exact ⟨v0, rfl, HO2.out, HS.out.2.2⟩
theorem ints_Read.step (a0 s0 s1 : ByteArray) (e0 : Int) (j : Nat) (w : World) (hj : j < 4) (hf : tally_From.f a0 = some (s0, e0)) (hy : tally_Cursor_Byte.f s0 e0 = some ((j : Int), s1, 0)) (s2 : ByteArray) (n : Int) (hu : tally_Cursor_Uint.f s1 0 = some (n, s2, 0)) (hn0 : 0 ≤ n) (hn : n ≤ 65536)
  (F : FuncId) (fn : Func) (hf_ : Try.prog.funcs[F]? = some fn) (hname : (fn.name == "runtime.NumGoroutine") = false) (hbody : fn.body.isSome = true) (hF : ints_With.tab[j * 2 + 1]? = some (.func (.func F) #[] #[])) (l : List Int) (e3 e4 : Int) (s3 : ByteArray)
  (hh : ∀ (W : World) (g : Nat), IsS66 w W g s2 0 → Below w.heap.size w W → Calls Try.prog F #[.pointer (some ⟨g, 0, none⟩), .int .i64 n] W fun e w' => ∃ v0_ : Value, e = .returned (.tuple #[v0_, .int .i64 e3]) ∧ Kd.R (Kd.int .i64) 2 w' W.heap.size (fun _ => True) v0_ l ∧ IsS66 w w' g s3 e4 ∧ Below w.heap.size w w' ∧ KeepBut W w' g none) (r1 : List Int) (r2 : Int) (h : ints_Read.fin (l, e3, s3, e4) = some (r1, r2)) :
  Calls Try.prog 12 #[.string a0] w fun e w' => ∃ v0_ : Value, e = .returned (.tuple #[v0_, .int .i64 r2]) ∧ Kd.R (Kd.int .i64) 2 w' w.heap.size (fun _ => True) v0_ r1 ∧ Below w.heap.size w w' := by
 unfold ints_Read.fin at h
 simp only at h
 by_cases c : e3 = 0
 ·rw [if_pos c] at h
  obtain ⟨⟨dn, s5, e5⟩, hd, h⟩ := Option.bind_eq_some_iff.mp h
  simp only at h
  by_cases c2 : dn = 0
  ·rw [if_pos c2] at h
   injection h with h; injection h with h1 h2; subst h1 h2; subst c2
   exact ints_Read.good a0 s0 s1 e0 j w hj hf hy s2 n hu hn0 hn F fn hf_ hname hbody hF l e3 e4 s3 s3 hh c s5 e5 hd
  ·rw [if_neg c2] at h
   injection h with h; injection h with h1 h2; subst h1 h2
   exact ints_Read.after a0 s0 s1 e0 j w hj hf hy s2 n hu hn0 hn F fn hf_ hname hbody hF l e3 e4 s3 s3 hh c s5 dn e5 hd c2
 ·rw [if_neg c] at h
  injection h with h; injection h with h1 h2; subst h1 h2
  exact ints_Read.wrong a0 s0 s1 e0 j w hj hf hy s2 n hu hn0 hn F fn hf_ hname hbody hF l e3 e4 s3 s3 hh c
theorem ints_Read.calls (k : Nat) (a0 : ByteArray) (r1 : List Int) (r2 : Int) (w : World) (h : ints_Read.f k a0 = some (r1, r2)) :
  Calls Try.prog 12 #[.string a0] w fun e w' => ∃ v0_ : Value, e = .returned (.tuple #[v0_, .int .i64 r2]) ∧ Kd.R (Kd.int .i64) 2 w' w.heap.size (fun _ => True) v0_ r1 ∧ Below w.heap.size w w' := by
 unfold ints_Read.f at h
 obtain ⟨⟨s0, e0⟩, hf, h⟩ := Option.bind_eq_some_iff.mp h
 obtain ⟨⟨a, s1, e1⟩, hy, h⟩ := Option.bind_eq_some_iff.mp h
 simp only at h hy
 by_cases c : e1 = 0 ∧ 4 ≤ a
 ·rw [if_pos c] at h
  injection h with h; injection h with h1 h2; subst h1 h2
  exact ints_Read.far k a0 s0 s1 e0 e1 a w hf hy c.1 c.2
 ·rw [if_neg c] at h
  unfold ints_Read.go at h
  obtain ⟨⟨n, s2, e2⟩, hu, h⟩ := Option.bind_eq_some_iff.mp h
  simp only at h
  by_cases he : e2 = 0
  ·rw [if_neg (by simp [he])] at h
   by_cases hn : 65536 < n
   ·rw [if_pos hn] at h
    injection h with h; injection h with h1 h2; subst h1 h2
    exact ints_Read.long k a0 s0 s1 e0 e1 a w hf hy s2 n e2 hu (by omega) he hn
   ·rw [if_neg hn] at h
    by_cases c3 : e1 = 0 ∧ 0 ≤ a ∧ 0 ≤ n
    ·rw [if_pos c3] at h
     obtain ⟨⟨l, e3, s3, e4⟩, hr, hz⟩ := Option.bind_eq_some_iff.mp h
     obtain ⟨c4, c5, c6⟩ := c3
     subst he c4
     obtain ⟨j, rfl⟩ : ∃ j : Nat, a = (j : Int) := ⟨a.toNat, by omega⟩
     have hj : j < 4 := by omega
     unfold ints_Read.rd at hr
     rcases (by omega : j = 0 ∨ j = 1 ∨ j = 2 ∨ j = 3) with rfl | rfl | rfl | rfl
     ·replace hr : ints_readPlain.f k s2 0 n = some (l, e3, s3, e4) := hr
      exact ints_Read.step a0 s0 s1 e0 0 w hj hf hy s2 n hu c6 (by omega) 35 _ Try.func35 (by kernel_rfl) rfl rfl l e3 e4 s3 (fun W g hi hb => ints_readPlain.calls k g s2 0 n l e3 s3 e4 w W hi hb hr) r1 r2 hz
     ·replace hr : ints_readDelta.f k s2 0 n = some (l, e3, s3, e4) := hr
      exact ints_Read.step a0 s0 s1 e0 1 w hj hf hy s2 n hu c6 (by omega) 37 _ Try.func37 (by kernel_rfl) rfl rfl l e3 e4 s3 (fun W g hi hb => ints_readDelta.calls k g s2 0 n l e3 s3 e4 w W hi hb hr) r1 r2 hz
     ·replace hr : ints_readRuns.f k s2 0 n = some (l, e3, s3, e4) := hr
      exact ints_Read.step a0 s0 s1 e0 2 w hj hf hy s2 n hu c6 (by omega) 39 _ Try.func39 (by kernel_rfl) rfl rfl l e3 e4 s3 (fun W g hi hb => ints_readRuns.calls k g s2 0 n l e3 s3 e4 w W hi hb hr) r1 r2 hz
     ·replace hr : ints_readPacked.f k s2 0 n = some (l, e3, s3, e4) := hr
      exact ints_Read.step a0 s0 s1 e0 3 w hj hf hy s2 n hu c6 (by omega) 41 _ Try.func41 (by kernel_rfl) rfl rfl l e3 e4 s3 (fun W g hi hb => ints_readPacked.calls k g s2 0 n l e3 s3 e4 w W hi hb hr) r1 r2 hz
    ·rw [if_neg c3] at h; exact absurd h (by simp)
  ·rw [if_pos (by simpa using he)] at h
   injection h with h; injection h with h1 h2; subst h1 h2
   exact ints_Read.bad k a0 s0 s1 e0 e1 a w hf hy s2 n e2 hu (by omega) he
end Go.Proofs.Ytgeddoklmcjdcaa.G
namespace Go.Proofs.Ytgeddoklmcjdcaa.G
open Go.RowKit Go.Proofs.YtgeddoklmcjdcaaQ Go.Proofs.YtgeddoklmcjdcaaW.PrintWords Go.Proofs.YtgeddoklmcjdcaaW.PrintLast Go.Proofs.YtgeddoklmcjdcaaW.PrintMore
attribute [local go_sem] max2_int min2_int max_two min_two max_three min_three max_four min_four   -- for this text's walks alone
set_option linter.unusedVariables false
set_option linter.unusedSimpArgs false
def tithebarnlaw04_lives.f (k : Nat)  : Option (Bool) := (ints_With.f k (([7, 7, 7] : List Int)) 2).bind fun bt296 => ((ints_Read.f k (⟨#[2, 3, 3, 14]⟩ : ByteArray)).bind fun bt298 => (if bt296.2 = 0 then (if bt296.1.toList = ([2, 3, 3, 14] : List UInt8) then (if bt298.2 = 0 then (if (bt298.1.length : Int) = 3 then (if 2 < (bt298.1.length : Int) then (some ((rd bt298.1 2) == 7)) else (none)) else (some false)) else (some false)) else (some false)) else (some false)))
theorem tithebarnlaw04_lives.mono : ∀ k, LeO (tithebarnlaw04_lives.f k ) (tithebarnlaw04_lives.f (k + 1) ) := by
 intro  k
 unfold tithebarnlaw04_lives.f
 repeat' first
   | (with_reducible exact ints_Read.mono _ _)
   | (with_reducible exact ints_With.mono _ _ _)
   | (with_reducible exact LeO.refl _)
   | (with_reducible exact LeO.none _)
   | (with_reducible refine LeO.ite ?_ ?_)
   | (with_reducible refine LeO.bind ?_ (fun _ => ?_))
   | exact ints_Read.mono _ _
   | exact ints_With.mono _ _ _
   | exact LeO.none _
   | refine LeO.ite ?_ ?_
   | refine LeO.bind ?_ (fun _ => ?_)
set_option maxHeartbeats 8000000 in
set_option maxRecDepth 100000 in
theorem tithebarnlaw04_lives.calls (k : Nat)  (r : Bool) (w : World) (h : tithebarnlaw04_lives.f k  = some r) :
  Calls Try.prog 9 #[] w fun e w' => e = .returned (.bool r) ∧ Below w.heap.size w w' := by
 have HB := Aside0.mk (Below.refl w.heap.size w)
 have H : ((ints_With.f k (([7, 7, 7] : List Int)) 2).bind fun bt296 => ((ints_Read.f k (⟨#[2, 3, 3, 14]⟩ : ByteArray)).bind fun bt298 => (if bt296.2 = 0 then (if bt296.1.toList = ([2, 3, 3, 14] : List UInt8) then (if bt298.2 = 0 then (if (bt298.1.length : Int) = 3 then (if 2 < (bt298.1.length : Int) then (some ((rd bt298.1 2) == 7)) else (none)) else (some false)) else (some false)) else (some false)) else (some false)))) = some r := h
 clear h
 obtain ⟨y293, hy293⟩ : ∃ y_ : List Int, y_ = (([7, 7, 7] : List Int)) := ⟨_, rfl⟩
 replace H : ((ints_With.f k y293 2).bind fun bt296 => ((ints_Read.f k (⟨#[2, 3, 3, 14]⟩ : ByteArray)).bind fun bt298 => (if bt296.2 = 0 then (if bt296.1.toList = ([2, 3, 3, 14] : List UInt8) then (if bt298.2 = 0 then (if (bt298.1.length : Int) = 3 then (if 2 < (bt298.1.length : Int) then (some ((rd bt298.1 2) == 7)) else (none)) else (some false)) else (some false)) else (some false)) else (some false)))) = some r := by first | (rw [hy293]; with_reducible exact H) | (have H2_ := (Option.bind_some _ _).symm.trans H; rw [hy293]; with_reducible exact H2_) | (have H2_ := (Option.bind_some _ _).symm.trans H; with_reducible exact H2_) | with_reducible exact H | (rw [hy293]; exact H) | exact H
 have Ny293 := Aside0.mk hy293
 clear hy293
 replace H := Option.bind_eq_some_iff.mp H
 obtain ⟨⟨t296, t297⟩, A10, H⟩ := H
 replace H : ((ints_Read.f k (⟨#[2, 3, 3, 14]⟩ : ByteArray)).bind fun bt298 => (if t297 = 0 then (if t296.toList = ([2, 3, 3, 14] : List UInt8) then (if bt298.2 = 0 then (if (bt298.1.length : Int) = 3 then (if 2 < (bt298.1.length : Int) then (some ((rd bt298.1 2) == 7)) else (none)) else (some false)) else (some false)) else (some false)) else (some false))) = some r := H
 have A1 := Aside0.mk A10
 clear A10
 replace H := Option.bind_eq_some_iff.mp H
 obtain ⟨⟨t298, t299⟩, A20, H⟩ := H
 replace H : (if t297 = 0 then (if t296.toList = ([2, 3, 3, 14] : List UInt8) then (if t299 = 0 then (if (t298.length : Int) = 3 then (if 2 < (t298.length : Int) then (some ((rd t298 2) == 7)) else (none)) else (some false)) else (some false)) else (some false)) else (some false)) = some r := H
 have A2 := Aside0.mk A20
 clear A20
 by_cases c3 : t297 = 0
 ·rw [if_pos c3] at H
  have c3b0 : (t297 == 0) = true := beq_iff_eq.mpr c3
  have c3b1 : (t297 != 0) = false := bne_eq_false_iff_eq.mpr c3
  clear c3
  by_cases c4 : t296.toList = ([2, 3, 3, 14] : List UInt8)
  ·rw [if_pos c4] at H
   have c4b0 : (t296.toList == ([2, 3, 3, 14] : List UInt8)) = true := beq_iff_eq.mpr c4
   have c4b1 : (t296.toList != ([2, 3, 3, 14] : List UInt8)) = false := bne_eq_false_iff_eq.mpr c4
   clear c4
   by_cases c5 : t299 = 0
   ·rw [if_pos c5] at H
    have c5b0 : (t299 == 0) = true := beq_iff_eq.mpr c5
    have c5b1 : (t299 != 0) = false := bne_eq_false_iff_eq.mpr c5
    clear c5
    by_cases c6 : (t298.length : Int) = 3
    ·rw [if_pos c6] at H
     have c6b0 : ((t298.length : Int) == 3) = true := beq_iff_eq.mpr c6
     have c6b1 : ((t298.length : Int) != 3) = false := bne_eq_false_iff_eq.mpr c6
     clear c6
     by_cases c7 : 2 < (t298.length : Int)
     ·rw [if_pos c7] at H
      have c7b0 : decide (2 < (t298.length : Int)) = true := decide_eq_true c7
      have c7b1 : decide (2 < t298.length) = true := decide_eq_true (by omega)
      clear c7
      obtain rfl := Option.some.inj H
      go_enter Try.func9, Try.ntmps9
      go_wp2_with (first | ((with_reducible refine gate_dst (N := 6) rfl ?_); (try (refine gate_guard (by rfl) ?_; dsimp only)); refine Kd.R_lit (Kd.int .i64) _ 2 ?hg (N := 6) ?hd (xs := ([7, 7, 7] : List Int)) (inner := [.int .i64 7, .int .i64 7, .int .i64 7]) (ok := fun _ => True) (okp := fun _ => True) ?hr ?hp (fun _ hk => hk) trivial (Below.refl _ _) (Nat.le_refl _) (by simp) ?_; (case hd => rfl); (case hg => rfl); (case hr => first | (go_simp; done) | (go_simp; rfl)); (case hp => exact (Reps.one (show Kd.M (Kd.int .i64) _ _ _ 7 [.int .i64 7] from rfl) (Reps.one (show Kd.M (Kd.int .i64) _ _ _ 7 [.int .i64 7] from rfl) (Reps.one (show Kd.M (Kd.int .i64) _ _ _ 7 [.int .i64 7] from rfl) (Reps.none _ _))))); intro v294 w8 ho9 hb hg_ hnew_; clear hg_ hnew_; (first | rw [← Ny293.out] at ho9 | (simp only [Int.reduceToNat] at ho9; rw [← Ny293.out] at ho9)); have n0_ := Aside0.mk (Kd.R_lower ho9 (below_size (by repeat (first | (with_reducible first | exact HB.out | apply below_alloc | apply pw_below_drewN | apply below_drew1) | exact HB.out)))); have n1_ := Aside0.mk (below_step (by repeat (first | (with_reducible first | exact HB.out | apply below_alloc | apply pw_below_drewN | apply below_drew1) | exact HB.out)) hb); clear HB; have HO295 := n0_; have HB := n1_; clear n0_ n1_; clear hb ho9; obtain ⟨Ao10, co10, eo10⟩ := Kd.R_slice HO295.out; subst eo10) | ((with_reducible refine gate_callee (f := 10) rfl ?_); refine goesL_ (some 7) rfl rfl Try.func10 (by kernel_rfl) rfl #[.slice Ao10 y293.length co10, .int .i64 2] rfl (by (try simp only [List.map_toArray, List.map_cons, List.map_nil]); first | done | rfl | (simp only [List.length_drop, List.length_take]; rfl) | (go_simp; simp [IntKind.wrap, IntKind.bits, IntKind.signed]; omega)) ?_; (with_reducible refine (ints_With.calls k _ _ y293 2 t296 t297 _ ?side1 ?side2 A1.out).mono ?_); (case side1 => repeat (first | exact (Kd.R_reads' HO295.out).2.2 | (with_reducible refine Kd.C_alloc ?_ _) | (with_reducible refine Kd.C_drewN ?_ _) | (with_reducible refine Kd.C_drew ?_))); (case side2 => exact (Kd.R_reads' HO295.out).2.1); rintro e w11 ⟨rfl, hb⟩; refine ⟨_, rfl, ?_⟩; have n0_ := Aside0.mk (Kd.R_below (by (with_reducible repeat (first | apply Kd.R_alloc | apply Kd.R_drewN | apply Kd.R_drew)); exact HO295.out) hb); have n1_ := Aside0.mk (below_step (by repeat (first | (with_reducible first | exact HB.out | apply below_alloc | apply pw_below_drewN | apply below_drew1) | exact HB.out)) hb); clear HO295; clear HB; have HO295 := n0_; have HB := n1_; clear n0_ n1_; (try clear hb); (try clear hb2); (try clear hk); (try clear hi)) | ((with_reducible refine gate_callee (f := 12) rfl ?_); refine goesL_ (some 11) rfl rfl Try.func12 (by kernel_rfl) rfl #[.string (⟨#[2, 3, 3, 14]⟩ : ByteArray)] rfl (by (try simp only [List.map_toArray, List.map_cons, List.map_nil]); first | done | rfl | (simp only [List.length_drop, List.length_take]; rfl) | (go_simp; simp [IntKind.wrap, IntKind.bits, IntKind.signed]; omega)) ?_; (with_reducible refine (ints_Read.calls k (⟨#[2, 3, 3, 14]⟩ : ByteArray) t298 t299 _ A2.out).mono ?_); rintro e w12 ⟨v300, rfl, ho0, hb⟩; refine ⟨_, rfl, ?_⟩; have n0_ := Aside0.mk (Kd.R_elder' (by (with_reducible repeat (first | apply Kd.R_alloc | apply Kd.R_drewN | apply Kd.R_drew)); exact HO295.out) (Kd.R_base ho0) hb); have n1_ := Aside0.mk (Kd.R_lower (Kd.R_new' ho0 (Kd.R_lt (by (with_reducible repeat (first | apply Kd.R_alloc | apply Kd.R_drewN | apply Kd.R_drew)); exact HO295.out))) (below_size (by repeat (first | (with_reducible first | exact HB.out | apply below_alloc | apply pw_below_drewN | apply below_drew1) | exact HB.out)))); have n2_ := Aside0.mk (below_step (by repeat (first | (with_reducible first | exact HB.out | apply below_alloc | apply pw_below_drewN | apply below_drew1) | exact HB.out)) hb); clear HO295; clear HB; have HO295 := n0_; have HO301 := n1_; have HB := n2_; clear n0_ n1_ n2_; (try clear hb); (try clear hb2); (try clear hk); (try clear hi); (try clear ho0); obtain ⟨Ao13, co13, eo13⟩ := Kd.R_slice HO301.out; subst eo13; have p302 : 0 ≤ (2 : Int) := (by omega); have q302 : 2 < (t298.length : Int) := of_decide_eq_true (by first | (with_reducible assumption) | assumption); obtain ⟨ad302, e302, hx302_0⟩ := Kd.at_int (Kd.R_reads' HO301.out).2.2 2 p302 q302; cases e302; (try simp only [show (2 : Int).toNat = 2 from rfl, Nat.reduceMul, Nat.reduceEqDiff, Go.Addr.add, ↓reduceIte] at hx302_0); have qi302 : (2 < t298.length) = True := eq_true (by omega); (try rw [show ((2 : Int)).toNat = 2 from rfl] at hx302_0); replace p302 := eq_true p302; replace q302 := eq_true q302))
      go_ret
      exact ⟨by first | rfl | (simp [errW_none, errW_some] <;> rfl) | (simp [*, errW_none, errW_some] <;> rfl), by repeat (first | (with_reducible first | exact HB.out | apply below_alloc | apply pw_below_drewN | apply below_drew1) | exact HB.out)⟩
     ·rw [if_neg c7] at H
      exact absurd H (by simp)
    ·rw [if_neg c6] at H
     have c6b0 : ((t298.length : Int) == 3) = false := beq_eq_false_iff_ne.mpr c6
     have c6b1 : ((t298.length : Int) != 3) = true := bne_iff_ne.mpr c6
     obtain rfl := Option.some.inj H
     go_enter Try.func9, Try.ntmps9
     go_wp2_with (first | ((with_reducible refine gate_dst (N := 6) rfl ?_); (try (refine gate_guard (by rfl) ?_; dsimp only)); refine Kd.R_lit (Kd.int .i64) _ 2 ?hg (N := 6) ?hd (xs := ([7, 7, 7] : List Int)) (inner := [.int .i64 7, .int .i64 7, .int .i64 7]) (ok := fun _ => True) (okp := fun _ => True) ?hr ?hp (fun _ hk => hk) trivial (Below.refl _ _) (Nat.le_refl _) (by simp) ?_; (case hd => rfl); (case hg => rfl); (case hr => first | (go_simp; done) | (go_simp; rfl)); (case hp => exact (Reps.one (show Kd.M (Kd.int .i64) _ _ _ 7 [.int .i64 7] from rfl) (Reps.one (show Kd.M (Kd.int .i64) _ _ _ 7 [.int .i64 7] from rfl) (Reps.one (show Kd.M (Kd.int .i64) _ _ _ 7 [.int .i64 7] from rfl) (Reps.none _ _))))); intro v294 w14 ho15 hb hg_ hnew_; clear hg_ hnew_; (first | rw [← Ny293.out] at ho15 | (simp only [Int.reduceToNat] at ho15; rw [← Ny293.out] at ho15)); have n0_ := Aside0.mk (Kd.R_lower ho15 (below_size (by repeat (first | (with_reducible first | exact HB.out | apply below_alloc | apply pw_below_drewN | apply below_drew1) | exact HB.out)))); have n1_ := Aside0.mk (below_step (by repeat (first | (with_reducible first | exact HB.out | apply below_alloc | apply pw_below_drewN | apply below_drew1) | exact HB.out)) hb); clear HB; have HO295 := n0_; have HB := n1_; clear n0_ n1_; clear hb ho15; obtain ⟨Ao16, co16, eo16⟩ := Kd.R_slice HO295.out; subst eo16) | ((with_reducible refine gate_callee (f := 10) rfl ?_); refine goesL_ (some 7) rfl rfl Try.func10 (by kernel_rfl) rfl #[.slice Ao16 y293.length co16, .int .i64 2] rfl (by (try simp only [List.map_toArray, List.map_cons, List.map_nil]); first | done | rfl | (simp only [List.length_drop, List.length_take]; rfl) | (go_simp; simp [IntKind.wrap, IntKind.bits, IntKind.signed]; omega)) ?_; (with_reducible refine (ints_With.calls k _ _ y293 2 t296 t297 _ ?side1 ?side2 A1.out).mono ?_); (case side1 => repeat (first | exact (Kd.R_reads' HO295.out).2.2 | (with_reducible refine Kd.C_alloc ?_ _) | (with_reducible refine Kd.C_drewN ?_ _) | (with_reducible refine Kd.C_drew ?_))); (case side2 => exact (Kd.R_reads' HO295.out).2.1); rintro e w17 ⟨rfl, hb⟩; refine ⟨_, rfl, ?_⟩; have n0_ := Aside0.mk (Kd.R_below (by (with_reducible repeat (first | apply Kd.R_alloc | apply Kd.R_drewN | apply Kd.R_drew)); exact HO295.out) hb); have n1_ := Aside0.mk (below_step (by repeat (first | (with_reducible first | exact HB.out | apply below_alloc | apply pw_below_drewN | apply below_drew1) | exact HB.out)) hb); clear HO295; clear HB; have HO295 := n0_; have HB := n1_; clear n0_ n1_; (try clear hb); (try clear hb2); (try clear hk); (try clear hi)) | ((with_reducible refine gate_callee (f := 12) rfl ?_); refine goesL_ (some 11) rfl rfl Try.func12 (by kernel_rfl) rfl #[.string (⟨#[2, 3, 3, 14]⟩ : ByteArray)] rfl (by (try simp only [List.map_toArray, List.map_cons, List.map_nil]); first | done | rfl | (simp only [List.length_drop, List.length_take]; rfl) | (go_simp; simp [IntKind.wrap, IntKind.bits, IntKind.signed]; omega)) ?_; (with_reducible refine (ints_Read.calls k (⟨#[2, 3, 3, 14]⟩ : ByteArray) t298 t299 _ A2.out).mono ?_); rintro e w18 ⟨v300, rfl, ho0, hb⟩; refine ⟨_, rfl, ?_⟩; have n0_ := Aside0.mk (Kd.R_elder' (by (with_reducible repeat (first | apply Kd.R_alloc | apply Kd.R_drewN | apply Kd.R_drew)); exact HO295.out) (Kd.R_base ho0) hb); have n1_ := Aside0.mk (Kd.R_lower (Kd.R_new' ho0 (Kd.R_lt (by (with_reducible repeat (first | apply Kd.R_alloc | apply Kd.R_drewN | apply Kd.R_drew)); exact HO295.out))) (below_size (by repeat (first | (with_reducible first | exact HB.out | apply below_alloc | apply pw_below_drewN | apply below_drew1) | exact HB.out)))); have n2_ := Aside0.mk (below_step (by repeat (first | (with_reducible first | exact HB.out | apply below_alloc | apply pw_below_drewN | apply below_drew1) | exact HB.out)) hb); clear HO295; clear HB; have HO295 := n0_; have HO301 := n1_; have HB := n2_; clear n0_ n1_ n2_; (try clear hb); (try clear hb2); (try clear hk); (try clear hi); (try clear ho0); obtain ⟨Ao19, co19, eo19⟩ := Kd.R_slice HO301.out; subst eo19))
     go_ret
     exact ⟨by first | rfl | (simp [errW_none, errW_some] <;> rfl) | (simp [*, errW_none, errW_some] <;> rfl), by repeat (first | (with_reducible first | exact HB.out | apply below_alloc | apply pw_below_drewN | apply below_drew1) | exact HB.out)⟩
   ·rw [if_neg c5] at H
    have c5b0 : (t299 == 0) = false := beq_eq_false_iff_ne.mpr c5
    have c5b1 : (t299 != 0) = true := bne_iff_ne.mpr c5
    obtain rfl := Option.some.inj H
    go_enter Try.func9, Try.ntmps9
    go_wp2_with (first | ((with_reducible refine gate_dst (N := 6) rfl ?_); (try (refine gate_guard (by rfl) ?_; dsimp only)); refine Kd.R_lit (Kd.int .i64) _ 2 ?hg (N := 6) ?hd (xs := ([7, 7, 7] : List Int)) (inner := [.int .i64 7, .int .i64 7, .int .i64 7]) (ok := fun _ => True) (okp := fun _ => True) ?hr ?hp (fun _ hk => hk) trivial (Below.refl _ _) (Nat.le_refl _) (by simp) ?_; (case hd => rfl); (case hg => rfl); (case hr => first | (go_simp; done) | (go_simp; rfl)); (case hp => exact (Reps.one (show Kd.M (Kd.int .i64) _ _ _ 7 [.int .i64 7] from rfl) (Reps.one (show Kd.M (Kd.int .i64) _ _ _ 7 [.int .i64 7] from rfl) (Reps.one (show Kd.M (Kd.int .i64) _ _ _ 7 [.int .i64 7] from rfl) (Reps.none _ _))))); intro v294 w20 ho21 hb hg_ hnew_; clear hg_ hnew_; (first | rw [← Ny293.out] at ho21 | (simp only [Int.reduceToNat] at ho21; rw [← Ny293.out] at ho21)); have n0_ := Aside0.mk (Kd.R_lower ho21 (below_size (by repeat (first | (with_reducible first | exact HB.out | apply below_alloc | apply pw_below_drewN | apply below_drew1) | exact HB.out)))); have n1_ := Aside0.mk (below_step (by repeat (first | (with_reducible first | exact HB.out | apply below_alloc | apply pw_below_drewN | apply below_drew1) | exact HB.out)) hb); clear HB; have HO295 := n0_; have HB := n1_; clear n0_ n1_; clear hb ho21; obtain ⟨Ao22, co22, eo22⟩ := Kd.R_slice HO295.out; subst eo22) | ((with_reducible refine gate_callee (f := 10) rfl ?_); refine goesL_ (some 7) rfl rfl Try.func10 (by kernel_rfl) rfl #[.slice Ao22 y293.length co22, .int .i64 2] rfl (by (try simp only [List.map_toArray, List.map_cons, List.map_nil]); first | done | rfl | (simp only [List.length_drop, List.length_take]; rfl) | (go_simp; simp [IntKind.wrap, IntKind.bits, IntKind.signed]; omega)) ?_; (with_reducible refine (ints_With.calls k _ _ y293 2 t296 t297 _ ?side1 ?side2 A1.out).mono ?_); (case side1 => repeat (first | exact (Kd.R_reads' HO295.out).2.2 | (with_reducible refine Kd.C_alloc ?_ _) | (with_reducible refine Kd.C_drewN ?_ _) | (with_reducible refine Kd.C_drew ?_))); (case side2 => exact (Kd.R_reads' HO295.out).2.1); rintro e w23 ⟨rfl, hb⟩; refine ⟨_, rfl, ?_⟩; have n0_ := Aside0.mk (Kd.R_below (by (with_reducible repeat (first | apply Kd.R_alloc | apply Kd.R_drewN | apply Kd.R_drew)); exact HO295.out) hb); have n1_ := Aside0.mk (below_step (by repeat (first | (with_reducible first | exact HB.out | apply below_alloc | apply pw_below_drewN | apply below_drew1) | exact HB.out)) hb); clear HO295; clear HB; have HO295 := n0_; have HB := n1_; clear n0_ n1_; (try clear hb); (try clear hb2); (try clear hk); (try clear hi)) | ((with_reducible refine gate_callee (f := 12) rfl ?_); refine goesL_ (some 11) rfl rfl Try.func12 (by kernel_rfl) rfl #[.string (⟨#[2, 3, 3, 14]⟩ : ByteArray)] rfl (by (try simp only [List.map_toArray, List.map_cons, List.map_nil]); first | done | rfl | (simp only [List.length_drop, List.length_take]; rfl) | (go_simp; simp [IntKind.wrap, IntKind.bits, IntKind.signed]; omega)) ?_; (with_reducible refine (ints_Read.calls k (⟨#[2, 3, 3, 14]⟩ : ByteArray) t298 t299 _ A2.out).mono ?_); rintro e w24 ⟨v300, rfl, ho0, hb⟩; refine ⟨_, rfl, ?_⟩; have n0_ := Aside0.mk (Kd.R_elder' (by (with_reducible repeat (first | apply Kd.R_alloc | apply Kd.R_drewN | apply Kd.R_drew)); exact HO295.out) (Kd.R_base ho0) hb); have n1_ := Aside0.mk (Kd.R_lower (Kd.R_new' ho0 (Kd.R_lt (by (with_reducible repeat (first | apply Kd.R_alloc | apply Kd.R_drewN | apply Kd.R_drew)); exact HO295.out))) (below_size (by repeat (first | (with_reducible first | exact HB.out | apply below_alloc | apply pw_below_drewN | apply below_drew1) | exact HB.out)))); have n2_ := Aside0.mk (below_step (by repeat (first | (with_reducible first | exact HB.out | apply below_alloc | apply pw_below_drewN | apply below_drew1) | exact HB.out)) hb); clear HO295; clear HB; have HO295 := n0_; have HO301 := n1_; have HB := n2_; clear n0_ n1_ n2_; (try clear hb); (try clear hb2); (try clear hk); (try clear hi); (try clear ho0)))
    go_ret
    exact ⟨by first | rfl | (simp [errW_none, errW_some] <;> rfl) | (simp [*, errW_none, errW_some] <;> rfl), by repeat (first | (with_reducible first | exact HB.out | apply below_alloc | apply pw_below_drewN | apply below_drew1) | exact HB.out)⟩
  ·rw [if_neg c4] at H
   have c4b0 : (t296.toList == ([2, 3, 3, 14] : List UInt8)) = false := beq_eq_false_iff_ne.mpr c4
   have c4b1 : (t296.toList != ([2, 3, 3, 14] : List UInt8)) = true := bne_iff_ne.mpr c4
   obtain rfl := Option.some.inj H
   go_enter Try.func9, Try.ntmps9
   go_wp2_with (first | ((with_reducible refine gate_dst (N := 6) rfl ?_); (try (refine gate_guard (by rfl) ?_; dsimp only)); refine Kd.R_lit (Kd.int .i64) _ 2 ?hg (N := 6) ?hd (xs := ([7, 7, 7] : List Int)) (inner := [.int .i64 7, .int .i64 7, .int .i64 7]) (ok := fun _ => True) (okp := fun _ => True) ?hr ?hp (fun _ hk => hk) trivial (Below.refl _ _) (Nat.le_refl _) (by simp) ?_; (case hd => rfl); (case hg => rfl); (case hr => first | (go_simp; done) | (go_simp; rfl)); (case hp => exact (Reps.one (show Kd.M (Kd.int .i64) _ _ _ 7 [.int .i64 7] from rfl) (Reps.one (show Kd.M (Kd.int .i64) _ _ _ 7 [.int .i64 7] from rfl) (Reps.one (show Kd.M (Kd.int .i64) _ _ _ 7 [.int .i64 7] from rfl) (Reps.none _ _))))); intro v294 w25 ho26 hb hg_ hnew_; clear hg_ hnew_; (first | rw [← Ny293.out] at ho26 | (simp only [Int.reduceToNat] at ho26; rw [← Ny293.out] at ho26)); have n0_ := Aside0.mk (Kd.R_lower ho26 (below_size (by repeat (first | (with_reducible first | exact HB.out | apply below_alloc | apply pw_below_drewN | apply below_drew1) | exact HB.out)))); have n1_ := Aside0.mk (below_step (by repeat (first | (with_reducible first | exact HB.out | apply below_alloc | apply pw_below_drewN | apply below_drew1) | exact HB.out)) hb); clear HB; have HO295 := n0_; have HB := n1_; clear n0_ n1_; clear hb ho26; obtain ⟨Ao27, co27, eo27⟩ := Kd.R_slice HO295.out; subst eo27) | ((with_reducible refine gate_callee (f := 10) rfl ?_); refine goesL_ (some 7) rfl rfl Try.func10 (by kernel_rfl) rfl #[.slice Ao27 y293.length co27, .int .i64 2] rfl (by (try simp only [List.map_toArray, List.map_cons, List.map_nil]); first | done | rfl | (simp only [List.length_drop, List.length_take]; rfl) | (go_simp; simp [IntKind.wrap, IntKind.bits, IntKind.signed]; omega)) ?_; (with_reducible refine (ints_With.calls k _ _ y293 2 t296 t297 _ ?side1 ?side2 A1.out).mono ?_); (case side1 => repeat (first | exact (Kd.R_reads' HO295.out).2.2 | (with_reducible refine Kd.C_alloc ?_ _) | (with_reducible refine Kd.C_drewN ?_ _) | (with_reducible refine Kd.C_drew ?_))); (case side2 => exact (Kd.R_reads' HO295.out).2.1); rintro e w28 ⟨rfl, hb⟩; refine ⟨_, rfl, ?_⟩; have n0_ := Aside0.mk (Kd.R_below (by (with_reducible repeat (first | apply Kd.R_alloc | apply Kd.R_drewN | apply Kd.R_drew)); exact HO295.out) hb); have n1_ := Aside0.mk (below_step (by repeat (first | (with_reducible first | exact HB.out | apply below_alloc | apply pw_below_drewN | apply below_drew1) | exact HB.out)) hb); clear HO295; clear HB; have HO295 := n0_; have HB := n1_; clear n0_ n1_; (try clear hb); (try clear hb2); (try clear hk); (try clear hi)) | ((with_reducible refine gate_callee (f := 12) rfl ?_); refine goesL_ (some 11) rfl rfl Try.func12 (by kernel_rfl) rfl #[.string (⟨#[2, 3, 3, 14]⟩ : ByteArray)] rfl (by (try simp only [List.map_toArray, List.map_cons, List.map_nil]); first | done | rfl | (simp only [List.length_drop, List.length_take]; rfl) | (go_simp; simp [IntKind.wrap, IntKind.bits, IntKind.signed]; omega)) ?_; (with_reducible refine (ints_Read.calls k (⟨#[2, 3, 3, 14]⟩ : ByteArray) t298 t299 _ A2.out).mono ?_); rintro e w29 ⟨v300, rfl, ho0, hb⟩; refine ⟨_, rfl, ?_⟩; have n0_ := Aside0.mk (Kd.R_elder' (by (with_reducible repeat (first | apply Kd.R_alloc | apply Kd.R_drewN | apply Kd.R_drew)); exact HO295.out) (Kd.R_base ho0) hb); have n1_ := Aside0.mk (Kd.R_lower (Kd.R_new' ho0 (Kd.R_lt (by (with_reducible repeat (first | apply Kd.R_alloc | apply Kd.R_drewN | apply Kd.R_drew)); exact HO295.out))) (below_size (by repeat (first | (with_reducible first | exact HB.out | apply below_alloc | apply pw_below_drewN | apply below_drew1) | exact HB.out)))); have n2_ := Aside0.mk (below_step (by repeat (first | (with_reducible first | exact HB.out | apply below_alloc | apply pw_below_drewN | apply below_drew1) | exact HB.out)) hb); clear HO295; clear HB; have HO295 := n0_; have HO301 := n1_; have HB := n2_; clear n0_ n1_ n2_; (try clear hb); (try clear hb2); (try clear hk); (try clear hi); (try clear ho0)))
   go_ret
   exact ⟨by first | rfl | (simp [errW_none, errW_some] <;> rfl) | (simp [*, errW_none, errW_some] <;> rfl), by repeat (first | (with_reducible first | exact HB.out | apply below_alloc | apply pw_below_drewN | apply below_drew1) | exact HB.out)⟩
 ·rw [if_neg c3] at H
  have c3b0 : (t297 == 0) = false := beq_eq_false_iff_ne.mpr c3
  have c3b1 : (t297 != 0) = true := bne_iff_ne.mpr c3
  obtain rfl := Option.some.inj H
  go_enter Try.func9, Try.ntmps9
  go_wp2_with (first | ((with_reducible refine gate_dst (N := 6) rfl ?_); (try (refine gate_guard (by rfl) ?_; dsimp only)); refine Kd.R_lit (Kd.int .i64) _ 2 ?hg (N := 6) ?hd (xs := ([7, 7, 7] : List Int)) (inner := [.int .i64 7, .int .i64 7, .int .i64 7]) (ok := fun _ => True) (okp := fun _ => True) ?hr ?hp (fun _ hk => hk) trivial (Below.refl _ _) (Nat.le_refl _) (by simp) ?_; (case hd => rfl); (case hg => rfl); (case hr => first | (go_simp; done) | (go_simp; rfl)); (case hp => exact (Reps.one (show Kd.M (Kd.int .i64) _ _ _ 7 [.int .i64 7] from rfl) (Reps.one (show Kd.M (Kd.int .i64) _ _ _ 7 [.int .i64 7] from rfl) (Reps.one (show Kd.M (Kd.int .i64) _ _ _ 7 [.int .i64 7] from rfl) (Reps.none _ _))))); intro v294 w30 ho31 hb hg_ hnew_; clear hg_ hnew_; (first | rw [← Ny293.out] at ho31 | (simp only [Int.reduceToNat] at ho31; rw [← Ny293.out] at ho31)); have n0_ := Aside0.mk (Kd.R_lower ho31 (below_size (by repeat (first | (with_reducible first | exact HB.out | apply below_alloc | apply pw_below_drewN | apply below_drew1) | exact HB.out)))); have n1_ := Aside0.mk (below_step (by repeat (first | (with_reducible first | exact HB.out | apply below_alloc | apply pw_below_drewN | apply below_drew1) | exact HB.out)) hb); clear HB; have HO295 := n0_; have HB := n1_; clear n0_ n1_; clear hb ho31; obtain ⟨Ao32, co32, eo32⟩ := Kd.R_slice HO295.out; subst eo32) | ((with_reducible refine gate_callee (f := 10) rfl ?_); refine goesL_ (some 7) rfl rfl Try.func10 (by kernel_rfl) rfl #[.slice Ao32 y293.length co32, .int .i64 2] rfl (by (try simp only [List.map_toArray, List.map_cons, List.map_nil]); first | done | rfl | (simp only [List.length_drop, List.length_take]; rfl) | (go_simp; simp [IntKind.wrap, IntKind.bits, IntKind.signed]; omega)) ?_; (with_reducible refine (ints_With.calls k _ _ y293 2 t296 t297 _ ?side1 ?side2 A1.out).mono ?_); (case side1 => repeat (first | exact (Kd.R_reads' HO295.out).2.2 | (with_reducible refine Kd.C_alloc ?_ _) | (with_reducible refine Kd.C_drewN ?_ _) | (with_reducible refine Kd.C_drew ?_))); (case side2 => exact (Kd.R_reads' HO295.out).2.1); rintro e w33 ⟨rfl, hb⟩; refine ⟨_, rfl, ?_⟩; have n0_ := Aside0.mk (Kd.R_below (by (with_reducible repeat (first | apply Kd.R_alloc | apply Kd.R_drewN | apply Kd.R_drew)); exact HO295.out) hb); have n1_ := Aside0.mk (below_step (by repeat (first | (with_reducible first | exact HB.out | apply below_alloc | apply pw_below_drewN | apply below_drew1) | exact HB.out)) hb); clear HO295; clear HB; have HO295 := n0_; have HB := n1_; clear n0_ n1_; (try clear hb); (try clear hb2); (try clear hk); (try clear hi)) | ((with_reducible refine gate_callee (f := 12) rfl ?_); refine goesL_ (some 11) rfl rfl Try.func12 (by kernel_rfl) rfl #[.string (⟨#[2, 3, 3, 14]⟩ : ByteArray)] rfl (by (try simp only [List.map_toArray, List.map_cons, List.map_nil]); first | done | rfl | (simp only [List.length_drop, List.length_take]; rfl) | (go_simp; simp [IntKind.wrap, IntKind.bits, IntKind.signed]; omega)) ?_; (with_reducible refine (ints_Read.calls k (⟨#[2, 3, 3, 14]⟩ : ByteArray) t298 t299 _ A2.out).mono ?_); rintro e w34 ⟨v300, rfl, ho0, hb⟩; refine ⟨_, rfl, ?_⟩; have n0_ := Aside0.mk (Kd.R_elder' (by (with_reducible repeat (first | apply Kd.R_alloc | apply Kd.R_drewN | apply Kd.R_drew)); exact HO295.out) (Kd.R_base ho0) hb); have n1_ := Aside0.mk (Kd.R_lower (Kd.R_new' ho0 (Kd.R_lt (by (with_reducible repeat (first | apply Kd.R_alloc | apply Kd.R_drewN | apply Kd.R_drew)); exact HO295.out))) (below_size (by repeat (first | (with_reducible first | exact HB.out | apply below_alloc | apply pw_below_drewN | apply below_drew1) | exact HB.out)))); have n2_ := Aside0.mk (below_step (by repeat (first | (with_reducible first | exact HB.out | apply below_alloc | apply pw_below_drewN | apply below_drew1) | exact HB.out)) hb); clear HO295; clear HB; have HO295 := n0_; have HO301 := n1_; have HB := n2_; clear n0_ n1_ n2_; (try clear hb); (try clear hb2); (try clear hk); (try clear hi); (try clear ho0)))
  go_ret
  exact ⟨by first | rfl | (simp [errW_none, errW_some] <;> rfl) | (simp [*, errW_none, errW_some] <;> rfl), by repeat (first | (with_reducible first | exact HB.out | apply below_alloc | apply pw_below_drewN | apply below_drew1) | exact HB.out)⟩
end Go.Proofs.Ytgeddoklmcjdcaa.G
namespace Go.Proofs.Ytgeddoklmcjdcaa.G
open Go.RowKit Go.Proofs.YtgeddoklmcjdcaaQ Go.Proofs.YtgeddoklmcjdcaaW.PrintWords Go.Proofs.YtgeddoklmcjdcaaW.PrintLast Go.Proofs.YtgeddoklmcjdcaaW.PrintMore
attribute [local go_sem] max2_int min2_int max_two min_two max_three min_three max_four min_four   -- for this text's walks alone
set_option linter.unusedVariables false
set_option linter.unusedSimpArgs false
def tithebarnref04_Same.l0 : Nat → List Int → List Int → Int → Option (Bool)
 | 0, _, _, _ => none
 | k + 1, x0, x1, x5 => if x5 < (x0.length : Int) then (if 0 ≤ x5 then (if x5 < (x1.length : Int) then (if (rd x0 x5) = (rd x1 x5) then (tithebarnref04_Same.l0 k x0 x1 (wrap64 (x5 + 1))) else (some false)) else (none)) else (none)) else (some true)
def tithebarnref04_Same.f (k : Nat) (l0 : List Int) (l1 : List Int) : Option (Bool) := if (l0.length : Int) = (l1.length : Int) then (tithebarnref04_Same.l0 k l0 l1 0) else (some false)
theorem tithebarnref04_Same.mono_l : ∀ k, (∀ y0 y1 y2, LeO (tithebarnref04_Same.l0 k y0 y1 y2) (tithebarnref04_Same.l0 (k + 1) y0 y1 y2))
 | 0 => fun _ _ _ r h => by simp [tithebarnref04_Same.l0] at h
 | k + 1 => by
  have ih0 := tithebarnref04_Same.mono_l k
  ·intro y0 y1 y2
   unfold tithebarnref04_Same.l0
   repeat' first
   | (with_reducible exact ih0 _ _ _)
   | (with_reducible exact LeO.refl _)
   | (with_reducible exact LeO.none _)
   | (with_reducible refine LeO.ite ?_ ?_)
   | (with_reducible refine LeO.bind ?_ (fun _ => ?_))
   | exact ih0 _ _ _
   | exact LeO.none _
   | refine LeO.ite ?_ ?_
   | refine LeO.bind ?_ (fun _ => ?_)
theorem tithebarnref04_Same.mono : ∀ a0 a1 k, LeO (tithebarnref04_Same.f k a0 a1) (tithebarnref04_Same.f (k + 1) a0 a1) := by
 intro a0 a1 k
 have ih0 := tithebarnref04_Same.mono_l k
 unfold tithebarnref04_Same.f
 repeat' first
   | (with_reducible exact ih0 _ _ _)
   | (with_reducible exact LeO.refl _)
   | (with_reducible exact LeO.none _)
   | (with_reducible refine LeO.ite ?_ ?_)
   | (with_reducible refine LeO.bind ?_ (fun _ => ?_))
   | exact ih0 _ _ _
   | exact LeO.none _
   | refine LeO.ite ?_ ?_
   | refine LeO.bind ?_ (fun _ => ?_)
set_option maxHeartbeats 8000000 in
set_option maxRecDepth 100000 in
theorem tithebarnref04_Same.calls (k : Nat) (A0 : Option Addr) (c0 : Nat) (l0 : List Int) (A1 : Option Addr) (c1 : Nat) (l1 : List Int) (r : Bool) (w : World) (hr0 : Kd.C (Kd.int .i64) w A0 l0.length l0) (hc0 : l0.length ≤ c0) (hr1 : Kd.C (Kd.int .i64) w A1 l1.length l1) (hc1 : l1.length ≤ c1) (h : tithebarnref04_Same.f k l0 l1 = some r) :
  Calls Try.prog 14 #[.slice A0 l0.length c0, .slice A1 l1.length c1] w fun e w' => e = .returned (.bool r) ∧ Drawn0 w w' := by
 have HR0 := Aside0.mk hr0
 have HC0 := Aside0.mk hc0
 clear hr0 hc0
 have HR1 := Aside0.mk hr1
 have HC1 := Aside0.mk hc1
 clear hr1 hc1
 have H : (if (l0.length : Int) = (l1.length : Int) then (tithebarnref04_Same.l0 k l0 l1 0) else (some false)) = some r := h
 clear h
 by_cases c3 : (l0.length : Int) = (l1.length : Int)
 ·rw [if_pos c3] at H
  have c3b0 : ((l0.length : Int) == (l1.length : Int)) = true := beq_iff_eq.mpr c3
  have c3b1 : ((l0.length : Int) != (l1.length : Int)) = false := bne_eq_false_iff_eq.mpr c3
  have c3b2 : (l0.length == l1.length) = true := by first | simpa using c3 | (simp at c3 ⊢; omega)
  clear c3
  have H' := Aside0.mk H
  clear H
  go_enter Try.func14, Try.ntmps14
  go_wp2
  repeat (go_quiet (fail); try go_wp2)
  go_loopg [5] k (fun kq v5 w' => ∃ (x5_1 : Int), v5 = .int .i64 x5_1 ∧ Aside0 (tithebarnref04_Same.l0 kq l0 l1 x5_1 = some r) ∧ Aside0 (kq ≤ k) ∧ Drawn0 w w')
  case atStart => exact ⟨(0), (by first | rfl | (simp; done) | (simp [*]; done)), H', ⟨Nat.le_refl _⟩, by repeat (first | exact Drawn0.refl _ | apply Drawn0.step)⟩
  case round =>
   clear H'
   try clear c1
   try clear p2
   try clear c3
   try clear c3b0
   try clear c3b1
   try clear c3b2
   obtain ⟨x5_1, rfl, HA, HK1, ⟨m1, rfl⟩⟩ := hrel
   cases gk with
   | zero => exact absurd HA.out (by simp [tithebarnref04_Same.l0])
   | succ k1 =>
    have H := HA.out
    clear HA
    simp only [tithebarnref04_Same.l0] at H
    by_cases c4 : x5_1 < (l0.length : Int)
    ·rw [if_pos c4] at H
     have c4b0 : decide (x5_1 < (l0.length : Int)) = true := decide_eq_true c4
     clear c4
     by_cases c5 : 0 ≤ x5_1
     ·rw [if_pos c5] at H
      have c5b0 : decide (0 ≤ x5_1) = true := decide_eq_true c5
      clear c5
      by_cases c6 : x5_1 < (l1.length : Int)
      ·rw [if_pos c6] at H
       have c6b0 : decide (x5_1 < (l1.length : Int)) = true := decide_eq_true c6
       clear c6
       by_cases c7 : (rd l0 x5_1) = (rd l1 x5_1)
       ·rw [if_pos c7] at H
        have c7b0 : ((rd l0 x5_1) == (rd l1 x5_1)) = true := beq_iff_eq.mpr c7
        have c7b1 : ((rd l0 x5_1) != (rd l1 x5_1)) = false := bne_eq_false_iff_eq.mpr c7
        clear c7
        have H' := Aside0.mk H
        clear H
        have p511 : 0 ≤ (x5_1 : Int) := of_decide_eq_true (by first | (with_reducible assumption) | assumption)
        have q511 : x5_1 < (l0.length : Int) := of_decide_eq_true (by first | (with_reducible assumption) | assumption)
        obtain ⟨ad511, e511, hx511_0⟩ := Kd.at_int HR0.out x5_1 p511 q511
        cases e511
        replace p511 := eq_true p511
        replace q511 := eq_true q511
        have p512 : 0 ≤ (x5_1 : Int) := of_decide_eq_true (by first | (with_reducible assumption) | assumption)
        have q512 : x5_1 < (l1.length : Int) := of_decide_eq_true (by first | (with_reducible assumption) | assumption)
        obtain ⟨ad512, e512, hx512_0⟩ := Kd.at_int HR1.out x5_1 p512 q512
        cases e512
        replace p512 := eq_true p512
        replace q512 := eq_true q512
        go_wp2
        repeat (go_quiet (fail); try go_wp2)
        go_roundg k1
        case measure => have := HK1.out; omega
        case rel => exact ⟨(wrap64 (x5_1 + 1)), (by first | rfl | (simp; done) | (simp [*]; done)), H', ⟨by have := HK1.out; omega⟩, by repeat (first | exact Drawn0.refl _ | apply Drawn0.step)⟩
       ·rw [if_neg c7] at H
        have c7b0 : ((rd l0 x5_1) == (rd l1 x5_1)) = false := beq_eq_false_iff_ne.mpr c7
        have c7b1 : ((rd l0 x5_1) != (rd l1 x5_1)) = true := bne_iff_ne.mpr c7
        obtain rfl := Option.some.inj H
        have p511 : 0 ≤ (x5_1 : Int) := of_decide_eq_true (by first | (with_reducible assumption) | assumption)
        have q511 : x5_1 < (l0.length : Int) := of_decide_eq_true (by first | (with_reducible assumption) | assumption)
        obtain ⟨ad511, e511, hx511_0⟩ := Kd.at_int HR0.out x5_1 p511 q511
        cases e511
        replace p511 := eq_true p511
        replace q511 := eq_true q511
        have p512 : 0 ≤ (x5_1 : Int) := of_decide_eq_true (by first | (with_reducible assumption) | assumption)
        have q512 : x5_1 < (l1.length : Int) := of_decide_eq_true (by first | (with_reducible assumption) | assumption)
        obtain ⟨ad512, e512, hx512_0⟩ := Kd.at_int HR1.out x5_1 p512 q512
        cases e512
        replace p512 := eq_true p512
        replace q512 := eq_true q512
        go_wp2
        repeat (go_quiet (fail); try go_wp2)
        go_ret
        exact ⟨by first | rfl | (simp; done) | (simp [*]; done), by repeat (first | exact Drawn0.refl _ | apply Drawn0.step)⟩
      ·rw [if_neg c6] at H
       exact absurd H (by simp)
     ·rw [if_neg c5] at H
      exact absurd H (by simp)
    ·rw [if_neg c4] at H
     have c4b0 : decide (x5_1 < (l0.length : Int)) = false := decide_eq_false c4
     clear c4
     obtain rfl := Option.some.inj H
     go_wp2
     repeat (go_quiet (fail); try go_wp2)
     go_ret
     exact ⟨by first | rfl | (simp; done) | (simp [*]; done), by repeat (first | exact Drawn0.refl _ | apply Drawn0.step)⟩
 ·rw [if_neg c3] at H
  have c3b0 : ((l0.length : Int) == (l1.length : Int)) = false := beq_eq_false_iff_ne.mpr c3
  have c3b1 : ((l0.length : Int) != (l1.length : Int)) = true := bne_iff_ne.mpr c3
  have c3b2 : (l0.length == l1.length) = false := by first | simpa using c3 | (simp at c3 ⊢; omega)
  obtain rfl := Option.some.inj H
  go_enter Try.func14, Try.ntmps14
  go_wp2
  repeat (go_quiet (fail); try go_wp2)
  go_ret
  exact ⟨by first | rfl | (simp; done) | (simp [*]; done), by repeat (first | exact Drawn0.refl _ | apply Drawn0.step)⟩
end Go.Proofs.Ytgeddoklmcjdcaa.G
namespace Go.Proofs.Ytgeddoklmcjdcaa.G
open Go.RowKit Go.Proofs.YtgeddoklmcjdcaaQ Go.Proofs.YtgeddoklmcjdcaaW.PrintWords Go.Proofs.YtgeddoklmcjdcaaW.PrintLast Go.Proofs.YtgeddoklmcjdcaaW.PrintMore
attribute [local go_sem] max2_int min2_int max_two min_two max_three min_three max_four min_four   -- for this text's walks alone
set_option linter.unusedVariables false
set_option linter.unusedSimpArgs false
def ints_Best.rest (k : Nat) (l0 : List Int) : Nat → Nat → ByteArray → Option ByteArray
 | 0, _, b => some b
 | n + 1, i, b => (ints_With.f k l0 (i : Int)).bind fun t => ints_Best.rest k l0 n (i + 1) (if t.1.size < b.size then t.1 else b)
def ints_Best.f (k : Nat) (l0 : List Int) : Option (ByteArray × Int) := (ints_With.f k l0 0).bind fun t => if t.2 = 0 then (ints_Best.rest k l0 3 1 t.1).bind fun r => some (r, 0) else some (t.1, t.2)
theorem ints_Best.rest_mono (k : Nat) (l0 : List Int) : ∀ n i b, LeO (ints_Best.rest k l0 n i b) (ints_Best.rest (k + 1) l0 n i b) := by
 intro n
 induction n with
 | zero => intro i b; exact LeO.refl _
 | succ n ih => intro i b; exact LeO.bind (ints_With.mono _ _ k) (fun _ => ih _ _)
theorem ints_Best.mono : ∀ a0 k, LeO (ints_Best.f k a0) (ints_Best.f (k + 1) a0) := by
 intro a0 k
 unfold ints_Best.f
 exact LeO.bind (ints_With.mono _ _ k) (fun _ => LeO.ite (LeO.bind (ints_Best.rest_mono k _ _ _ _) (fun _ => LeO.refl _)) (LeO.refl _))
set_option maxHeartbeats 4000000 in
set_option maxRecDepth 100000 in
theorem ints_Best.no (k : Nat) (A0 : Option Addr) (c0 : Nat) (l0 : List Int) (s : ByteArray) (e0 : Int) (w : World) (hr0 : Kd.C (Kd.int .i64) w A0 l0.length l0) (hc0 : l0.length ≤ c0) (h0 : ints_With.f k l0 0 = some (s, e0)) (he : e0 ≠ 0) :
  Calls Try.prog 15 #[.slice A0 l0.length c0] w fun e w' => e = .returned (.tuple #[.string s, .int .i64 e0]) ∧ Below w.heap.size w w' := by
 have d1 : (e0 == 0) = false := beq_eq_false_iff_ne.mpr he
 have HR := Aside0.mk hr0; have HC := Aside0.mk hc0; have H0 := Aside0.mk h0; have HE := Aside0.mk he
 clear hr0 hc0 h0 he
 go_enter Try.func15, Try.ntmps15
 go_wp2_with fail
 refine (ints_With.calls k A0 c0 l0 0 s e0 _ HR.out HC.out H0.out).mono ?_; rintro e w1 ⟨rfl, hb⟩
 have HB := Aside0.mk hb; clear hb
 go_wp2
 go_loopg [4, 6] 0 (fun gq s4 s6 wx => s4 = .string s ∧ s6 = .int .i64 1 ∧ Aside0 (Below w.heap.size w wx))
 case atStart => exact ⟨rfl, rfl, HB⟩
 case round =>
  clear HB
  obtain ⟨rfl, rfl, HB⟩ := hrel
  go_wp2_with fail
  refine (ints_With.codecs _).mono ?_; rintro e w2 ⟨b, rfl, ht, hle, hb⟩
  have HB2 := Aside0.mk (below_then HB.out HB.out.size hb); clear hb hle ht HB
  go_wp2
  go_ret2
  exact ⟨rfl, HB2.out⟩
set_option maxHeartbeats 4000000 in
set_option maxRecDepth 100000 in
theorem ints_Best.yes (k : Nat) (A0 : Option Addr) (c0 : Nat) (l0 : List Int) (s r : ByteArray) (w : World) (hr0 : Kd.C (Kd.int .i64) w A0 l0.length l0) (hc0 : l0.length ≤ c0) (h0 : ints_With.f k l0 0 = some (s, 0)) (h1 : ints_Best.rest k l0 3 1 s = some r) :
  Calls Try.prog 15 #[.slice A0 l0.length c0] w fun e w' => e = .returned (.tuple #[.string r, .int .i64 0]) ∧ Below w.heap.size w w' := by
 have HR := Aside0.mk hr0; have HC := Aside0.mk hc0; have H0 := Aside0.mk h0; have H1 := Aside0.mk h1
 clear hr0 hc0 h0 h1
 go_enter Try.func15, Try.ntmps15
 go_wp2_with fail
 refine (ints_With.calls k A0 c0 l0 0 s 0 _ HR.out HC.out H0.out).mono ?_; rintro e w1 ⟨rfl, hb⟩
 have HB := Aside0.mk hb; clear hb
 go_wp2
 go_loopg [4, 6] 3 (fun gq s4 s6 wx => ∃ (i : Nat) (b : ByteArray), 1 ≤ i ∧ i ≤ 4 ∧ gq = 4 - i ∧ s4 = .string b ∧ s6 = .int .i64 (i : Int) ∧ Aside0 (ints_Best.rest k l0 (4 - i) i b = some r) ∧ Aside0 (Below w.heap.size w wx))
 case atStart => exact ⟨1, s, by omega, by omega, rfl, rfl, rfl, H1, HB⟩
 case round =>
  clear HB H1 H0
  obtain ⟨i, b, hi1, hi4, rfl, rfl, rfl, H1, HB⟩ := hrel
  by_cases hlt : i < 4
  ·have k1 : decide ((i : Int) < 4) = true := decide_eq_true (by omega)
   have k2 : decide (i < 4) = true := decide_eq_true hlt
   have b1 : (1 : Int) ≤ (i : Int) := by omega
   have b2 : (i : Int) < 4 := by omega
   have h1 := H1.out
   rw [show 4 - i = (4 - (i + 1)) + 1 by omega, ints_Best.rest] at h1
   obtain ⟨⟨t, et⟩, hw, h1⟩ := Option.bind_eq_some_iff.mp h1
   have HW := Aside0.mk hw; have HI := Aside0.mk hlt; have HI1 := Aside0.mk hi1
   clear hw H1 hlt hi4 hi1
   go_wp2_with fail
   refine (ints_With.codecs _).mono ?_; rintro e w2 ⟨bb, rfl, ht, hle, hb⟩
   have HB2 := Aside0.mk (below_then HB.out HB.out.size hb); clear hb hle ht HB
   go_wp2_with fail
   refine (ints_With.calls k A0 c0 l0 (i : Int) t et _ (Kd.C_below HR.out HB2.out) HC.out HW.out).mono ?_; rintro e w3 ⟨rfl, hb⟩
   have HB3 := Aside0.mk (below_then HB2.out HB2.out.size hb); clear hb HB2
   by_cases c : t.size < b.size
   ·have k3 : decide ((t.size : Int) < (b.size : Int)) = true := decide_eq_true (by omega)
    have k4 : decide (t.size < b.size) = true := decide_eq_true c
    have h2 : ints_Best.rest k l0 (4 - (i + 1)) (i + 1) t = some r := by simpa only [if_pos c] using h1
    have H2 := Aside0.mk h2; clear h1 h2 c
    go_wp2
    go_roundg (4 - (i + 1))
    case measure => have := HI.out; omega
    case rel => exact ⟨i + 1, t, by omega, by have := HI.out; omega, rfl, rfl, by go_num, H2, HB3⟩
   ·have k3 : decide ((t.size : Int) < (b.size : Int)) = false := decide_eq_false (by omega)
    have k4 : decide (t.size < b.size) = false := decide_eq_false c
    have h2 : ints_Best.rest k l0 (4 - (i + 1)) (i + 1) b = some r := by simpa only [if_neg c] using h1
    have H2 := Aside0.mk h2; clear h1 h2 c
    go_wp2
    go_roundg (4 - (i + 1))
    case measure => have := HI.out; omega
    case rel => exact ⟨i + 1, b, by omega, by have := HI.out; omega, rfl, rfl, by go_num, H2, HB3⟩
  ·obtain rfl : i = 4 := by omega
   obtain rfl : b = r := Option.some.inj H1.out
   have k1 : decide (((4 : Nat) : Int) < 4) = false := decide_eq_false (by omega)
   clear hlt hi1 hi4
   go_wp2_with fail
   refine (ints_With.codecs _).mono ?_; rintro e w2 ⟨bb, rfl, ht, hle, hb⟩
   have HB2 := Aside0.mk (below_then HB.out HB.out.size hb); clear hb hle ht HB
   go_wp2
   go_ret2
   exact ⟨rfl, HB2.out⟩
theorem ints_Best.calls (k : Nat) (A0 : Option Addr) (c0 : Nat) (l0 : List Int) (r1 : ByteArray) (r2 : Int) (w : World) (hr0 : Kd.C (Kd.int .i64) w A0 l0.length l0) (hc0 : l0.length ≤ c0) (h : ints_Best.f k l0 = some (r1, r2)) :
  Calls Try.prog 15 #[.slice A0 l0.length c0] w fun e w' => e = .returned (.tuple #[.string r1, .int .i64 r2]) ∧ Below w.heap.size w w' := by
 unfold ints_Best.f at h
 obtain ⟨⟨s, e0⟩, h0, h⟩ := Option.bind_eq_some_iff.mp h
 by_cases c : e0 = 0
 ·subst c
  rw [if_pos rfl] at h
  obtain ⟨r, h1, h⟩ := Option.bind_eq_some_iff.mp h
  injection h with h; injection h with h2 h3; subst h2 h3
  exact ints_Best.yes k A0 c0 l0 s r w hr0 hc0 h0 h1
 ·rw [if_neg c] at h
  injection h with h; injection h with h2 h3; subst h2 h3
  exact ints_Best.no k A0 c0 l0 s e0 w hr0 hc0 h0 c
end Go.Proofs.Ytgeddoklmcjdcaa.G
namespace Go.Proofs.Ytgeddoklmcjdcaa.G
open Go.RowKit Go.Proofs.YtgeddoklmcjdcaaQ Go.Proofs.YtgeddoklmcjdcaaW.PrintWords Go.Proofs.YtgeddoklmcjdcaaW.PrintLast Go.Proofs.YtgeddoklmcjdcaaW.PrintMore
attribute [local go_sem] max2_int min2_int max_two min_two max_three min_three max_four min_four   -- for this text's walks alone
set_option linter.unusedVariables false
set_option linter.unusedSimpArgs false
mutual
def tithebarnlaw04_IntsBack.l0 : Nat → List Int → Int → Option (Bool)
 | 0, _, _ => none
 | k + 1, x0, x5 => if x5 < 5 then ((ints_Best.f k x0).bind fun bt544 => (if x5 < 4 then ((ints_With.f k x0 x5).bind fun bt546 => (tithebarnlaw04_IntsBack.j1 k x0 x5 bt546.1 bt546.2)) else (tithebarnlaw04_IntsBack.j1 k x0 x5 bt544.1 bt544.2))) else (some true)
def tithebarnlaw04_IntsBack.j1 : Nat → List Int → Int → ByteArray → Int → Option (Bool)
 | 0, _, _, _, _ => none
 | k + 1, x0, x5, x6, x7 => (ints_Read.f k x6).bind fun bt548 => (if x7 = 0 then (if bt548.2 = 0 then ((tithebarnref04_Same.f k bt548.1 x0).bind fun t552 => (if t552 = true then (tithebarnlaw04_IntsBack.l0 k x0 (wrap64 (x5 + 1))) else (some false))) else (some false)) else (some false))
end
def tithebarnlaw04_IntsBack.f (k : Nat) (l0 : List Int) : Option (Bool) := (tithebarnlaw04_lives.f k).bind fun t541 => (if t541 = true then (if (l0.length : Int) > 65536 then ((ints_Best.f k l0).bind fun bt542 => (some (bt542.2 == 3))) else (tithebarnlaw04_IntsBack.l0 k l0 0)) else (some false))
theorem tithebarnlaw04_IntsBack.mono_l : ∀ k, (∀ y0 y1, LeO (tithebarnlaw04_IntsBack.l0 k y0 y1) (tithebarnlaw04_IntsBack.l0 (k + 1) y0 y1)) ∧ (∀ y0 y1 y2 y3, LeO (tithebarnlaw04_IntsBack.j1 k y0 y1 y2 y3) (tithebarnlaw04_IntsBack.j1 (k + 1) y0 y1 y2 y3))
 | 0 => ⟨fun _ _ r h => by simp [tithebarnlaw04_IntsBack.l0] at h, fun _ _ _ _ r h => by simp [tithebarnlaw04_IntsBack.j1] at h⟩
 | k + 1 => by
  obtain ⟨ih0, ih1⟩ := tithebarnlaw04_IntsBack.mono_l k
  refine ⟨?_, ?_⟩
  ·intro y0 y1
   unfold tithebarnlaw04_IntsBack.l0
   repeat' first
   | (with_reducible exact ih0 _ _)
   | (with_reducible exact ih1 _ _ _ _)
   | (with_reducible exact ints_Best.mono _ _)
   | (with_reducible exact ints_Read.mono _ _)
   | (with_reducible exact ints_With.mono _ _ _)
   | (with_reducible exact tithebarnlaw04_lives.mono _)
   | (with_reducible exact tithebarnref04_Same.mono _ _ _)
   | (with_reducible exact LeO.refl _)
   | (with_reducible exact LeO.none _)
   | (with_reducible refine LeO.ite ?_ ?_)
   | (with_reducible refine LeO.bind ?_ (fun _ => ?_))
   | exact ih0 _ _
   | exact ih1 _ _ _ _
   | exact ints_Best.mono _ _
   | exact ints_Read.mono _ _
   | exact ints_With.mono _ _ _
   | exact tithebarnlaw04_lives.mono _
   | exact tithebarnref04_Same.mono _ _ _
   | exact LeO.none _
   | refine LeO.ite ?_ ?_
   | refine LeO.bind ?_ (fun _ => ?_)
  ·intro y0 y1 y2 y3
   unfold tithebarnlaw04_IntsBack.j1
   repeat' first
   | (with_reducible exact ih0 _ _)
   | (with_reducible exact ih1 _ _ _ _)
   | (with_reducible exact ints_Best.mono _ _)
   | (with_reducible exact ints_Read.mono _ _)
   | (with_reducible exact ints_With.mono _ _ _)
   | (with_reducible exact tithebarnlaw04_lives.mono _)
   | (with_reducible exact tithebarnref04_Same.mono _ _ _)
   | (with_reducible exact LeO.refl _)
   | (with_reducible exact LeO.none _)
   | (with_reducible refine LeO.ite ?_ ?_)
   | (with_reducible refine LeO.bind ?_ (fun _ => ?_))
   | exact ih0 _ _
   | exact ih1 _ _ _ _
   | exact ints_Best.mono _ _
   | exact ints_Read.mono _ _
   | exact ints_With.mono _ _ _
   | exact tithebarnlaw04_lives.mono _
   | exact tithebarnref04_Same.mono _ _ _
   | exact LeO.none _
   | refine LeO.ite ?_ ?_
   | refine LeO.bind ?_ (fun _ => ?_)
theorem tithebarnlaw04_IntsBack.mono : ∀ a0 k, LeO (tithebarnlaw04_IntsBack.f k a0) (tithebarnlaw04_IntsBack.f (k + 1) a0) := by
 intro a0 k
 obtain ⟨ih0, ih1⟩ := tithebarnlaw04_IntsBack.mono_l k
 unfold tithebarnlaw04_IntsBack.f
 repeat' first
   | (with_reducible exact ih0 _ _)
   | (with_reducible exact ih1 _ _ _ _)
   | (with_reducible exact ints_Best.mono _ _)
   | (with_reducible exact ints_Read.mono _ _)
   | (with_reducible exact ints_With.mono _ _ _)
   | (with_reducible exact tithebarnlaw04_lives.mono _)
   | (with_reducible exact tithebarnref04_Same.mono _ _ _)
   | (with_reducible exact LeO.refl _)
   | (with_reducible exact LeO.none _)
   | (with_reducible refine LeO.ite ?_ ?_)
   | (with_reducible refine LeO.bind ?_ (fun _ => ?_))
   | exact ih0 _ _
   | exact ih1 _ _ _ _
   | exact ints_Best.mono _ _
   | exact ints_Read.mono _ _
   | exact ints_With.mono _ _ _
   | exact tithebarnlaw04_lives.mono _
   | exact tithebarnref04_Same.mono _ _ _
   | exact LeO.none _
   | refine LeO.ite ?_ ?_
   | refine LeO.bind ?_ (fun _ => ?_)
set_option maxHeartbeats 8000000 in
set_option maxRecDepth 100000 in
theorem tithebarnlaw04_IntsBack.calls (k : Nat) (A0 : Option Addr) (c0 : Nat) (l0 : List Int) (r : Bool) (w : World) (hr0 : Kd.C (Kd.int .i64) w A0 l0.length l0) (hc0 : l0.length ≤ c0) (h : tithebarnlaw04_IntsBack.f k l0 = some r) :
  Calls Try.prog 7 #[.slice A0 l0.length c0] w fun e w' => e = .returned (.bool r) ∧ Below w.heap.size w w' := by
 have HR0 := Aside0.mk hr0
 have HC0 := Aside0.mk hc0
 clear hr0 hc0
 have HB := Aside0.mk (Below.refl w.heap.size w)
 have H : ((tithebarnlaw04_lives.f k).bind fun t541 => (if t541 = true then (if (l0.length : Int) > 65536 then ((ints_Best.f k l0).bind fun bt542 => (some (bt542.2 == 3))) else (tithebarnlaw04_IntsBack.l0 k l0 0)) else (some false))) = some r := h
 clear h
 replace H := Option.bind_eq_some_iff.mp H
 obtain ⟨t541, A20, H⟩ := H
 replace H : (if t541 = true then (if (l0.length : Int) > 65536 then ((ints_Best.f k l0).bind fun bt542 => (some (bt542.2 == 3))) else (tithebarnlaw04_IntsBack.l0 k l0 0)) else (some false)) = some r := H
 have A2 := Aside0.mk A20
 clear A20
 by_cases c3 : t541 = true
 ·subst c3
  have H1 : (if (l0.length : Int) > 65536 then ((ints_Best.f k l0).bind fun bt542 => (some (bt542.2 == 3))) else (tithebarnlaw04_IntsBack.l0 k l0 0)) = some r := by rw [if_pos rfl] at H; exact H
  clear H
  have H := H1
  clear H1
  by_cases c4 : (l0.length : Int) > 65536
  ·rw [if_pos c4] at H
   have c4b0 : decide (65536 < (l0.length : Int)) = true := decide_eq_true c4
   have c4b1 : decide (65536 < l0.length) = true := decide_eq_true (by omega)
   clear c4
   replace H := Option.bind_eq_some_iff.mp H
   obtain ⟨⟨t542, t543⟩, A50, H⟩ := H
   replace H : (some (t543 == 3)) = some r := H
   have A5 := Aside0.mk A50
   clear A50
   obtain rfl := Option.some.inj H
   go_enter Try.func7, Try.ntmps7
   go_wp2_with (first | ((with_reducible refine gate_callee (f := 9) rfl ?_); refine goesL_ (some 10) rfl rfl Try.func9 (by kernel_rfl) rfl #[] rfl (by (try simp only [List.map_toArray, List.map_cons, List.map_nil]); first | done | rfl | (simp only [List.length_drop, List.length_take]; rfl) | (go_simp; simp [IntKind.wrap, IntKind.bits, IntKind.signed]; omega)) ?_; (with_reducible refine (tithebarnlaw04_lives.calls k  true _ A2.out).mono ?_); rintro e w6 ⟨rfl, hb⟩; refine ⟨_, rfl, ?_⟩; have n0_ := Aside0.mk (below_step (by repeat (first | (with_reducible first | exact HB.out | apply below_alloc | apply pw_below_drewN | apply below_drew1) | exact HB.out)) hb); clear HB; have HB := n0_; clear n0_; (try clear hb); (try clear hb2); (try clear hk); (try clear hi)) | ((with_reducible refine gate_callee (f := 15) rfl ?_); refine goesL_ (some 17) rfl rfl Try.func15 (by kernel_rfl) rfl #[.slice A0 l0.length c0] rfl (by (try simp only [List.map_toArray, List.map_cons, List.map_nil]); first | done | rfl | (simp only [List.length_drop, List.length_take]; rfl) | (go_simp; simp [IntKind.wrap, IntKind.bits, IntKind.signed]; omega)) ?_; (with_reducible refine (ints_Best.calls k _ _ l0 t542 t543 _ ?side1 ?side2 A5.out).mono ?_); (case side1 => repeat (first | exact (Kd.C_below HR0.out HB.out) | (with_reducible refine Kd.C_alloc ?_ _) | (with_reducible refine Kd.C_drewN ?_ _) | (with_reducible refine Kd.C_drew ?_))); (case side2 => exact HC0.out); rintro e w7 ⟨rfl, hb⟩; refine ⟨_, rfl, ?_⟩; have n0_ := Aside0.mk (below_step (by repeat (first | (with_reducible first | exact HB.out | apply below_alloc | apply pw_below_drewN | apply below_drew1) | exact HB.out)) hb); clear HB; have HB := n0_; clear n0_; (try clear hb); (try clear hb2); (try clear hk); (try clear hi)))
   go_ret
   exact ⟨by first | rfl | (simp [errW_none, errW_some] <;> rfl) | (simp [*, errW_none, errW_some] <;> rfl), by repeat (first | (with_reducible first | exact HB.out | apply below_alloc | apply pw_below_drewN | apply below_drew1) | exact HB.out)⟩
  ·rw [if_neg c4] at H
   have c4b0 : decide (65536 < (l0.length : Int)) = false := decide_eq_false c4
   have c4b1 : decide (65536 < l0.length) = false := decide_eq_false (by omega)
   clear c4
   have H' := Aside0.mk H
   clear H
   go_enter Try.func7, Try.ntmps7
   go_wp2_with (first | ((with_reducible refine gate_callee (f := 9) rfl ?_); refine goesL_ (some 10) rfl rfl Try.func9 (by kernel_rfl) rfl #[] rfl (by (try simp only [List.map_toArray, List.map_cons, List.map_nil]); first | done | rfl | (simp only [List.length_drop, List.length_take]; rfl) | (go_simp; simp [IntKind.wrap, IntKind.bits, IntKind.signed]; omega)) ?_; (with_reducible refine (tithebarnlaw04_lives.calls k  true _ A2.out).mono ?_); rintro e w8 ⟨rfl, hb⟩; refine ⟨_, rfl, ?_⟩; have n0_ := Aside0.mk (below_step (by repeat (first | (with_reducible first | exact HB.out | apply below_alloc | apply pw_below_drewN | apply below_drew1) | exact HB.out)) hb); clear HB; have HB := n0_; clear n0_; (try clear hb); (try clear hb2); (try clear hk); (try clear hi)))
   go_loopg [5] k (fun kq v5 w' => ∃ (x5_1 : Int), v5 = .int .i64 x5_1 ∧ Aside0 (tithebarnlaw04_IntsBack.l0 kq l0 x5_1 = some r) ∧ Aside0 (kq ≤ k) ∧ Aside0 (Below w.heap.size w w'))
   case atStart => exact ⟨(0), (by first | rfl | (simp; done) | (simp [*]; done)), H', ⟨Nat.le_refl _⟩, ⟨by repeat (first | (with_reducible first | exact HB.out | apply below_alloc | apply pw_below_drewN | apply below_drew1) | exact HB.out)⟩⟩
   case round =>
    clear H'
    try clear c1
    try clear p2
    try clear c3
    try clear c4
    try clear c4b0
    try clear c4b1
    try clear c7
    obtain ⟨x5_1, rfl, HA, HK1, HB⟩ := hrel
    cases gk with
    | zero => exact absurd HA.out (by simp [tithebarnlaw04_IntsBack.l0])
    | succ k1 =>
     have H := HA.out
     clear HA
     simp only [tithebarnlaw04_IntsBack.l0] at H
     by_cases c9 : x5_1 < 5
     ·rw [if_pos c9] at H
      have c9b0 : decide (x5_1 < 5) = true := decide_eq_true c9
      clear c9
      replace H := Option.bind_eq_some_iff.mp H
      obtain ⟨⟨t544, t545⟩, A100, H⟩ := H
      replace H : (if x5_1 < 4 then ((ints_With.f k1 l0 x5_1).bind fun bt546 => (tithebarnlaw04_IntsBack.j1 k1 l0 x5_1 bt546.1 bt546.2)) else (tithebarnlaw04_IntsBack.j1 k1 l0 x5_1 t544 t545)) = some r := H
      have A10 := Aside0.mk A100
      clear A100
      have HC11 := Aside0.mk H
      clear H
      go_upto_if 32 with (first | ((with_reducible refine gate_callee (f := 15) rfl ?_); refine goesL_ (some 28) rfl rfl Try.func15 (by kernel_rfl) rfl #[.slice A0 l0.length c0] rfl (by (try simp only [List.map_toArray, List.map_cons, List.map_nil]); first | done | rfl | (simp only [List.length_drop, List.length_take]; rfl) | (go_simp; simp [IntKind.wrap, IntKind.bits, IntKind.signed]; omega)) ?_; (with_reducible refine (ints_Best.calls k1 _ _ l0 t544 t545 _ ?side1 ?side2 A10.out).mono ?_); (case side1 => repeat (first | exact (Kd.C_below HR0.out HB.out) | (with_reducible refine Kd.C_alloc ?_ _) | (with_reducible refine Kd.C_drewN ?_ _) | (with_reducible refine Kd.C_drew ?_))); (case side2 => exact HC0.out); rintro e w12 ⟨rfl, hb⟩; refine ⟨_, rfl, ?_⟩; have n0_ := Aside0.mk (below_step (by repeat (first | (with_reducible first | exact HB.out | apply below_alloc | apply pw_below_drewN | apply below_drew1) | exact HB.out)) hb); clear HB; have HB := n0_; clear n0_; (try clear hb); (try clear hb2); (try clear hk); (try clear hi)))
      (try simp only [Act.put, List.setIfInBounds_toArray, List.set_cons_zero, List.set_cons_succ])
      go_cut [6, 7] (fun v6 v7 wc => ∃ (kq : Nat) (x6_10 : ByteArray) (x7_10 : Int), v6 = .string x6_10 ∧ v7 = .int .i64 x7_10 ∧ Aside0 (tithebarnlaw04_IntsBack.j1 kq l0 x5_1 x6_10 x7_10 = some r) ∧ Aside0 (kq ≤ k1) ∧ Aside0 (Below w.heap.size w wc))
      case first =>
       have H := HC11.out
       clear HC11
       by_cases c13 : x5_1 < 4
       ·rw [if_pos c13] at H
        have c13b0 : decide (x5_1 < 4) = true := decide_eq_true c13
        clear c13
        (first | rw [c13b0] | (simp only [i64_w, i32_w]; rw [c13b0]) | skip)
        replace H := Option.bind_eq_some_iff.mp H
        obtain ⟨⟨t546, t547⟩, A140, H⟩ := H
        replace H : (tithebarnlaw04_IntsBack.j1 k1 l0 x5_1 t546 t547) = some r := H
        have A14 := Aside0.mk A140
        clear A140
        have H' := Aside0.mk H
        clear H
        go_wp2_with (first | ((with_reducible refine gate_callee (f := 10) rfl ?_); refine goesL_ (some 36) rfl rfl Try.func10 (by kernel_rfl) rfl #[.slice A0 l0.length c0, .int .i64 x5_1] rfl (by (try simp only [List.map_toArray, List.map_cons, List.map_nil]); first | done | rfl | (simp only [List.length_drop, List.length_take]; rfl) | (go_simp; simp [IntKind.wrap, IntKind.bits, IntKind.signed]; omega)) ?_; (with_reducible refine (ints_With.calls k1 _ _ l0 x5_1 t546 t547 _ ?side1 ?side2 A14.out).mono ?_); (case side1 => repeat (first | exact (Kd.C_below HR0.out HB.out) | (with_reducible refine Kd.C_alloc ?_ _) | (with_reducible refine Kd.C_drewN ?_ _) | (with_reducible refine Kd.C_drew ?_))); (case side2 => exact HC0.out); rintro e w15 ⟨rfl, hb⟩; refine ⟨_, rfl, ?_⟩; have n0_ := Aside0.mk (below_step (by repeat (first | (with_reducible first | exact HB.out | apply below_alloc | apply pw_below_drewN | apply below_drew1) | exact HB.out)) hb); clear HB; have HB := n0_; clear n0_; (try clear hb); (try clear hb2); (try clear hk); (try clear hi)))
        go_meet
        case rel => exact ⟨_, (t546), (t547), (by first | rfl | (simp; done) | (simp [*]; done)), (by first | rfl | (simp; done) | (simp [*]; done)), H', ⟨by have := HK1.out; first | omega | exact Nat.le_refl _⟩, ⟨by repeat (first | (with_reducible first | exact HB.out | apply below_alloc | apply pw_below_drewN | apply below_drew1) | exact HB.out)⟩⟩
       ·rw [if_neg c13] at H
        have c13b0 : decide (x5_1 < 4) = false := decide_eq_false c13
        clear c13
        (first | rw [c13b0] | (simp only [i64_w, i32_w]; rw [c13b0]) | skip)
        have H' := Aside0.mk H
        clear H
        go_wp2
        go_meet
        case rel => exact ⟨_, (t544), (t545), (by first | rfl | (simp; done) | (simp [*]; done)), (by first | rfl | (simp; done) | (simp [*]; done)), H', ⟨by have := HK1.out; first | omega | exact Nat.le_refl _⟩, ⟨by repeat (first | (with_reducible first | exact HB.out | apply below_alloc | apply pw_below_drewN | apply below_drew1) | exact HB.out)⟩⟩
      case rest =>
       clear HC11
       try clear c1
       try clear p2
       try clear c3
       try clear c4
       try clear c4b0
       try clear c4b1
       try clear c7
       try clear c9
       try clear c9b0
       try clear c10
       try clear c13
       try clear c13b0
       try clear c15
       try clear p2
       obtain ⟨kq, x6_10, x7_10, rfl, rfl, HA, HJ10, HB⟩ := hcut
       cases kq with
       | zero => exact absurd HA.out (by simp [tithebarnlaw04_IntsBack.j1])
       | succ kj10 =>
        have H := HA.out
        clear HA
        simp only [tithebarnlaw04_IntsBack.j1] at H
        replace H := Option.bind_eq_some_iff.mp H
        obtain ⟨⟨t548, t549⟩, A160, H⟩ := H
        replace H : (if x7_10 = 0 then (if t549 = 0 then ((tithebarnref04_Same.f kj10 t548 l0).bind fun t552 => (if t552 = true then (tithebarnlaw04_IntsBack.l0 kj10 l0 (wrap64 (x5_1 + 1))) else (some false))) else (some false)) else (some false)) = some r := H
        have A16 := Aside0.mk A160
        clear A160
        by_cases c17 : x7_10 = 0
        ·rw [if_pos c17] at H
         have c17b0 : (x7_10 == 0) = true := beq_iff_eq.mpr c17
         have c17b1 : (x7_10 != 0) = false := bne_eq_false_iff_eq.mpr c17
         clear c17
         by_cases c18 : t549 = 0
         ·rw [if_pos c18] at H
          have c18b0 : (t549 == 0) = true := beq_iff_eq.mpr c18
          have c18b1 : (t549 != 0) = false := bne_eq_false_iff_eq.mpr c18
          clear c18
          replace H := Option.bind_eq_some_iff.mp H
          obtain ⟨t552, A190, H⟩ := H
          replace H : (if t552 = true then (tithebarnlaw04_IntsBack.l0 kj10 l0 (wrap64 (x5_1 + 1))) else (some false)) = some r := H
          have A19 := Aside0.mk A190
          clear A190
          by_cases c20 : t552 = true
          ·subst c20
           have H1 : (tithebarnlaw04_IntsBack.l0 kj10 l0 (wrap64 (x5_1 + 1))) = some r := by rw [if_pos rfl] at H; exact H
           clear H
           have H := H1
           clear H1
           have H' := Aside0.mk H
           clear H
           go_wp2_with (first | ((with_reducible refine gate_callee (f := 12) rfl ?_); refine goesL_ (some 41) rfl rfl Try.func12 (by kernel_rfl) rfl #[.string x6_10] rfl (by (try simp only [List.map_toArray, List.map_cons, List.map_nil]); first | done | rfl | (simp only [List.length_drop, List.length_take]; rfl) | (go_simp; simp [IntKind.wrap, IntKind.bits, IntKind.signed]; omega)) ?_; (with_reducible refine (ints_Read.calls kj10 x6_10 t548 t549 _ A16.out).mono ?_); rintro e w21 ⟨v550, rfl, ho0, hb⟩; refine ⟨_, rfl, ?_⟩; have n0_ := Aside0.mk (Kd.R_lower ho0 (below_size (by repeat (first | (with_reducible first | exact HB.out | apply below_alloc | apply pw_below_drewN | apply below_drew1) | exact HB.out)))); have n1_ := Aside0.mk (below_step (by repeat (first | (with_reducible first | exact HB.out | apply below_alloc | apply pw_below_drewN | apply below_drew1) | exact HB.out)) hb); clear HB; have HO551 := n0_; have HB := n1_; clear n0_ n1_; (try clear hb); (try clear hb2); (try clear hk); (try clear hi); (try clear ho0); obtain ⟨Ao22, co22, eo22⟩ := Kd.R_slice HO551.out; subst eo22) | (go_at_call 14; (with_reducible refine (tithebarnref04_Same.calls kj10 _ _ t548 _ _ l0 true _ ?side1 ?side2 ?side3 ?side4 A19.out).mono ?_); (case side1 => repeat (first | exact (Kd.R_reads' HO551.out).2.2 | (with_reducible refine Kd.C_alloc ?_ _) | (with_reducible refine Kd.C_drewN ?_ _) | (with_reducible refine Kd.C_drew ?_))); (case side2 => exact (Kd.R_reads' HO551.out).2.1); (case side3 => repeat (first | exact (Kd.C_below HR0.out HB.out) | (with_reducible refine Kd.C_alloc ?_ _) | (with_reducible refine Kd.C_drewN ?_ _) | (with_reducible refine Kd.C_drew ?_))); (case side4 => exact HC0.out); rintro e w' ⟨rfl, ⟨nd, rfl⟩⟩))
           go_roundg kj10
           case measure => have := HK1.out; have := HJ10.out; omega
           case rel => exact ⟨(wrap64 (x5_1 + 1)), (by first | rfl | (simp; done) | (simp [*]; done)), H', ⟨by have := HK1.out; have := HJ10.out; omega⟩, ⟨by repeat (first | (with_reducible first | exact HB.out | apply below_alloc | apply pw_below_drewN | apply below_drew1) | exact HB.out)⟩⟩
          ·replace c20 := Bool.eq_false_iff.mpr c20
           subst c20
           have H1 : (some false) = some r := by rw [if_neg (show ¬ (false = true) by decide)] at H; exact H
           clear H
           have H := H1
           clear H1
           obtain rfl := Option.some.inj H
           go_wp2_with (first | ((with_reducible refine gate_callee (f := 12) rfl ?_); refine goesL_ (some 41) rfl rfl Try.func12 (by kernel_rfl) rfl #[.string x6_10] rfl (by (try simp only [List.map_toArray, List.map_cons, List.map_nil]); first | done | rfl | (simp only [List.length_drop, List.length_take]; rfl) | (go_simp; simp [IntKind.wrap, IntKind.bits, IntKind.signed]; omega)) ?_; (with_reducible refine (ints_Read.calls kj10 x6_10 t548 t549 _ A16.out).mono ?_); rintro e w23 ⟨v550, rfl, ho0, hb⟩; refine ⟨_, rfl, ?_⟩; have n0_ := Aside0.mk (Kd.R_lower ho0 (below_size (by repeat (first | (with_reducible first | exact HB.out | apply below_alloc | apply pw_below_drewN | apply below_drew1) | exact HB.out)))); have n1_ := Aside0.mk (below_step (by repeat (first | (with_reducible first | exact HB.out | apply below_alloc | apply pw_below_drewN | apply below_drew1) | exact HB.out)) hb); clear HB; have HO551 := n0_; have HB := n1_; clear n0_ n1_; (try clear hb); (try clear hb2); (try clear hk); (try clear hi); (try clear ho0); obtain ⟨Ao24, co24, eo24⟩ := Kd.R_slice HO551.out; subst eo24) | (go_at_call 14; (with_reducible refine (tithebarnref04_Same.calls kj10 _ _ t548 _ _ l0 false _ ?side1 ?side2 ?side3 ?side4 A19.out).mono ?_); (case side1 => repeat (first | exact (Kd.R_reads' HO551.out).2.2 | (with_reducible refine Kd.C_alloc ?_ _) | (with_reducible refine Kd.C_drewN ?_ _) | (with_reducible refine Kd.C_drew ?_))); (case side2 => exact (Kd.R_reads' HO551.out).2.1); (case side3 => repeat (first | exact (Kd.C_below HR0.out HB.out) | (with_reducible refine Kd.C_alloc ?_ _) | (with_reducible refine Kd.C_drewN ?_ _) | (with_reducible refine Kd.C_drew ?_))); (case side4 => exact HC0.out); rintro e w' ⟨rfl, ⟨nd, rfl⟩⟩))
           go_ret
           exact ⟨by first | rfl | (simp [errW_none, errW_some] <;> rfl) | (simp [*, errW_none, errW_some] <;> rfl), by repeat (first | (with_reducible first | exact HB.out | apply below_alloc | apply pw_below_drewN | apply below_drew1) | exact HB.out)⟩
         ·rw [if_neg c18] at H
          have c18b0 : (t549 == 0) = false := beq_eq_false_iff_ne.mpr c18
          have c18b1 : (t549 != 0) = true := bne_iff_ne.mpr c18
          obtain rfl := Option.some.inj H
          go_wp2_with (first | ((with_reducible refine gate_callee (f := 12) rfl ?_); refine goesL_ (some 41) rfl rfl Try.func12 (by kernel_rfl) rfl #[.string x6_10] rfl (by (try simp only [List.map_toArray, List.map_cons, List.map_nil]); first | done | rfl | (simp only [List.length_drop, List.length_take]; rfl) | (go_simp; simp [IntKind.wrap, IntKind.bits, IntKind.signed]; omega)) ?_; (with_reducible refine (ints_Read.calls kj10 x6_10 t548 t549 _ A16.out).mono ?_); rintro e w25 ⟨v550, rfl, ho0, hb⟩; refine ⟨_, rfl, ?_⟩; have n0_ := Aside0.mk (Kd.R_lower ho0 (below_size (by repeat (first | (with_reducible first | exact HB.out | apply below_alloc | apply pw_below_drewN | apply below_drew1) | exact HB.out)))); have n1_ := Aside0.mk (below_step (by repeat (first | (with_reducible first | exact HB.out | apply below_alloc | apply pw_below_drewN | apply below_drew1) | exact HB.out)) hb); clear HB; have HO551 := n0_; have HB := n1_; clear n0_ n1_; (try clear hb); (try clear hb2); (try clear hk); (try clear hi); (try clear ho0)))
          go_ret
          exact ⟨by first | rfl | (simp [errW_none, errW_some] <;> rfl) | (simp [*, errW_none, errW_some] <;> rfl), by repeat (first | (with_reducible first | exact HB.out | apply below_alloc | apply pw_below_drewN | apply below_drew1) | exact HB.out)⟩
        ·rw [if_neg c17] at H
         have c17b0 : (x7_10 == 0) = false := beq_eq_false_iff_ne.mpr c17
         have c17b1 : (x7_10 != 0) = true := bne_iff_ne.mpr c17
         obtain rfl := Option.some.inj H
         go_wp2_with (first | ((with_reducible refine gate_callee (f := 12) rfl ?_); refine goesL_ (some 41) rfl rfl Try.func12 (by kernel_rfl) rfl #[.string x6_10] rfl (by (try simp only [List.map_toArray, List.map_cons, List.map_nil]); first | done | rfl | (simp only [List.length_drop, List.length_take]; rfl) | (go_simp; simp [IntKind.wrap, IntKind.bits, IntKind.signed]; omega)) ?_; (with_reducible refine (ints_Read.calls kj10 x6_10 t548 t549 _ A16.out).mono ?_); rintro e w26 ⟨v550, rfl, ho0, hb⟩; refine ⟨_, rfl, ?_⟩; have n0_ := Aside0.mk (Kd.R_lower ho0 (below_size (by repeat (first | (with_reducible first | exact HB.out | apply below_alloc | apply pw_below_drewN | apply below_drew1) | exact HB.out)))); have n1_ := Aside0.mk (below_step (by repeat (first | (with_reducible first | exact HB.out | apply below_alloc | apply pw_below_drewN | apply below_drew1) | exact HB.out)) hb); clear HB; have HO551 := n0_; have HB := n1_; clear n0_ n1_; (try clear hb); (try clear hb2); (try clear hk); (try clear hi); (try clear ho0)))
         go_ret
         exact ⟨by first | rfl | (simp [errW_none, errW_some] <;> rfl) | (simp [*, errW_none, errW_some] <;> rfl), by repeat (first | (with_reducible first | exact HB.out | apply below_alloc | apply pw_below_drewN | apply below_drew1) | exact HB.out)⟩
     ·rw [if_neg c9] at H
      have c9b0 : decide (x5_1 < 5) = false := decide_eq_false c9
      clear c9
      obtain rfl := Option.some.inj H
      go_wp2
      go_ret
      exact ⟨by first | rfl | (simp [errW_none, errW_some] <;> rfl) | (simp [*, errW_none, errW_some] <;> rfl), by repeat (first | (with_reducible first | exact HB.out | apply below_alloc | apply pw_below_drewN | apply below_drew1) | exact HB.out)⟩
 ·replace c3 := Bool.eq_false_iff.mpr c3
  subst c3
  have H1 : (some false) = some r := by rw [if_neg (show ¬ (false = true) by decide)] at H; exact H
  clear H
  have H := H1
  clear H1
  obtain rfl := Option.some.inj H
  go_enter Try.func7, Try.ntmps7
  go_wp2_with (first | ((with_reducible refine gate_callee (f := 9) rfl ?_); refine goesL_ (some 10) rfl rfl Try.func9 (by kernel_rfl) rfl #[] rfl (by (try simp only [List.map_toArray, List.map_cons, List.map_nil]); first | done | rfl | (simp only [List.length_drop, List.length_take]; rfl) | (go_simp; simp [IntKind.wrap, IntKind.bits, IntKind.signed]; omega)) ?_; (with_reducible refine (tithebarnlaw04_lives.calls k  false _ A2.out).mono ?_); rintro e w27 ⟨rfl, hb⟩; refine ⟨_, rfl, ?_⟩; have n0_ := Aside0.mk (below_step (by repeat (first | (with_reducible first | exact HB.out | apply below_alloc | apply pw_below_drewN | apply below_drew1) | exact HB.out)) hb); clear HB; have HB := n0_; clear n0_; (try clear hb); (try clear hb2); (try clear hk); (try clear hi)))
  go_ret
  exact ⟨by first | rfl | (simp [errW_none, errW_some] <;> rfl) | (simp [*, errW_none, errW_some] <;> rfl), by repeat (first | (with_reducible first | exact HB.out | apply below_alloc | apply pw_below_drewN | apply below_drew1) | exact HB.out)⟩
def tithebarnlaw04_IntsBack.Pure : Prop := ∀ (l0 : List Int), l0.length ≤ maxLen → l0.length * 8 ≤ 140737488351232 → (∀ x ∈ l0, (Lit.int .i64 x).wf = true) → ∃ k, tithebarnlaw04_IntsBack.f k l0 = some true
theorem tithebarnlaw04_IntsBack.walk (P : tithebarnlaw04_IntsBack.Pure) (a0 : Option Addr) (len0 cap0 : Nat) (z0 : List Int) (w : World) (w0 : (a0 = none ∧ len0 = 0 ∧ cap0 = 0 ∧ z0 = []) ∨ ∃ x, a0 = some x ∧ len0 ≤ cap0 ∧ cap0 ≤ maxLen ∧ z0.length = cap0 ∧ (∀ i, i < z0.length → w.cell? (x.add i) = some (.int .i64 (z0.getD i 0))) ∧ ∀ n ∈ z0, (Lit.int .i64 n).wf = true) (y0 : len0 * 8 ≤ 140737488351232) :
  Calls Try.prog 7 #[.slice a0 len0 cap0] w fun e w' => e = .returned (.bool true) ∧ Below w.heap.size w w' := by
 obtain ⟨l0, rfl, hr0, hm0, hw0, hc0⟩ := ReadsInt.ofRowC w0
 obtain ⟨k, h⟩ := P l0 hm0 y0 hw0
 refine (tithebarnlaw04_IntsBack.calls k _ _ l0 true w (Kd.C_of_reads (d := (0 : Int)) (h1 := fun _ => rfl) hr0) hc0 h).mono ?_
 rintro e w' ⟨rfl, hd⟩
 exact ⟨rfl, hd⟩
end Go.Proofs.Ytgeddoklmcjdcaa.G
namespace Go.Proofs.Ytgeddoklmcjdcaa.G
open Go.RowKit Go.Proofs.YtgeddoklmcjdcaaQ Go.Proofs.YtgeddoklmcjdcaaW.PrintWords Go.Proofs.YtgeddoklmcjdcaaW.PrintLast Go.Proofs.YtgeddoklmcjdcaaW.PrintMore
attribute [local go_sem] max2_int min2_int max_two min_two max_three min_three max_four min_four   -- for this text's walks alone
set_option linter.unusedVariables false
set_option linter.unusedSimpArgs false
mutual
def tithebarnref01_Uint.j0 : Nat → Int → Int → Int → Option (ByteArray)
 | 0, _, _, _ => none
 | k + 1, x0, x3, x4 => tithebarnref01_Uint.l0 k x0 x3 x4 ([] : List Int) (wrap64 (x3 - 1))
def tithebarnref01_Uint.l0 : Nat → Int → Int → Int → List Int → Int → Option (ByteArray)
 | 0, _, _, _, _, _ => none
 | k + 1, x0, x3, x4, x5, x6 => if x6 ≥ 0 then (if x6 < 8 then (if 0 ≤ (IntKind.u64.wrap (wrap64 (8 * x6))) then (if x6 = (wrap64 (x3 - 1)) then (if x5.length < 140737488355328 then (tithebarnref01_Uint.l0 k x0 x3 x4 (x5 ++ [((shr .u64 x0 (IntKind.u64.wrap (wrap64 (8 * x6)))) + x4) % 256]) (wrap64 (x6 - 1))) else (none)) else (if x5.length < 140737488355328 then (tithebarnref01_Uint.l0 k x0 x3 x4 (x5 ++ [(shr .u64 x0 (IntKind.u64.wrap (wrap64 (8 * x6)))) % 256]) (wrap64 (x6 - 1))) else (none))) else (none)) else (if x6 = (wrap64 (x3 - 1)) then (if x5.length < 140737488355328 then (tithebarnref01_Uint.l0 k x0 x3 x4 (x5 ++ [(x4) % 256]) (wrap64 (x6 - 1))) else (none)) else (if x5.length < 140737488355328 then (tithebarnref01_Uint.l0 k x0 x3 x4 (x5 ++ [0]) (wrap64 (x6 - 1))) else (none)))) else (some (strOfNums x5))
end
def tithebarnref01_Uint.f (k : Nat) (a0 : Int) : Option (ByteArray) := if a0 < 64 then (tithebarnref01_Uint.j0 k a0 1 0) else (if a0 < 16384 then (tithebarnref01_Uint.j0 k a0 2 64) else (if a0 < 1073741824 then (tithebarnref01_Uint.j0 k a0 4 128) else (tithebarnref01_Uint.j0 k a0 9 192)))
end Go.Proofs.Ytgeddoklmcjdcaa.G
namespace Go.Proofs.Ytgeddoklmcjdcaa.G
open Go.RowKit Go.Proofs.YtgeddoklmcjdcaaQ Go.Proofs.YtgeddoklmcjdcaaW.PrintWords Go.Proofs.YtgeddoklmcjdcaaW.PrintLast Go.Proofs.YtgeddoklmcjdcaaW.PrintMore
attribute [local go_sem] max2_int min2_int max_two min_two max_three min_three max_four min_four   -- for this text's walks alone
set_option linter.unusedVariables false
set_option linter.unusedSimpArgs false
def IsS55 (w0 W : World) (g : Nat) (f0 : ByteArray) (f1 : Int) (f2 : Int) : Prop := W.heap[g]? = some (.cells #[.string f0, .int .i64 f1, .int .i64 f2] 55 (0, 0)) ∧ w0.heap.size ≤ g
theorem IsS55.grown {w0 W : World} {g : Nat} {f0 : ByteArray} {f1 : Int} {f2 : Int} {W1 : World} {row : Option Nat} (h : IsS55 w0 W g f0 f1 f2) (hw : W.grownBy W1 row) (hne : some g ≠ row) : IsS55 w0 W1 g f0 f1 f2 := by
 obtain ⟨hb, hg⟩ := h
 exact ⟨blk_grown hb hw hne, hg⟩
theorem IsS55.fresh {w0 W : World} {g : Nat} {f0 : ByteArray} {f1 : Int} {f2 : Int} (h : IsS55 w0 W g f0 f1 f2) : ∀ k, W.heap.size ≤ k → k ≠ g := by
 obtain ⟨hb, hg⟩ := h
 exact Kd.freshB hb
theorem IsS55.kept {w0 W : World} {g : Nat} {f0 : ByteArray} {f1 : Int} {f2 : Int} {W1 : World} {S : Nat → Prop} (h : IsS55 w0 W g f0 f1 f2) (hk : Kept W W1 S) (hne : ¬ S g) : IsS55 w0 W1 g f0 f1 f2 := by
 obtain ⟨hb, hg⟩ := h
 exact ⟨blk_kept hb hk hne, hg⟩
theorem IsS55.below {w0 W : World} {g : Nat} {f0 : ByteArray} {f1 : Int} {f2 : Int} {W1 : World} (h : IsS55 w0 W g f0 f1 f2) (hw : Below W.heap.size W W1) : IsS55 w0 W1 g f0 f1 f2 := h.grown (grown_of_below hw none) (by simp)
theorem IsS55.alloc {w0 W : World} {g : Nat} {f0 : ByteArray} {f1 : Int} {f2 : Int} (h : IsS55 w0 W g f0 f1 f2) (o : Obj) : IsS55 w0 (W.alloc o) g f0 f1 f2 := h.below (below_alloc (Below.refl _ _) o)
theorem IsS55.drewN {w0 W : World} {g : Nat} {f0 : ByteArray} {f1 : Int} {f2 : Int} (h : IsS55 w0 W g f0 f1 f2) (m : Nat) : IsS55 w0 (W.drewN m) g f0 f1 f2 := h
theorem IsS55.drew {w0 W : World} {g : Nat} {f0 : ByteArray} {f1 : Int} {f2 : Int} (h : IsS55 w0 W g f0 f1 f2) : IsS55 w0 W.drew g f0 f1 f2 := h
theorem IsS55.at_ {w0 W : World} {g : Nat} {f0 : ByteArray} {f1 : Int} {f2 : Int} {w' : World} {m : Nat} (hq : W.drewN m = w') (h : IsS55 w0 W g f0 f1 f2) : IsS55 w0 w' g f0 f1 f2 := by subst hq; exact IsS55.drewN h m
theorem IsS55.apart {w0 W : World} {g : Nat} {f0 : ByteArray} {f1 : Int} {f2 : Int} {α : Type} {d : Kd α} {e : Nat} {base : Nat} {ok : Nat → Prop} {v : Value} {xs : List α} (h : IsS55 w0 W g f0 f1 f2) (ho : d.R e W base ok v xs) (ht : ∀ q, q ∈ e :: d.E → q ≠ 55) : d.R e W base (fun k => ok k ∧ k ≠ g) v xs := by
 obtain ⟨hb, hg⟩ := h
 exact Kd.R_types ho hb ht
theorem IsS55.own_ne {w0 W : World} {g : Nat} {f0 : ByteArray} {f1 : Int} {f2 : Int} {α : Type} {d : Kd α} {e : Nat} {base : Nat} {ok : Nat → Prop} {v : Value} {xs : List α} (h : IsS55 w0 W g f0 f1 f2) (ho : d.R e W base ok v xs) (ht : e ≠ 55) : some g ≠ v.ownBlock := by
 obtain ⟨hb, hg⟩ := h
 exact Kd.R_ne ho hb ht
theorem IsS55.ge {w0 W : World} {g : Nat} {f0 : ByteArray} {f1 : Int} {f2 : Int} (h : IsS55 w0 W g f0 f1 f2) : w0.heap.size ≤ g := by
 obtain ⟨hb, hg⟩ := h
 exact hg
theorem IsS55.far {w0 W : World} {g : Nat} {f0 : ByteArray} {f1 : Int} {f2 : Int} {p : Addr} (h : IsS55 w0 W g f0 f1 f2) (hne : g ≠ p.block) (u : Value) : IsS55 w0 (W.setCell p u) g f0 f1 f2 := by
 obtain ⟨hb, hg⟩ := h
 exact ⟨blk_far hb hne u, hg⟩
theorem IsS55.set_0 {w0 W : World} {g : Nat} {f0 : ByteArray} {f1 : Int} {f2 : Int} (h : IsS55 w0 W g f0 f1 f2) (x : ByteArray) : IsS55 w0 (W.setCell ⟨g, 0, none⟩ (.string x)) g x f1 f2 := by
 obtain ⟨hb, hg⟩ := h
 exact ⟨by simpa using blk_set hb 0 (.string x), hg⟩
theorem IsS55.set_1 {w0 W : World} {g : Nat} {f0 : ByteArray} {f1 : Int} {f2 : Int} (h : IsS55 w0 W g f0 f1 f2) (x : Int) : IsS55 w0 (W.setCell ⟨g, 1, none⟩ (.int .i64 x)) g f0 x f2 := by
 obtain ⟨hb, hg⟩ := h
 exact ⟨by simpa using blk_set hb 1 (.int .i64 x), hg⟩
def tithebarnref01_Cursor_Left.f (s0_0 : ByteArray) (s0_1 : Int) (s0_2 : Int) : Option (Int × ByteArray × Int × Int) := some (wrap64 ((s0_0.size : Int) - s0_1), s0_0, s0_1, s0_2)
def tithebarnref01_size.f (a0 : Int) : Option (Int) := if a0 < 64 then (some 1) else (if a0 < 128 then (some 2) else (if a0 < 192 then (some 4) else (some 9)))
mutual
def tithebarnref01_Cursor_peek.j0 : Nat → Int → Bool → ByteArray → Int → Int → Option (Int × Int × Int × ByteArray × Int × Int)
 | 0, _, _, _, _, _ => none
 | k + 1, x5, x34, x1000, x1001, x1002 => if x34 = true then (some (0, 0, 5, x1000, x1001, x1002)) else ((tithebarnref01_Cursor_Left.f x1000 x1001 x1002).bind fun bt386 => (if bt386.1 < x5 then (some (0, 0, 2, bt386.2.1, bt386.2.2.1, bt386.2.2.2)) else (if 0 ≤ bt386.2.2.1 then (if bt386.2.2.1 < (bt386.2.1.size : Int) then (tithebarnref01_Cursor_peek.l0 k x5 (IntKind.u64.wrap (Int.tmod (bt bt386.2.1 bt386.2.2.1) 64)) 1 bt386.2.1 bt386.2.2.1 bt386.2.2.2) else (none)) else (none))))
def tithebarnref01_Cursor_peek.l0 : Nat → Int → Int → Int → ByteArray → Int → Int → Option (Int × Int × Int × ByteArray × Int × Int)
 | 0, _, _, _, _, _, _ => none
 | k + 1, x5, x6, x7, x1000, x1001, x1002 => if x7 < x5 then (if 0 ≤ (wrap64 (x1001 + x7)) then (if (wrap64 (x1001 + x7)) < (x1000.size : Int) then (tithebarnref01_Cursor_peek.l0 k x5 (IntKind.u64.wrap ((IntKind.u64.wrap (256 * x6)) + (IntKind.u64.wrap (bt x1000 (wrap64 (x1001 + x7)))))) (wrap64 (x7 + 1)) x1000 x1001 x1002) else (none)) else (none)) else ((tithebarnref01_Uint.f k x6).bind fun t390 => (if (t390.size : Int) = x5 then (some (x6, x5, 0, x1000, x1001, x1002)) else (some (0, 0, 5, x1000, x1001, x1002))))
end
def tithebarnref01_Cursor_peek.f (k : Nat) (s0_0 : ByteArray) (s0_1 : Int) (s0_2 : Int) : Option (Int × Int × Int × ByteArray × Int × Int) := (tithebarnref01_Cursor_Left.f s0_0 s0_1 s0_2).bind fun bt381 => (if bt381.1 < 1 then (some (0, 0, 2, bt381.2.1, bt381.2.2.1, bt381.2.2.2)) else (if 0 ≤ bt381.2.2.1 then (if bt381.2.2.1 < (bt381.2.1.size : Int) then ((tithebarnref01_size.f (bt bt381.2.1 bt381.2.2.1)).bind fun t385 => (if t385 = 9 then (tithebarnref01_Cursor_peek.j0 k t385 ((bt bt381.2.1 bt381.2.2.1) != 192) bt381.2.1 bt381.2.2.1 bt381.2.2.2) else (tithebarnref01_Cursor_peek.j0 k t385 false bt381.2.1 bt381.2.2.1 bt381.2.2.2))) else (none)) else (none)))
end Go.Proofs.Ytgeddoklmcjdcaa.G
namespace Go.Proofs.Ytgeddoklmcjdcaa.G
open Go.RowKit Go.Proofs.YtgeddoklmcjdcaaQ Go.Proofs.YtgeddoklmcjdcaaW.PrintWords Go.Proofs.YtgeddoklmcjdcaaW.PrintLast Go.Proofs.YtgeddoklmcjdcaaW.PrintMore
attribute [local go_sem] max2_int min2_int max_two min_two max_three min_three max_four min_four   -- for this text's walks alone
set_option linter.unusedVariables false
set_option linter.unusedSimpArgs false
mutual
def tithebarnref04_offsets.l0 : Nat → List Int → Int → Int → Option (Int × List Int)
 | 0, _, _, _ => none
 | k + 1, x0, x4, x5 => if x5 < (x0.length : Int) then (if 0 ≤ x5 then (tithebarnref04_offsets.l0 k x0 (mn x4 (rd x0 x5)) (wrap64 (x5 + 1))) else (none)) else (tithebarnref04_offsets.l1 k x0 x4 ([] : List Int) 0)
def tithebarnref04_offsets.l1 : Nat → List Int → Int → List Int → Int → Option (Int × List Int)
 | 0, _, _, _, _ => none
 | k + 1, x0, x4, x6, x7 => if x7 < (x0.length : Int) then (if 0 ≤ x7 then (if x6.length < 17592186044416 then (tithebarnref04_offsets.l1 k x0 x4 (x6 ++ [IntKind.u64.wrap ((IntKind.u64.wrap (rd x0 x7)) - (IntKind.u64.wrap (x4)))]) (wrap64 (x7 + 1))) else (none)) else (none)) else (some (x4, x6))
end
def tithebarnref04_offsets.f (k : Nat) (l0 : List Int) : Option (Int × List Int) := if 0 < (l0.length : Int) then (tithebarnref04_offsets.l0 k l0 (rd l0 0) 0) else (none)
end Go.Proofs.Ytgeddoklmcjdcaa.G
namespace Go.Proofs.Ytgeddoklmcjdcaa.G
open Go.RowKit Go.Proofs.YtgeddoklmcjdcaaQ Go.Proofs.YtgeddoklmcjdcaaW.PrintWords Go.Proofs.YtgeddoklmcjdcaaW.PrintLast Go.Proofs.YtgeddoklmcjdcaaW.PrintMore
attribute [local go_sem] max2_int min2_int max_two min_two max_three min_three max_four min_four   -- for this text's walks alone
set_option linter.unusedVariables false
set_option linter.unusedSimpArgs false
def tithebarnref03_fits.f (a0 : Int) (a1 : Int) : Option (Bool) := if a1 ≥ 64 then (some true) else (if 0 ≤ (IntKind.u64.wrap (a1)) then (some (decide (a0 < (shl .u64 1 (IntKind.u64.wrap (a1)))))) else (none))
mutual
def tithebarnref03_Width.l0 : Nat → List Int → Int → Int → Option (Int)
 | 0, _, _, _ => none
 | k + 1, x0, x3, x4 => if x4 < (x0.length : Int) then (tithebarnref03_Width.l1 k x0 x3 x4) else (some x3)
def tithebarnref03_Width.l1 : Nat → List Int → Int → Int → Option (Int)
 | 0, _, _, _ => none
 | k + 1, x0, x3, x4 => if 0 ≤ x4 then (if x4 < (x0.length : Int) then ((tithebarnref03_fits.f (rd x0 x4) x3).bind fun t332 => (if t332 = true then (tithebarnref03_Width.l0 k x0 x3 (wrap64 (x4 + 1))) else (tithebarnref03_Width.l1 k x0 (wrap64 (x3 + 1)) x4))) else (none)) else (none)
end
def tithebarnref03_Width.f (k : Nat) (l0 : List Int) : Option (Int) := tithebarnref03_Width.l0 k l0 0 0
def tithebarnref03_Bytes.l0 : Nat → List Bool → List Int → Int → Option (ByteArray)
 | 0, _, _, _ => none
 | k + 1, x0, x3, x4 => if x4 < (x0.length : Int) then (if 0 ≤ x4 then (if rdOf false x0 x4 = true then (if 0 ≤ (wrap64 (Int.tdiv x4 8)) then (if (wrap64 (Int.tdiv x4 8)) < (x3.length : Int) then (if 0 ≤ (IntKind.u64.wrap (Int.tmod x4 8)) then (tithebarnref03_Bytes.l0 k x0 (x3.set ((wrap64 (Int.tdiv x4 8)) : Int).toNat (((rd x3 (wrap64 (Int.tdiv x4 8))) + (shl .u8 1 (IntKind.u64.wrap (Int.tmod x4 8)))) % 256)) (wrap64 (x4 + 1))) else (none)) else (none)) else (none)) else (tithebarnref03_Bytes.l0 k x0 x3 (wrap64 (x4 + 1)))) else (none)) else (some (strOfNums x3))
def tithebarnref03_Bytes.f (k : Nat) (l0 : List Bool) : Option (ByteArray) := if 0 ≤ (wrap64 (Int.tdiv (wrap64 ((l0.length : Int) + 7)) 8)) then (if (wrap64 (Int.tdiv (wrap64 ((l0.length : Int) + 7)) 8) : Int).toNat ≤ 281474976710656 then (tithebarnref03_Bytes.l0 k l0 (List.replicate (wrap64 (Int.tdiv (wrap64 ((l0.length : Int) + 7)) 8) : Int).toNat 0) 0) else (none)) else (none)
end Go.Proofs.Ytgeddoklmcjdcaa.G
namespace Go.Proofs.Ytgeddoklmcjdcaa.G
open Go.RowKit Go.Proofs.YtgeddoklmcjdcaaQ Go.Proofs.YtgeddoklmcjdcaaW.PrintWords Go.Proofs.YtgeddoklmcjdcaaW.PrintLast Go.Proofs.YtgeddoklmcjdcaaW.PrintMore
attribute [local go_sem] max2_int min2_int max_two min_two max_three min_three max_four min_four   -- for this text's walks alone
set_option linter.unusedVariables false
set_option linter.unusedSimpArgs false
def tithebarnref03_Bit.f (a0 : ByteArray) (a1 : Int) : Option (Bool) := if 0 ≤ (wrap64 (Int.tdiv a1 8)) then (if (wrap64 (Int.tdiv a1 8)) < (a0.size : Int) then (if 0 ≤ (IntKind.u64.wrap (Int.tmod a1 8)) then (some ((Int.tmod (shr .u8 (bt a0 (wrap64 (Int.tdiv a1 8))) (IntKind.u64.wrap (Int.tmod a1 8))) 2) == 1)) else (none)) else (none)) else (none)
end Go.Proofs.Ytgeddoklmcjdcaa.G
namespace Go.Proofs.Ytgeddoklmcjdcaa.G
open Go.RowKit Go.Proofs.YtgeddoklmcjdcaaQ Go.Proofs.YtgeddoklmcjdcaaW.PrintWords Go.Proofs.YtgeddoklmcjdcaaW.PrintLast Go.Proofs.YtgeddoklmcjdcaaW.PrintMore
attribute [local go_sem] max2_int min2_int max_two min_two max_three min_three max_four min_four   -- for this text's walks alone
set_option linter.unusedVariables false
set_option linter.unusedSimpArgs false
mutual
def tithebarnref03_unbits.l0 : Nat → ByteArray → Int → Int → List Bool → Int → Option (List Bool × Int)
 | 0, _, _, _, _, _ => none
 | k + 1, x0, x1, x6, x7, x8 => if x8 < (wrap64 (8 * x6)) then ((tithebarnref03_Bit.f x0 x8).bind fun t424 => (if x8 ≥ x1 then (tithebarnref03_unbits.j1 k x0 x1 x6 x7 x8 t424 t424) else (tithebarnref03_unbits.j1 k x0 x1 x6 x7 x8 t424 false))) else (some (x7, 0))
def tithebarnref03_unbits.j1 : Nat → ByteArray → Int → Int → List Bool → Int → Bool → Bool → Option (List Bool × Int)
 | 0, _, _, _, _, _, _, _ => none
 | k + 1, x0, x1, x6, x7, x8, x9, x35 => if x35 = true then (some (([] : List Bool), 5)) else (if x8 < x1 then (if x7.length < 140737488355328 then (tithebarnref03_unbits.l0 k x0 x1 x6 (x7 ++ [x9]) (wrap64 (x8 + 1))) else (none)) else (tithebarnref03_unbits.l0 k x0 x1 x6 x7 (wrap64 (x8 + 1))))
end
def tithebarnref03_unbits.f (k : Nat) (a0 : ByteArray) (a1 : Int) : Option (List Bool × Int) := if (a0.size : Int) < (wrap64 (Int.tdiv (wrap64 (a1 + 7)) 8)) then (some (([] : List Bool), 2)) else (if (a0.size : Int) > (wrap64 (Int.tdiv (wrap64 (a1 + 7)) 8)) then (some (([] : List Bool), 3)) else (tithebarnref03_unbits.l0 k a0 a1 (wrap64 (Int.tdiv (wrap64 (a1 + 7)) 8)) ([] : List Bool) 0))
mutual
def tithebarnref03_Unpack.j0 : Nat → ByteArray → Int → Int → Bool → Option (List Int × Int)
 | 0, _, _, _, _ => none
 | k + 1, x0, x1, x2, x27 => if x27 = true then (some (([] : List Int), 1)) else ((tithebarnref03_unbits.f k x0 (wrap64 (x1 * x2))).bind fun bt428 => (if bt428.2 = 0 then (tithebarnref03_Unpack.l0 k x1 x2 bt428.1 ([] : List Int) 0) else (some (([] : List Int), bt428.2))))
def tithebarnref03_Unpack.l0 : Nat → Int → Int → List Bool → List Int → Int → Option (List Int × Int)
 | 0, _, _, _, _, _ => none
 | k + 1, x1, x2, x8, x10, x11 => if x11 < x1 then (tithebarnref03_Unpack.l1 k x1 x2 x8 x10 x11 0 0) else (some (x10, 0))
def tithebarnref03_Unpack.l1 : Nat → Int → Int → List Bool → List Int → Int → Int → Int → Option (List Int × Int)
 | 0, _, _, _, _, _, _, _ => none
 | k + 1, x1, x2, x8, x10, x11, x12, x13 => if x13 < x2 then (if 0 ≤ (wrap64 ((wrap64 (x11 * x2)) + x13)) then (if (wrap64 ((wrap64 (x11 * x2)) + x13)) < (x8.length : Int) then (if rdOf false x8 (wrap64 ((wrap64 (x11 * x2)) + x13)) = true then (if 0 ≤ (IntKind.u64.wrap (x13)) then (tithebarnref03_Unpack.l1 k x1 x2 x8 x10 x11 (IntKind.u64.wrap (x12 + (shl .u64 1 (IntKind.u64.wrap (x13))))) (wrap64 (x13 + 1))) else (none)) else (tithebarnref03_Unpack.l1 k x1 x2 x8 x10 x11 x12 (wrap64 (x13 + 1)))) else (none)) else (none)) else (if x10.length < 17592186044416 then (tithebarnref03_Unpack.l0 k x1 x2 x8 (x10 ++ [x12]) (wrap64 (x11 + 1))) else (none))
end
def tithebarnref03_Unpack.f (k : Nat) (a0 : ByteArray) (a1 : Int) (a2 : Int) : Option (List Int × Int) := if a2 < 0 then (tithebarnref03_Unpack.j0 k a0 a1 a2 true) else (if a2 > 64 then (tithebarnref03_Unpack.j0 k a0 a1 a2 true) else (if a1 < 0 then (tithebarnref03_Unpack.j0 k a0 a1 a2 true) else (tithebarnref03_Unpack.j0 k a0 a1 a2 (decide (a1 > 65536)))))
end Go.Proofs.Ytgeddoklmcjdcaa.G
namespace Go.Proofs.Ytgeddoklmcjdcaa.G
open Go.RowKit Go.Proofs.YtgeddoklmcjdcaaQ Go.Proofs.YtgeddoklmcjdcaaW.PrintWords Go.Proofs.YtgeddoklmcjdcaaW.PrintLast Go.Proofs.YtgeddoklmcjdcaaW.PrintMore
attribute [local go_sem] max2_int min2_int max_two min_two max_three min_three max_four min_four   -- for this text's walks alone
set_option linter.unusedVariables false
set_option linter.unusedSimpArgs false
def tithebarnref01_Cursor_Done.f (s0_0 : ByteArray) (s0_1 : Int) (s0_2 : Int) : Option (Int × ByteArray × Int × Int) := if s0_2 = 0 then ((tithebarnref01_Cursor_Left.f s0_0 s0_1 s0_2).bind fun bt466 => (if bt466.1 > 0 then (some (5, bt466.2.1, bt466.2.2.1, bt466.2.2.2)) else (some (bt466.2.2.2, bt466.2.1, bt466.2.2.1, bt466.2.2.2)))) else (some (s0_2, s0_0, s0_1, s0_2))
end Go.Proofs.Ytgeddoklmcjdcaa.G
namespace Go.Proofs.Ytgeddoklmcjdcaa.G
open Go.RowKit Go.Proofs.YtgeddoklmcjdcaaQ Go.Proofs.YtgeddoklmcjdcaaW.PrintWords Go.Proofs.YtgeddoklmcjdcaaW.PrintLast Go.Proofs.YtgeddoklmcjdcaaW.PrintMore
set_option linter.unusedVariables false
set_option linter.unusedSimpArgs false
theorem w64' (x : Int) (h0 : -9223372036854775808 ≤ x) (h1 : x < 9223372036854775808) : wrap64 x = x := w64 h0 h1
theorem big_step (k : Nat) (l : List Int) (x : Int) (i : Nat) (hi : i ≤ 7) (hl : l.length < 140737488355328) :
  tally_big.l0 (k + 1) l x i = tally_big.l0 k (l ++ [x / 256 ^ i % 256]) x ((i : Int) - 1) := by
 simp only [tally_big.l0]
 rw [if_pos (by omega), w64' (8 * (i : Int)) (by omega) (by omega), if_pos (by omega), if_pos hl, w64' ((i : Int) - 1) (by omega) (by omega)]
 have e : (8 * (i : Int)) = ((8 * i : Nat) : Int) := by omega
 rw [e, shr_u64_lit x (8 * i) (by omega)]
 have e2 : (256 : Int) ^ i = 2 ^ (8 * i) := by rw [Int.pow_mul]; rfl
 rw [e2]
theorem big_end (k : Nat) (l : List Int) (x : Int) : tally_big.l0 (k + 1) l x (-1) = some l := by
 simp only [tally_big.l0]; rw [if_neg (by omega)]
def bigs (x : Int) : Nat → List Int
 | 0 => []
 | n + 1 => x / 256 ^ n % 256 :: bigs x n
theorem big_f (n : Nat) (hn : n ≤ 8) : ∀ (k : Nat) (l : List Int) (x : Int), n < k → l.length + n ≤ 140737488355328 → tally_big.l0 k l x ((n : Int) - 1) = some (l ++ bigs x n) := by
 induction n with
 | zero =>
  intro k l x hk hl
  obtain ⟨k, rfl⟩ : ∃ m, k = m + 1 := ⟨k - 1, by omega⟩
  have e : ((0 : Nat) : Int) - 1 = -1 := by omega
  rw [e, big_end]; simp [bigs]
 | succ n ih =>
  intro k l x hk hl
  obtain ⟨k, rfl⟩ : ∃ m, k = m + 1 := ⟨k - 1, by omega⟩
  have e : ((n + 1 : Nat) : Int) - 1 = (n : Int) := by omega
  rw [e, big_step k l x n (by omega) (by omega), ih (by omega) k _ x (by omega) (by simp; omega)]
  simp [bigs]
theorem Uint_f {k : Nat} (hk : 10 ≤ k) {l : List Int} (hl : l.length + 9 ≤ 140737488355328) {x : Int} (hx : u64 x) : tally_Uint.f k l x = some (l ++ encU x) := by
 obtain ⟨h0, h1⟩ := hx
 unfold tally_Uint.f encU
 by_cases c1 : x < 64
 ·rw [if_pos (by omega), if_pos (by omega), if_pos c1]
  simp; omega
 ·rw [if_neg (by omega), if_neg c1]
  by_cases c2 : x < 16384
  ·rw [if_pos (by omega), if_pos c2, or_join' 16384 x 14 (by omega) (by omega) (by omega) (by omega) (by decide) (by simp; omega)]
   unfold tally_big.f
   have e : wrap64 (2 - 1) = ((2 : Nat) : Int) - 1 := by unfold wrap64; decide
   rw [e, big_f 2 (by omega) k l _ (by omega) (by omega)]
   simp [bigs]; omega
  ·rw [if_neg (by omega), if_neg c2]
   by_cases c3 : x < 1073741824
   ·rw [if_pos (by omega), if_pos c3, or_join' 2147483648 x 30 (by omega) (by omega) (by omega) (by omega) (by decide) (by simp; omega)]
    unfold tally_big.f
    have e : wrap64 (4 - 1) = ((4 : Nat) : Int) - 1 := by unfold wrap64; decide
    rw [e, big_f 4 (by omega) k l _ (by omega) (by omega)]
    simp [bigs]; omega
   ·rw [if_neg (by omega), if_neg c3, if_pos (by omega)]
    unfold tally_big.f
    have e : wrap64 (8 - 1) = ((8 : Nat) : Int) - 1 := by unfold wrap64; decide
    rw [e, big_f 8 (by omega) k _ _ (by omega) (by simp; omega)]
    simp [bigs]
theorem Int_f {k : Nat} (hk : 10 ≤ k) {l : List Int} (hl : l.length + 9 ≤ 140737488355328) {x : Int} (hx : i64 x) : tally_Int.f k l x = some (l ++ encI x) := by
 unfold tally_Int.f
 rw [zig x hx, Uint_f hk hl (fold_u64 hx)]; rfl
def aUint (r : List Int) (e : Int) : Int × List Int × Int := if e = 0 then ((decU r).1, r.drop (decU r).2.1, (decU r).2.2) else (0, r, e)
def aInt (r : List Int) (e : Int) : Int × List Int × Int := (unfold_ (aUint r e).1, (aUint r e).2)
def aByte (r : List Int) (e : Int) : Int × List Int × Int := if e = 0 then (match r with | [] => (0, [], 2) | b :: t => (b, t, 0)) else (0, r, e)
def aDone (r : List Int) (e : Int) : Int := if e = 0 then (if r = [] then 0 else 5) else e
theorem decU_u64 {r : List Int} (hr : Bs r) : u64 (decU r).1 := by
 rcases h : decU r with ⟨x, n, e⟩
 rcases decU_err h with ⟨rfl, _⟩ | ⟨_, rfl, _⟩
 ·exact (decU_bytes hr h).2.1
 ·unfold u64; simp
theorem aUint_u64 {r : List Int} (hr : Bs r) (e : Int) : u64 (aUint r e).1 := by
 unfold aUint; split
 ·exact decU_u64 hr
 ·unfold u64; simp
theorem aUint_Bs {r : List Int} (hr : Bs r) (e : Int) : Bs (aUint r e).2.1 := by
 unfold aUint; split
 ·exact hr.drop _
 ·exact hr
theorem aInt_Bs {r : List Int} (hr : Bs r) (e : Int) : Bs (aInt r e).2.1 := aUint_Bs hr e
theorem aByte_Bs {r : List Int} (hr : Bs r) (e : Int) : Bs (aByte r e).2.1 := by
 unfold aByte; split
 ·split
  ·exact Bs.nil
  ·exact hr.tail
 ·exact hr
theorem cUint_f (s : ByteArray) (e : Int) : tally_Cursor_Uint.f s e = some ((aUint (bytesOf s) e).1, strOfNums (aUint (bytesOf s) e).2.1, (aUint (bytesOf s) e).2.2) := by
 unfold tally_Cursor_Uint.f tally_Cursor_ok.f tally_next.f aUint
 simp only [Option.bind_some]
 by_cases c : e = 0
 ·rw [if_pos (by simpa using c), if_pos c]
  simp only
  rw [← bytesOf_tail, strOfNums_bytesOf]
 ·rw [if_neg (by simpa using c), if_neg c]
  simp only
  rw [strOfNums_bytesOf]
theorem cInt_f (s : ByteArray) (e : Int) : tally_Cursor_Int.f s e = some ((aInt (bytesOf s) e).1, strOfNums (aInt (bytesOf s) e).2.1, (aInt (bytesOf s) e).2.2) := by
 unfold tally_Cursor_Int.f
 rw [cUint_f]
 simp only [Option.bind_some]
 rw [zag _ (aUint_u64 (Bs.bytesOf s) e)]; rfl
theorem toList_nil (s : ByteArray) : s.toList = [] ↔ bytesOf s = [] := by rw [ByteArray.toList_eq]; unfold bytesOf; simp
theorem cByte_f (s : ByteArray) (e : Int) (hs : s.size ≤ 9223372036854775807) : tally_Cursor_Byte.f s e = some ((aByte (bytesOf s) e).1, strOfNums (aByte (bytesOf s) e).2.1, (aByte (bytesOf s) e).2.2) := by
 unfold tally_Cursor_Byte.f tally_Cursor_ok.f aByte
 simp only [Option.bind_some]
 by_cases c : e = 0
 ·rw [if_pos (by simpa using c), if_pos c]
  by_cases d : bytesOf s = []
  ·rw [if_pos ((toList_nil s).2 d), d, eq_nil_of_bytes d]; rfl
  ·rw [if_neg (fun h => d ((toList_nil s).1 h))]
   rcases hl : bytesOf s with _ | ⟨b, t⟩
   ·exact absurd hl d
   ·have hsz : s.size = t.length + 1 := by rw [size_eq, hl]; rfl
    rw [if_pos (by omega), if_pos (by omega)]
    have hb : bt s 0 = b := by rw [bt_rd, hl]; rfl
    have hr := bt_range s 0
    have ht : bytesOf (s.extract 1 s.size) = t := by rw [bytesOf_tail, hl]; rfl
    simp only
    rw [w64 (by omega) (by omega), hb, ← ht, strOfNums_bytesOf, c]
 ·rw [if_neg (by simpa using c), if_neg c]
  simp only
  rw [strOfNums_bytesOf]
theorem cDone_f (s : ByteArray) (e : Int) : tally_Cursor_Done.f s e = some (aDone (bytesOf s) e, s, e) := by
 unfold tally_Cursor_Done.f tally_Cursor_ok.f tally_Cursor_Err.f aDone
 simp only [Option.bind_some]
 by_cases c : e = 0
 ·rw [if_pos (by simpa using c), if_pos c]
  by_cases d : bytesOf s = []
  ·rw [if_pos ((toList_nil s).2 d), if_pos d, c]
  ·rw [if_neg (fun h => d ((toList_nil s).1 h)), if_neg d]
 ·rw [if_neg (by simpa using c), if_neg c]
end Go.Proofs.Ytgeddoklmcjdcaa.G
namespace Go.Proofs.Ytgeddoklmcjdcaa.G
open Go.RowKit Go.Proofs.YtgeddoklmcjdcaaQ Go.Proofs.YtgeddoklmcjdcaaW.PrintWords Go.Proofs.YtgeddoklmcjdcaaW.PrintLast Go.Proofs.YtgeddoklmcjdcaaW.PrintMore
attribute [local go_sem] max2_int min2_int max_two min_two max_three min_three max_four min_four   -- for this text's walks alone
set_option linter.unusedVariables false
set_option linter.unusedSimpArgs false
mutual
def tithebarnref03_Pack.j0 : Nat → List Int → Int → Bool → Option (ByteArray × Int)
 | 0, _, _, _ => none
 | k + 1, x0, x1, x14 => if x14 = true then (some ((⟨#[]⟩ : ByteArray), 1)) else (tithebarnref03_Pack.l0 k x0 x1 ([] : List Bool) 0)
def tithebarnref03_Pack.l0 : Nat → List Int → Int → List Bool → Int → Option (ByteArray × Int)
 | 0, _, _, _, _ => none
 | k + 1, x0, x1, x6, x7 => if x7 < (x0.length : Int) then (if 0 ≤ x7 then ((tithebarnref03_fits.f (rd x0 x7) x1).bind fun t341 => (if t341 = true then (tithebarnref03_Pack.l1 k x0 x1 x6 x7 0) else (some ((⟨#[]⟩ : ByteArray), 4)))) else (none)) else ((tithebarnref03_Bytes.f k x6).bind fun t339 => (some (t339, 0)))
def tithebarnref03_Pack.l1 : Nat → List Int → Int → List Bool → Int → Int → Option (ByteArray × Int)
 | 0, _, _, _, _, _ => none
 | k + 1, x0, x1, x6, x7, x8 => if x8 < x1 then (if 0 ≤ x7 then (if x7 < (x0.length : Int) then (if 0 ≤ (IntKind.u64.wrap (x8)) then (if x6.length < 140737488355328 then (tithebarnref03_Pack.l1 k x0 x1 (x6 ++ [((Int.tmod (shr .u64 (rd x0 x7) (IntKind.u64.wrap (x8))) 2) == 1)]) x7 (wrap64 (x8 + 1))) else (none)) else (none)) else (none)) else (none)) else (tithebarnref03_Pack.l0 k x0 x1 x6 (wrap64 (x7 + 1)))
end
def tithebarnref03_Pack.f (k : Nat) (l0 : List Int) (a1 : Int) : Option (ByteArray × Int) := if a1 < 0 then (tithebarnref03_Pack.j0 k l0 a1 true) else (tithebarnref03_Pack.j0 k l0 a1 (decide (a1 > 64)))
end Go.Proofs.Ytgeddoklmcjdcaa.G
namespace Go.Proofs.YtgeddoklmcjdcaaQ
open Go.Proofs.YtgeddoklmcjdcaaW.PrintWords
set_option linter.unusedVariables false
set_option linter.unusedSimpArgs false
theorem tb (N k : Nat) : N.testBit k = decide (N / 2 ^ k % 2 = 1) := Nat.testBit_eq_decide_div_mod_eq
end Go.Proofs.YtgeddoklmcjdcaaQ
namespace Go.Proofs.Ytgeddoklmcjdcaa.G
open Go.RowKit Go.Proofs.YtgeddoklmcjdcaaQ Go.Proofs.YtgeddoklmcjdcaaW.PrintWords Go.Proofs.YtgeddoklmcjdcaaW.PrintLast Go.Proofs.YtgeddoklmcjdcaaW.PrintMore
set_option linter.unusedVariables false
set_option linter.unusedSimpArgs false
theorem natsOf_str {l : List Nat} (h : ∀ x ∈ l, x < 256) : natsOf (strOfNums (ints l)) = l := by
 have h1 := ints_natsOf (strOfNums (ints l))
 rw [bytesOf_strOfNums (ints_Bs h)] at h1
 rw [← unats_ints (natsOf (strOfNums (ints l))), h1, unats_ints]
theorem num_str {l : List Nat} (h : ∀ x ∈ l, x < 256) : num (strOfNums (ints l)) = val 256 l := by unfold num; rw [natsOf_str h]
theorem size_ints (l : List Nat) : (strOfNums (ints l)).size = l.length := by rw [size_strOfNums, ints_len]
theorem ints_U64 {l : List Nat} {w : Nat} (hw : w ≤ 64) (h : ∀ x ∈ l, x < 2 ^ w) : U64 (ints l) := by
 intro y hy
 obtain ⟨x, hx, rfl⟩ := List.mem_map.1 hy
 have h1 := h x hx
 have h2 : 2 ^ w ≤ 2 ^ 64 := Nat.pow_le_pow_right (by omega) hw
 omega
theorem Pack_ok {l : List Int} {w : Nat} (hl : l.length ≤ 17592186043904) (hU : U64 l) (hw : w ≤ 64) (h : wd (unats l) ≤ w) : bits_Pack.f l (w : Int) = some (strOfNums (ints (pk w (unats l))), 0) := by
 unfold bits_Pack.f; rw [if_pos ⟨hl, hU⟩, if_neg (by omega), if_pos (by omega), Int.toNat_natCast]
theorem Unpack_ok {s : ByteArray} {n w : Nat} (hs : s.size ≤ 140737488355328) (hn : n ≤ 65536) (hw : w ≤ 64) (h : fitE s (n * w) = 0) : bits_Unpack.f s (n : Int) (w : Int) = some (ints (dig (2 ^ w) n (num s)), 0) := by
 unfold bits_Unpack.f; rw [if_pos hs, if_neg (by omega), Int.toNat_natCast, Int.toNat_natCast, if_pos h]
theorem Unpack_bad {s : ByteArray} {n w : Nat} (hs : s.size ≤ 140737488355328) (hn : n ≤ 65536) (hw : w ≤ 64) (h : fitE s (n * w) ≠ 0) : bits_Unpack.f s (n : Int) (w : Int) = some ([], fitE s (n * w)) := by
 unfold bits_Unpack.f; rw [if_pos hs, if_neg (by omega), Int.toNat_natCast, Int.toNat_natCast, if_neg h]
theorem fitE_zero {s : ByteArray} {m : Nat} : fitE s m = 0 ↔ s.size = need m ∧ num s < 2 ^ m := by
 unfold fitE
 by_cases c1 : s.size < need m
 ·rw [if_pos c1]; exact ⟨fun h => absurd h (by decide), fun h => by omega⟩
 ·rw [if_neg c1]
  by_cases c2 : need m < s.size
  ·rw [if_pos c2]; exact ⟨fun h => absurd h (by decide), fun h => by omega⟩
  ·rw [if_neg c2]
   by_cases c3 : num s < 2 ^ m
   ·rw [if_pos c3]; exact ⟨fun _ => ⟨by omega, c3⟩, fun _ => rfl⟩
   ·rw [if_neg c3]; exact ⟨fun h => absurd h (by decide), fun h => absurd h.2 c3⟩
theorem fit_pk {w : Nat} {l : List Nat} (h : ∀ x ∈ l, x < 2 ^ w) : fitE (strOfNums (ints (pk w l))) (l.length * w) = 0 := by
 rw [fitE_zero, size_ints, pk_len, num_str (pk_lt w l)]
 exact ⟨rfl, pk_small h⟩
theorem back_pk {w : Nat} {l : List Nat} (h : ∀ x ∈ l, x < 2 ^ w) : dig (2 ^ w) l.length (num (strOfNums (ints (pk w l)))) = l := by
 rw [num_str (pk_lt w l)]; exact unpk_pk h
theorem rd_ints {l : List Nat} {i : Nat} (h : i < l.length) : rd (ints l) (i : Int) = ((l[i] : Nat) : Int) := by
 unfold rd ints
 rw [Int.toNat_natCast, List.getD_eq_getElem?_getD, List.getElem?_map, List.getElem?_eq_getElem h]; rfl
end Go.Proofs.Ytgeddoklmcjdcaa.G
namespace Go.Proofs.Ytgeddoklmcjdcaa.G
open Go.RowKit Go.Proofs.YtgeddoklmcjdcaaQ Go.Proofs.YtgeddoklmcjdcaaW.PrintWords Go.Proofs.YtgeddoklmcjdcaaW.PrintLast Go.Proofs.YtgeddoklmcjdcaaW.PrintMore
set_option linter.unusedVariables false
set_option linter.unusedSimpArgs false
def I64 (l : List Int) : Prop := ∀ x ∈ l, i64 x
theorem I64.nil : I64 [] := fun _ h => by cases h
theorem I64.cons {x : Int} {l : List Int} (hx : i64 x) (h : I64 l) : I64 (x :: l) := fun y hy => (List.mem_cons.1 hy).elim (fun e => e ▸ hx) (h y)
theorem I64.head {x : Int} {l : List Int} (h : I64 (x :: l)) : i64 x := h x List.mem_cons_self
theorem I64.tail {x : Int} {l : List Int} (h : I64 (x :: l)) : I64 l := fun y hy => h y (List.mem_cons_of_mem _ hy)
theorem I64.app {a b : List Int} (ha : I64 a) (hb : I64 b) : I64 (a ++ b) := fun y hy => (List.mem_append.1 hy).elim (ha y) (hb y)
theorem wf_I64 {l : List Int} (h : ∀ x ∈ l, (Lit.int .i64 x).wf = true) : I64 l := by
 intro x hx
 have := h x hx
 simp [Lit.wf, IntKind.min, IntKind.max, IntKind.bits, IntKind.signed] at this
 unfold i64; omega
theorem wrap_i64 (x : Int) : i64 (wrap64 x) := by unfold i64 wrap64; omega
theorem aUint_enc {x : Int} (h : u64 x) (r : List Int) : aUint (encU x ++ r) 0 = (x, r, 0) := by
 unfold aUint
 rw [if_pos rfl, decU_enc h r]
 simp
theorem aInt_enc {x : Int} (h : i64 x) (r : List Int) : aInt (encI x ++ r) 0 = (x, r, 0) := by
 unfold aInt encI
 rw [aUint_enc (fold_u64 h), unfold_fold]
theorem aUint_dec {r r' : List Int} {x : Int} (hB : Bs r) (h : aUint r 0 = (x, r', 0)) : r = encU x ++ r' ∧ u64 x := by
 unfold aUint at h
 rw [if_pos rfl] at h
 rcases hd : decU r with ⟨y, n, e⟩
 rw [hd] at h
 simp only [Prod.mk.injEq] at h
 obtain ⟨rfl, rfl, rfl⟩ := h
 obtain ⟨h1, h2, h3⟩ := decU_bytes hB hd
 exact ⟨by rw [← h3, List.take_append_drop], h2⟩
theorem aInt_dec {r r' : List Int} {x : Int} (hB : Bs r) (h : aInt r 0 = (x, r', 0)) : r = encI x ++ r' ∧ i64 x := by
 unfold aInt at h
 rcases hu : aUint r 0 with ⟨u, s⟩
 rw [hu] at h
 simp only [Prod.mk.injEq] at h
 obtain ⟨rfl, rfl⟩ := h
 obtain ⟨h1, h2⟩ := aUint_dec hB hu
 refine ⟨?_, unfold_i64 h2⟩
 unfold encI
 rw [fold_unfold h2.1]
 exact h1
def encL (l : List Int) : List Int := l.flatMap encI
def rp : Nat → List Int → Int → List Int → List Int × List Int × Int
 | 0, r, e, acc => (acc, r, e)
 | n + 1, r, e, acc => if e = 0 then rp n (aInt r e).2.1 (aInt r e).2.2 (acc ++ [(aInt r e).1]) else (acc, r, e)
theorem rp_err {e : Int} (he : e ≠ 0) (n : Nat) (r acc : List Int) : rp n r e acc = (acc, r, e) := by
 cases n with
 | zero => rfl
 | succ n => unfold rp; rw [if_neg he]
theorem rp_len : ∀ (n : Nat) (r : List Int) (e : Int) (acc : List Int), (rp n r e acc).1.length ≤ acc.length + n := by
 intro n
 induction n with
 | zero => intro r e acc; exact Nat.le_refl _
 | succ n ih =>
  intro r e acc
  unfold rp
  split
  ·have := ih (aInt r e).2.1 (aInt r e).2.2 (acc ++ [(aInt r e).1])
   simp at this; omega
  ·simp
theorem rp_enc : ∀ (l : List Int) (rest acc : List Int), I64 l → rp l.length (encL l ++ rest) 0 acc = (acc ++ l, rest, 0)
 | [], rest, acc, _ => by simp [rp, encL]
 | x :: l, rest, acc, h => by
  have e : encL (x :: l) ++ rest = encI x ++ (encL l ++ rest) := by simp [encL]
  rw [List.length_cons, rp, if_pos rfl, e, aInt_enc h.head]
  simp only
  rw [rp_enc l rest (acc ++ [x]) h.tail]
  simp
theorem rp_dec : ∀ (n : Nat) (r acc out r' : List Int), Bs r → rp n r 0 acc = (out, r', 0) → ∃ l, out = acc ++ l ∧ l.length = n ∧ I64 l ∧ r = encL l ++ r'
 | 0, r, acc, out, r', hB, h => by
  unfold rp at h
  simp only [Prod.mk.injEq] at h
  exact ⟨[], by simp [h.1], rfl, I64.nil, by simp [encL, h.2.1]⟩
 | n + 1, r, acc, out, r', hB, h => by
  unfold rp at h
  rw [if_pos rfl] at h
  rcases hi : aInt r 0 with ⟨x, r1, e1⟩
  rw [hi] at h
  simp only at h
  by_cases he : e1 = 0
  ·subst he
   obtain ⟨h1, h2⟩ := aInt_dec hB hi
   have hB1 : Bs r1 := by have := aInt_Bs hB 0; rw [hi] at this; exact this
   obtain ⟨l, h3, h4, h5, h6⟩ := rp_dec n r1 _ out r' hB1 h
   refine ⟨x :: l, by simp [h3], by simp [h4], I64.cons h2 h5, ?_⟩
   rw [h1, h6]; simp [encL]
  ·rw [rp_err he] at h
   simp only [Prod.mk.injEq] at h
   exact absurd h.2.2 he
def deltas : Int → List Int → List Int
 | _, [] => []
 | a, x :: l => wrap64 (x - a) :: deltas x l
def psum : Int → List Int → List Int
 | _, [] => []
 | a, x :: l => wrap64 (a + x) :: psum (wrap64 (a + x)) l
theorem wrap_add_sub {a x : Int} (hx : i64 x) : wrap64 (a + wrap64 (x - a)) = x := by
 obtain ⟨h0, h1⟩ := hx
 unfold wrap64; omega
theorem wrap_sub_add {a x : Int} (hx : i64 x) : wrap64 (wrap64 (a + x) - a) = x := by
 obtain ⟨h0, h1⟩ := hx
 unfold wrap64; omega
theorem psum_deltas : ∀ (l : List Int) (a : Int), I64 l → psum a (deltas a l) = l
 | [], a, _ => rfl
 | x :: l, a, h => by rw [deltas, psum, wrap_add_sub h.head, psum_deltas l x h.tail]
theorem deltas_psum : ∀ (l : List Int) (a : Int), I64 l → deltas a (psum a l) = l
 | [], a, _ => rfl
 | x :: l, a, h => by rw [psum, deltas, wrap_sub_add h.head, deltas_psum l _ h.tail]
theorem deltas_I64 : ∀ (l : List Int) (a : Int), I64 (deltas a l)
 | [], _ => I64.nil
 | x :: l, a => I64.cons (wrap_i64 _) (deltas_I64 l x)
theorem psum_I64 : ∀ (l : List Int) (a : Int), I64 (psum a l)
 | [], _ => I64.nil
 | x :: l, a => I64.cons (wrap_i64 _) (psum_I64 l _)
theorem deltas_len : ∀ (l : List Int) (a : Int), (deltas a l).length = l.length
 | [], _ => rfl
 | x :: l, a => by rw [deltas, List.length_cons, List.length_cons, deltas_len l]
theorem psum_len : ∀ (l : List Int) (a : Int), (psum a l).length = l.length
 | [], _ => rfl
 | x :: l, a => by rw [psum, List.length_cons, List.length_cons, psum_len l]
def lead (x : Int) : List Int → Nat
 | [] => 0
 | y :: l => if y = x then lead x l + 1 else 0
theorem lead_le (x : Int) : ∀ l, lead x l ≤ l.length
 | [] => Nat.le_refl _
 | y :: l => by unfold lead; split <;> simp; exact lead_le x l
theorem lead_split (x : Int) : ∀ l, l = List.replicate (lead x l) x ++ l.drop (lead x l)
 | [] => rfl
 | y :: l => by
  unfold lead
  split
  ·rename_i h
   subst h
   rw [List.replicate_succ, List.cons_append, List.drop_succ_cons, ← lead_split y l]
  ·simp
theorem lead_next (x : Int) : ∀ l : List Int, (l.drop (lead x l)).head? ≠ some x
 | [] => by simp
 | y :: l => by
  unfold lead
  split
  ·rw [List.drop_succ_cons]; exact lead_next x l
  ·rename_i h; simpa using h
theorem lead_rep (x : Int) (m : List Int) (hm : m.head? ≠ some x) : ∀ t, lead x (List.replicate t x ++ m) = t
 | 0 => by
  cases m with
  | nil => rfl
  | cons y m => simp at hm; simp [lead, hm]
 | t + 1 => by rw [List.replicate_succ, List.cons_append, lead, if_pos rfl, lead_rep x m hm t]
def runsF : Nat → List Int → List Int
 | 0, _ => []
 | f + 1, [] => []
 | f + 1, x :: l => encU ((lead x l + 1 : Nat) : Int) ++ encI x ++ runsF f (l.drop (lead x l))
def runsB (l : List Int) : List Int := runsF l.length l
theorem runsF_more : ∀ (f : Nat) (l : List Int), l.length ≤ f → runsF f l = runsF (f + 1) l
 | 0, l, h => by
  have : l = [] := List.length_eq_zero_iff.1 (by omega)
  subst this; rfl
 | f + 1, [], h => rfl
 | f + 1, x :: l, h => by
  rw [runsF, runsF, runsF_more f (l.drop (lead x l)) (by rw [List.length_drop]; simp at h; omega)]
theorem runsF_eq (l : List Int) : ∀ f, l.length ≤ f → runsF f l = runsB l := by
 intro f h
 induction f with
 | zero =>
  have : l = [] := List.length_eq_zero_iff.1 (by omega)
  subst this; rfl
 | succ f ih =>
  by_cases hl : l.length ≤ f
  ·rw [← runsF_more f l hl]; exact ih hl
  ·have : l.length = f + 1 := by omega
   unfold runsB; rw [this]
theorem runsB_cons (x : Int) (l : List Int) : runsB (x :: l) = encU ((lead x l + 1 : Nat) : Int) ++ encI x ++ runsB (l.drop (lead x l)) := by
 have h : runsB (x :: l) = runsF (l.length + 1) (x :: l) := rfl
 rw [h, runsF, runsF_eq _ l.length (by rw [List.length_drop]; omega)]
theorem runsB_rep {t : Nat} (ht : 1 ≤ t) (x : Int) (m : List Int) (hm : m.head? ≠ some x) : runsB (List.replicate t x ++ m) = encU (t : Int) ++ encI x ++ runsB m := by
 obtain ⟨t, rfl⟩ : ∃ s, t = s + 1 := ⟨t - 1, by omega⟩
 rw [List.replicate_succ, List.cons_append, runsB_cons, lead_rep x m hm t, List.drop_left' (by simp)]
def rr (n : Nat) : Nat → List Int → List Int → List Int × Int × List Int
 | 0, r, out => (out, 0, r)
 | f + 1, r, out => if out.length < n then
   if (aUint r 0).2.2 = 0 then
    if (aUint r 0).1 = 0 ∨ ((n - out.length : Nat) : Int) < (aUint r 0).1 then ([], 4, [])
    else if (aInt (aUint r 0).2.1 0).2.2 = 0 then
     if out.getLast? = some (aInt (aUint r 0).2.1 0).1 then ([], 4, [])
     else rr n f (aInt (aUint r 0).2.1 0).2.1 (out ++ List.replicate (aUint r 0).1.toNat (aInt (aUint r 0).2.1 0).1)
    else ([], (aInt (aUint r 0).2.1 0).2.2, [])
   else ([], (aUint r 0).2.2, [])
  else (out, 0, r)
theorem rr_done {n f : Nat} {r out : List Int} (h : n ≤ out.length) : rr n f r out = (out, 0, r) := by
 cases f with
 | zero => rfl
 | succ f => rw [rr, if_neg (by omega)]
theorem rr_enc (n : Nat) (hn : n ≤ 65536) (rest : List Int) : ∀ (d : Nat) (l out : List Int) (f : Nat), l.length ≤ d → out.length + l.length = n → l.length ≤ f → I64 l → (∀ x, l.head? = some x → out.getLast? ≠ some x) → rr n f (runsB l ++ rest) out = (out ++ l, 0, rest) := by
 intro d
 induction d with
 | zero =>
  intro l out f hd hl hf hI hb
  have : l = [] := List.length_eq_zero_iff.1 (by omega)
  subst this
  rw [rr_done (by simp at hl; omega)]
  simp [runsB, runsF]
 | succ d ih =>
  intro l out f hd hl hf hI hb
  cases l with
  | nil =>
   rw [rr_done (by simp at hl; omega)]
   simp [runsB, runsF]
  | cons x l =>
   simp only [List.length_cons] at hd hl hf
   obtain ⟨f, rfl⟩ : ∃ g, f = g + 1 := ⟨f - 1, by omega⟩
   have hle := lead_le x l
   have hu : u64 ((lead x l + 1 : Nat) : Int) := by unfold u64; omega
   rw [runsB_cons, rr, if_pos (by omega), List.append_assoc, List.append_assoc, aUint_enc hu]
   simp only
   rw [if_pos trivial, if_neg (by omega), aInt_enc hI.head]
   simp only
   rw [if_pos trivial, if_neg (hb x rfl)]
   have hs := lead_split x l
   have hnx := lead_next x l
   have hdl : (l.drop (lead x l)).length = l.length - lead x l := List.length_drop
   generalize hm : l.drop (lead x l) = m at *
   rw [ih m _ f (by omega) (by simp; omega) (by omega) (fun y hy => hI y (by rw [hs]; simp [hy])) ?_]
   ·rw [Int.toNat_natCast, List.replicate_succ, List.append_assoc, List.cons_append]
    rw [← hs]
   ·intro y hy he
    rw [Int.toNat_natCast, List.getLast?_append] at he
    simp [List.getLast?_replicate] at he
    exact hnx (he ▸ hy)
theorem rr_dec (n : Nat) : ∀ (f : Nat) (r out l r' : List Int), Bs r → out.length ≤ n → n ≤ out.length + f → rr n f r out = (l, 0, r') → ∃ m, l = out ++ m ∧ l.length = n ∧ I64 m ∧ r = runsB m ++ r' ∧ (∀ x, m.head? = some x → out.getLast? ≠ some x) := by
 intro f
 induction f with
 | zero =>
  intro r out l r' hB h1 h2 h
  rw [rr] at h
  simp only [Prod.mk.injEq] at h
  obtain ⟨rfl, _, rfl⟩ := h
  exact ⟨[], by simp, by omega, I64.nil, by simp [runsB, runsF], by simp⟩
 | succ f ih =>
  intro r out l r' hB h1 h2 h
  by_cases hlt : out.length < n
  ·rw [rr, if_pos hlt] at h
   rcases hu : aUint r 0 with ⟨t, r1, e1⟩
   have hB1 : Bs r1 := by have := aUint_Bs hB 0; rw [hu] at this; exact this
   rw [hu] at h
   simp only at h
   by_cases he : e1 = 0
   ·subst he
    obtain ⟨hr, hut⟩ := aUint_dec hB hu
    obtain ⟨u0, u1⟩ := hut
    rw [if_pos rfl] at h
    by_cases hc : t = 0 ∨ ((n - out.length : Nat) : Int) < t
    ·rw [if_pos hc] at h; simp at h
    ·rw [if_neg hc] at h
     rcases hi : aInt r1 0 with ⟨x, r2, e2⟩
     have hB2 : Bs r2 := by have := aInt_Bs hB1 0; rw [hi] at this; exact this
     rw [hi] at h
     simp only at h
     by_cases he2 : e2 = 0
     ·subst he2
      obtain ⟨hr1, hx⟩ := aInt_dec hB1 hi
      rw [if_pos rfl] at h
      by_cases hl : out.getLast? = some x
      ·rw [if_pos hl] at h; simp at h
      ·rw [if_neg hl] at h
       have ht1 : 1 ≤ t.toNat := by omega
       obtain ⟨m, a1, a2, a3, a4, a5⟩ := ih r2 (out ++ List.replicate t.toNat x) l r' hB2 (by simp; omega) (by simp; omega) h
       have hmx : m.head? ≠ some x := by
        intro e
        refine a5 x e ?_
        rw [List.getLast?_append]
        simp [List.getLast?_replicate]; omega
       refine ⟨List.replicate t.toNat x ++ m, by rw [a1, List.append_assoc], a2, I64.app (fun y hy => by rw [(List.mem_replicate.1 hy).2]; exact hx) a3, ?_, ?_⟩
       ·rw [runsB_rep ht1 x m hmx, Int.toNat_of_nonneg u0, hr, hr1, a4]; simp [List.append_assoc]
       ·intro y hy
        obtain ⟨s, hs⟩ : ∃ s, t.toNat = s + 1 := ⟨t.toNat - 1, by omega⟩
        rw [hs, List.replicate_succ] at hy
        simp at hy
        exact hy ▸ hl
     ·rw [if_neg he2] at h; simp at h; exact absurd h.2.1 he2
   ·rw [if_neg he] at h; simp at h; exact absurd h.2.1 he
  ·rw [rr, if_neg hlt] at h
   simp only [Prod.mk.injEq] at h
   obtain ⟨rfl, _, rfl⟩ := h
   exact ⟨[], by simp, by omega, I64.nil, by simp [runsB, runsF], by simp⟩
end Go.Proofs.Ytgeddoklmcjdcaa.G
namespace Go.Proofs.Ytgeddoklmcjdcaa.G
open Go.RowKit Go.Proofs.YtgeddoklmcjdcaaQ Go.Proofs.YtgeddoklmcjdcaaW.PrintWords Go.Proofs.YtgeddoklmcjdcaaW.PrintLast Go.Proofs.YtgeddoklmcjdcaaW.PrintMore
set_option linter.unusedVariables false
set_option linter.unusedSimpArgs false
theorem mn_le (a b : Int) : mn a b ≤ a ∧ mn a b ≤ b ∧ (mn a b = a ∨ mn a b = b) := by unfold mn; split <;> omega
theorem fold_mn : ∀ (l : List Int) (x : Int), l.foldl mn x ≤ x ∧ (∀ y ∈ l, l.foldl mn x ≤ y) ∧ (l.foldl mn x = x ∨ l.foldl mn x ∈ l)
 | [], x => ⟨Int.le_refl _, (fun _ h => by cases h), .inl rfl⟩
 | y :: l, x => by
  obtain ⟨h1, h2, h3⟩ := fold_mn l (mn x y)
  obtain ⟨m1, m2, m3⟩ := mn_le x y
  rw [List.foldl_cons]
  refine ⟨by omega, fun z hz => ?_, ?_⟩
  ·rcases List.mem_cons.1 hz with rfl | hz
   ·omega
   ·exact h2 z hz
  ·rcases h3 with h3 | h3
   ·rcases m3 with m3 | m3
    ·left; omega
    ·right; rw [h3, m3]; exact List.mem_cons_self
   ·right; exact List.mem_cons_of_mem _ h3
def minL : List Int → Int
 | [] => 0
 | x :: l => l.foldl mn x
theorem minL_le {l : List Int} {x : Int} (h : x ∈ l) : minL l ≤ x := by
 cases l with
 | nil => cases h
 | cons y l =>
  obtain ⟨h1, h2, _⟩ := fold_mn l y
  rcases List.mem_cons.1 h with rfl | h
  ·exact h1
  ·exact h2 x h
theorem minL_mem {l : List Int} (h : l ≠ []) : minL l ∈ l := by
 cases l with
 | nil => exact absurd rfl h
 | cons y l =>
  obtain ⟨_, _, h3⟩ := fold_mn l y
  rcases h3 with h3 | h3
  ·show l.foldl mn y ∈ _; rw [h3]; exact List.mem_cons_self
  ·exact List.mem_cons_of_mem _ h3
theorem minL_i64 {l : List Int} (h : l ≠ []) (hI : I64 l) : i64 (minL l) := hI _ (minL_mem h)
def offs (a : Int) (l : List Int) : List Nat := l.map fun x => (x - a).toNat
def back (a : Int) (o : List Nat) : List Int := o.map fun (x : Nat) => wrap64 (a + (x : Int))
theorem offs_len (a : Int) (l : List Int) : (offs a l).length = l.length := by simp [offs]
theorem back_len (a : Int) (o : List Nat) : (back a o).length = o.length := by simp [back]
theorem back_I64 (a : Int) (o : List Nat) : I64 (back a o) := by
 intro x hx
 obtain ⟨y, _, rfl⟩ := List.mem_map.1 hx
 exact wrap_i64 _
theorem back_offs {a : Int} {l : List Int} (hI : I64 l) (ha : ∀ x ∈ l, a ≤ x) : back a (offs a l) = l := by
 unfold back offs
 rw [List.map_map]
 refine (List.map_congr_left (fun x hx => ?_)).trans (List.map_id l)
 have h1 := ha x hx
 obtain ⟨h2, h3⟩ := hI x hx
 simp only [Function.comp, id]
 rw [Int.toNat_of_nonneg (by omega)]
 unfold wrap64; omega
theorem offs_back {a : Int} (hi : i64 a) {o : List Nat} (ho : ∀ x ∈ o, x < 2 ^ 64) (ha : ∀ x ∈ back a o, a ≤ x) : offs a (back a o) = o := by
 unfold offs
 have e : ∀ x ∈ o, ((wrap64 (a + (x : Int))) - a).toNat = x := by
  intro x hx
  have h1 := ha _ (List.mem_map.2 ⟨x, hx, rfl⟩)
  have h2 := ho x hx
  obtain ⟨i0, i1⟩ := hi
  unfold wrap64 at *; omega
 unfold back
 rw [List.map_map]
 exact (List.map_congr_left (fun x hx => e x hx)).trans (List.map_id o)
theorem offs_64 {l : List Int} (hI : I64 l) : ∀ x ∈ offs (minL l) l, x < 2 ^ 64 := by
 intro x hx
 obtain ⟨y, hy, rfl⟩ := List.mem_map.1 hx
 have h1 := minL_le hy
 obtain ⟨a0, a1⟩ := hI y hy
 have hne : l ≠ [] := by rintro rfl; cases hy
 obtain ⟨b0, b1⟩ := minL_i64 hne hI
 omega
theorem wd_offs {l : List Int} (hI : I64 l) : wd (offs (minL l) l) ≤ 64 := wd_le.2 (offs_64 hI)
def packB (l : List Int) : List Int := if l = [] then [] else encI (minL l) ++ ((wd (offs (minL l) l) : Nat) : Int) :: ints (pk (wd (offs (minL l) l)) (offs (minL l) l))
def bp (n : Nat) (r : List Int) : List Int × Int × List Int :=
 if n = 0 then ([], 0, r)
 else if (aByte (aInt r 0).2.1 (aInt r 0).2.2).2.2 ≠ 0 then ([], (aByte (aInt r 0).2.1 (aInt r 0).2.2).2.2, [])
 else if 64 < (aByte (aInt r 0).2.1 (aInt r 0).2.2).1 then ([], 4, [])
 else bq n (aInt r 0).1 (aByte (aInt r 0).2.1 (aInt r 0).2.2).1.toNat (aByte (aInt r 0).2.1 (aInt r 0).2.2).2.1
where bq (n : Nat) (a : Int) (w : Nat) (r : List Int) : List Int × Int × List Int :=
 if r.length < need (n * w) then ([], 2, [])
 else if fitE (strOfNums (r.take (need (n * w)))) (n * w) ≠ 0 then ([], fitE (strOfNums (r.take (need (n * w)))) (n * w), [])
 else if minL (back a (dig (2 ^ w) n (num (strOfNums (r.take (need (n * w))))))) = a ∧ wd (dig (2 ^ w) n (num (strOfNums (r.take (need (n * w)))))) = w then
  (back a (dig (2 ^ w) n (num (strOfNums (r.take (need (n * w)))))), 0, r.drop (need (n * w))) else ([], 4, [])
theorem aByte_cons (b : Int) (r : List Int) : aByte (b :: r) 0 = (b, r, 0) := by unfold aByte; rw [if_pos rfl]
theorem aByte_err {r : List Int} {e : Int} (he : e ≠ 0) : aByte r e = (0, r, e) := by unfold aByte; rw [if_neg he]
theorem bp_enc {l : List Int} (hI : I64 l) (hl : l.length ≤ 65536) (rest : List Int) : bp l.length (packB l ++ rest) = (l, 0, rest) := by
 by_cases h0 : l = []
 ·subst h0; simp [bp, packB]
 ·have hn : l.length ≠ 0 := fun h => h0 (List.length_eq_zero_iff.1 h)
  have hw := wd_offs hI
  have ho := offs_64 hI
  have hlt : ∀ x ∈ offs (minL l) l, x < 2 ^ wd (offs (minL l) l) := wd_le.1 (Nat.le_refl _)
  have hb := back_offs hI (fun x hx => minL_le hx)
  have hln := offs_len (minL l) l
  have hmi := minL_i64 h0 hI
  have hp : packB l = encI (minL l) ++ ((wd (offs (minL l) l) : Nat) : Int) :: ints (pk (wd (offs (minL l) l)) (offs (minL l) l)) := by unfold packB; rw [if_neg h0]
  obtain ⟨o, hoo⟩ : ∃ o, offs (minL l) l = o := ⟨_, rfl⟩
  obtain ⟨a, haa⟩ : ∃ a, minL l = a := ⟨_, rfl⟩
  rw [haa] at hoo
  rw [haa, hoo] at hw ho hlt hb hln hp
  rw [haa] at hmi
  obtain ⟨w, hww⟩ : ∃ w, wd o = w := ⟨_, rfl⟩
  rw [hww] at hw hlt hp
  have hfit := fit_pk hlt
  have hback := back_pk hlt
  rw [hln] at hfit hback
  have hpl : (ints (pk w o)).length = need (l.length * w) := by rw [ints_len, pk_len, hln]
  rw [hp, List.append_assoc, List.cons_append]
  unfold bp
  rw [if_neg hn, aInt_enc hmi]
  simp only
  rw [aByte_cons]
  simp only
  rw [if_neg (by simp), if_neg (by omega), Int.toNat_natCast]
  unfold bp.bq
  have ht : (ints (pk w o) ++ rest).take (need (l.length * w)) = ints (pk w o) := by rw [← hpl, List.take_left]
  have hd : (ints (pk w o) ++ rest).drop (need (l.length * w)) = rest := by rw [← hpl, List.drop_left]
  rw [ht, hd, if_neg (by rw [List.length_append, hpl]; omega), if_neg (by rw [hfit]; simp), hback, hb, if_pos ⟨haa, hww⟩]
theorem bp_dec {n : Nat} {r l r' : List Int} (hB : Bs r) (hn : n ≤ 65536) (h : bp n r = (l, 0, r')) : l.length = n ∧ I64 l ∧ r = packB l ++ r' := by
 unfold bp at h
 by_cases h0 : n = 0
 ·rw [if_pos h0] at h
  simp only [Prod.mk.injEq] at h
  obtain ⟨rfl, _, rfl⟩ := h
  exact ⟨h0.symm, I64.nil, by simp [packB]⟩
 ·rw [if_neg h0] at h
  rcases hi : aInt r 0 with ⟨a, r1, e1⟩
  have hB1 : Bs r1 := by have := aInt_Bs hB 0; rw [hi] at this; exact this
  rw [hi] at h
  simp only at h
  by_cases he1 : e1 = 0
  ·subst he1
   obtain ⟨hr, hia⟩ := aInt_dec hB hi
   cases r1 with
   | nil => rw [show aByte [] 0 = (0, [], 2) from rfl] at h; simp at h
   | cons b r2 =>
    obtain ⟨b0, b1⟩ := hB1.head
    have hB2 := hB1.tail
    rw [aByte_cons] at h
    simp only at h
    rw [if_neg (by simp)] at h
    by_cases hw : 64 < b
    ·rw [if_pos hw] at h; simp at h
    ·rw [if_neg hw] at h
     obtain ⟨w, rfl⟩ : ∃ w : Nat, b = (w : Int) := ⟨b.toNat, by omega⟩
     rw [Int.toNat_natCast] at h
     unfold bp.bq at h
     by_cases c1 : r2.length < need (n * w)
     ·rw [if_pos c1] at h; simp at h
     ·rw [if_neg c1] at h
      by_cases c2 : fitE (strOfNums (r2.take (need (n * w)))) (n * w) ≠ 0
      ·rw [if_pos c2] at h; simp at h; exact absurd h.2.1 c2
      ·rw [if_neg c2] at h
       by_cases c3 : minL (back a (dig (2 ^ w) n (num (strOfNums (r2.take (need (n * w))))))) = a ∧ wd (dig (2 ^ w) n (num (strOfNums (r2.take (need (n * w)))))) = w
       ·rw [if_pos c3] at h
        obtain ⟨c3, c4⟩ := c3
        simp only [Prod.mk.injEq] at h
        obtain ⟨hl, _, hr'⟩ := h
        have hBt := hB2.take (need (n * w))
        obtain ⟨f1, f2⟩ := fitE_zero.1 (Classical.not_not.1 c2)
        obtain ⟨s, hs⟩ : ∃ s, strOfNums (r2.take (need (n * w))) = s := ⟨_, rfl⟩
        rw [hs] at c3 c4 hl f1 f2
        have hsb : bytesOf s = r2.take (need (n * w)) := by rw [← hs, bytesOf_strOfNums hBt]
        have hpk : pk w (dig (2 ^ w) n (num s)) = natsOf s := by
         unfold num at f2 ⊢
         exact pk_unpk (natsOf_lt s) (by rw [natsOf_len]; exact f1) f2
        have hdl : (dig (2 ^ w) n (num s)).length = n := dig_len _ _ _
        have hdlt := dig_lt (p2 w) n (num s)
        obtain ⟨o, ho⟩ : ∃ o, dig (2 ^ w) n (num s) = o := ⟨_, rfl⟩
        rw [ho] at c3 c4 hl hpk hdl hdlt
        have hll : l.length = n := by rw [← hl, back_len, hdl]
        have hne : l ≠ [] := by rintro rfl; simp at hll; omega
        have h64 : ∀ x ∈ o, x < 2 ^ 64 := fun x hx => Nat.lt_of_lt_of_le (hdlt x hx) (Nat.pow_le_pow_right (by omega) (by omega))
        rw [hl] at c3
        have hof : offs a l = o := by rw [← hl]; exact offs_back hia h64 (fun x hx => by rw [hl] at hx; have := minL_le hx; omega)
        refine ⟨hll, by rw [← hl]; exact back_I64 _ _, ?_⟩
        unfold packB
        rw [if_neg hne, c3, hof, c4, hpk, ints_natsOf, hsb, hr, ← hr', List.append_assoc, List.cons_append, List.take_append_drop]
       ·rw [if_neg c3] at h; simp at h
  ·rw [aByte_err he1] at h
   simp only at h
   rw [if_pos he1] at h
   simp at h; exact absurd h.2.1 he1
def body (a : Int) (n : Nat) (r : List Int) : List Int × Int × List Int :=
 if a = 0 then ((rp n r 0 []).1, (rp n r 0 []).2.2, (rp n r 0 []).2.1)
 else if a = 1 then (psum 0 (rp n r 0 []).1, (rp n r 0 []).2.2, (rp n r 0 []).2.1)
 else if a = 2 then rr n n r [] else bp n r
def enc (a : Int) (l : List Int) : List Int := if a = 0 then encL l else if a = 1 then encL (deltas 0 l) else if a = 2 then runsB l else packB l
theorem body_enc (a : Int) {l : List Int} (hI : I64 l) (hl : l.length ≤ 65536) (rest : List Int) : body a l.length (enc a l ++ rest) = (l, 0, rest) := by
 unfold body enc
 by_cases c0 : a = 0
 ·rw [if_pos c0, if_pos c0, rp_enc l rest [] hI]; rfl
 ·rw [if_neg c0, if_neg c0]
  by_cases c1 : a = 1
  ·have h := rp_enc (deltas 0 l) rest [] (deltas_I64 l 0)
   rw [deltas_len] at h
   rw [if_pos c1, if_pos c1, h, List.nil_append, psum_deltas l 0 hI]
  ·rw [if_neg c1, if_neg c1]
   by_cases c2 : a = 2
   ·rw [if_pos c2, if_pos c2]
    have := rr_enc l.length hl rest l.length l [] l.length (Nat.le_refl _) (by simp) (Nat.le_refl _) hI (by simp)
    simpa using this
   ·rw [if_neg c2, if_neg c2]; exact bp_enc hI hl rest
theorem body_dec (a : Int) {n : Nat} {r l r' : List Int} (hB : Bs r) (hn : n ≤ 65536) (h : body a n r = (l, 0, r')) : l.length = n ∧ I64 l ∧ r = enc a l ++ r' := by
 unfold body at h
 unfold enc
 by_cases c0 : a = 0
 ·rw [if_pos c0] at h ⊢
  simp only [Prod.mk.injEq] at h
  obtain ⟨h1, h2, h3⟩ := h
  obtain ⟨m, h4, h5, h6, h7⟩ := rp_dec n r [] l r' hB (Prod.ext h1 (Prod.ext h3 h2))
  rw [List.nil_append] at h4
  subst h4
  exact ⟨h5, h6, h7⟩
 ·rw [if_neg c0] at h ⊢
  by_cases c1 : a = 1
  ·rw [if_pos c1] at h ⊢
   simp only [Prod.mk.injEq] at h
   obtain ⟨h1, h2, h3⟩ := h
   obtain ⟨m, h4, h5, h6, h7⟩ := rp_dec n r [] _ r' hB (Prod.ext rfl (Prod.ext h3 h2))
   rw [List.nil_append] at h4
   replace h4 : (rp n r 0 []).fst = m := h4
   rw [h4] at h1
   subst h1
   exact ⟨by rw [psum_len, h5], psum_I64 m 0, by rw [deltas_psum m 0 h6]; exact h7⟩
  ·rw [if_neg c1] at h ⊢
   by_cases c2 : a = 2
   ·rw [if_pos c2] at h ⊢
    obtain ⟨m, h1, h2, h3, h4, _⟩ := rr_dec n n r [] l r' hB (by simp) (by simp) h
    rw [List.nil_append] at h1
    subst h1
    exact ⟨h2, h3, h4⟩
   ·rw [if_neg c2] at h ⊢
    exact bp_dec hB hn h
def EN (a : Int) (l : List Int) : List Int := a :: (encU (l.length : Int) ++ enc a l)
def DR (bs : List Int) : List Int × Int :=
 if (aByte bs 0).2.2 = 0 ∧ 4 ≤ (aByte bs 0).1 then ([], 4)
 else if (aUint (aByte bs 0).2.1 (aByte bs 0).2.2).2.2 ≠ 0 then ([], (aUint (aByte bs 0).2.1 (aByte bs 0).2.2).2.2)
 else if 65536 < (aUint (aByte bs 0).2.1 (aByte bs 0).2.2).1 then ([], 3)
 else DB (body (aByte bs 0).1 (aUint (aByte bs 0).2.1 (aByte bs 0).2.2).1.toNat (aUint (aByte bs 0).2.1 (aByte bs 0).2.2).2.1)
where DB (t : List Int × Int × List Int) : List Int × Int := if t.2.1 ≠ 0 then ([], t.2.1) else if t.2.2 = [] then (t.1, 0) else ([], 5)
theorem DR_EN {a : Int} (h0 : 0 ≤ a) (h4 : a < 4) {l : List Int} (hI : I64 l) (hl : l.length ≤ 65536) : DR (EN a l) = (l, 0) := by
 have hu : u64 (l.length : Int) := by unfold u64; omega
 have hb := body_enc a hI hl []
 rw [List.append_nil] at hb
 unfold DR EN
 rw [aByte_cons]
 simp only
 rw [if_neg (by omega), aUint_enc hu]
 simp only
 rw [if_neg (by simp), if_neg (by omega), Int.toNat_natCast, hb]
 rfl
theorem encL_Bs {l : List Int} (h : I64 l) : Bs (encL l) := by
 intro y hy
 obtain ⟨x, hx, hxy⟩ := List.mem_flatMap.1 hy
 exact encI_Bs (h x hx) y hxy
theorem runsF_Bs : ∀ (f : Nat) (l : List Int), I64 l → l.length ≤ 65536 → Bs (runsF f l)
 | 0, _, _, _ => Bs.nil
 | f + 1, [], _, _ => Bs.nil
 | f + 1, x :: l, h, hl => by
  have hle := lead_le x l
  simp only [List.length_cons] at hl
  rw [runsF]
  exact ((encU_Bs (by unfold u64; omega)).app (encI_Bs h.head)).app (runsF_Bs f _ (fun y hy => h.tail y (List.mem_of_mem_drop hy)) (by rw [List.length_drop]; omega))
theorem packB_Bs {l : List Int} (hI : I64 l) : Bs (packB l) := by
 unfold packB
 split
 ·exact Bs.nil
 ·rename_i h0
  have hw := wd_offs hI
  exact (encI_Bs (minL_i64 h0 hI)).app (Bs.cons (by omega) (by omega) (ints_Bs (pk_lt _ _)))
theorem EN_Bs {a : Int} (h0 : 0 ≤ a) (h4 : a < 4) {l : List Int} (hI : I64 l) (hl : l.length ≤ 65536) : Bs (EN a l) := by
 unfold EN enc
 refine Bs.cons h0 (by omega) ((encU_Bs (by unfold u64; omega)).app ?_)
 split
 ·exact encL_Bs hI
 ·split
  ·exact encL_Bs (deltas_I64 l 0)
  ·split
   ·exact runsF_Bs _ l hI hl
   ·exact packB_Bs hI
end Go.Proofs.Ytgeddoklmcjdcaa.G
namespace Go.Proofs.Ytgeddoklmcjdcaa.G
open Go.RowKit Go.Proofs.YtgeddoklmcjdcaaQ Go.Proofs.YtgeddoklmcjdcaaW.PrintWords Go.Proofs.YtgeddoklmcjdcaaW.PrintLast Go.Proofs.YtgeddoklmcjdcaaW.PrintMore
set_option linter.unusedVariables false
set_option linter.unusedSimpArgs false
theorem drop_rd {l : List Int} {i : Nat} (h : i < l.length) : l.drop i = rd l (i : Int) :: l.drop (i + 1) := by
 rw [List.drop_eq_getElem_cons h]
 unfold rd
 rw [Int.toNat_natCast, List.getD_eq_getElem?_getD, List.getElem?_eq_getElem h]; rfl
theorem rd_mem {l : List Int} {i : Nat} (h : i < l.length) : rd l (i : Int) ∈ l := by
 unfold rd
 rw [Int.toNat_natCast, List.getD_eq_getElem?_getD, List.getElem?_eq_getElem h]; exact List.getElem_mem h
theorem next_i {i n : Nat} (h : i ≤ 1000000000) : wrap64 ((i : Int) + 1) = ((i + 1 : Nat) : Int) := by rw [w64 (by omega) (by omega)]; rfl
theorem encI_len {x : Int} : (encI x).length ≤ 9 := (encU_len (fold x)).2
theorem Plain_l0 {l : List Int} (hI : I64 l) (hl : l.length ≤ 65536) : ∀ (d k i : Nat) (b : List Int), i + d = l.length → d + 12 < k → b.length + 9 * d ≤ 100000000 → ints_writePlain.l0 k b l (l.length : Int) i = some (b ++ encL (l.drop i)) := by
 intro d
 induction d with
 | zero =>
  intro k i b hi hk hb
  obtain ⟨k, rfl⟩ : ∃ m, k = m + 1 := ⟨k - 1, by omega⟩
  simp only [ints_writePlain.l0]
  rw [if_neg (by omega), List.drop_eq_nil_of_le (by omega)]
  simp [encL]
 | succ d ih =>
  intro k i b hi hk hb
  obtain ⟨k, rfl⟩ : ∃ m, k = m + 1 := ⟨k - 1, by omega⟩
  have hlt : i < l.length := by omega
  have h9 := encI_len (x := rd l (i : Int))
  simp only [ints_writePlain.l0]
  rw [if_pos (by omega), if_pos (by omega), if_pos (by omega), Int_f (by omega) (by omega) (hI _ (rd_mem hlt)), Option.bind_some, next_i (n := 0) (by omega), ih k (i + 1) _ (by omega) (by omega) (by rw [List.length_append]; omega), drop_rd hlt]
  simp [encL]
theorem Plain_f {l : List Int} (hI : I64 l) (hl : l.length ≤ 65536) {k : Nat} (hk : 70000 < k) {b : List Int} (hb : b.length ≤ 100) : ints_writePlain.f k b l = some (b ++ encL l) := by
 unfold ints_writePlain.f
 exact Plain_l0 hI hl l.length k 0 b (by omega) (by omega) (by omega)
theorem Delta_l0 {l : List Int} (hI : I64 l) (hl : l.length ≤ 65536) : ∀ (d k i : Nat) (a : Int) (b : List Int), i + d = l.length → d + 12 < k → b.length + 9 * d ≤ 100000000 → ints_writeDelta.l0 k b a l (l.length : Int) i = some (b ++ encL (deltas a (l.drop i))) := by
 intro d
 induction d with
 | zero =>
  intro k i a b hi hk hb
  obtain ⟨k, rfl⟩ : ∃ m, k = m + 1 := ⟨k - 1, by omega⟩
  simp only [ints_writeDelta.l0]
  rw [if_neg (by omega), List.drop_eq_nil_of_le (by omega)]
  simp [encL, deltas]
 | succ d ih =>
  intro k i a b hi hk hb
  obtain ⟨k, rfl⟩ : ∃ m, k = m + 1 := ⟨k - 1, by omega⟩
  have hlt : i < l.length := by omega
  have h9 := encI_len (x := wrap64 (rd l (i : Int) - a))
  simp only [ints_writeDelta.l0]
  rw [if_pos (by omega), if_pos (by omega), if_pos (by omega), Int_f (by omega) (by omega) (wrap_i64 _), Option.bind_some, next_i (n := 0) (by omega), ih k (i + 1) _ _ (by omega) (by omega) (by rw [List.length_append]; omega), drop_rd hlt, deltas]
  simp [encL]
theorem Delta_f {l : List Int} (hI : I64 l) (hl : l.length ≤ 65536) {k : Nat} (hk : 70000 < k) {b : List Int} (hb : b.length ≤ 100) : ints_writeDelta.f k b l = some (b ++ encL (deltas 0 l)) := by
 unfold ints_writeDelta.f
 exact Delta_l0 hI hl l.length k 0 0 b (by omega) (by omega) (by omega)
theorem lead_at (x : Int) : ∀ (l : List Int) (j : Nat), j < lead x l → rd (x :: l) ((j + 1 : Nat) : Int) = x
 | [], j, h => by simp [lead] at h
 | y :: l, j, h => by
  unfold lead at h
  split at h
  ·rename_i hy
   cases j with
   | zero => simp [rd, hy]
   | succ j =>
    have := lead_at x l j (by omega)
    simp only [rd, Int.toNat_natCast, List.getD_eq_getElem?_getD, List.getElem?_cons_succ] at this ⊢
    exact this
  ·omega
theorem lead_end (x : Int) : ∀ (l : List Int), lead x l < l.length → rd (x :: l) ((lead x l + 1 : Nat) : Int) ≠ x
 | [], h => by simp [lead] at h
 | y :: l, h => by
  unfold lead at h ⊢
  split
  ·rename_i hy
   rw [if_pos hy] at h
   have := lead_end x l (by simp at h; omega)
   simp only [rd, Int.toNat_natCast, List.getD_eq_getElem?_getD, List.getElem?_cons_succ] at this ⊢
   exact this
  ·rename_i hy
   simpa [rd] using hy
theorem Runs_l1 {x : Int} {l : List Int} (hI : I64 (x :: l)) (hl : l.length < 65536) (b : List Int) (hb : b.length ≤ 100000000) (k0 : Nat) (hk0 : 12 < k0) (R : List Int)
  (h0 : ∀ k, k0 ≤ k → ints_writeRuns.l0 k (b ++ encU ((lead x l + 1 : Nat) : Int) ++ encI x) (l.drop (lead x l)) = some R) :
  ∀ (d k i : Nat), i + d = lead x l → d + k0 < k → ints_writeRuns.l1 k b (x :: l) ((i + 1 : Nat) : Int) = some R := by
 have hle := lead_le x l
 have hx0 : rd (x :: l) 0 = x := rfl
 have hlen : (x :: l).length = l.length + 1 := rfl
 have hu : u64 ((lead x l + 1 : Nat) : Int) := by unfold u64; omega
 have h1 : ∀ k, 12 < k → ((tally_Uint.f k b (IntKind.u64.wrap ((lead x l + 1 : Nat) : Int))).bind fun t => (tally_Int.f k t (rd (x :: l) 0)).bind fun t2 => ints_writeRuns.l0 k t2 ((x :: l).drop (((lead x l + 1 : Nat) : Int)).toNat)) = ints_writeRuns.l0 k (b ++ encU ((lead x l + 1 : Nat) : Int) ++ encI x) (l.drop (lead x l)) := by
  intro k hk
  have h9 := encU_len ((lead x l + 1 : Nat) : Int)
  rw [wu64 (by omega) (by omega), Uint_f (by omega) (by omega) hu, Option.bind_some, hx0, Int_f (by omega) (by rw [List.length_append]; omega) hI.head, Option.bind_some, Int.toNat_natCast, List.drop_succ_cons]
 intro d
 induction d with
 | zero =>
  intro k i hi hk
  obtain ⟨k, rfl⟩ : ∃ m, k = m + 1 := ⟨k - 1, by omega⟩
  obtain rfl : i = lead x l := by omega
  simp only [ints_writeRuns.l1, hlen]
  by_cases hend : lead x l < l.length
  ·have hne := lead_end x l hend
   rw [if_pos (by omega), if_pos (by omega), if_pos (by omega), hx0, if_neg hne]
   have h2 := h1 k (by omega)
   rw [hx0] at h2
   have h3 := h2.trans (h0 k (by omega))
   rw [← h3]
   congr 1; funext t; congr 1; funext t2
   rw [if_pos (by omega)]
  ·rw [if_neg (by omega)]
   have h3 := (h1 k (by omega)).trans (h0 k (by omega))
   rw [← h3]
   congr 1; funext t
   rw [if_pos (by omega)]
   congr 1; funext t2
   rw [if_pos (by omega), if_pos (by omega)]
 | succ d ih =>
  intro k i hi hk
  obtain ⟨k, rfl⟩ : ∃ m, k = m + 1 := ⟨k - 1, by omega⟩
  simp only [ints_writeRuns.l1, hlen]
  rw [if_pos (by omega), if_pos (by omega), if_pos (by omega), hx0, if_pos (lead_at x l i (by omega)), next_i (n := 0) (by omega)]
  exact ih k (i + 1) (by omega) (by omega)
theorem Runs_l0 : ∀ (d : Nat) (l : List Int) (b : List Int) (k : Nat), l.length ≤ d → d ≤ 65536 → I64 l → b.length + 20 * d ≤ 100000000 → 2 * l.length + 20 < k → ints_writeRuns.l0 k b l = some (b ++ runsB l) := by
 intro d
 induction d with
 | zero =>
  intro l b k hl hd hI hb hk
  have : l = [] := List.length_eq_zero_iff.1 (by omega)
  subst this
  obtain ⟨k, rfl⟩ : ∃ m, k = m + 1 := ⟨k - 1, by omega⟩
  simp only [ints_writeRuns.l0]
  rw [if_neg (by simp)]; simp [runsB, runsF]
 | succ d ih =>
  intro l b k hl hd hI hb hk
  obtain ⟨k, rfl⟩ : ∃ m, k = m + 1 := ⟨k - 1, by omega⟩
  cases l with
  | nil =>
   simp only [ints_writeRuns.l0]
   rw [if_neg (by simp)]; simp [runsB, runsF]
  | cons x l =>
   simp only [List.length_cons] at hl hk
   have hle := lead_le x l
   have h9 := encU_len ((lead x l + 1 : Nat) : Int)
   have h9' := encI_len (x := x)
   have hI2 : I64 (l.drop (lead x l)) := fun y hy => hI.tail y (List.mem_of_mem_drop hy)
   simp only [ints_writeRuns.l0]
   rw [if_pos (by simp)]
   refine Runs_l1 hI (by omega) b (by omega) (2 * (l.length - lead x l) + 21) (by omega) _ (fun k' hk' => ?_) (lead x l) k 0 (by omega) (by omega)
   rw [ih (l.drop (lead x l)) (b ++ encU ((lead x l + 1 : Nat) : Int) ++ encI x) k' (by rw [List.length_drop]; omega) (by omega) hI2 (by rw [List.length_append, List.length_append]; omega) (by rw [List.length_drop]; omega), runsB_cons]
   simp only [List.append_assoc]
theorem Runs_f {l : List Int} (hI : I64 l) (hl : l.length ≤ 65536) {k : Nat} (hk : 140000 < k) {b : List Int} (hb : b.length ≤ 100) : ints_writeRuns.f k b l = some (b ++ runsB l) := by
 unfold ints_writeRuns.f
 exact Runs_l0 65536 l b k hl (Nat.le_refl _) hI (by omega) (by omega)
theorem Min_l0 {l : List Int} (hl : l.length ≤ 65536) : ∀ (d k i : Nat) (m : Int), i + d = l.length → d < k → slices_Min_int64_int64.l0 k l m i = some ((l.drop i).foldl mn m) := by
 intro d
 induction d with
 | zero =>
  intro k i m hi hk
  obtain ⟨k, rfl⟩ : ∃ m, k = m + 1 := ⟨k - 1, by omega⟩
  simp only [slices_Min_int64_int64.l0]
  rw [if_neg (by omega), List.drop_eq_nil_of_le (by omega)]; rfl
 | succ d ih =>
  intro k i m hi hk
  obtain ⟨k, rfl⟩ : ∃ m, k = m + 1 := ⟨k - 1, by omega⟩
  simp only [slices_Min_int64_int64.l0]
  rw [if_pos (by omega), if_pos (by omega), next_i (n := 0) (by omega), ih k (i + 1) _ (by omega) (by omega), drop_rd (l := l) (i := i) (by omega)]; rfl
theorem Min_f {l : List Int} (h0 : l ≠ []) (hl : l.length ≤ 65536) {k : Nat} (hk : 65540 < k) : slices_Min_int64_int64.f k l = some (minL l) := by
 cases l with
 | nil => exact absurd rfl h0
 | cons x l =>
  unfold slices_Min_int64_int64.f
  simp only [List.length_cons] at hl ⊢
  rw [if_neg (by omega), if_pos (by omega)]
  have := Min_l0 (l := x :: l) (by simpa using hl) l.length k 1 (rd (x :: l) 0) (by simp; omega) (by omega)
  exact this
theorem Above_l0 {l : List Int} {a : Int} (hI : I64 l) (ha : ∀ x ∈ l, a ≤ x) (hai : i64 a) (hl : l.length ≤ 65536) : ∀ (d k i : Nat) (b : List Int), i + d = l.length → d < k → b.length ≤ i → ints_above.l0 k a b l (l.length : Int) i = some (b ++ ints (offs a (l.drop i))) := by
 intro d
 induction d with
 | zero =>
  intro k i b hi hk hb
  obtain ⟨k, rfl⟩ : ∃ m, k = m + 1 := ⟨k - 1, by omega⟩
  simp only [ints_above.l0]
  rw [if_neg (by omega), List.drop_eq_nil_of_le (by omega)]; simp [offs, ints]
 | succ d ih =>
  intro k i b hi hk hb
  obtain ⟨k, rfl⟩ : ∃ m, k = m + 1 := ⟨k - 1, by omega⟩
  have hlt : i < l.length := by omega
  have h1 := hI _ (rd_mem hlt)
  have h2 := ha _ (rd_mem hlt)
  obtain ⟨x, hx⟩ : ∃ x, rd l (i : Int) = x := ⟨_, rfl⟩
  have e : IntKind.u64.wrap (wrap64 (x - a)) = (((x - a).toNat : Nat) : Int) := by
   rw [hx] at h1 h2
   obtain ⟨a0, a1⟩ := h1; obtain ⟨b0, b1⟩ := hai
   rw [wu64_def]; unfold wrap64; omega
  simp only [ints_above.l0]
  rw [if_pos (by omega), if_pos (by omega), if_pos (by omega), if_pos (by omega), next_i (n := 0) (by omega), hx, e, ih k (i + 1) _ (by omega) (by omega) (by simp; omega), drop_rd hlt, hx]
  simp [offs, ints]
theorem Above_f {l : List Int} {a : Int} (hI : I64 l) (ha : ∀ x ∈ l, a ≤ x) (hai : i64 a) (hl : l.length ≤ 65536) {k : Nat} (hk : 65540 < k) : ints_above.f k l a = some (ints (offs a l)) := by
 unfold ints_above.f
 exact Above_l0 hI ha hai hl l.length k 0 [] (by omega) (by omega) (by simp)
theorem Packed_f {l : List Int} (hI : I64 l) (hl : l.length ≤ 65536) {k : Nat} (hk : 70000 < k) {b : List Int} (hb : b.length ≤ 100) : ints_writePacked.f k b l = some (b ++ packB l) := by
 unfold ints_writePacked.f packB
 by_cases h0 : l = []
 ·subst h0; simp
 ·have hne : ¬ (l.length : Int) = 0 := fun h => h0 (List.length_eq_zero_iff.1 (by omega))
  have hw := wd_offs hI
  have ho := offs_64 hI
  have hln := offs_len (minL l) l
  have hmi := minL_i64 h0 hI
  have h9 := encI_len (x := minL l)
  have hU : U64 (ints (offs (minL l) l)) := ints_U64 (w := 64) (by omega) ho
  have hpl := pk_len (wd (offs (minL l) l)) (offs (minL l) l)
  have hnd : need (l.length * wd (offs (minL l) l)) ≤ 65536 * 64 := by
   have : l.length * wd (offs (minL l) l) ≤ 65536 * 64 := Nat.mul_le_mul hl hw
   unfold need; omega
  rw [if_neg hne, if_neg h0, Min_f h0 hl (by omega), Option.bind_some, Above_f hI (fun x hx => minL_le hx) hmi hl (by omega), Option.bind_some,
   bits_Pack.wid (by rw [ints_len, hln]; omega) hU (by rw [ints_len, hln]; omega), Option.bind_some, unats_ints, Pack_ok (by rw [ints_len, hln]; omega) hU hw (by rw [unats_ints]; exact Nat.le_refl _), Option.bind_some, unats_ints]
  rw [hln] at hpl
  simp only
  rw [Int_f (by omega) (by omega) hmi, Option.bind_some, if_pos (by rw [List.length_append]; omega), Option.bind_some, size_ints, hpl, if_pos (by rw [List.length_append, List.length_append]; simp; omega), bytesOf_strOfNums (ints_Bs (pk_lt _ _)), Int.emod_eq_of_lt (by omega) (by omega)]
  simp [List.append_assoc]
theorem With_f {l : List Int} (hI : I64 l) (a : Int) {k : Nat} (hk : 150000 < k) : ints_With.f k l a = some (if a < 0 ∨ 4 ≤ a then (⟨#[]⟩, 1) else if 65536 < l.length then (⟨#[]⟩, 3) else (strOfNums (EN a l), 0)) := by
 unfold ints_With.f
 by_cases c : a < 0 ∨ 4 ≤ a
 ·rw [if_pos c, if_pos c]
 ·rw [if_neg c, if_neg c]
  by_cases c2 : 65536 < l.length
  ·rw [if_pos c2, if_pos c2]
  ·rw [if_neg c2, if_neg c2]
   have h9 := encU_len (l.length : Int)
   have hb : ([a] ++ encU (l.length : Int)).length ≤ 100 := by rw [List.length_append]; simp; omega
   have hl : l.length ≤ 65536 := by omega
   rw [Uint_f (by omega) (by simp) (by unfold u64; omega), Option.bind_some]
   have e : ints_With.wr k a ([a] ++ encU (l.length : Int)) l = some (EN a l) := by
    unfold ints_With.wr EN enc
    split
    ·rw [Plain_f hI hl (by omega) hb]; simp
    ·split
     ·rw [Delta_f hI hl (by omega) hb]; simp
     ·split
      ·rw [Runs_f hI hl (by omega) hb]; simp
      ·rw [Packed_f hI hl (by omega) hb]; simp
   rw [e]; rfl
end Go.Proofs.Ytgeddoklmcjdcaa.G
