import Derived.Test.YtagokgijffpdnaaZQ2
import Derived.Test.YtagokgijffpdnaaZG3
import Derived.Test.YtagokgijffpdnaaZG20
namespace Go.Proofs.Ytagokgijffpdnaa.G
open Go.RowKit Go.Proofs.YtagokgijffpdnaaQ Go.Proofs.YtagokgijffpdnaaW.PrintWords Go.Proofs.YtagokgijffpdnaaW.PrintLast Go.Proofs.YtagokgijffpdnaaW.PrintMore
attribute [local go_sem] max2_int min2_int max_two min_two max_three min_three max_four min_four   -- for this text's walks alone
set_option linter.unusedVariables false
set_option linter.unusedSimpArgs false
def tithebarnref16_edit.drops (k : Nat) : Nat → ByteArray → Int → Int → List Int → Option (List Int × ByteArray × Int × Int)
 | 0, s0, s1, s2, acc => some (acc, s0, s1, s2)
 | n + 1, s0, s1, s2, acc => if s2 = 0 then (tithebarnref16_count.f k s0 s1 s2).bind fun t => tithebarnref16_edit.drops k n t.2.1 t.2.2.1 t.2.2.2 (acc ++ [t.1]) else some (acc, s0, s1, s2)
def tithebarnref16_edit.adds (k : Nat) : Nat → ByteArray → Int → Int → List S36 → Option (List S36 × ByteArray × Int × Int)
 | 0, s0, s1, s2, acc => some (acc, s0, s1, s2)
 | n + 1, s0, s1, s2, acc => if s2 = 0 then (tithebarnref16_count.f k s0 s1 s2).bind fun x => (tithebarnref16_count.f k x.2.1 x.2.2.1 x.2.2.2).bind fun y => (tithebarnref16_bound.f k y.2.1 y.2.2.1 y.2.2.2).bind fun lo => (tithebarnref16_bound.f k lo.2.2.2.1 lo.2.2.2.2.1 lo.2.2.2.2.2).bind fun hi => tithebarnref16_edit.adds k n hi.2.2.2.1 hi.2.2.2.2.1 hi.2.2.2.2.2 (acc ++ [⟨x.1, y.1, ⟨lo.1, lo.2.1, lo.2.2.1⟩, ⟨hi.1, hi.2.1, hi.2.2.1⟩⟩]) else some (acc, s0, s1, s2)
def tithebarnref16_edit.fin (k : Nat) (n m : Int) (d : List Int) (a : List S36) (x y : Int) (q : ByteArray × Int × Int) : Option (List Int × List S36 × Int × Int × Bool) :=
 if 0 ≤ n then (if 0 ≤ m then (tithebarnref01_Cursor_Done.f q.1 q.2.1 q.2.2).bind (fun dn => if dn.1 = 0 then (tithebarnref16_Right.f k d a x y).bind (fun b => some (d, a, x, y, b)) else some (d, a, x, y, false)) else some (d, a, x, y, false)) else some (d, a, x, y, false)
def tithebarnref16_edit.tail (k : Nat) (n m : Int) (d : List Int) (q : List S36 × ByteArray × Int × Int) : Option (List Int × List S36 × Int × Int × Bool) :=
 (tithebarnref16_count.f k q.2.1 q.2.2.1 q.2.2.2).bind fun x => (tithebarnref16_count.f k x.2.1 x.2.2.1 x.2.2.2).bind fun y => tithebarnref16_edit.fin k n m d q.1 x.1 y.1 y.2
def tithebarnref16_edit.mid (k : Nat) (n : Int) (q : List Int × ByteArray × Int × Int) : Option (List Int × List S36 × Int × Int × Bool) :=
 (tithebarnref16_count.f k q.2.1 q.2.2.1 q.2.2.2).bind fun m => if m.1 ≤ 999999999 then (tithebarnref16_edit.adds k m.1.toNat m.2.1 m.2.2.1 m.2.2.2 []).bind (tithebarnref16_edit.tail k n m.1 q.1) else none
def tithebarnref16_edit.f (k : Nat) (text : ByteArray) : Option (List Int × List S36 × Int × Int × Bool) :=
 (tithebarnref16_count.f k text 0 0).bind fun n => if n.1 ≤ 999999999 then (tithebarnref16_edit.drops k n.1.toNat n.2.1 n.2.2.1 n.2.2.2 []).bind (tithebarnref16_edit.mid k n.1) else none
theorem tithebarnref16_edit.mono_d (k : Nat) : ∀ (n : Nat) (s0 : ByteArray) (s1 s2 : Int) (acc : List Int), LeO (tithebarnref16_edit.drops k n s0 s1 s2 acc) (tithebarnref16_edit.drops (k + 1) n s0 s1 s2 acc) := by
 intro n
 induction n with
 | zero => intro s0 s1 s2 acc; exact LeO.refl _
 | succ n ih => intro s0 s1 s2 acc; unfold tithebarnref16_edit.drops; exact LeO.ite (LeO.bind (tithebarnref16_count.mono _ _ _ k) (fun _ => ih _ _ _ _)) (LeO.refl _)
theorem tithebarnref16_edit.mono_a (k : Nat) : ∀ (n : Nat) (s0 : ByteArray) (s1 s2 : Int) (acc : List S36), LeO (tithebarnref16_edit.adds k n s0 s1 s2 acc) (tithebarnref16_edit.adds (k + 1) n s0 s1 s2 acc) := by
 intro n
 induction n with
 | zero => intro s0 s1 s2 acc; exact LeO.refl _
 | succ n ih => intro s0 s1 s2 acc; unfold tithebarnref16_edit.adds; exact LeO.ite (LeO.bind (tithebarnref16_count.mono _ _ _ k) (fun _ => LeO.bind (tithebarnref16_count.mono _ _ _ k) (fun _ => LeO.bind (tithebarnref16_bound.mono _ _ _ k) (fun _ => LeO.bind (tithebarnref16_bound.mono _ _ _ k) (fun _ => ih _ _ _ _))))) (LeO.refl _)
theorem tithebarnref16_edit.mono : ∀ a0 k, LeO (tithebarnref16_edit.f k a0) (tithebarnref16_edit.f (k + 1) a0) := by
 intro a0 k
 unfold tithebarnref16_edit.f tithebarnref16_edit.mid tithebarnref16_edit.tail tithebarnref16_edit.fin
 exact LeO.bind (tithebarnref16_count.mono _ _ _ k) (fun _ => LeO.ite (LeO.bind (tithebarnref16_edit.mono_d k _ _ _ _ _) (fun _ => LeO.bind (tithebarnref16_count.mono _ _ _ k) (fun _ => LeO.ite (LeO.bind (tithebarnref16_edit.mono_a k _ _ _ _ _) (fun _ => LeO.bind (tithebarnref16_count.mono _ _ _ k) (fun _ => LeO.bind (tithebarnref16_count.mono _ _ _ k) (fun _ => LeO.ite (LeO.ite (LeO.bind (LeO.refl _) (fun _ => LeO.ite (LeO.bind (tithebarnref16_Right.mono _ _ _ _ k) (fun _ => LeO.refl _)) (LeO.refl _))) (LeO.refl _)) (LeO.refl _))))) (LeO.refl _)))) (LeO.refl _))
theorem tithebarnref16_edit.drops_no {k n : Nat} {s0 : ByteArray} {s1 s2 : Int} {acc : List Int} (h : s2 ≠ 0) : tithebarnref16_edit.drops k n s0 s1 s2 acc = some (acc, s0, s1, s2) := by
 cases n <;> unfold tithebarnref16_edit.drops
 ·rfl
 ·rw [if_neg h]
theorem tithebarnref16_edit.drops_on {k n : Nat} {s0 : ByteArray} {s1 : Int} {acc : List Int} {F : List Int × ByteArray × Int × Int → Option (List Int × List S36 × Int × Int × Bool)} {r : List Int × List S36 × Int × Int × Bool} (h : (tithebarnref16_edit.drops k (n + 1) s0 s1 0 acc).bind F = some r) :
  ∃ (x : Int) (t0 : ByteArray) (t1 t2 : Int), tithebarnref16_count.f k s0 s1 0 = some (x, t0, t1, t2) ∧ (tithebarnref16_edit.drops k n t0 t1 t2 (acc ++ [x])).bind F = some r := by
 unfold tithebarnref16_edit.drops at h
 rw [if_pos rfl, Option.bind_assoc] at h
 obtain ⟨t, ht, h⟩ := Option.bind_eq_some_iff.mp h
 exact ⟨_, _, _, _, ht, h⟩
theorem tithebarnref16_edit.adds_no {k n : Nat} {s0 : ByteArray} {s1 s2 : Int} {acc : List S36} (h : s2 ≠ 0) : tithebarnref16_edit.adds k n s0 s1 s2 acc = some (acc, s0, s1, s2) := by
 cases n <;> unfold tithebarnref16_edit.adds
 ·rfl
 ·rw [if_neg h]
theorem tithebarnref16_edit.adds_on {k n : Nat} {s0 : ByteArray} {s1 : Int} {acc : List S36} {F : List S36 × ByteArray × Int × Int → Option (List Int × List S36 × Int × Int × Bool)} {r : List Int × List S36 × Int × Int × Bool} (h : (tithebarnref16_edit.adds k (n + 1) s0 s1 0 acc).bind F = some r) :
  ∃ (x : Int) (xa : ByteArray) (xb xc : Int) (y : Int) (ya : ByteArray) (yb yc : Int) (lo : S34) (la : ByteArray) (lb lc : Int) (hi : S34) (ha : ByteArray) (hb hc : Int), tithebarnref16_count.f k s0 s1 0 = some (x, xa, xb, xc) ∧ tithebarnref16_count.f k xa xb xc = some (y, ya, yb, yc) ∧ tithebarnref16_bound.f k ya yb yc = some (lo.f0, lo.f1, lo.f2, la, lb, lc) ∧ tithebarnref16_bound.f k la lb lc = some (hi.f0, hi.f1, hi.f2, ha, hb, hc) ∧ (tithebarnref16_edit.adds k n ha hb hc (acc ++ [⟨x, y, lo, hi⟩])).bind F = some r := by
 unfold tithebarnref16_edit.adds at h
 rw [if_pos rfl, Option.bind_assoc] at h
 obtain ⟨x, hx, h⟩ := Option.bind_eq_some_iff.mp h
 rw [Option.bind_assoc] at h
 obtain ⟨y, hy, h⟩ := Option.bind_eq_some_iff.mp h
 rw [Option.bind_assoc] at h
 obtain ⟨lo, hlo, h⟩ := Option.bind_eq_some_iff.mp h
 rw [Option.bind_assoc] at h
 obtain ⟨hi, hhi, h⟩ := Option.bind_eq_some_iff.mp h
 exact ⟨_, _, _, _, _, _, _, _, ⟨_, _, _⟩, _, _, _, ⟨_, _, _⟩, _, _, _, hx, hy, hlo, hhi, h⟩
def tithebarnref16_edit.EdR (w W : World) (g R D : Nat) (vd va : Value) (d : List Int) (a : List S36) (fl nx : Int) (s0 : ByteArray) (s1 s2 : Int) : Prop :=
 IsS94 w W g s0 s1 s2 ∧ Below w.heap.size w W ∧ (W.heap[D]? = some (.cells #[vd, va, .int .i64 fl, .int .i64 nx] 32 (0, 0)) ∧ w.heap.size ≤ D) ∧ (W.heap[R]? = some (.cells #[.slice none 0 0, .slice none 0 0, .int .i64 0, .int .i64 0] 32 (0, 0)) ∧ w.heap.size ≤ R) ∧ D ≠ R ∧
 (Kd.int .i64).R 3 W w.heap.size (fun _ => True) vd d ∧ k36.R 36 W w.heap.size (fun _ => True) va a
section
variable {w W W' : World} {g R D V : Nat} {vd va v1 : Value} {d d' : List Int} {a a' : List S36} {fl nx : Int} {s0 t0 : ByteArray} {s1 s2 t1 t2 : Int}
theorem tithebarnref16_edit.EdR.is (h : tithebarnref16_edit.EdR w W g R D vd va d a fl nx s0 s1 s2) : IsS94 w W g s0 s1 s2 := h.1
theorem tithebarnref16_edit.EdR.bl (h : tithebarnref16_edit.EdR w W g R D vd va d a fl nx s0 s1 s2) : Below w.heap.size w W := h.2.1
theorem tithebarnref16_edit.EdR.dd (h : tithebarnref16_edit.EdR w W g R D vd va d a fl nx s0 s1 s2) : W.heap[D]? = some (.cells #[vd, va, .int .i64 fl, .int .i64 nx] 32 (0, 0)) := h.2.2.1.1
theorem tithebarnref16_edit.EdR.dge (h : tithebarnref16_edit.EdR w W g R D vd va d a fl nx s0 s1 s2) : w.heap.size ≤ D := h.2.2.1.2
theorem tithebarnref16_edit.EdR.rr (h : tithebarnref16_edit.EdR w W g R D vd va d a fl nx s0 s1 s2) : W.heap[R]? = some (.cells #[.slice none 0 0, .slice none 0 0, .int .i64 0, .int .i64 0] 32 (0, 0)) := h.2.2.2.1.1
theorem tithebarnref16_edit.EdR.rge (h : tithebarnref16_edit.EdR w W g R D vd va d a fl nx s0 s1 s2) : w.heap.size ≤ R := h.2.2.2.1.2
theorem tithebarnref16_edit.EdR.dr (h : tithebarnref16_edit.EdR w W g R D vd va d a fl nx s0 s1 s2) : D ≠ R := h.2.2.2.2.1
theorem tithebarnref16_edit.EdR.rowd (h : tithebarnref16_edit.EdR w W g R D vd va d a fl nx s0 s1 s2) : (Kd.int .i64).R 3 W w.heap.size (fun _ => True) vd d := h.2.2.2.2.2.1
theorem tithebarnref16_edit.EdR.rowa (h : tithebarnref16_edit.EdR w W g R D vd va d a fl nx s0 s1 s2) : k36.R 36 W w.heap.size (fun _ => True) va a := h.2.2.2.2.2.2
theorem tithebarnref16_edit.EdR.below (h : tithebarnref16_edit.EdR w W g R D vd va d a fl nx s0 s1 s2) (hb : Below W.heap.size W W') : tithebarnref16_edit.EdR w W' g R D vd va d a fl nx s0 s1 s2 :=
 ⟨h.is.below hb, below_then h.bl h.bl.size hb, ⟨(hb.block D (blk_lt h.dd)).trans h.dd, h.dge⟩, ⟨(hb.block R (blk_lt h.rr)).trans h.rr, h.rge⟩, h.dr, Kd.R_below h.rowd hb, Kd.R_below h.rowa hb⟩
theorem tithebarnref16_edit.EdR.drew (h : tithebarnref16_edit.EdR w W g R D vd va d a fl nx s0 s1 s2) : tithebarnref16_edit.EdR w W.drew g R D vd va d a fl nx s0 s1 s2 := h.below (below_drew (Below.refl _ _))
theorem tithebarnref16_edit.EdR.nd (h : tithebarnref16_edit.EdR w W g R D vd va d a fl nx s0 s1 s2) {k t : Nat} {cs : Array Value} (hk : W.heap[k]? = some (.cells cs t (0, 0))) (ht : 3 ≠ t) : some k ≠ vd.ownBlock := Kd.R_ne h.rowd hk ht
theorem tithebarnref16_edit.EdR.na (h : tithebarnref16_edit.EdR w W g R D vd va d a fl nx s0 s1 s2) {k t : Nat} {cs : Array Value} (hk : W.heap[k]? = some (.cells cs t (0, 0))) (ht : 36 ≠ t) : some k ≠ va.ownBlock := Kd.R_ne h.rowa hk ht
theorem tithebarnref16_edit.EdR.call (h : tithebarnref16_edit.EdR w W g R D vd va d a fl nx s0 s1 s2) (hi : IsS94 w W' g t0 t1 t2) (hb : Below w.heap.size w W') (hk : KeepBut W W' g none) : tithebarnref16_edit.EdR w W' g R D vd va d a fl nx t0 t1 t2 :=
 have hq : Kept W W' (fun k => k = g) := ⟨hk.1, fun i hi hn => hk.2 i hi hn (by simp)⟩
 ⟨hi, hb, ⟨blk_kept h.dd hq (blk_ne h.dd h.is.1 (by decide)), h.dge⟩, ⟨blk_kept h.rr hq (blk_ne h.rr h.is.1 (by decide)), h.rge⟩, h.dr,
  Kd.R_mono (Kd.R_kept (Kd.R_tight rfl h.rowd) hq (fun k hk' he => h.nd h.is.1 (by decide) (he ▸ hk'))) (fun _ _ => trivial), Kd.R_mono (Kd.R_kept (Kd.R_tight rfl h.rowa) hq (fun k hk' he => h.na h.is.1 (by decide) (he ▸ hk'))) (fun _ _ => trivial)⟩
theorem tithebarnref16_edit.EdR.appd (h : tithebarnref16_edit.EdR w W g R D vd va d a fl nx s0 s1 s2) (hg : W.grownBy W' vd.ownBlock) (hr : (Kd.int .i64).R 3 W' w.heap.size (fun _ => True) v1 d') (hb : Below w.heap.size w W') : tithebarnref16_edit.EdR w (W'.setCell ⟨D, 0, none⟩ v1) g R D v1 va d' a fl nx s0 s1 s2 := by
 have dd := blk_grown h.dd hg (h.nd h.dd (by decide))
 have rr := blk_grown h.rr hg (h.nd h.rr (by decide))
 have ra := Kd.R_drop (Kd.R_grown (Kd.R_apartR h.rowa h.rowd (by decide)) hg (fun _ hk => hk.2))
 have gg := blk_grown h.is.1 hg (h.nd h.is.1 (by decide))
 exact ⟨⟨blk_far gg (p := ⟨D, 0, none⟩) (blk_ne h.is.1 h.dd (by decide)) v1, h.is.2⟩, below_set hb h.dge, ⟨blk_set dd 0 v1, h.dge⟩, ⟨blk_far rr (p := ⟨D, 0, none⟩) (Ne.symm h.dr) v1, h.rge⟩, h.dr, Kd.R_set hr dd (by decide) 0 v1, Kd.R_set ra dd (by decide) 0 v1⟩
theorem tithebarnref16_edit.EdR.appa (h : tithebarnref16_edit.EdR w W g R D vd va d a fl nx s0 s1 s2) (hg : W.grownBy W' va.ownBlock) (hr : k36.R 36 W' w.heap.size (fun _ => True) v1 a') (hb : Below w.heap.size w W') : tithebarnref16_edit.EdR w (W'.setCell ⟨D, 1, none⟩ v1) g R D vd v1 d a' fl nx s0 s1 s2 := by
 have dd := blk_grown h.dd hg (h.na h.dd (by decide))
 have rr := blk_grown h.rr hg (h.na h.rr (by decide))
 have ra := Kd.R_drop (Kd.R_grown (Kd.R_apartR h.rowd h.rowa (by decide)) hg (fun _ hk => hk.2))
 have gg := blk_grown h.is.1 hg (h.na h.is.1 (by decide))
 exact ⟨⟨blk_far gg (p := ⟨D, 1, none⟩) (blk_ne h.is.1 h.dd (by decide)) v1, h.is.2⟩, below_set hb h.dge, ⟨blk_set dd 1 v1, h.dge⟩, ⟨blk_far rr (p := ⟨D, 1, none⟩) (Ne.symm h.dr) v1, h.rge⟩, h.dr, Kd.R_set ra dd (by decide) 1 v1, Kd.R_set hr dd (by decide) 1 v1⟩
theorem tithebarnref16_edit.EdR.setF (h : tithebarnref16_edit.EdR w W g R D vd va d a fl nx s0 s1 s2) (x : Int) : tithebarnref16_edit.EdR w (W.setCell ⟨D, 2, none⟩ (.int .i64 x)) g R D vd va d a x nx s0 s1 s2 :=
 ⟨⟨blk_far h.is.1 (p := ⟨D, 2, none⟩) (blk_ne h.is.1 h.dd (by decide)) _, h.is.2⟩, below_set h.bl h.dge, ⟨blk_set h.dd 2 _, h.dge⟩, ⟨blk_far h.rr (p := ⟨D, 2, none⟩) (Ne.symm h.dr) _, h.rge⟩, h.dr, Kd.R_set h.rowd h.dd (by decide) 2 _, Kd.R_set h.rowa h.dd (by decide) 2 _⟩
theorem tithebarnref16_edit.EdR.setX (h : tithebarnref16_edit.EdR w W g R D vd va d a fl nx s0 s1 s2) (x : Int) : tithebarnref16_edit.EdR w (W.setCell ⟨D, 3, none⟩ (.int .i64 x)) g R D vd va d a fl x s0 s1 s2 :=
 ⟨⟨blk_far h.is.1 (p := ⟨D, 3, none⟩) (blk_ne h.is.1 h.dd (by decide)) _, h.is.2⟩, below_set h.bl h.dge, ⟨blk_set h.dd 3 _, h.dge⟩, ⟨blk_far h.rr (p := ⟨D, 3, none⟩) (Ne.symm h.dr) _, h.rge⟩, h.dr, Kd.R_set h.rowd h.dd (by decide) 3 _, Kd.R_set h.rowa h.dd (by decide) 3 _⟩
theorem tithebarnref16_edit.EdR.out (h : tithebarnref16_edit.EdR w W g R D vd va d a fl nx s0 s1 s2) (x0 x1 x2 x3 : Value) : Below w.heap.size w ((((W.setCell ⟨R, 0, none⟩ x0).setCell ⟨R, 1, none⟩ x1).setCell ⟨R, 2, none⟩ x2).setCell ⟨R, 3, none⟩ x3) := below_set (below_set (below_set (below_set h.bl h.rge) h.rge) h.rge) h.rge
theorem tithebarnref16_edit.EdR.outd (h : tithebarnref16_edit.EdR w W g R D vd va d a fl nx s0 s1 s2) (x0 x1 x2 x3 : Value) : (Kd.int .i64).R 3 ((((W.setCell ⟨R, 0, none⟩ x0).setCell ⟨R, 1, none⟩ x1).setCell ⟨R, 2, none⟩ x2).setCell ⟨R, 3, none⟩ x3) w.heap.size (fun _ => True) vd d :=
 have b0 := h.rr
 have b1 := blk_set b0 0 x0
 have b2 := blk_set b1 1 x1
 have b3 := blk_set b2 2 x2
 Kd.R_set (Kd.R_set (Kd.R_set (Kd.R_set h.rowd b0 (by decide) 0 x0) b1 (by decide) 1 x1) b2 (by decide) 2 x2) b3 (by decide) 3 x3
theorem tithebarnref16_edit.EdR.outa (h : tithebarnref16_edit.EdR w W g R D vd va d a fl nx s0 s1 s2) (x0 x1 x2 x3 : Value) : k36.R 36 ((((W.setCell ⟨R, 0, none⟩ x0).setCell ⟨R, 1, none⟩ x1).setCell ⟨R, 2, none⟩ x2).setCell ⟨R, 3, none⟩ x3) w.heap.size (fun _ => True) va a :=
 have b0 := h.rr
 have b1 := blk_set b0 0 x0
 have b2 := blk_set b1 1 x1
 have b3 := blk_set b2 2 x2
 Kd.R_set (Kd.R_set (Kd.R_set (Kd.R_set h.rowa b0 (by decide) 0 x0) b1 (by decide) 1 x1) b2 (by decide) 2 x2) b3 (by decide) 3 x3
theorem tithebarnref16_edit.EdR.e2 (h : tithebarnref16_edit.EdR w W g R D vd va d a fl nx s0 s1 s2) : W.cell? ⟨g, 2, none⟩ = some (.int .i64 s2) := (blk_cell h.is.1 2).trans rfl
theorem tithebarnref16_edit.EdR.d0 (h : tithebarnref16_edit.EdR w W g R D vd va d a fl nx s0 s1 s2) : W.cell? ⟨D, 0, none⟩ = some vd := (blk_cell h.dd 0).trans rfl
theorem tithebarnref16_edit.EdR.d1 (h : tithebarnref16_edit.EdR w W g R D vd va d a fl nx s0 s1 s2) : W.cell? ⟨D, 1, none⟩ = some va := (blk_cell h.dd 1).trans rfl
theorem tithebarnref16_edit.EdR.d2 (h : tithebarnref16_edit.EdR w W g R D vd va d a fl nx s0 s1 s2) : W.cell? ⟨D, 2, none⟩ = some (.int .i64 fl) := (blk_cell h.dd 2).trans rfl
theorem tithebarnref16_edit.EdR.d3 (h : tithebarnref16_edit.EdR w W g R D vd va d a fl nx s0 s1 s2) : W.cell? ⟨D, 3, none⟩ = some (.int .i64 nx) := (blk_cell h.dd 3).trans rfl
theorem tithebarnref16_edit.EdR.r0 (h : tithebarnref16_edit.EdR w W g R D vd va d a fl nx s0 s1 s2) : W.cell? ⟨R, 0, none⟩ = some (.slice none 0 0) := (blk_cell h.rr 0).trans rfl
theorem tithebarnref16_edit.EdR.r1 (h : tithebarnref16_edit.EdR w W g R D vd va d a fl nx s0 s1 s2) : W.cell? ⟨R, 1, none⟩ = some (.slice none 0 0) := (blk_cell h.rr 1).trans rfl
theorem tithebarnref16_edit.EdR.r2 (h : tithebarnref16_edit.EdR w W g R D vd va d a fl nx s0 s1 s2) : W.cell? ⟨R, 2, none⟩ = some (.int .i64 0) := (blk_cell h.rr 2).trans rfl
theorem tithebarnref16_edit.EdR.r3 (h : tithebarnref16_edit.EdR w W g R D vd va d a fl nx s0 s1 s2) : W.cell? ⟨R, 3, none⟩ = some (.int .i64 0) := (blk_cell h.rr 3).trans rfl
end
theorem tithebarnref16_edit.bound_at {k : Nat} {w0 w : World} {g : Nat} {s0 : ByteArray} {s1 s2 : Int} {y : S34} {t0 : ByteArray} {t1 t2 : Int} (hv : tithebarnref16_bound.f k s0 s1 s2 = some (y.f0, y.f1, y.f2, t0, t1, t2)) (hI : IsS94 w0 w g s0 s1 s2) (hB : Below w0.heap.size w0 w) :
  Calls Try.prog 57 #[.pointer (some ⟨g, 0, none⟩)] w fun e w' => e = .returned (.agg #[.bool y.f0, .int .i64 y.f1, .string y.f2]) ∧ IsS94 w0 w' g t0 t1 t2 ∧ Below w0.heap.size w0 w' ∧ KeepBut w w' g none := tithebarnref16_bound.calls k g _ _ _ _ _ _ _ _ _ w0 w hI hB hv
def tithebarnref16_edit.T20 : Bool × List (List Nat × List Nat) := (true, [([], []), ([], []), ([1], [1]), ([2], [2]), ([3], [3]), ([4, 3], [3, 4]), ([3, 5], [3, 5]), ([6, 3], [6]), ([7], [7]), ([8, 7, 7], [7, 8]), ([9, 7], [7, 9]), ([7, 10], [7, 10]), ([11, 9], [11]), ([12], [12]), ([13, 12, 12], [12, 13]), ([12, 14], [12, 14]), ([0, 14, 0], [0]), ([15, 16, 0, 1, 2, 3, 4, 5, 6, 7, 8, 9, 10, 11, 12, 13, 14, 15, 16], [15])])
theorem tithebarnref16_edit.tab20 : rtab .any (opsOf Try.f32 20) = tithebarnref16_edit.T20 := by kernel_rfl
set_option maxHeartbeats 16000000 in
set_option maxRecDepth 100000 in
theorem tithebarnref16_edit.calls (k : Nat) (text : ByteArray) (d : List Int) (a : List S36) (fl nx : Int) (ok : Bool) (w : World) (h : tithebarnref16_edit.f k text = some (d, a, fl, nx, ok)) :
  Calls Try.prog 32 #[.string text] w fun e w' => ∃ v0_ v1_ : Value, e = .returned (.tuple #[.agg #[v0_, v1_, .int .i64 fl, .int .i64 nx], .bool ok]) ∧ Kd.R (Kd.int .i64) 3 w' w.heap.size (fun _ => True) v0_ d ∧ Kd.R k36 36 w' w.heap.size (fun _ => True) v1_ a ∧ Below w.heap.size w w' := by
 unfold tithebarnref16_edit.f at h
 obtain ⟨⟨n, x0, x1, x2⟩, hn, h⟩ := Option.bind_eq_some_iff.mp h
 simp only at h
 split at h
 rotate_left
 ·exact absurd h (by simp)
 rename_i hnr
 have HN := Aside0.mk hn; have HQ := Aside0.mk h; have HNR := Aside0.mk hnr; clear hn h hnr
 have HB0 := Aside0.mk (below_alloc (Below.refl w.heap.size w) (.cells #[.slice none 0 0, .slice none 0 0, .int .i64 0, .int .i64 0] 32))
 have HR0 := Aside0.mk (heap_alloc_new w (.cells #[.slice none 0 0, .slice none 0 0, .int .i64 0, .int .i64 0] 32))
 go_enter Try.func32, Try.ntmps32
 go_wp2_with (first | ((with_reducible refine gate_dst (N := 17) rfl ?_); refine box_event ?hg (N := 17) ?hd (cs := #[.string text, .int .i64 0, .int .i64 0]) (t := 94) ?hr ?_; (case hd => rfl); (case hg => rfl); (case hr => first | (go_simp; done) | (go_simp; rfl)); intro g hdg w3 hd0 hb3; have HDG := Aside0.mk hdg; clear hdg))
 have HR3 := Aside0.mk ((hb3.block _ (blk_lt HR0.out)).trans HR0.out)
 have HB3 := Aside0.mk (below_then HB0.out HB0.out.size hb3)
 have HI3 : Aside0 (IsS94 w w3 g text 0 0) := ⟨⟨hd0, by have := HB0.out.size; have := HDG.out; omega⟩⟩
 clear hd0 hb3 HDG HR0 HB0
 have HS : Aside0 (tithebarnref16_edit.EdR w (w3.alloc (.cells #[.slice none 0 0, .slice none 0 0, .int .i64 0, .int .i64 0] 32)) g w.heap.size w3.heap.size (.slice none 0 0) (.slice none 0 0) [] [] 0 0 text 0 0) :=
  have ha := below_alloc (Below.refl w3.heap.size w3) (.cells #[.slice none 0 0, .slice none 0 0, .int .i64 0, .int .i64 0] 32)
  ⟨HI3.out.below ha, below_then HB3.out HB3.out.size ha, ⟨heap_alloc_new w3 _, HB3.out.size⟩, ⟨(ha.block _ (blk_lt HR3.out)).trans HR3.out, Nat.le_refl _⟩, (fun e => by have := blk_lt HR3.out; omega), Kd.R_nil _ _ _ _ _, Kd.R_nil _ _ _ _ _⟩
 clear HI3 HB3 HR3
 go_wp2_with fail
 generalize w3.heap.size = D at HS ⊢
 generalize hRR : w.heap.size = R at HS ⊢
 clear hRR
 generalize World.alloc w3 _ = w4 at HS ⊢
 refine (tithebarnref16_count.calls k g _ _ _ _ _ _ _ w _ HS.out.is HS.out.bl HN.out).mono ?_; rintro e w5 ⟨rfl, hi5, hb5, hk5⟩
 have HS5 := Aside0.mk (HS.out.call hi5 hb5 hk5); clear hi5 hb5 hk5 HS HN
 go_upto_block 0 with fail
 go_cut [] (fun wc => ∃ (vd : Value) (dd : List Int) (s0 : ByteArray) (s1 s2 : Int), dd.length ≤ 999999999 ∧ Aside0 (tithebarnref16_edit.EdR w wc g R D vd (.slice none 0 0) dd [] 0 0 s0 s1 s2) ∧ Aside0 (tithebarnref16_edit.mid k n (dd, s0, s1, s2) = some (d, a, fl, nx, ok)))
 case first =>
  go_wp2_with fail
  go_loopg [7] n.toNat (fun gk u wx => ∃ (i : Nat) (vd : Value) (dd : List Int) (s0 : ByteArray) (s1 s2 : Int), i ≤ n.toNat ∧ gk = n.toNat - i ∧ u = .int .i64 (i : Int) ∧ dd.length ≤ i ∧ Aside0 (tithebarnref16_edit.EdR w wx g R D vd (.slice none 0 0) dd [] 0 0 s0 s1 s2) ∧ Aside0 ((tithebarnref16_edit.drops k (n.toNat - i) s0 s1 s2 dd).bind (tithebarnref16_edit.mid k n) = some (d, a, fl, nx, ok)))
  case atStart => exact ⟨0, _, [], x0, x1, x2, by omega, by omega, rfl, by simp, HS5, HQ⟩
  case round =>
   clear HS5 HQ
   obtain ⟨i, vd, dd, s0, s1, s2, hi, rfl, rfl, hal, HS, HQ⟩ := hrel
   obtain ⟨Av, cv, rfl⟩ := Kd.R_slice HS.out.rowd
   have hnr := HNR.out
   by_cases hlt : (i : Int) < n
   ·obtain ⟨j, hj⟩ : ∃ j, n.toNat - i = j + 1 := ⟨n.toNat - i - 1, by omega⟩
    have k1 : decide ((i : Int) < n) = true := decide_eq_true hlt
    have HJ := Aside0.mk hj
    have hq := HQ.out
    rw [hj] at hq
    have q2 := HS.out.e2
    by_cases hz : s2 = 0
    ·subst hz
     have hz1 : ((0 : Int) == 0) = true := rfl
     obtain ⟨x, t0, t1, t2, hx, hq⟩ := tithebarnref16_edit.drops_on hq
     have HX := Aside0.mk hx; have HQ' := Aside0.mk hq; have HL := Aside0.mk hlt; clear hq hx HQ hj hlt hi hnr
     go_wp2_with fail
     refine (tithebarnref16_count.calls k g _ _ _ _ _ _ _ w _ HS.out.is HS.out.bl HX.out).mono ?_; rintro e w6 ⟨rfl, hi6, hb6, hk6⟩
     have HS6 := Aside0.mk (HS.out.call hi6 hb6 hk6); clear hi6 hb6 hk6 HS HX q2 hz1
     have q0 := HS6.out.d0
     have hal2 : dd.length ≤ 999999999 := by have := HL.out; have := HNR.out; omega
     go_wp2_with (at_builtin; refine Kd.R_append (Kd.int .i64) (w0 := w) w.heap.size rfl (.tmp 35) (.tmp 37) 30 3 (.int .i64 0) 8 rfl Try.underlying30 info3 rfl (by decide) (by omega) (.slice Av dd.length cv) dd x [.int .i64 x] (fun _ => True) (fun _ => False) rfl rfl rfl (fun _ h => h.elim) (fun _ _ => trivial) HS6.out.rowd HS6.out.bl HS6.out.bl.size (by omega) ?_; intro v1 w7 ho6 hb6 hg6 _; obtain ⟨A6, c6, hv1⟩ := Kd.R_slice ho6; rw [show (dd ++ [x]).length = dd.length + 1 by simp] at hv1; subst hv1; have hD6 := blk_grown HS6.out.dd hg6 (HS6.out.nd HS6.out.dd (by decide)); have hd6 : w7.cell? ⟨D, 0, none⟩ = some (.slice Av dd.length cv) := (blk_cell hD6 0).trans rfl; have hf6 := blk_frozen hD6 0; have HS7 := Aside0.mk (HS6.out.appd hg6 ho6 hb6); clear ho6 hb6 hg6 HS6 hD6 q0)
     go_roundg j
     case measure => have := HJ.out; omega
     case rel => exact ⟨i + 1, _, dd ++ [x], t0, t1, t2, by have := HJ.out; omega, by have := HJ.out; omega, congrArg (Value.int .i64) ((w64 (by have := HL.out; have := HNR.out; omega) (by have := HL.out; have := HNR.out; omega)).trans (by omega)), by simp; omega, HS7, ⟨by have h := HQ'.out; rwa [show n.toNat - (i + 1) = j by have := HJ.out; omega]⟩⟩
    ·rw [tithebarnref16_edit.drops_no hz, Option.bind_some] at hq
     have hz1 : (s2 == 0) = false := beq_eq_false_iff_ne.mpr hz
     have HZ := Aside0.mk hz; have HQ' := Aside0.mk hq; clear hz hq HQ
     go_wp2_with fail
     go_meet
     case rel => exact ⟨_, dd, s0, s1, s2, by omega, HS, HQ'⟩
   ·have k1 : decide ((i : Int) < n) = false := decide_eq_false hlt
    have hq := HQ.out
    rw [show n.toNat - i = 0 by omega] at hq
    unfold tithebarnref16_edit.drops at hq
    rw [Option.bind_some] at hq
    have HQ' := Aside0.mk hq; clear hq HQ
    go_wp2_with fail
    go_meet
    case rel => exact ⟨_, dd, s0, s1, s2, by omega, HS, HQ'⟩
 case rest =>
  clear HS5 HQ
  obtain ⟨vd, dd, s0, s1, s2, hdl, HS, HQ⟩ := hcut
  obtain ⟨Av, cv, rfl⟩ := Kd.R_slice HS.out.rowd
  have h := HQ.out
  unfold tithebarnref16_edit.mid at h
  obtain ⟨⟨m, y0, y1, y2⟩, hm, h⟩ := Option.bind_eq_some_iff.mp h
  simp only at h
  split at h
  rotate_left
  ·exact absurd h (by simp)
  rename_i hmr
  have HM := Aside0.mk hm; have HQ2 := Aside0.mk h; have HMR := Aside0.mk hmr; clear hm h hmr HQ hdl
  go_wp2_with fail
  refine (tithebarnref16_count.calls k g _ _ _ _ _ _ _ w _ HS.out.is HS.out.bl HM.out).mono ?_; rintro e w6 ⟨rfl, hi6, hb6, hk6⟩
  have HS6 := Aside0.mk (HS.out.call hi6 hb6 hk6); clear hi6 hb6 hk6 HS HM
  go_upto_block 2 with fail
  go_cut [] (fun wc => ∃ (va : Value) (aa : List S36) (s0 : ByteArray) (s1 s2 : Int), aa.length ≤ 999999999 ∧ Aside0 (tithebarnref16_edit.EdR w wc g R D (.slice Av dd.length cv) va dd aa 0 0 s0 s1 s2) ∧ Aside0 (tithebarnref16_edit.tail k n m dd (aa, s0, s1, s2) = some (d, a, fl, nx, ok)))
  case first =>
   go_wp2_with fail
   go_loopg [10] m.toNat (fun gk u wx => ∃ (i : Nat) (va : Value) (aa : List S36) (s0 : ByteArray) (s1 s2 : Int), i ≤ m.toNat ∧ gk = m.toNat - i ∧ u = .int .i64 (i : Int) ∧ aa.length ≤ i ∧ Aside0 (tithebarnref16_edit.EdR w wx g R D (.slice Av dd.length cv) va dd aa 0 0 s0 s1 s2) ∧ Aside0 ((tithebarnref16_edit.adds k (m.toNat - i) s0 s1 s2 aa).bind (tithebarnref16_edit.tail k n m dd) = some (d, a, fl, nx, ok)))
   case atStart => exact ⟨0, _, [], y0, y1, y2, by omega, by omega, rfl, by simp, HS6, HQ2⟩
   case round =>
    clear HS6 HQ2
    obtain ⟨i, va, aa, s0, s1, s2, hi, rfl, rfl, hal, HS, HQ⟩ := hrel
    obtain ⟨Aw, cw, rfl⟩ := Kd.R_slice HS.out.rowa
    have hmr := HMR.out
    by_cases hlt : (i : Int) < m
    ·obtain ⟨j, hj⟩ : ∃ j, m.toNat - i = j + 1 := ⟨m.toNat - i - 1, by omega⟩
     have k1 : decide ((i : Int) < m) = true := decide_eq_true hlt
     have HJ := Aside0.mk hj
     have hq := HQ.out
     rw [hj] at hq
     have q2 := HS.out.e2
     by_cases hz : s2 = 0
     ·subst hz
      have hz1 : ((0 : Int) == 0) = true := rfl
      obtain ⟨x, xa, xb, xc, y, ya, yb, yc, lo, la, lb, lc, hi, ha, hb, hc, hx, hy, hlo, hhi, hq⟩ := tithebarnref16_edit.adds_on hq
      have HX := Aside0.mk hx; have HY := Aside0.mk hy; have HLO := Aside0.mk hlo; have HHI := Aside0.mk hhi; have HQ' := Aside0.mk hq; have HL := Aside0.mk hlt; clear hq hx hy hlo hhi HQ hj hlt hmr
      have hal2 : aa.length ≤ 999999999 := by have := HL.out; have := HMR.out; omega
      go_wp2_with fail
      refine (tithebarnref16_count.calls k g _ _ _ _ _ _ _ w _ HS.out.is HS.out.bl HX.out).mono ?_; rintro e w7 ⟨rfl, hi7, hb7, hk7⟩
      have HS7 := Aside0.mk (HS.out.call hi7 hb7 hk7); clear hi7 hb7 hk7 HS HX q2 hz1 k1
      go_wp2_with fail
      refine (tithebarnref16_count.calls k g _ _ _ _ _ _ _ w _ HS7.out.is HS7.out.bl HY.out).mono ?_; rintro e w8 ⟨rfl, hi8, hb8, hk8⟩
      have HS8 := Aside0.mk (HS7.out.call hi8 hb8 hk8); clear hi8 hb8 hk8 HS7 HY
      go_wp2_with fail
      refine (tithebarnref16_edit.bound_at HLO.out HS8.out.is HS8.out.bl).mono ?_; rintro e w9 ⟨rfl, hi9, hb9, hk9⟩
      have HS9 := Aside0.mk (HS8.out.call hi9 hb9 hk9); clear hi9 hb9 hk9 HS8 HLO
      have HV := Aside0.mk (heap_alloc_new w9 (.cells #[.bool lo.f0, .int .i64 lo.f1, .string lo.f2] 34)); have HS10 := Aside0.mk (HS9.out.below (below_alloc (Below.refl _ _) (.cells #[.bool lo.f0, .int .i64 lo.f1, .string lo.f2] 34))); clear HS9
      go_wp2_with fail
      generalize w9.heap.size = V at HV ⊢
      generalize World.alloc w9 _ = w10 at HV HS10 ⊢
      refine (tithebarnref16_edit.bound_at HHI.out HS10.out.is HS10.out.bl).mono ?_; rintro e w11 ⟨rfl, hi11, hb11, hk11⟩
      have hv2 := (hk11.2 _ (blk_lt HV.out) (blk_ne HV.out HS10.out.is.1 (by decide)) (by simp)).trans HV.out
      have HS11 := Aside0.mk (HS10.out.call hi11 hb11 hk11); clear hi11 hb11 hk11 HS10 HHI HV
      have hba := below_alloc (Below.refl w11.heap.size w11) (.cells #[.bool hi.f0, .int .i64 hi.f1, .string hi.f2] 34)
      have HV1 := Aside0.mk ((hba.block _ (blk_lt hv2)).trans hv2); have HV2 := Aside0.mk (heap_alloc_new w11 (.cells #[.bool hi.f0, .int .i64 hi.f1, .string hi.f2] 34)); have HS12 := Aside0.mk (HS11.out.below hba); clear HS11 hv2 hba
      go_upto_region 17 with (fail)
      generalize w11.heap.size = V2 at HV2 ⊢
      generalize World.alloc w11 _ = w12 at HV1 HV2 HS12 ⊢
      have q1 := HS12.out.d1
      have zlo0 : w12.cell? ⟨V, 0, none⟩ = some (.bool lo.f0) := (blk_cell HV1.out 0).trans rfl
      have zlo1 : w12.cell? ⟨V, 1, none⟩ = some (.int .i64 lo.f1) := (blk_cell HV1.out 1).trans rfl
      have zlo2 : w12.cell? ⟨V, 2, none⟩ = some (.string lo.f2) := (blk_cell HV1.out 2).trans rfl
      have zhi0 : w12.cell? ⟨V2, 0, none⟩ = some (.bool hi.f0) := (blk_cell HV2.out 0).trans rfl
      have zhi1 : w12.cell? ⟨V2, 1, none⟩ = some (.int .i64 hi.f1) := (blk_cell HV2.out 1).trans rfl
      have zhi2 : w12.cell? ⟨V2, 2, none⟩ = some (.string hi.f2) := (blk_cell HV2.out 2).trans rfl
      go_wp2_with (at_builtin; refine Kd.R_append k36 (w0 := w) w.heap.size rfl (.tmp 63) (.tmp 69) 24 36 (.agg #[(.int .i64 0), (.int .i64 0), (.bool false), (.int .i64 0), (.string ⟨#[]⟩), (.bool false), (.int .i64 0), (.string ⟨#[]⟩)]) 80 rfl Try.underlying24 info36 rfl (by decide) (by omega) (.slice Aw aa.length cw) aa ⟨x, y, lo, hi⟩ [.int .i64 x, .int .i64 y, .bool lo.f0, .int .i64 lo.f1, .string lo.f2, .bool hi.f0, .int .i64 hi.f1, .string hi.f2] (fun _ => True) (fun _ => False) rfl rfl (k36_mkM _ _ _ _) (fun _ h => h.elim) (fun _ _ => trivial) HS12.out.rowa HS12.out.bl HS12.out.bl.size (by omega) ?_; intro v1 w13 ho6 hb6 hg6 _; obtain ⟨A6, c6, hv1⟩ := Kd.R_slice ho6; rw [show (aa ++ [(⟨x, y, lo, hi⟩ : S36)]).length = aa.length + 1 by simp] at hv1; subst hv1; have hD6 := blk_grown HS12.out.dd hg6 (HS12.out.na HS12.out.dd (by decide)); have hd6 : w13.cell? ⟨D, 1, none⟩ = some (.slice Aw aa.length cw) := (blk_cell hD6 1).trans rfl; have hf6 := blk_frozen hD6 1; have HS13 := Aside0.mk (HS12.out.appa hg6 ho6 hb6); clear ho6 hb6 hg6 HS12 hD6 q1)
      go_roundg j
      case measure => have := HJ.out; omega
      case rel => exact ⟨i + 1, _, aa ++ [⟨x, y, lo, hi⟩], ha, hb, hc, by have := HJ.out; omega, by have := HJ.out; omega, congrArg (Value.int .i64) ((w64 (by have := HL.out; have := HMR.out; omega) (by have := HL.out; have := HMR.out; omega)).trans (by omega)), by simp; omega, HS13, ⟨by have h := HQ'.out; rwa [show m.toNat - (i + 1) = j by have := HJ.out; omega]⟩⟩
     ·rw [tithebarnref16_edit.adds_no hz, Option.bind_some] at hq
      have hz1 : (s2 == 0) = false := beq_eq_false_iff_ne.mpr hz
      have HZ := Aside0.mk hz; have HQ' := Aside0.mk hq; clear hz hq HQ
      go_wp2_with fail
      go_meet
      case rel => exact ⟨_, aa, s0, s1, s2, by omega, HS, HQ'⟩
    ·have k1 : decide ((i : Int) < m) = false := decide_eq_false hlt
     have hq := HQ.out
     rw [show m.toNat - i = 0 by omega] at hq
     unfold tithebarnref16_edit.adds at hq
     rw [Option.bind_some] at hq
     have HQ' := Aside0.mk hq; clear hq HQ
     go_wp2_with fail
     go_meet
     case rel => exact ⟨_, aa, s0, s1, s2, by omega, HS, HQ'⟩
  case rest =>
   clear HS6 HQ2
   obtain ⟨va, aa, s0, s1, s2, hal, HS, HQ⟩ := hcut
   obtain ⟨Aw, cw, rfl⟩ := Kd.R_slice HS.out.rowa
   have h := HQ.out
   unfold tithebarnref16_edit.tail at h
   obtain ⟨⟨x, xa, xb, xc⟩, hx, h⟩ := Option.bind_eq_some_iff.mp h
   obtain ⟨⟨y, ya, yb, yc⟩, hy, h⟩ := Option.bind_eq_some_iff.mp h
   simp only at h hx hy
   have HX := Aside0.mk hx; have HY := Aside0.mk hy; have HFIN := Aside0.mk h; clear hx hy h HQ hal
   go_wp2_with fail
   refine (tithebarnref16_count.calls k g _ _ _ _ _ _ _ w _ HS.out.is HS.out.bl HX.out).mono ?_; rintro e w7 ⟨rfl, hi7, hb7, hk7⟩
   have HS7 := Aside0.mk (HS.out.call hi7 hb7 hk7); clear hi7 hb7 hk7 HS HX
   have q0 := HS7.out.d0; have q1 := HS7.out.d1; have q2 := HS7.out.d2; have q3 := HS7.out.d3
   have p2 := blk_frozen HS7.out.dd 2; have p3 := blk_frozen HS7.out.dd 3
   go_wp2_with fail
   have HS8 := Aside0.mk (HS7.out.setF x)
   clear HS7 q0 q1 q2 q3 p2 p3
   refine (tithebarnref16_count.calls k g _ _ _ _ _ _ _ w _ HS8.out.is HS8.out.bl HY.out).mono ?_; rintro e w9 ⟨rfl, hi9, hb9, hk9⟩
   have HS9 := Aside0.mk (HS8.out.call hi9 hb9 hk9); clear hi9 hb9 hk9 HS8 HY
   have q0 := HS9.out.d0; have q1 := HS9.out.d1; have q2 := HS9.out.d2; have q3 := HS9.out.d3
   have p2 := blk_frozen HS9.out.dd 2; have p3 := blk_frozen HS9.out.dd 3
   go_upto_region 20 with (fail)
   have hS := HS9.out.setX y
   clear HS9 q0 q1 q2 q3 p2 p3
   generalize w9.setCell ⟨D, 3, none⟩ (.int .i64 y) = w10 at hS ⊢
   have hf := HFIN.out
   unfold tithebarnref16_edit.fin at hf
   clear HFIN
   by_cases hn0 : 0 ≤ n
   ·rw [if_pos hn0] at hf
    have g1 : decide ((0 : Int) ≤ n) = true := decide_eq_true hn0
    have HN0 := Aside0.mk hn0; clear hn0
    by_cases hm0 : 0 ≤ m
    ·rw [if_pos hm0] at hf
     have g2 : decide ((0 : Int) ≤ m) = true := decide_eq_true hm0
     have HM0 := Aside0.mk hm0; clear hm0
     obtain ⟨⟨dn, da, db, dc⟩, hdn, hf⟩ := Option.bind_eq_some_iff.mp hf
     simp only at hf
     have HDN := Aside0.mk hdn; clear hdn
     by_cases hz : dn = 0
     ·subst hz
      have hz1 : ((0 : Int) == 0) = true := rfl
      rw [if_pos rfl] at hf
      obtain ⟨b, hb, hf⟩ := Option.bind_eq_some_iff.mp hf
      have HRB := Aside0.mk hb; clear hb
      obtain ⟨rfl, rfl, rfl, rfl, rfl⟩ : dd = d ∧ aa = a ∧ x = fl ∧ y = nx ∧ b = ok := by simpa using hf
      clear hf
      refine start_ (n := 18) (S := fun w' => True) (ds := []) (bs_ 18 0) (by kernel_rfl) rfl rfl trivial (fun hHeld => ?_)
      refine with_tab tithebarnref16_edit.tab20 (fun HT_ => ?_)
      have hS := hS.drew
      generalize World.drew _ = w4 at hS hHeld ⊢
      refine pA_ 1 (some 79) (bs_ 18 2) HT_ ?_ ?_ ?_ ?_ ?_
      rotate_left; (intro w'; go_simp; with_reducible rfl); rotate_left; (simp only [PT_]; rfl)
      refine pA_ 2 (some 80) (bs_ 18 6) HT_ ?_ ?_ ?_ ?_ ?_
      rotate_left; (intro w'; go_simp; with_reducible rfl); rotate_left; (simp only [PT_]; rfl)
      refine pA_ 3 (some 81) (bs_ 18 14) HT_ ?_ ?_ ?_ ?_ ?_
      rotate_left; (intro w'; go_simp; with_reducible rfl); rotate_left; (simp only [PT_]; rfl)
      refine pA_ 4 (some 82) (bs_ 18 30) HT_ ?_ ?_ ?_ ?_ ?_
      rotate_left; (intro w'; go_simp; with_reducible rfl); rotate_left; (simp only [PT_]; rfl)
      refine pA_ 5 (some 83) (bs_ 18 62) HT_ ?_ ?_ ?_ ?_ ?_
      rotate_left; (intro w'; go_simp; with_reducible rfl); rotate_left; (simp only [PT_]; rfl)
      refine pA_ 6 (some 84) (bs_ 18 126) HT_ ?_ ?_ ?_ ?_ ?_
      rotate_left; (intro w'; go_simp; with_reducible rfl); rotate_left; (simp only [PT_]; rfl)
      refine pA_ 7 (some 85) (bs_ 18 254) HT_ ?_ ?_ ?_ ?_ ?_
      rotate_left; (intro w'; go_simp; with_reducible rfl); rotate_left; (simp only [PT_]; rfl)
      refine pA_ 8 (some 86) (bs_ 18 510) HT_ ?_ ?_ ?_ ?_ ?_
      rotate_left; (intro w'; go_simp; with_reducible rfl); rotate_left; (simp only [PT_]; rfl)
      refine two_ (i := 0) (j := 9) (Ni := (some 78)) (Nj := (some 87)) (bs_ 18 511) (bs_ 18 1022) rfl rfl rfl rfl (two_of HT_.out (by kernel_rfl)) (by decide) (by decide) (fun K hK => ?_) (fun K hK => ?_)
      ·skip
       have q0 := hS.d0; have q1 := hS.d1; have q2 := hS.d2; have q3 := hS.d3
       refine value_ (w1 := ?_) (v := ?_) (by rfl) rfl ?_ ?_
       rotate_left 2; (go_simp; constructor; rfl; rfl)
       clear q0 q1 q2 q3
       refine hK.out _ _ trivial (fun hHeld => ?_)
       clear hK K
       refine norm_ (a' := ?_) ?_ ?_; rotate_left; (show Act.put _ (some 78) _ = _; simp only [PT_]; rfl)
       refine oA_ 9 (some 87) (bs_ 18 1023) HT_ (fun K hK => ?_)
       refine goes_ Try.func58 (by kernel_rfl) rfl #[.pointer (some ⟨g, 0, none⟩)] (by rfl) rfl rfl (by first | rfl | (simp only [List.map_toArray, List.map_cons, List.map_nil]; rfl)) ?_
       refine (tithebarnref01_Cursor_Done.calls g _ _ _ _ _ _ _ w _ hS.is hS.bl HDN.out).mono ?_
       rintro en w6 ⟨rfl, hi6, hb6, hk6⟩
       refine ⟨_, rfl, ?_⟩
       replace hS := hS.call hi6 hb6 hk6
       clear hi6 hb6 hk6
       refine hK.out _ _ trivial (fun hHeld => ?_)
       clear hK K
       refine norm_ (a' := ?_) ?_ ?_; rotate_left; (show Act.put _ (some 87) _ = _; simp only [PT_]; rfl)
       refine pA_ 10 (some 88) (bs_ 18 2047) HT_ ?_ ?_ ?_ ?_ ?_
       rotate_left; (intro w'; go_simp; with_reducible rfl); rotate_left; (simp only [PT_]; rfl)
       refine pA_ 11 (some 89) (bs_ 18 4095) HT_ ?_ ?_ ?_ ?_ ?_
       rotate_left; (intro w'; go_simp; with_reducible rfl); rotate_left; (simp only [PT_]; rfl)
       refine pA_ 12 (some 90) (bs_ 18 8191) HT_ ?_ ?_ ?_ ?_ ?_
       rotate_left; (intro w'; go_simp; with_reducible rfl); rotate_left; (simp only [PT_]; rfl)
       refine oA_ 13 (some 91) (bs_ 18 16383) HT_ (fun K hK => ?_)
       have q0 := hS.d0; have q1 := hS.d1; have q2 := hS.d2; have q3 := hS.d3
       refine value_ (w1 := ?_) (v := ?_) (by rfl) rfl ?_ ?_
       rotate_left 2; (go_simp; constructor; rfl; rfl)
       clear q0 q1 q2 q3
       refine hK.out _ _ trivial (fun hHeld => ?_)
       clear hK K
       refine norm_ (a' := ?_) ?_ ?_; rotate_left; (show Act.put _ (some 91) _ = _; simp only [PT_]; rfl)
       refine oA_ 14 (some 92) (bs_ 18 32767) HT_ (fun K hK => ?_)
       refine goes_ Try.func23 (by kernel_rfl) rfl #[.agg #[.slice Av dd.length cv, .slice Aw aa.length cw, .int .i64 x, .int .i64 y]] (by rfl) rfl rfl (by first | rfl | (simp only [List.map_toArray, List.map_cons, List.map_nil]; rfl)) ?_
       refine (tithebarnref16_Right.calls k Av cv dd Aw cw aa x y b _ (Kd.R_reads' hS.rowd).2.2 (Kd.R_reads' hS.rowd).2.1 (Kd.R_reads' hS.rowa).2.2 (Kd.R_reads' hS.rowa).2.1 HRB.out).mono ?_
       rintro en w7 ⟨rfl, hb7⟩
       refine ⟨_, rfl, ?_⟩
       replace hS := hS.below hb7
       clear hb7
       refine hK.out _ _ trivial (fun hHeld => ?_)
       clear hK K
       refine norm_ (a' := ?_) ?_ ?_; rotate_left; (show Act.put _ (some 92) _ = _; simp only [PT_]; rfl)
       refine pA_ 15 (some 93) (bs_ 18 65535) HT_ ?_ ?_ ?_ ?_ ?_
       rotate_left; (intro w'; go_simp; with_reducible rfl); rotate_left; (simp only [PT_]; rfl)
       refine oA_ 16 none (bs_ 18 131071) HT_ (fun K hK => ?_)
       have t0 := hS.r0; have t1 := hS.r1; have t2 := hS.r2; have t3 := hS.r3; have s0 := blk_frozen hS.rr 0; have s1 := blk_frozen hS.rr 1; have s2 := blk_frozen hS.rr 2; have s3 := blk_frozen hS.rr 3
       refine skip_ (w1 := ?_) (by rfl) rfl ?_ ?_
       rotate_left
       ·go_simp
        rfl
       refine hK.out _ _ trivial (fun hHeld => ?_)
       clear hK K
       refine pA_ 17 (some 3) (bs_ 18 262143) HT_ ?_ ?_ ?_ ?_ ?_
       rotate_left; (intro w'; go_simp; with_reducible rfl); rotate_left; (simp only [PT_]; rfl)
       refine done_ (done_of HT_.out (by kernel_rfl)) ?_
       go_wp2_with fail
       refine bodyPost_ret (v := .tuple #[.agg #[.slice Av dd.length cv, .slice Aw aa.length cw, .int .i64 x, .int .i64 y], .bool b]) ?_ rfl ⟨_, _, rfl, hS.outd _ _ _ _, hS.outa _ _ _ _, hS.out _ _ _ _⟩
       simp [results, Try.results32, go_sem, *]
      ·skip
       refine goes_ Try.func58 (by kernel_rfl) rfl #[.pointer (some ⟨g, 0, none⟩)] (by rfl) rfl rfl (by first | rfl | (simp only [List.map_toArray, List.map_cons, List.map_nil]; rfl)) ?_
       refine (tithebarnref01_Cursor_Done.calls g _ _ _ _ _ _ _ w _ hS.is hS.bl HDN.out).mono ?_
       rintro en w6 ⟨rfl, hi6, hb6, hk6⟩
       refine ⟨_, rfl, ?_⟩
       replace hS := hS.call hi6 hb6 hk6
       clear hi6 hb6 hk6
       refine hK.out _ _ trivial (fun hHeld => ?_)
       clear hK K
       refine norm_ (a' := ?_) ?_ ?_; rotate_left; (show Act.put _ (some 87) _ = _; simp only [PT_]; rfl)
       refine pA_ 10 (some 88) (bs_ 18 2046) HT_ ?_ ?_ ?_ ?_ ?_
       rotate_left; (intro w'; go_simp; with_reducible rfl); rotate_left; (simp only [PT_]; rfl)
       refine pA_ 11 (some 89) (bs_ 18 4094) HT_ ?_ ?_ ?_ ?_ ?_
       rotate_left; (intro w'; go_simp; with_reducible rfl); rotate_left; (simp only [PT_]; rfl)
       refine pA_ 12 (some 90) (bs_ 18 8190) HT_ ?_ ?_ ?_ ?_ ?_
       rotate_left; (intro w'; go_simp; with_reducible rfl); rotate_left; (simp only [PT_]; rfl)
       refine two_ (i := 0) (j := 13) (Ni := (some 78)) (Nj := (some 91)) (bs_ 18 8191) (bs_ 18 16382) rfl rfl rfl rfl (two_of HT_.out (by kernel_rfl)) (by decide) (by decide) (fun K hK => ?_) (fun K hK => ?_)
       ·skip
        have q0 := hS.d0; have q1 := hS.d1; have q2 := hS.d2; have q3 := hS.d3
        refine value_ (w1 := ?_) (v := ?_) (by rfl) rfl ?_ ?_
        rotate_left 2; (go_simp; constructor; rfl; rfl)
        clear q0 q1 q2 q3
        refine hK.out _ _ trivial (fun hHeld => ?_)
        clear hK K
        refine norm_ (a' := ?_) ?_ ?_; rotate_left; (show Act.put _ (some 78) _ = _; simp only [PT_]; rfl)
        refine oA_ 13 (some 91) (bs_ 18 16383) HT_ (fun K hK => ?_)
        have q0 := hS.d0; have q1 := hS.d1; have q2 := hS.d2; have q3 := hS.d3
        refine value_ (w1 := ?_) (v := ?_) (by rfl) rfl ?_ ?_
        rotate_left 2; (go_simp; constructor; rfl; rfl)
        clear q0 q1 q2 q3
        refine hK.out _ _ trivial (fun hHeld => ?_)
        clear hK K
        refine norm_ (a' := ?_) ?_ ?_; rotate_left; (show Act.put _ (some 91) _ = _; simp only [PT_]; rfl)
        refine oA_ 14 (some 92) (bs_ 18 32767) HT_ (fun K hK => ?_)
        refine goes_ Try.func23 (by kernel_rfl) rfl #[.agg #[.slice Av dd.length cv, .slice Aw aa.length cw, .int .i64 x, .int .i64 y]] (by rfl) rfl rfl (by first | rfl | (simp only [List.map_toArray, List.map_cons, List.map_nil]; rfl)) ?_
        refine (tithebarnref16_Right.calls k Av cv dd Aw cw aa x y b _ (Kd.R_reads' hS.rowd).2.2 (Kd.R_reads' hS.rowd).2.1 (Kd.R_reads' hS.rowa).2.2 (Kd.R_reads' hS.rowa).2.1 HRB.out).mono ?_
        rintro en w7 ⟨rfl, hb7⟩
        refine ⟨_, rfl, ?_⟩
        replace hS := hS.below hb7
        clear hb7
        refine hK.out _ _ trivial (fun hHeld => ?_)
        clear hK K
        refine norm_ (a' := ?_) ?_ ?_; rotate_left; (show Act.put _ (some 92) _ = _; simp only [PT_]; rfl)
        refine pA_ 15 (some 93) (bs_ 18 65535) HT_ ?_ ?_ ?_ ?_ ?_
        rotate_left; (intro w'; go_simp; with_reducible rfl); rotate_left; (simp only [PT_]; rfl)
        refine oA_ 16 none (bs_ 18 131071) HT_ (fun K hK => ?_)
        have t0 := hS.r0; have t1 := hS.r1; have t2 := hS.r2; have t3 := hS.r3; have s0 := blk_frozen hS.rr 0; have s1 := blk_frozen hS.rr 1; have s2 := blk_frozen hS.rr 2; have s3 := blk_frozen hS.rr 3
        refine skip_ (w1 := ?_) (by rfl) rfl ?_ ?_
        rotate_left
        ·go_simp
         rfl
        refine hK.out _ _ trivial (fun hHeld => ?_)
        clear hK K
        refine pA_ 17 (some 3) (bs_ 18 262143) HT_ ?_ ?_ ?_ ?_ ?_
        rotate_left; (intro w'; go_simp; with_reducible rfl); rotate_left; (simp only [PT_]; rfl)
        refine done_ (done_of HT_.out (by kernel_rfl)) ?_
        go_wp2_with fail
        refine bodyPost_ret (v := .tuple #[.agg #[.slice Av dd.length cv, .slice Aw aa.length cw, .int .i64 x, .int .i64 y], .bool b]) ?_ rfl ⟨_, _, rfl, hS.outd _ _ _ _, hS.outa _ _ _ _, hS.out _ _ _ _⟩
        simp [results, Try.results32, go_sem, *]
       ·skip
        have q0 := hS.d0; have q1 := hS.d1; have q2 := hS.d2; have q3 := hS.d3
        refine value_ (w1 := ?_) (v := ?_) (by rfl) rfl ?_ ?_
        rotate_left 2; (go_simp; constructor; rfl; rfl)
        clear q0 q1 q2 q3
        refine hK.out _ _ trivial (fun hHeld => ?_)
        clear hK K
        refine norm_ (a' := ?_) ?_ ?_; rotate_left; (show Act.put _ (some 91) _ = _; simp only [PT_]; rfl)
        refine two_ (i := 0) (j := 14) (Ni := (some 78)) (Nj := (some 92)) (bs_ 18 16383) (bs_ 18 32766) rfl rfl rfl rfl (two_of HT_.out (by kernel_rfl)) (by decide) (by decide) (fun K hK => ?_) (fun K hK => ?_)
        ·skip
         have q0 := hS.d0; have q1 := hS.d1; have q2 := hS.d2; have q3 := hS.d3
         refine value_ (w1 := ?_) (v := ?_) (by rfl) rfl ?_ ?_
         rotate_left 2; (go_simp; constructor; rfl; rfl)
         clear q0 q1 q2 q3
         refine hK.out _ _ trivial (fun hHeld => ?_)
         clear hK K
         refine norm_ (a' := ?_) ?_ ?_; rotate_left; (show Act.put _ (some 78) _ = _; simp only [PT_]; rfl)
         refine oA_ 14 (some 92) (bs_ 18 32767) HT_ (fun K hK => ?_)
         refine goes_ Try.func23 (by kernel_rfl) rfl #[.agg #[.slice Av dd.length cv, .slice Aw aa.length cw, .int .i64 x, .int .i64 y]] (by rfl) rfl rfl (by first | rfl | (simp only [List.map_toArray, List.map_cons, List.map_nil]; rfl)) ?_
         refine (tithebarnref16_Right.calls k Av cv dd Aw cw aa x y b _ (Kd.R_reads' hS.rowd).2.2 (Kd.R_reads' hS.rowd).2.1 (Kd.R_reads' hS.rowa).2.2 (Kd.R_reads' hS.rowa).2.1 HRB.out).mono ?_
         rintro en w7 ⟨rfl, hb7⟩
         refine ⟨_, rfl, ?_⟩
         replace hS := hS.below hb7
         clear hb7
         refine hK.out _ _ trivial (fun hHeld => ?_)
         clear hK K
         refine norm_ (a' := ?_) ?_ ?_; rotate_left; (show Act.put _ (some 92) _ = _; simp only [PT_]; rfl)
         refine pA_ 15 (some 93) (bs_ 18 65535) HT_ ?_ ?_ ?_ ?_ ?_
         rotate_left; (intro w'; go_simp; with_reducible rfl); rotate_left; (simp only [PT_]; rfl)
         refine oA_ 16 none (bs_ 18 131071) HT_ (fun K hK => ?_)
         have t0 := hS.r0; have t1 := hS.r1; have t2 := hS.r2; have t3 := hS.r3; have s0 := blk_frozen hS.rr 0; have s1 := blk_frozen hS.rr 1; have s2 := blk_frozen hS.rr 2; have s3 := blk_frozen hS.rr 3
         refine skip_ (w1 := ?_) (by rfl) rfl ?_ ?_
         rotate_left
         ·go_simp
          rfl
         refine hK.out _ _ trivial (fun hHeld => ?_)
         clear hK K
         refine pA_ 17 (some 3) (bs_ 18 262143) HT_ ?_ ?_ ?_ ?_ ?_
         rotate_left; (intro w'; go_simp; with_reducible rfl); rotate_left; (simp only [PT_]; rfl)
         refine done_ (done_of HT_.out (by kernel_rfl)) ?_
         go_wp2_with fail
         refine bodyPost_ret (v := .tuple #[.agg #[.slice Av dd.length cv, .slice Aw aa.length cw, .int .i64 x, .int .i64 y], .bool b]) ?_ rfl ⟨_, _, rfl, hS.outd _ _ _ _, hS.outa _ _ _ _, hS.out _ _ _ _⟩
         simp [results, Try.results32, go_sem, *]
        ·skip
         refine goes_ Try.func23 (by kernel_rfl) rfl #[.agg #[.slice Av dd.length cv, .slice Aw aa.length cw, .int .i64 x, .int .i64 y]] (by rfl) rfl rfl (by first | rfl | (simp only [List.map_toArray, List.map_cons, List.map_nil]; rfl)) ?_
         refine (tithebarnref16_Right.calls k Av cv dd Aw cw aa x y b _ (Kd.R_reads' hS.rowd).2.2 (Kd.R_reads' hS.rowd).2.1 (Kd.R_reads' hS.rowa).2.2 (Kd.R_reads' hS.rowa).2.1 HRB.out).mono ?_
         rintro en w7 ⟨rfl, hb7⟩
         refine ⟨_, rfl, ?_⟩
         replace hS := hS.below hb7
         clear hb7
         refine hK.out _ _ trivial (fun hHeld => ?_)
         clear hK K
         refine norm_ (a' := ?_) ?_ ?_; rotate_left; (show Act.put _ (some 92) _ = _; simp only [PT_]; rfl)
         refine pA_ 15 (some 93) (bs_ 18 65534) HT_ ?_ ?_ ?_ ?_ ?_
         rotate_left; (intro w'; go_simp; with_reducible rfl); rotate_left; (simp only [PT_]; rfl)
         refine oA_ 0 (some 78) (bs_ 18 65535) HT_ (fun K hK => ?_)
         have q0 := hS.d0; have q1 := hS.d1; have q2 := hS.d2; have q3 := hS.d3
         refine value_ (w1 := ?_) (v := ?_) (by rfl) rfl ?_ ?_
         rotate_left 2; (go_simp; constructor; rfl; rfl)
         clear q0 q1 q2 q3
         refine hK.out _ _ trivial (fun hHeld => ?_)
         clear hK K
         refine norm_ (a' := ?_) ?_ ?_; rotate_left; (show Act.put _ (some 78) _ = _; simp only [PT_]; rfl)
         refine oA_ 16 none (bs_ 18 131071) HT_ (fun K hK => ?_)
         have t0 := hS.r0; have t1 := hS.r1; have t2 := hS.r2; have t3 := hS.r3; have s0 := blk_frozen hS.rr 0; have s1 := blk_frozen hS.rr 1; have s2 := blk_frozen hS.rr 2; have s3 := blk_frozen hS.rr 3
         refine skip_ (w1 := ?_) (by rfl) rfl ?_ ?_
         rotate_left
         ·go_simp
          rfl
         refine hK.out _ _ trivial (fun hHeld => ?_)
         clear hK K
         refine pA_ 17 (some 3) (bs_ 18 262143) HT_ ?_ ?_ ?_ ?_ ?_
         rotate_left; (intro w'; go_simp; with_reducible rfl); rotate_left; (simp only [PT_]; rfl)
         refine done_ (done_of HT_.out (by kernel_rfl)) ?_
         go_wp2_with fail
         refine bodyPost_ret (v := .tuple #[.agg #[.slice Av dd.length cv, .slice Aw aa.length cw, .int .i64 x, .int .i64 y], .bool b]) ?_ rfl ⟨_, _, rfl, hS.outd _ _ _ _, hS.outa _ _ _ _, hS.out _ _ _ _⟩
         simp [results, Try.results32, go_sem, *]
     ·rw [if_neg hz] at hf
      have hz1 : (dn == 0) = false := beq_eq_false_iff_ne.mpr hz
      have HZ := Aside0.mk hz; clear hz
      obtain ⟨rfl, rfl, rfl, rfl, rfl⟩ : dd = d ∧ aa = a ∧ x = fl ∧ y = nx ∧ false = ok := by simpa using hf
      clear hf
      refine start_ (n := 18) (S := fun w' => True) (ds := []) (bs_ 18 0) (by kernel_rfl) rfl rfl trivial (fun hHeld => ?_)
      refine with_tab tithebarnref16_edit.tab20 (fun HT_ => ?_)
      have hS := hS.drew
      generalize World.drew _ = w4 at hS hHeld ⊢
      refine pA_ 1 (some 79) (bs_ 18 2) HT_ ?_ ?_ ?_ ?_ ?_
      rotate_left; (intro w'; go_simp; with_reducible rfl); rotate_left; (simp only [PT_]; rfl)
      refine pA_ 2 (some 80) (bs_ 18 6) HT_ ?_ ?_ ?_ ?_ ?_
      rotate_left; (intro w'; go_simp; with_reducible rfl); rotate_left; (simp only [PT_]; rfl)
      refine pA_ 3 (some 81) (bs_ 18 14) HT_ ?_ ?_ ?_ ?_ ?_
      rotate_left; (intro w'; go_simp; with_reducible rfl); rotate_left; (simp only [PT_]; rfl)
      refine pA_ 4 (some 82) (bs_ 18 30) HT_ ?_ ?_ ?_ ?_ ?_
      rotate_left; (intro w'; go_simp; with_reducible rfl); rotate_left; (simp only [PT_]; rfl)
      refine pA_ 5 (some 83) (bs_ 18 62) HT_ ?_ ?_ ?_ ?_ ?_
      rotate_left; (intro w'; go_simp; with_reducible rfl); rotate_left; (simp only [PT_]; rfl)
      refine pA_ 6 (some 84) (bs_ 18 126) HT_ ?_ ?_ ?_ ?_ ?_
      rotate_left; (intro w'; go_simp; with_reducible rfl); rotate_left; (simp only [PT_]; rfl)
      refine pA_ 7 (some 85) (bs_ 18 254) HT_ ?_ ?_ ?_ ?_ ?_
      rotate_left; (intro w'; go_simp; with_reducible rfl); rotate_left; (simp only [PT_]; rfl)
      refine pA_ 8 (some 86) (bs_ 18 510) HT_ ?_ ?_ ?_ ?_ ?_
      rotate_left; (intro w'; go_simp; with_reducible rfl); rotate_left; (simp only [PT_]; rfl)
      refine two_ (i := 0) (j := 9) (Ni := (some 78)) (Nj := (some 87)) (bs_ 18 511) (bs_ 18 1022) rfl rfl rfl rfl (two_of HT_.out (by kernel_rfl)) (by decide) (by decide) (fun K hK => ?_) (fun K hK => ?_)
      ·skip
       have q0 := hS.d0; have q1 := hS.d1; have q2 := hS.d2; have q3 := hS.d3
       refine value_ (w1 := ?_) (v := ?_) (by rfl) rfl ?_ ?_
       rotate_left 2; (go_simp; constructor; rfl; rfl)
       clear q0 q1 q2 q3
       refine hK.out _ _ trivial (fun hHeld => ?_)
       clear hK K
       refine norm_ (a' := ?_) ?_ ?_; rotate_left; (show Act.put _ (some 78) _ = _; simp only [PT_]; rfl)
       refine oA_ 9 (some 87) (bs_ 18 1023) HT_ (fun K hK => ?_)
       refine goes_ Try.func58 (by kernel_rfl) rfl #[.pointer (some ⟨g, 0, none⟩)] (by rfl) rfl rfl (by first | rfl | (simp only [List.map_toArray, List.map_cons, List.map_nil]; rfl)) ?_
       refine (tithebarnref01_Cursor_Done.calls g _ _ _ _ _ _ _ w _ hS.is hS.bl HDN.out).mono ?_
       rintro en w6 ⟨rfl, hi6, hb6, hk6⟩
       refine ⟨_, rfl, ?_⟩
       replace hS := hS.call hi6 hb6 hk6
       clear hi6 hb6 hk6
       refine hK.out _ _ trivial (fun hHeld => ?_)
       clear hK K
       refine norm_ (a' := ?_) ?_ ?_; rotate_left; (show Act.put _ (some 87) _ = _; simp only [PT_]; rfl)
       refine pA_ 10 (some 88) (bs_ 18 2047) HT_ ?_ ?_ ?_ ?_ ?_
       rotate_left; (intro w'; go_simp; with_reducible rfl); rotate_left; (simp only [PT_]; rfl)
       refine pA_ 11 (some 89) (bs_ 18 4095) HT_ ?_ ?_ ?_ ?_ ?_
       rotate_left; (intro w'; go_simp; with_reducible rfl); rotate_left; (simp only [PT_]; rfl)
       refine pA_ 12 (some 90) (bs_ 18 8191) HT_ ?_ ?_ ?_ ?_ ?_
       rotate_left; (intro w'; go_simp; with_reducible rfl); rotate_left; (simp only [PT_]; rfl)
       refine pB_ 13 (some 91) (bs_ 18 16383) HT_ ?_ ?_ ?_
       rotate_left
       ·simp only [PT_]
        rfl
       refine pB_ 14 (some 92) (bs_ 18 32767) HT_ ?_ ?_ ?_
       rotate_left
       ·simp only [PT_]
        rfl
       refine pA_ 15 (some 93) (bs_ 18 65535) HT_ ?_ ?_ ?_ ?_ ?_
       rotate_left; (intro w'; go_simp; with_reducible rfl); rotate_left; (simp only [PT_]; rfl)
       refine oA_ 16 none (bs_ 18 131071) HT_ (fun K hK => ?_)
       have t0 := hS.r0; have t1 := hS.r1; have t2 := hS.r2; have t3 := hS.r3; have s0 := blk_frozen hS.rr 0; have s1 := blk_frozen hS.rr 1; have s2 := blk_frozen hS.rr 2; have s3 := blk_frozen hS.rr 3
       refine skip_ (w1 := ?_) (by rfl) rfl ?_ ?_
       rotate_left
       ·go_simp
        rfl
       refine hK.out _ _ trivial (fun hHeld => ?_)
       clear hK K
       refine pA_ 17 (some 3) (bs_ 18 262143) HT_ ?_ ?_ ?_ ?_ ?_
       rotate_left; (intro w'; go_simp; with_reducible rfl); rotate_left; (simp only [PT_]; rfl)
       refine done_ (done_of HT_.out (by kernel_rfl)) ?_
       go_wp2_with fail
       refine bodyPost_ret (v := .tuple #[.agg #[.slice Av dd.length cv, .slice Aw aa.length cw, .int .i64 x, .int .i64 y], .bool false]) ?_ rfl ⟨_, _, rfl, hS.outd _ _ _ _, hS.outa _ _ _ _, hS.out _ _ _ _⟩
       simp [results, Try.results32, go_sem, *]
      ·skip
       refine goes_ Try.func58 (by kernel_rfl) rfl #[.pointer (some ⟨g, 0, none⟩)] (by rfl) rfl rfl (by first | rfl | (simp only [List.map_toArray, List.map_cons, List.map_nil]; rfl)) ?_
       refine (tithebarnref01_Cursor_Done.calls g _ _ _ _ _ _ _ w _ hS.is hS.bl HDN.out).mono ?_
       rintro en w6 ⟨rfl, hi6, hb6, hk6⟩
       refine ⟨_, rfl, ?_⟩
       replace hS := hS.call hi6 hb6 hk6
       clear hi6 hb6 hk6
       refine hK.out _ _ trivial (fun hHeld => ?_)
       clear hK K
       refine norm_ (a' := ?_) ?_ ?_; rotate_left; (show Act.put _ (some 87) _ = _; simp only [PT_]; rfl)
       refine pA_ 10 (some 88) (bs_ 18 2046) HT_ ?_ ?_ ?_ ?_ ?_
       rotate_left; (intro w'; go_simp; with_reducible rfl); rotate_left; (simp only [PT_]; rfl)
       refine pA_ 11 (some 89) (bs_ 18 4094) HT_ ?_ ?_ ?_ ?_ ?_
       rotate_left; (intro w'; go_simp; with_reducible rfl); rotate_left; (simp only [PT_]; rfl)
       refine pA_ 12 (some 90) (bs_ 18 8190) HT_ ?_ ?_ ?_ ?_ ?_
       rotate_left; (intro w'; go_simp; with_reducible rfl); rotate_left; (simp only [PT_]; rfl)
       refine pB_ 13 (some 91) (bs_ 18 16382) HT_ ?_ ?_ ?_
       rotate_left
       ·simp only [PT_]
        rfl
       refine pB_ 14 (some 92) (bs_ 18 32766) HT_ ?_ ?_ ?_
       rotate_left
       ·simp only [PT_]
        rfl
       refine pA_ 15 (some 93) (bs_ 18 65534) HT_ ?_ ?_ ?_ ?_ ?_
       rotate_left; (intro w'; go_simp; with_reducible rfl); rotate_left; (simp only [PT_]; rfl)
       refine oA_ 0 (some 78) (bs_ 18 65535) HT_ (fun K hK => ?_)
       have q0 := hS.d0; have q1 := hS.d1; have q2 := hS.d2; have q3 := hS.d3
       refine value_ (w1 := ?_) (v := ?_) (by rfl) rfl ?_ ?_
       rotate_left 2; (go_simp; constructor; rfl; rfl)
       clear q0 q1 q2 q3
       refine hK.out _ _ trivial (fun hHeld => ?_)
       clear hK K
       refine norm_ (a' := ?_) ?_ ?_; rotate_left; (show Act.put _ (some 78) _ = _; simp only [PT_]; rfl)
       refine oA_ 16 none (bs_ 18 131071) HT_ (fun K hK => ?_)
       have t0 := hS.r0; have t1 := hS.r1; have t2 := hS.r2; have t3 := hS.r3; have s0 := blk_frozen hS.rr 0; have s1 := blk_frozen hS.rr 1; have s2 := blk_frozen hS.rr 2; have s3 := blk_frozen hS.rr 3
       refine skip_ (w1 := ?_) (by rfl) rfl ?_ ?_
       rotate_left
       ·go_simp
        rfl
       refine hK.out _ _ trivial (fun hHeld => ?_)
       clear hK K
       refine pA_ 17 (some 3) (bs_ 18 262143) HT_ ?_ ?_ ?_ ?_ ?_
       rotate_left; (intro w'; go_simp; with_reducible rfl); rotate_left; (simp only [PT_]; rfl)
       refine done_ (done_of HT_.out (by kernel_rfl)) ?_
       go_wp2_with fail
       refine bodyPost_ret (v := .tuple #[.agg #[.slice Av dd.length cv, .slice Aw aa.length cw, .int .i64 x, .int .i64 y], .bool false]) ?_ rfl ⟨_, _, rfl, hS.outd _ _ _ _, hS.outa _ _ _ _, hS.out _ _ _ _⟩
       simp [results, Try.results32, go_sem, *]
    ·rw [if_neg hm0] at hf
     have g2 : decide ((0 : Int) ≤ m) = false := decide_eq_false hm0
     have HM0 := Aside0.mk hm0; clear hm0
     obtain ⟨rfl, rfl, rfl, rfl, rfl⟩ : dd = d ∧ aa = a ∧ x = fl ∧ y = nx ∧ false = ok := by simpa using hf
     clear hf
     refine start_ (n := 18) (S := fun w' => True) (ds := []) (bs_ 18 0) (by kernel_rfl) rfl rfl trivial (fun hHeld => ?_)
     refine with_tab tithebarnref16_edit.tab20 (fun HT_ => ?_)
     have hS := hS.drew
     generalize World.drew _ = w4 at hS hHeld ⊢
     refine pA_ 1 (some 79) (bs_ 18 2) HT_ ?_ ?_ ?_ ?_ ?_
     rotate_left; (intro w'; go_simp; with_reducible rfl); rotate_left; (simp only [PT_]; rfl)
     refine pA_ 2 (some 80) (bs_ 18 6) HT_ ?_ ?_ ?_ ?_ ?_
     rotate_left; (intro w'; go_simp; with_reducible rfl); rotate_left; (simp only [PT_]; rfl)
     refine pA_ 3 (some 81) (bs_ 18 14) HT_ ?_ ?_ ?_ ?_ ?_
     rotate_left; (intro w'; go_simp; with_reducible rfl); rotate_left; (simp only [PT_]; rfl)
     refine pA_ 4 (some 82) (bs_ 18 30) HT_ ?_ ?_ ?_ ?_ ?_
     rotate_left; (intro w'; go_simp; with_reducible rfl); rotate_left; (simp only [PT_]; rfl)
     refine pA_ 5 (some 83) (bs_ 18 62) HT_ ?_ ?_ ?_ ?_ ?_
     rotate_left; (intro w'; go_simp; with_reducible rfl); rotate_left; (simp only [PT_]; rfl)
     refine pA_ 6 (some 84) (bs_ 18 126) HT_ ?_ ?_ ?_ ?_ ?_
     rotate_left; (intro w'; go_simp; with_reducible rfl); rotate_left; (simp only [PT_]; rfl)
     refine pA_ 7 (some 85) (bs_ 18 254) HT_ ?_ ?_ ?_ ?_ ?_
     rotate_left; (intro w'; go_simp; with_reducible rfl); rotate_left; (simp only [PT_]; rfl)
     refine pB_ 8 (some 86) (bs_ 18 510) HT_ ?_ ?_ ?_
     rotate_left
     ·simp only [PT_]
      rfl
     refine pB_ 9 (some 87) (bs_ 18 1022) HT_ ?_ ?_ ?_
     rotate_left
     ·simp only [PT_]
      rfl
     refine pB_ 10 (some 88) (bs_ 18 2046) HT_ ?_ ?_ ?_
     rotate_left
     ·simp only [PT_]
      rfl
     refine pA_ 11 (some 89) (bs_ 18 4094) HT_ ?_ ?_ ?_ ?_ ?_
     rotate_left; (intro w'; go_simp; with_reducible rfl); rotate_left; (simp only [PT_]; rfl)
     refine pA_ 12 (some 90) (bs_ 18 8190) HT_ ?_ ?_ ?_ ?_ ?_
     rotate_left; (intro w'; go_simp; with_reducible rfl); rotate_left; (simp only [PT_]; rfl)
     refine pB_ 13 (some 91) (bs_ 18 16382) HT_ ?_ ?_ ?_
     rotate_left
     ·simp only [PT_]
      rfl
     refine pB_ 14 (some 92) (bs_ 18 32766) HT_ ?_ ?_ ?_
     rotate_left
     ·simp only [PT_]
      rfl
     refine pA_ 15 (some 93) (bs_ 18 65534) HT_ ?_ ?_ ?_ ?_ ?_
     rotate_left; (intro w'; go_simp; with_reducible rfl); rotate_left; (simp only [PT_]; rfl)
     refine oA_ 0 (some 78) (bs_ 18 65535) HT_ (fun K hK => ?_)
     have q0 := hS.d0; have q1 := hS.d1; have q2 := hS.d2; have q3 := hS.d3
     refine value_ (w1 := ?_) (v := ?_) (by rfl) rfl ?_ ?_
     rotate_left 2; (go_simp; constructor; rfl; rfl)
     clear q0 q1 q2 q3
     refine hK.out _ _ trivial (fun hHeld => ?_)
     clear hK K
     refine norm_ (a' := ?_) ?_ ?_; rotate_left; (show Act.put _ (some 78) _ = _; simp only [PT_]; rfl)
     refine oA_ 16 none (bs_ 18 131071) HT_ (fun K hK => ?_)
     have t0 := hS.r0; have t1 := hS.r1; have t2 := hS.r2; have t3 := hS.r3; have s0 := blk_frozen hS.rr 0; have s1 := blk_frozen hS.rr 1; have s2 := blk_frozen hS.rr 2; have s3 := blk_frozen hS.rr 3
     refine skip_ (w1 := ?_) (by rfl) rfl ?_ ?_
     rotate_left
     ·go_simp
      rfl
     refine hK.out _ _ trivial (fun hHeld => ?_)
     clear hK K
     refine pA_ 17 (some 3) (bs_ 18 262143) HT_ ?_ ?_ ?_ ?_ ?_
     rotate_left; (intro w'; go_simp; with_reducible rfl); rotate_left; (simp only [PT_]; rfl)
     refine done_ (done_of HT_.out (by kernel_rfl)) ?_
     go_wp2_with fail
     refine bodyPost_ret (v := .tuple #[.agg #[.slice Av dd.length cv, .slice Aw aa.length cw, .int .i64 x, .int .i64 y], .bool false]) ?_ rfl ⟨_, _, rfl, hS.outd _ _ _ _, hS.outa _ _ _ _, hS.out _ _ _ _⟩
     simp [results, Try.results32, go_sem, *]
   ·rw [if_neg hn0] at hf
    have g1 : decide ((0 : Int) ≤ n) = false := decide_eq_false hn0
    have HN0 := Aside0.mk hn0; clear hn0
    obtain ⟨rfl, rfl, rfl, rfl, rfl⟩ : dd = d ∧ aa = a ∧ x = fl ∧ y = nx ∧ false = ok := by simpa using hf
    clear hf
    refine start_ (n := 18) (S := fun w' => True) (ds := []) (bs_ 18 0) (by kernel_rfl) rfl rfl trivial (fun hHeld => ?_)
    refine with_tab tithebarnref16_edit.tab20 (fun HT_ => ?_)
    have hS := hS.drew
    generalize World.drew _ = w4 at hS hHeld ⊢
    refine pA_ 1 (some 79) (bs_ 18 2) HT_ ?_ ?_ ?_ ?_ ?_
    rotate_left; (intro w'; go_simp; with_reducible rfl); rotate_left; (simp only [PT_]; rfl)
    refine pA_ 2 (some 80) (bs_ 18 6) HT_ ?_ ?_ ?_ ?_ ?_
    rotate_left; (intro w'; go_simp; with_reducible rfl); rotate_left; (simp only [PT_]; rfl)
    refine pA_ 3 (some 81) (bs_ 18 14) HT_ ?_ ?_ ?_ ?_ ?_
    rotate_left; (intro w'; go_simp; with_reducible rfl); rotate_left; (simp only [PT_]; rfl)
    refine pB_ 4 (some 82) (bs_ 18 30) HT_ ?_ ?_ ?_
    rotate_left
    ·simp only [PT_]
     rfl
    refine pB_ 5 (some 83) (bs_ 18 62) HT_ ?_ ?_ ?_
    rotate_left
    ·simp only [PT_]
     rfl
    refine pA_ 6 (some 84) (bs_ 18 126) HT_ ?_ ?_ ?_ ?_ ?_
    rotate_left; (intro w'; go_simp; with_reducible rfl); rotate_left; (simp only [PT_]; rfl)
    refine pA_ 7 (some 85) (bs_ 18 254) HT_ ?_ ?_ ?_ ?_ ?_
    rotate_left; (intro w'; go_simp; with_reducible rfl); rotate_left; (simp only [PT_]; rfl)
    refine pB_ 8 (some 86) (bs_ 18 510) HT_ ?_ ?_ ?_
    rotate_left
    ·simp only [PT_]
     rfl
    refine pB_ 9 (some 87) (bs_ 18 1022) HT_ ?_ ?_ ?_
    rotate_left
    ·simp only [PT_]
     rfl
    refine pB_ 10 (some 88) (bs_ 18 2046) HT_ ?_ ?_ ?_
    rotate_left
    ·simp only [PT_]
     rfl
    refine pA_ 11 (some 89) (bs_ 18 4094) HT_ ?_ ?_ ?_ ?_ ?_
    rotate_left; (intro w'; go_simp; with_reducible rfl); rotate_left; (simp only [PT_]; rfl)
    refine pA_ 12 (some 90) (bs_ 18 8190) HT_ ?_ ?_ ?_ ?_ ?_
    rotate_left; (intro w'; go_simp; with_reducible rfl); rotate_left; (simp only [PT_]; rfl)
    refine pB_ 13 (some 91) (bs_ 18 16382) HT_ ?_ ?_ ?_
    rotate_left
    ·simp only [PT_]
     rfl
    refine pB_ 14 (some 92) (bs_ 18 32766) HT_ ?_ ?_ ?_
    rotate_left
    ·simp only [PT_]
     rfl
    refine pA_ 15 (some 93) (bs_ 18 65534) HT_ ?_ ?_ ?_ ?_ ?_
    rotate_left; (intro w'; go_simp; with_reducible rfl); rotate_left; (simp only [PT_]; rfl)
    refine oA_ 0 (some 78) (bs_ 18 65535) HT_ (fun K hK => ?_)
    have q0 := hS.d0; have q1 := hS.d1; have q2 := hS.d2; have q3 := hS.d3
    refine value_ (w1 := ?_) (v := ?_) (by rfl) rfl ?_ ?_
    rotate_left 2; (go_simp; constructor; rfl; rfl)
    clear q0 q1 q2 q3
    refine hK.out _ _ trivial (fun hHeld => ?_)
    clear hK K
    refine norm_ (a' := ?_) ?_ ?_; rotate_left; (show Act.put _ (some 78) _ = _; simp only [PT_]; rfl)
    refine oA_ 16 none (bs_ 18 131071) HT_ (fun K hK => ?_)
    have t0 := hS.r0; have t1 := hS.r1; have t2 := hS.r2; have t3 := hS.r3; have s0 := blk_frozen hS.rr 0; have s1 := blk_frozen hS.rr 1; have s2 := blk_frozen hS.rr 2; have s3 := blk_frozen hS.rr 3
    refine skip_ (w1 := ?_) (by rfl) rfl ?_ ?_
    rotate_left
    ·go_simp
     rfl
    refine hK.out _ _ trivial (fun hHeld => ?_)
    clear hK K
    refine pA_ 17 (some 3) (bs_ 18 262143) HT_ ?_ ?_ ?_ ?_ ?_
    rotate_left; (intro w'; go_simp; with_reducible rfl); rotate_left; (simp only [PT_]; rfl)
    refine done_ (done_of HT_.out (by kernel_rfl)) ?_
    go_wp2_with fail
    refine bodyPost_ret (v := .tuple #[.agg #[.slice Av dd.length cv, .slice Aw aa.length cw, .int .i64 x, .int .i64 y], .bool false]) ?_ rfl ⟨_, _, rfl, hS.outd _ _ _ _, hS.outa _ _ _ _, hS.out _ _ _ _⟩
    simp [results, Try.results32, go_sem, *]
end Go.Proofs.Ytagokgijffpdnaa.G
namespace Go.Proofs.Ytagokgijffpdnaa.G
open Go.RowKit Go.Proofs.YtagokgijffpdnaaQ Go.Proofs.YtagokgijffpdnaaW.PrintWords Go.Proofs.YtagokgijffpdnaaW.PrintLast Go.Proofs.YtagokgijffpdnaaW.PrintMore
attribute [local go_sem] max2_int min2_int max_two min_two max_three min_three max_four min_four   -- for this text's walks alone
set_option linter.unusedVariables false
set_option linter.unusedSimpArgs false
theorem eqA34 (d : Nat) (w : World) (x0 y0 : Bool) (x1 y1 : Int) (x2 y2 : ByteArray) :
  (Op.equalIn (d + 2) 34 (.agg #[.bool x0, .int .i64 x1, .string x2]) (.agg #[.bool y0, .int .i64 y1, .string y2])).run Try.prog w = .ok (x0 == y0 && (x1 == y1 && (x2.toList == y2.toList))) w := by
 refine eqA_of Try.underlying34 (by kernel_rfl) ?_
 refine eqf_cons (by rfl) (by go_simp; rfl) (by go_simp; rfl) (by go_simp) ?_
 refine eqf_cons (by rfl) (by go_simp; rfl) (by go_simp; rfl) (by go_simp) ?_
 exact eqf_last (by rfl) (by go_simp; rfl) (by go_simp; rfl) (by go_simp)
theorem eqA36 (d : Nat) (w : World) (x0 y0 : Int) (x1 y1 : Int) (x2 y2 : Bool) (x3 y3 : Int) (x4 y4 : ByteArray) (x5 y5 : Bool) (x6 y6 : Int) (x7 y7 : ByteArray) :
  (Op.equalIn (d + 3) 36 (.agg #[.int .i64 x0, .int .i64 x1, .bool x2, .int .i64 x3, .string x4, .bool x5, .int .i64 x6, .string x7]) (.agg #[.int .i64 y0, .int .i64 y1, .bool y2, .int .i64 y3, .string y4, .bool y5, .int .i64 y6, .string y7])).run Try.prog w = .ok (x0 == y0 && (x1 == y1 && ((x2 == y2 && (x3 == y3 && (x4.toList == y4.toList))) && ((x5 == y5 && (x6 == y6 && (x7.toList == y7.toList))))))) w := by
 refine eqA_of Try.underlying36 (by kernel_rfl) ?_
 refine eqf_cons (by rfl) (by go_simp; rfl) (by go_simp; rfl) (by go_simp) ?_
 refine eqf_cons (by rfl) (by go_simp; rfl) (by go_simp; rfl) (by go_simp) ?_
 refine eqf_cons (by rfl) (by go_simp) (by go_simp) (eqA34 (d + 0) w _ _ _ _ _ _) ?_
 exact eqf_last (by rfl) (by go_simp) (by go_simp) (eqA34 (d + 0) w _ _ _ _ _ _)
end Go.Proofs.Ytagokgijffpdnaa.G
namespace Go.Proofs.Ytagokgijffpdnaa.G
open Go.RowKit Go.Proofs.YtagokgijffpdnaaQ Go.Proofs.YtagokgijffpdnaaW.PrintWords Go.Proofs.YtagokgijffpdnaaW.PrintLast Go.Proofs.YtagokgijffpdnaaW.PrintMore
attribute [local go_sem] max2_int min2_int max_two min_two max_three min_three max_four min_four   -- for this text's walks alone
set_option linter.unusedVariables false
set_option linter.unusedSimpArgs false
attribute [local go_sem high] eqA36
def idsOf (l : List S36) : List Int := l.map fun p => p.f0
def keptL (s : List S36) (d : List Int) : List S36 := s.filter fun p => !d.contains p.f0
def goodD (s : List S36) (d : List Int) (x : Int) : Bool := decide (d.count x ≤ 1) && (idsOf s).contains x
def addB (nx : Int) : List Int → List S36 → Bool
 | _, [] => true
 | ids, p :: l => !decide (nx ≤ p.f0) && (!ids.contains p.f0 && addB nx (ids ++ [p.f0]) l)
def applyL (s : List S36) (sf sn : Int) (d : List Int) (a : List S36) (fl nx : Int) : List S36 × Int × Int × Int :=
 if (rightB d a fl nx && (decide (sf ≤ fl) && (decide (sn ≤ nx) && (d.all (goodD s d) && addB nx (idsOf (keptL s d)) a)))) = true then (keptL s d ++ a, fl, nx, 0) else ([], 0, 0, 8)
def wfP (s : List S36) : Bool := s.all fun p => (Lit.int .i64 p.f0).wf
theorem wf_rd {s : List S36} (h : wfP s = true) {i : Nat} (hi : i < s.length) : (Lit.int .i64 (rd_T36 s (i : Int)).f0).wf = true := by
 unfold wfP at h
 rw [List.all_eq_true] at h
 have := h s[i] (List.getElem_mem hi)
 unfold rd_T36
 rw [Int.toNat_natCast, List.getD_eq_getElem?_getD, List.getElem?_eq_getElem hi]
 exact this
theorem rdP_take {s : List S36} {i : Nat} (hi : i < s.length) : s.take (i + 1) = s.take i ++ [rd_T36 s (i : Int)] := by
 rw [List.take_succ_eq_append_getElem hi]
 unfold rd_T36
 rw [Int.toNat_natCast, List.getD_eq_getElem?_getD, List.getElem?_eq_getElem hi]; rfl
theorem rdP_drop {s : List S36} {i : Nat} (hi : i < s.length) : s.drop i = rd_T36 s (i : Int) :: s.drop (i + 1) := by
 rw [List.drop_eq_getElem_cons hi]
 unfold rd_T36
 rw [Int.toNat_natCast, List.getD_eq_getElem?_getD, List.getElem?_eq_getElem hi]; rfl
theorem rdI_take {s : List Int} {i : Nat} (hi : i < s.length) : s.take (i + 1) = s.take i ++ [rd s (i : Int)] := by
 rw [List.take_succ_eq_append_getElem hi]
 unfold rd
 rw [Int.toNat_natCast, List.getD_eq_getElem?_getD, List.getElem?_eq_getElem hi]; rfl
theorem right_d {d : List Int} {a : List S36} {fl nx : Int} (h : rightB d a fl nx = true) : d.length ≤ 1000 ∧ a.length ≤ 1000 ∧ (∀ x ∈ d, 0 ≤ x ∧ x ≤ 999999999) ∧ (∀ p ∈ a, 0 ≤ p.f0 ∧ p.f0 ≤ 999999999) ∧ (0 ≤ fl ∧ fl ≤ 999999999) ∧ (0 ≤ nx ∧ nx ≤ 999999999) := by
 unfold rightB at h
 simp only [Bool.and_eq_true, decide_eq_true_eq, Bool.not_eq_true', List.all_eq_true] at h
 obtain ⟨h1, h2, h3, h4, h5, h6⟩ := h
 have odd : ∀ n, oddI n = false → 0 ≤ n ∧ n ≤ 999999999 := fun n hn => by unfold oddI at hn; simp at hn; omega
 refine ⟨h1, h2, fun x hx => odd x (h5 x hx), fun p hp => ?_, odd _ h3, odd _ h4⟩
 have := h6 p hp
 unfold oddP at this
 simp only [Bool.or_eq_false_iff] at this
 exact odd _ this.1
def FrA (w W : World) (SC EC : Array Value) : Prop := W.heap[w.heap.size]? = some (.cells SC 26 (0, 0)) ∧ W.heap[w.heap.size + 1]? = some (.cells EC 32 (0, 0)) ∧ W.heap[w.heap.size + 2]? = some (.cells #[.slice none 0 0, .int .i64 0, .int .i64 0] 26 (0, 0)) ∧ Below w.heap.size w W
section
variable {w W W' : World} {SC EC : Array Value}
theorem FrA.lt (h : FrA w W SC EC) : w.heap.size + 3 ≤ W.heap.size := by have := blk_lt h.2.2.1; omega
theorem FrA.below (h : FrA w W SC EC) (hb : Below W.heap.size W W') : FrA w W' SC EC :=
 ⟨(hb.block _ (blk_lt h.1)).trans h.1, (hb.block _ (blk_lt h.2.1)).trans h.2.1, (hb.block _ (blk_lt h.2.2.1)).trans h.2.2.1, below_then h.2.2.2 h.2.2.2.size hb⟩
theorem FrA.grown {row : Option Nat} (h : FrA w W SC EC) (hg : W.grownBy W' row) (hr : ∀ k, row = some k → w.heap.size + 3 ≤ k) : FrA w W' SC EC :=
 have hn : ∀ j, j < w.heap.size + 3 → some j ≠ row := fun j hj e => by have := hr j e.symm; omega
 ⟨(hg.block _ (blk_lt h.1) (hn _ (by omega))).trans h.1, (hg.block _ (blk_lt h.2.1) (hn _ (by omega))).trans h.2.1, (hg.block _ (blk_lt h.2.2.1) (hn _ (by omega))).trans h.2.2.1, h.2.2.2.grown hg h.2.2.2.size (fun j hj => by have := hr j hj; omega)⟩
theorem FrA.own (h : FrA w W SC EC) {v : Value} {xs : List S36} (ho : Kd.R k36 36 W w.heap.size (fun _ => True) v xs) (k : Nat) (hk : v.ownBlock = some k) : w.heap.size + 3 ≤ k := by
 have h0 := Kd.R_base ho k hk
 have h1 := Kd.R_ne ho h.1 (by decide)
 have h2 := Kd.R_ne ho h.2.1 (by decide)
 have h3 := Kd.R_ne ho h.2.2.1 (by decide)
 rw [hk] at h1 h2 h3
 have e1 : w.heap.size ≠ k := fun e => h1 (by rw [e])
 have e2 : w.heap.size + 1 ≠ k := fun e => h2 (by rw [e])
 have e3 : w.heap.size + 2 ≠ k := fun e => h3 (by rw [e])
 omega
theorem FrA.put (h : FrA w W SC EC) (a b c : Value) : Below w.heap.size w (((W.setCell ⟨w.heap.size + 2, 0, none⟩ a).setCell ⟨w.heap.size + 2, 1, none⟩ b).setCell ⟨w.heap.size + 2, 2, none⟩ c) := below_set (below_set (below_set h.2.2.2 (by omega)) (by omega)) (by omega)
end
theorem idsOf_snoc (l : List S36) (p : S36) : idsOf (l ++ [p]) = idsOf l ++ [p.f0] := by simp [idsOf]
theorem keptL_drop {l : List S36} {d : List Int} {p : S36} (h : p.f0 ∈ d) : keptL (l ++ [p]) d = keptL l d := by simp [keptL, h]
theorem keptL_keep {l : List S36} {d : List Int} {p : S36} (h : ¬ p.f0 ∈ d) : keptL (l ++ [p]) d = keptL l d ++ [p] := by simp [keptL, h]
theorem ids_yes {l d : List Int} {x : Int} (h : x ∈ d) (z : Int) : (if z = x then (-1 : Int) else if z ∈ l then (if z ∈ d then -1 else 1) else 0) = if z ∈ l ++ [x] then (if z ∈ d then -1 else 1) else 0 := by
 by_cases e : z = x
 ·subst e; simp [h]
 ·simp [e]
theorem ids_no {l d : List Int} {x : Int} (h : ¬ x ∈ d) (z : Int) : (if z = x then (1 : Int) else if z ∈ l then (if z ∈ d then -1 else 1) else 0) = if z ∈ l ++ [x] then (if z ∈ d then -1 else 1) else 0 := by
 by_cases e : z = x
 ·subst e; simp [h]
 ·simp [e]
theorem R_far {W W' : World} {B base : Nat} {v : Value} {xs : List S36} (h : Kd.R k36 36 W base (fun _ => True) v xs) (hg : W.grownBy W' (some B)) (hne : some B ≠ v.ownBlock) : Kd.R k36 36 W' base (fun _ => True) v xs :=
 Kd.R_mono (Kd.R_kept (S := fun k => k = B) (Kd.R_tight rfl h) (Kept.of_grown hg (Kept.refl W (fun k => k = B)) (fun k hk => .inl (by cases hk; rfl))) (fun k hk hs => hne (by rw [← hs]; exact hk))) (fun _ _ => trivial)
theorem R_none {W W' : World} {base : Nat} {v : Value} {xs : List S36} (h : Kd.R k36 36 W base (fun _ => True) v xs) (hg : W.grownBy W' none) : Kd.R k36 36 W' base (fun _ => True) v xs :=
 Kd.R_kept (S := fun k => False) h (Kept.of_grown hg (Kept.refl W (fun _ => False)) (fun k hk => by cases hk)) (fun _ _ h => h)
theorem all_bad {s : List S36} {d : List Int} {x : Int} (hx : x ∈ d) (h : goodD s d x = false) : d.all (goodD s d) = false := List.all_eq_false.mpr ⟨x, hx, by simp [h]⟩
theorem ids_kept {s : List S36} {d : List Int} (x : Int) : (0 < (if x ∈ idsOf s then (if x ∈ d then (-1 : Int) else 1) else 0)) ↔ x ∈ idsOf (keptL s d) := by
 have e : x ∈ idsOf (keptL s d) ↔ (x ∈ idsOf s ∧ ¬ x ∈ d) := by
  unfold idsOf keptL
  simp only [List.mem_map, List.mem_filter]
  constructor
  ·rintro ⟨p, ⟨h1, h2⟩, rfl⟩; exact ⟨⟨p, h1, rfl⟩, by simpa using h2⟩
  ·rintro ⟨⟨p, h1, rfl⟩, h2⟩; exact ⟨p, ⟨h1, by simpa using h2⟩, rfl⟩
 rw [e]
 by_cases h1 : x ∈ idsOf s <;> by_cases h2 : x ∈ d <;> simp [h1, h2]
theorem idsOf_app (l m : List S36) : idsOf (l ++ m) = idsOf l ++ idsOf m := by simp [idsOf]
theorem ids_has {l : List Int} {x : Int} (z : Int) : (decide (z = x) || decide (z ∈ l)) = decide (z ∈ l ++ [x]) := by
 by_cases e : z = x <;> simp [e]
set_option maxHeartbeats 2000000 in
set_option maxRecDepth 100000 in
theorem manifest_Apply.no (A0 : Option Addr) (c0 : Nat) (s : List S36) (sf sn : Int) (A1 : Option Addr) (c1 : Nat) (d : List Int) (A2 : Option Addr) (c2 : Nat) (a : List S36) (fl nx : Int) (w : World) (hr0 : Kd.C k36 w A0 s.length s) (hc0 : s.length ≤ c0) (hr1 : Kd.C (Kd.int .i64) w A1 d.length d) (hc1 : d.length ≤ c1) (hr2 : Kd.C k36 w A2 a.length a) (hc2 : a.length ≤ c2) (rb : Bool) (hrb : manifest_right.f d a fl nx = some rb) (h : rb = false ∨ (fl < sf ∨ nx < sn)) : Calls Try.prog 9 #[.agg #[.slice A0 s.length c0, .int .i64 sf, .int .i64 sn], .agg #[.slice A1 d.length c1, .slice A2 a.length c2, .int .i64 fl, .int .i64 nx]] w fun e w' => ∃ v0_ : Value, e = .returned (.tuple #[.agg #[v0_, .int .i64 0, .int .i64 0], .int .i64 8]) ∧ Kd.R k36 36 w' w.heap.size (fun _ => True) v0_ [] ∧ Below w.heap.size w w' := by
 have HRB := Aside0.mk hrb; clear hrb
 obtain ⟨b1, h1⟩ : ∃ b1, decide (fl < sf) = b1 := ⟨_, rfl⟩
 obtain ⟨b2, h2⟩ : ∃ b2, decide (nx < sn) = b2 := ⟨_, rfl⟩
 have h3 : rb = false ∨ (b1 = true ∨ b2 = true) := by rw [← h1, ← h2]; simpa using h
 have H3 := Aside0.mk h3; clear h h3
 have HR0 := Aside0.mk hr0; have HR1 := Aside0.mk hr1; have HR2 := Aside0.mk hr2; have HC1 := Aside0.mk hc1; have HC2 := Aside0.mk hc2; clear hr0 hr1 hr2 hc1 hc2
 have HF : Aside0 (FrA w (((w.alloc (.cells #[.slice A0 s.length c0, .int .i64 sf, .int .i64 sn] 26)).alloc (.cells #[.slice A1 d.length c1, .slice A2 a.length c2, .int .i64 fl, .int .i64 nx] 32)).alloc (.cells #[.slice none 0 0, .int .i64 0, .int .i64 0] 26)) #[.slice A0 s.length c0, .int .i64 sf, .int .i64 sn] #[.slice A1 d.length c1, .slice A2 a.length c2, .int .i64 fl, .int .i64 nx]) := ⟨by
  have b1 := heap_alloc_new w (.cells #[.slice A0 s.length c0, .int .i64 sf, .int .i64 sn] 26)
  have b2 := heap_alloc_new (w.alloc (.cells #[.slice A0 s.length c0, .int .i64 sf, .int .i64 sn] 26)) (.cells #[.slice A1 d.length c1, .slice A2 a.length c2, .int .i64 fl, .int .i64 nx] 32)
  have b3 := heap_alloc_new ((w.alloc (.cells #[.slice A0 s.length c0, .int .i64 sf, .int .i64 sn] 26)).alloc (.cells #[.slice A1 d.length c1, .slice A2 a.length c2, .int .i64 fl, .int .i64 nx] 32)) (.cells #[.slice none 0 0, .int .i64 0, .int .i64 0] 26)
  have e1 : (w.alloc (.cells #[.slice A0 s.length c0, .int .i64 sf, .int .i64 sn] 26)).heap.size = w.heap.size + 1 := by simp
  have e2 : ((w.alloc (.cells #[.slice A0 s.length c0, .int .i64 sf, .int .i64 sn] 26)).alloc (.cells #[.slice A1 d.length c1, .slice A2 a.length c2, .int .i64 fl, .int .i64 nx] 32)).heap.size = w.heap.size + 2 := by simp
  rw [e1] at b2; rw [e2] at b3
  exact ⟨blk_alloc (blk_alloc b1 _) _, blk_alloc b2 _, b3, below_alloc (below_alloc (below_alloc (Below.refl _ _) _) _) _⟩⟩
 go_enter Try.func9, Try.ntmps9
 go_upto_region 1 with (fail)
 generalize World.alloc (World.alloc (World.alloc w _) _) _ = w1 at HF ⊢
 have qs0 : w1.cell? ⟨w.heap.size, 0, none⟩ = some (.slice A0 s.length c0) := (blk_cell HF.out.1 0).trans rfl
 have qs1 : w1.cell? ⟨w.heap.size, 1, none⟩ = some (.int .i64 sf) := (blk_cell HF.out.1 1).trans rfl
 have qs2 : w1.cell? ⟨w.heap.size, 2, none⟩ = some (.int .i64 sn) := (blk_cell HF.out.1 2).trans rfl
 have qe0 : w1.cell? ⟨w.heap.size + 1, 0, none⟩ = some (.slice _ d.length c1) := (blk_cell HF.out.2.1 0).trans rfl
 have qe1 : w1.cell? ⟨w.heap.size + 1, 1, none⟩ = some (.slice _ a.length c2) := (blk_cell HF.out.2.1 1).trans rfl
 have qe2 : w1.cell? ⟨w.heap.size + 1, 2, none⟩ = some (.int .i64 fl) := (blk_cell HF.out.2.1 2).trans rfl
 have qe3 : w1.cell? ⟨w.heap.size + 1, 3, none⟩ = some (.int .i64 nx) := (blk_cell HF.out.2.1 3).trans rfl
 go_wp2_with fail
 refine (manifest_right.calls A1 c1 d A2 c2 a fl nx rb w1 (Kd.C_below HR1.out HF.out.2.2.2) HC1.out (Kd.C_below HR2.out HF.out.2.2.2) HC2.out HRB.out).mono ?_; rintro e w2 ⟨rfl, hb2⟩
 have HF2 := Aside0.mk (HF.out.below hb2)
 clear hb2 HF
 clear qs0 qs1 qs2 qe0 qe1 qe2 qe3
 have h3 := H3.out; clear H3
 cases rb <;> cases b1 <;> cases b2
 case true.false.false => simp at h3
 all_goals
  clear h3
  have qs0 : w2.cell? ⟨w.heap.size, 0, none⟩ = some (.slice A0 s.length c0) := (blk_cell HF2.out.1 0).trans rfl
  have qs1 : w2.cell? ⟨w.heap.size, 1, none⟩ = some (.int .i64 sf) := (blk_cell HF2.out.1 1).trans rfl
  have qs2 : w2.cell? ⟨w.heap.size, 2, none⟩ = some (.int .i64 sn) := (blk_cell HF2.out.1 2).trans rfl
  have qe0 : w2.cell? ⟨w.heap.size + 1, 0, none⟩ = some (.slice _ d.length c1) := (blk_cell HF2.out.2.1 0).trans rfl
  have qe1 : w2.cell? ⟨w.heap.size + 1, 1, none⟩ = some (.slice _ a.length c2) := (blk_cell HF2.out.2.1 1).trans rfl
  have qe2 : w2.cell? ⟨w.heap.size + 1, 2, none⟩ = some (.int .i64 fl) := (blk_cell HF2.out.2.1 2).trans rfl
  have qe3 : w2.cell? ⟨w.heap.size + 1, 3, none⟩ = some (.int .i64 nx) := (blk_cell HF2.out.2.1 3).trans rfl
  have qr0 : w2.cell? ⟨w.heap.size + 2, 0, none⟩ = some (.slice none 0 0) := (blk_cell HF2.out.2.2.1 0).trans rfl
  have qr1 : w2.cell? ⟨w.heap.size + 2, 1, none⟩ = some (.int .i64 0) := (blk_cell HF2.out.2.2.1 1).trans rfl
  have qr2 : w2.cell? ⟨w.heap.size + 2, 2, none⟩ = some (.int .i64 0) := (blk_cell HF2.out.2.2.1 2).trans rfl
  have qf0 := blk_frozen HF2.out.2.2.1 0
  have qf1 := blk_frozen HF2.out.2.2.1 1
  have qf2 := blk_frozen HF2.out.2.2.1 2
  go_wp2
  refine bodyPost_ret (v := .tuple #[.agg #[.slice none 0 0, .int .i64 0, .int .i64 0], .int .i64 8]) ?_ rfl ⟨_, rfl, Kd.R_nil _ _ _ _ _, HF2.out.put _ _ _⟩
  simp [results, Try.results9, go_sem, *]
set_option maxHeartbeats 16000000 in
set_option maxRecDepth 100000 in
theorem manifest_Apply.yes (A0 : Option Addr) (c0 : Nat) (s : List S36) (sf sn : Int) (A1 : Option Addr) (c1 : Nat) (d : List Int) (A2 : Option Addr) (c2 : Nat) (a : List S36) (fl nx : Int) (w : World) (hr0 : Kd.C k36 w A0 s.length s) (hc0 : s.length ≤ c0) (hr1 : Kd.C (Kd.int .i64) w A1 d.length d) (hc1 : d.length ≤ c1) (hr2 : Kd.C k36 w A2 a.length a) (hc2 : a.length ≤ c2) (hrb : manifest_right.f d a fl nx = some true) (h1 : decide (fl < sf) = false) (h2 : decide (nx < sn) = false) (hwf : wfP s = true) (hsl : s.length ≤ 1000000000) (hd : d.length ≤ 1000) (ha : a.length ≤ 1000) (hdx : ∀ x ∈ d, 0 ≤ x ∧ x ≤ 999999999) (hax : ∀ p ∈ a, 0 ≤ p.f0 ∧ p.f0 ≤ 999999999)
  {r1 : List S36} {r2 r3 r4 : Int} (hq : (if (d.all (goodD s d) && addB nx (idsOf (keptL s d)) a) = true then (keptL s d ++ a, fl, nx, (0 : Int)) else ([], 0, 0, 8)) = (r1, r2, r3, r4)) : Calls Try.prog 9 #[.agg #[.slice A0 s.length c0, .int .i64 sf, .int .i64 sn], .agg #[.slice A1 d.length c1, .slice A2 a.length c2, .int .i64 fl, .int .i64 nx]] w fun e w' => ∃ v0_ : Value, e = .returned (.tuple #[.agg #[v0_, .int .i64 r2, .int .i64 r3], .int .i64 r4]) ∧ Kd.R k36 36 w' w.heap.size (fun _ => True) v0_ r1 ∧ Below w.heap.size w w' := by
 have HRB := Aside0.mk hrb; have HWF := Aside0.mk hwf; have HDX := Aside0.mk hdx; have HAX := Aside0.mk hax; have HQ := Aside0.mk hq; have HSL := Aside0.mk hsl; have HD := Aside0.mk hd; have HA := Aside0.mk ha; have HC0 := Aside0.mk hc0
 clear hrb hwf hdx hax hq hsl hd ha hc0
 obtain ⟨rb, hrb⟩ : ∃ rb, rb = true := ⟨true, rfl⟩
 rw [← hrb] at HRB
 have hmm := @run_makeMap Try.prog
 have HR0 := Aside0.mk hr0; have HR1 := Aside0.mk hr1; have HR2 := Aside0.mk hr2; have HC1 := Aside0.mk hc1; have HC2 := Aside0.mk hc2; clear hr0 hr1 hr2 hc1 hc2
 have HF : Aside0 (FrA w (((w.alloc (.cells #[.slice A0 s.length c0, .int .i64 sf, .int .i64 sn] 26)).alloc (.cells #[.slice A1 d.length c1, .slice A2 a.length c2, .int .i64 fl, .int .i64 nx] 32)).alloc (.cells #[.slice none 0 0, .int .i64 0, .int .i64 0] 26)) #[.slice A0 s.length c0, .int .i64 sf, .int .i64 sn] #[.slice A1 d.length c1, .slice A2 a.length c2, .int .i64 fl, .int .i64 nx]) := ⟨by
  have b1 := heap_alloc_new w (.cells #[.slice A0 s.length c0, .int .i64 sf, .int .i64 sn] 26)
  have b2 := heap_alloc_new (w.alloc (.cells #[.slice A0 s.length c0, .int .i64 sf, .int .i64 sn] 26)) (.cells #[.slice A1 d.length c1, .slice A2 a.length c2, .int .i64 fl, .int .i64 nx] 32)
  have b3 := heap_alloc_new ((w.alloc (.cells #[.slice A0 s.length c0, .int .i64 sf, .int .i64 sn] 26)).alloc (.cells #[.slice A1 d.length c1, .slice A2 a.length c2, .int .i64 fl, .int .i64 nx] 32)) (.cells #[.slice none 0 0, .int .i64 0, .int .i64 0] 26)
  have e1 : (w.alloc (.cells #[.slice A0 s.length c0, .int .i64 sf, .int .i64 sn] 26)).heap.size = w.heap.size + 1 := by simp
  have e2 : ((w.alloc (.cells #[.slice A0 s.length c0, .int .i64 sf, .int .i64 sn] 26)).alloc (.cells #[.slice A1 d.length c1, .slice A2 a.length c2, .int .i64 fl, .int .i64 nx] 32)).heap.size = w.heap.size + 2 := by simp
  rw [e1] at b2; rw [e2] at b3
  exact ⟨blk_alloc (blk_alloc b1 _) _, blk_alloc b2 _, b3, below_alloc (below_alloc (below_alloc (Below.refl _ _) _) _) _⟩⟩
 go_enter Try.func9, Try.ntmps9
 go_upto_region 1 with (fail)
 generalize World.alloc (World.alloc (World.alloc w _) _) _ = w1 at HF ⊢
 have qs0 : w1.cell? ⟨w.heap.size, 0, none⟩ = some (.slice A0 s.length c0) := (blk_cell HF.out.1 0).trans rfl
 have qs1 : w1.cell? ⟨w.heap.size, 1, none⟩ = some (.int .i64 sf) := (blk_cell HF.out.1 1).trans rfl
 have qs2 : w1.cell? ⟨w.heap.size, 2, none⟩ = some (.int .i64 sn) := (blk_cell HF.out.1 2).trans rfl
 have qe0 : w1.cell? ⟨w.heap.size + 1, 0, none⟩ = some (.slice _ d.length c1) := (blk_cell HF.out.2.1 0).trans rfl
 have qe1 : w1.cell? ⟨w.heap.size + 1, 1, none⟩ = some (.slice _ a.length c2) := (blk_cell HF.out.2.1 1).trans rfl
 have qe2 : w1.cell? ⟨w.heap.size + 1, 2, none⟩ = some (.int .i64 fl) := (blk_cell HF.out.2.1 2).trans rfl
 have qe3 : w1.cell? ⟨w.heap.size + 1, 3, none⟩ = some (.int .i64 nx) := (blk_cell HF.out.2.1 3).trans rfl
 go_wp2_with fail
 refine (manifest_right.calls A1 c1 d A2 c2 a fl nx rb w1 (Kd.C_below HR1.out HF.out.2.2.2) HC1.out (Kd.C_below HR2.out HF.out.2.2.2) HC2.out HRB.out).mono ?_; rintro e w2 ⟨rfl, hb2⟩
 have HF2 := Aside0.mk (HF.out.below hb2)
 clear hb2 HF
 clear qs0 qs1 qs2 qe0 qe1 qe2 qe3
 subst hrb
 have qs0 : w2.cell? ⟨w.heap.size, 0, none⟩ = some (.slice A0 s.length c0) := (blk_cell HF2.out.1 0).trans rfl
 have qs1 : w2.cell? ⟨w.heap.size, 1, none⟩ = some (.int .i64 sf) := (blk_cell HF2.out.1 1).trans rfl
 have qs2 : w2.cell? ⟨w.heap.size, 2, none⟩ = some (.int .i64 sn) := (blk_cell HF2.out.1 2).trans rfl
 have qe0 : w2.cell? ⟨w.heap.size + 1, 0, none⟩ = some (.slice _ d.length c1) := (blk_cell HF2.out.2.1 0).trans rfl
 have qe1 : w2.cell? ⟨w.heap.size + 1, 1, none⟩ = some (.slice _ a.length c2) := (blk_cell HF2.out.2.1 1).trans rfl
 have qe2 : w2.cell? ⟨w.heap.size + 1, 2, none⟩ = some (.int .i64 fl) := (blk_cell HF2.out.2.1 2).trans rfl
 have qe3 : w2.cell? ⟨w.heap.size + 1, 3, none⟩ = some (.int .i64 nx) := (blk_cell HF2.out.2.1 3).trans rfl
 go_upto_region 4 with (fail)
 clear qs0 qs1 qs2 qe0 qe1 qe2 qe3
 have HM1 := Aside0.mk (MI.made w2)
 have HF3 := Aside0.mk (HF2.out.below (below_alloc (Below.refl _ _) (.map #[] 0)))
 have HB1 := Aside0.mk HF2.out.lt
 clear HF2
 generalize w2.heap.size = B1 at HM1 HB1 ⊢
 generalize World.alloc w2 _ = w3 at HM1 HF3 ⊢
 have qs0 : w3.cell? ⟨w.heap.size, 0, none⟩ = some (.slice A0 s.length c0) := (blk_cell HF3.out.1 0).trans rfl
 have qs1 : w3.cell? ⟨w.heap.size, 1, none⟩ = some (.int .i64 sf) := (blk_cell HF3.out.1 1).trans rfl
 have qs2 : w3.cell? ⟨w.heap.size, 2, none⟩ = some (.int .i64 sn) := (blk_cell HF3.out.1 2).trans rfl
 have qe0 : w3.cell? ⟨w.heap.size + 1, 0, none⟩ = some (.slice _ d.length c1) := (blk_cell HF3.out.2.1 0).trans rfl
 have qe1 : w3.cell? ⟨w.heap.size + 1, 1, none⟩ = some (.slice _ a.length c2) := (blk_cell HF3.out.2.1 1).trans rfl
 have qe2 : w3.cell? ⟨w.heap.size + 1, 2, none⟩ = some (.int .i64 fl) := (blk_cell HF3.out.2.1 2).trans rfl
 have qe3 : w3.cell? ⟨w.heap.size + 1, 3, none⟩ = some (.int .i64 nx) := (blk_cell HF3.out.2.1 3).trans rfl
 go_wp2_with fail
 clear qs0 qs1 qs2 qe0 qe1 qe2 qe3
 go_loopg [39] d.length (fun gq u wx => ∃ i : Nat, i ≤ d.length ∧ gq = d.length - i ∧ u = .int .i64 (i : Int) ∧ Aside0 (MI wx B1 i (fun x => ((d.take i).count x : Int)) (fun x => (d.take i).contains x)) ∧ Aside0 (FrA w wx #[.slice A0 s.length c0, .int .i64 sf, .int .i64 sn] #[.slice A1 d.length c1, .slice A2 a.length c2, .int .i64 fl, .int .i64 nx]))
 case atStart => exact ⟨0, by omega, by omega, rfl, ⟨HM1.out.congr (fun _ _ => by simp) (fun _ _ => by simp)⟩, HF3⟩
 case round =>
  clear HM1 HF3
  obtain ⟨i, hi, rfl, rfl, HM, HF⟩ := hrel
  by_cases hlt : i < d.length
  ·obtain ⟨g1, hg1⟩ : ∃ g1, d.length - i = g1 + 1 := ⟨d.length - i - 1, by omega⟩
   have k1 : decide ((i : Int) < (d.length : Int)) = true := decide_eq_true (by omega)
   have k2 : decide (i < d.length) = true := decide_eq_true hlt
   obtain ⟨ad, hA, hx0⟩ := Kd.at_int (Kd.C_below HR1.out HF.out.2.2.2) (i : Int) (by omega) (by omega)
   rw [Int.toNat_natCast] at hx0
   cases hA
   have i1 : (0 : Int) ≤ (i : Int) := by omega
   have i2 : (i : Int) < (d.length : Int) := by omega
   replace i1 := eq_true i1; replace i2 := eq_true i2
   have hxd := HDX.out (rd d (i : Int)) (by unfold rd; rw [Int.toNat_natCast, List.getD_eq_getElem?_getD, List.getElem?_eq_getElem hlt]; exact List.getElem_mem hlt)
   have htk := rdI_take hlt
   generalize rd d (i : Int) = x at hx0 hxd htk ⊢
   have HX := Aside0.mk (wf_of (x := x) (by omega) (by omega))
   have HTK := Aside0.mk htk; clear htk
   have hlook := HM.out.look HX.out
   obtain ⟨m, hm⟩ : ∃ m, (d.take i).count x = m := ⟨_, rfl⟩
   have hml : m ≤ 1000 := by have h1 := List.count_le_length (a := x) (l := d.take i); rw [List.length_take] at h1; have := HD.out; omega
   rw [hm] at hlook
   have hib : i ≤ 1000 := by have := HD.out; omega
   have HMM := Aside0.mk hm; have HML := Aside0.mk hml; have HI := Aside0.mk hi; have HLT := Aside0.mk hlt; clear hm hi hlt
   go_wp2_with (at_mapUpdate; refine mi_put rfl _ _ _ rfl rfl HM.out (by unfold maxLen; have := HLT.out; have := HD.out; omega) rfl rfl HX.out (wf_of (by omega) (by omega)) ?_; intro w5 hm5 hg5; have HM5 := Aside0.mk hm5; have HG5 := Aside0.mk hg5; clear hm5 hg5; go_frame)
   go_roundg g1
   case measure => omega
   case rel => exact ⟨i + 1, by have := HLT.out; omega, by omega, by go_num, ⟨HM5.out.congr (fun z _ => by
     rw [HTK.out, List.count_append, List.count_singleton]
     by_cases e : z = x
     ·subst e; rw [if_pos rfl, HMM.out]; simp
     ·rw [if_neg e]; simp [Ne.symm e]) (fun z _ => by
     rw [HTK.out]; simp [List.contains_eq_mem, or_comm])⟩, ⟨HF.out.grown HG5.out (fun k hk => by cases hk; exact HB1.out)⟩⟩
  ·obtain rfl : i = d.length := by omega
   have k1 : decide ((d.length : Int) < (d.length : Int)) = false := decide_eq_false (by omega)
   have k2 : decide (d.length < d.length) = false := decide_eq_false (by omega)
   have HM1 : Aside0 (MI wr B1 d.length (fun x => (d.count x : Int)) (fun x => d.contains x)) := ⟨by have := HM.out; rwa [List.take_length] at this⟩
   clear HM hi hlt
   have qs0 : wr.cell? ⟨w.heap.size, 0, none⟩ = some (.slice A0 s.length c0) := (blk_cell HF.out.1 0).trans rfl
   have qs1 : wr.cell? ⟨w.heap.size, 1, none⟩ = some (.int .i64 sf) := (blk_cell HF.out.1 1).trans rfl
   have qs2 : wr.cell? ⟨w.heap.size, 2, none⟩ = some (.int .i64 sn) := (blk_cell HF.out.1 2).trans rfl
   go_upto_region 11 with (fail)
   clear qs0 qs1 qs2
   clear k1 k2
   have HM2 := Aside0.mk (MI.made wr)
   have HM1' := Aside0.mk (HM1.out.alloc (.map #[] 0))
   have HF4 := Aside0.mk (HF.out.below (below_alloc (Below.refl _ _) (.map #[] 0)))
   have HB2 := Aside0.mk HF.out.lt
   have HNE : Aside0 (B1 ≠ wr.heap.size) := ⟨by have := HM1.out.lt; omega⟩
   clear HF HM1
   generalize wr.heap.size = B2 at HM2 HB2 HNE ⊢
   generalize World.alloc wr _ = w4 at HM2 HM1' HF4 ⊢
   have HM1 := HM1'; clear HM1'
   have qs0 : w4.cell? ⟨w.heap.size, 0, none⟩ = some (.slice A0 s.length c0) := (blk_cell HF4.out.1 0).trans rfl
   have qs1 : w4.cell? ⟨w.heap.size, 1, none⟩ = some (.int .i64 sf) := (blk_cell HF4.out.1 1).trans rfl
   have qs2 : w4.cell? ⟨w.heap.size, 2, none⟩ = some (.int .i64 sn) := (blk_cell HF4.out.1 2).trans rfl
   go_wp2_with fail
   clear qs0 qs1 qs2
   go_loopg [10, 52] s.length (fun gq uv u wx => ∃ (i : Nat) (v : Value), i ≤ s.length ∧ gq = s.length - i ∧ u = .int .i64 (i : Int) ∧ uv = v ∧ Aside0 (Kd.R k36 36 wx w.heap.size (fun _ => True) v (keptL (s.take i) d)) ∧ Aside0 (MI wx B1 d.length (fun x => (d.count x : Int)) (fun x => d.contains x)) ∧ Aside0 (MI wx B2 i (fun x => if x ∈ idsOf (s.take i) then (if x ∈ d then -1 else 1) else 0) (fun x => decide (x ∈ idsOf (s.take i)))) ∧ Aside0 (FrA w wx #[.slice A0 s.length c0, .int .i64 sf, .int .i64 sn] #[.slice A1 d.length c1, .slice A2 a.length c2, .int .i64 fl, .int .i64 nx]))
   case atStart => exact ⟨0, .slice none 0 0, by omega, by omega, rfl, rfl, ⟨Kd.R_nil _ _ _ _ _⟩, HM1, ⟨HM2.out.congr (fun _ _ => by simp [idsOf]) (fun _ _ => by simp [idsOf])⟩, HF4⟩
   case round =>
    clear HM1 HM2 HF4
    obtain ⟨i, v, hi, rfl, rfl, rfl, HV, HM1, HM2, HF⟩ := hrel
    obtain ⟨Av, cv, rfl⟩ := Kd.R_slice HV.out
    by_cases hlt : i < s.length
    ·obtain ⟨g1, hg1⟩ : ∃ g1, s.length - i = g1 + 1 := ⟨s.length - i - 1, by omega⟩
     have k1 : decide ((i : Int) < (s.length : Int)) = true := decide_eq_true (by omega)
     have k2 : decide (i < s.length) = true := decide_eq_true hlt
     obtain ⟨ad, hA, hx0, hx1, hx2, hx3, hx4, hx5, hx6, hx7⟩ := at_T36 (Kd.C_below HR0.out HF.out.2.2.2) (i : Int) (by omega) (by omega)
     rw [Int.toNat_natCast] at hx0 hx1 hx2 hx3 hx4 hx5 hx6 hx7
     cases hA
     have i1 : (0 : Int) ≤ (i : Int) := by omega
     have i2 : (i : Int) < (s.length : Int) := by omega
     replace i1 := eq_true i1; replace i2 := eq_true i2
     have hwf := wf_rd HWF.out hlt
     have htk := rdP_take hlt
     generalize rd_T36 s (i : Int) = p at hx0 hx1 hx2 hx3 hx4 hx5 hx6 hx7 hwf htk ⊢
     have hib : i ≤ 1000000000 := by have := HSL.out; omega
     have HX := Aside0.mk hwf; have HTK := Aside0.mk htk; have HI := Aside0.mk hi; have HLT := Aside0.mk hlt; clear hwf htk hi hlt
     go_upto_region 14 with (fail)
     clear hx0 hx1 hx2 hx3 hx4 hx5 hx6 hx7
     have hvv := heap_alloc_new wr (.cells #[.int .i64 p.f0, .int .i64 p.f1, .bool p.f2.f0, .int .i64 p.f2.f1, .string p.f2.f2, .bool p.f3.f0, .int .i64 p.f3.f1, .string p.f3.f2] 36)
     have hbn := below_alloc (Below.refl wr.heap.size wr) (.cells #[.int .i64 p.f0, .int .i64 p.f1, .bool p.f2.f0, .int .i64 p.f2.f1, .string p.f2.f2, .bool p.f3.f0, .int .i64 p.f3.f1, .string p.f3.f2] 36)
     have HV6 := Aside0.mk (Kd.R_below HV.out hbn); have HM16 := Aside0.mk (HM1.out.below hbn); have HM26 := Aside0.mk (HM2.out.below hbn); have HF6 := Aside0.mk (HF.out.below hbn); have HVN := Aside0.mk (show w.heap.size + 3 ≤ wr.heap.size from HF.out.lt)
     clear hbn HV HM1 HM2 HF
     generalize wr.heap.size = V at hvv HVN ⊢
     generalize World.alloc wr _ = w6 at HV6 HM16 HM26 HF6 hvv ⊢
     have HVV := Aside0.mk hvv; clear hvv
     obtain ⟨pid, hpid⟩ : ∃ pid, p.f0 = pid := ⟨_, rfl⟩
     have hl1 := HM16.out.look HX.out
     have z0 : w6.cell? ⟨V, 0, none⟩ = some (.int .i64 p.f0) := (blk_cell HVV.out 0).trans rfl
     rw [hpid] at hl1 z0
     obtain ⟨m, hm⟩ : ∃ m, d.count pid = m := ⟨_, rfl⟩
     rw [hm] at hl1
     have HMM := Aside0.mk hm; have HPID := Aside0.mk hpid; clear hm hpid
     by_cases hz : 0 < m
     ·have k3 : decide ((0 : Int) < (m : Int)) = true := decide_eq_true (by omega)
      have k4 : decide (0 < m) = true := decide_eq_true hz
      have HZ := Aside0.mk hz; clear hz
      go_wp2_with (at_mapUpdate; refine mi_put rfl _ _ _ rfl rfl HM26.out (by unfold maxLen; have := HLT.out; have := HSL.out; omega) rfl rfl (HPID.out ▸ HX.out) (by decide) ?_; intro w7 hm7 hg7; have HM7 := Aside0.mk hm7; have HG7 := Aside0.mk hg7; clear hm7 hg7; go_frame)
      go_roundg g1
      case measure => omega
      case rel => exact ⟨i + 1, .slice Av (keptL (s.take i) d).length cv, by have := HLT.out; omega, by omega, by go_num, rfl, ⟨by
        rw [HTK.out, keptL_drop (by rw [HPID.out]; exact List.count_pos_iff.mp (by rw [HMM.out]; exact HZ.out))]; exact R_far HV6.out HG7.out (HM26.out.ne_own HV6.out)⟩, ⟨HM16.out.kept HG7.out (by simpa using HNE.out)⟩, ⟨HM7.out.congr (fun z _ => by
        rw [HTK.out, idsOf_snoc, HPID.out]; exact ids_yes (List.count_pos_iff.mp (by rw [HMM.out]; exact HZ.out)) z) (fun z _ => by rw [HTK.out, idsOf_snoc, HPID.out]; exact ids_has z)⟩, ⟨HF6.out.grown HG7.out (fun k hk => by cases hk; exact HB2.out)⟩⟩
     ·have hz' : m = 0 := by omega
      have k3 : decide ((0 : Int) < (m : Int)) = false := decide_eq_false (by omega)
      have k4 : decide (0 < m) = false := decide_eq_false hz
      have HZ := Aside0.mk hz'; clear hz hz'
      have HND : Aside0 (¬ p.f0 ∈ d) := ⟨fun h => by have := List.count_pos_iff.mpr h; rw [HPID.out, HMM.out, HZ.out] at this; omega⟩
      have HLL : Aside0 ((keptL (s.take i) d).length ≤ 1000000000) := ⟨by have h1 : (keptL (s.take i) d).length ≤ (s.take i).length := List.length_filter_le _ _; rw [List.length_take] at h1; omega⟩
      go_upto_region 17 with (at_mapUpdate; refine mi_put rfl _ _ _ rfl rfl HM26.out (by unfold maxLen; have := HLT.out; have := HSL.out; omega) rfl rfl (HPID.out ▸ HX.out) (by decide) ?_; intro w7 hm7 hg7; have HM7 := Aside0.mk hm7; have HG7 := Aside0.mk hg7; clear hm7 hg7; go_frame)
      have HVV7 := Aside0.mk ((HG7.out.block V (blk_lt HVV.out) (by have := HM26.out.ne_blk HVV.out; simpa using Ne.symm this)).trans HVV.out)
      have HV7 := Aside0.mk (R_far HV6.out HG7.out (HM26.out.ne_own HV6.out)); have HM17 := Aside0.mk (HM16.out.kept HG7.out (by simpa using HNE.out)); have HF7 := Aside0.mk (HF6.out.grown HG7.out (fun k hk => by cases hk; exact HB2.out))
      clear z0 hl1 HG7 HV6 HM16 HM26 HF6 HVV k3 k4
      have z0 : w7.cell? ⟨V, 0, none⟩ = some (.int .i64 p.f0) := (blk_cell HVV7.out 0).trans rfl
      have z1 : w7.cell? ⟨V, 1, none⟩ = some (.int .i64 p.f1) := (blk_cell HVV7.out 1).trans rfl
      have z2 : w7.cell? ⟨V, 2, none⟩ = some (.bool p.f2.f0) := (blk_cell HVV7.out 2).trans rfl
      have z3 : w7.cell? ⟨V, 3, none⟩ = some (.int .i64 p.f2.f1) := (blk_cell HVV7.out 3).trans rfl
      have z4 : w7.cell? ⟨V, 4, none⟩ = some (.string p.f2.f2) := (blk_cell HVV7.out 4).trans rfl
      have z5 : w7.cell? ⟨V, 5, none⟩ = some (.bool p.f3.f0) := (blk_cell HVV7.out 5).trans rfl
      have z6 : w7.cell? ⟨V, 6, none⟩ = some (.int .i64 p.f3.f1) := (blk_cell HVV7.out 6).trans rfl
      have z7 : w7.cell? ⟨V, 7, none⟩ = some (.string p.f3.f2) := (blk_cell HVV7.out 7).trans rfl
      go_wp2_with (at_builtin; refine Kd.R_append k36 (w0 := w) w.heap.size rfl (.tmp 67) (.tmp 69) 24 36 (.agg #[(.int .i64 0), (.int .i64 0), (.bool false), (.int .i64 0), (.string ⟨#[]⟩), (.bool false), (.int .i64 0), (.string ⟨#[]⟩)]) 80 rfl Try.underlying24 info36 rfl (by decide) (by omega) _ (keptL (s.take i) d) p [.int .i64 p.f0, .int .i64 p.f1, .bool p.f2.f0, .int .i64 p.f2.f1, .string p.f2.f2, .bool p.f3.f0, .int .i64 p.f3.f1, .string p.f3.f2] (fun _ => True) (fun _ => False) rfl rfl (k36_mkM _ _ _ p) (fun _ h => h.elim) (fun _ _ => trivial) HV7.out HF7.out.2.2.2 HF7.out.2.2.2.size (by have := HLL.out; omega) ?_; intro v1 w8 hv8 hb8 hg8 _; have HV8 := Aside0.mk hv8; have HG8 := Aside0.mk hg8; clear hv8 hb8 hg8; go_frame)
      go_roundg g1
      case measure => omega
      case rel => exact ⟨i + 1, v1, by have := HLT.out; omega, by omega, by go_num, rfl, ⟨by rw [HTK.out, keptL_keep HND.out]; exact HV8.out⟩, ⟨HM17.out.kept HG8.out (HM17.out.ne_own HV7.out)⟩, ⟨(HM7.out.kept HG8.out (HM7.out.ne_own HV7.out)).congr (fun z _ => by
        rw [HTK.out, idsOf_snoc, HPID.out]; exact ids_no (by rw [← HPID.out]; exact HND.out) z) (fun z _ => by rw [HTK.out, idsOf_snoc, HPID.out]; exact ids_has z)⟩, ⟨HF7.out.grown HG8.out (fun k hk => HF7.out.own HV7.out k hk)⟩⟩
    ·obtain rfl : i = s.length := by omega
     have k1 : decide ((s.length : Int) < (s.length : Int)) = false := decide_eq_false (by omega)
     have k2 : decide (s.length < s.length) = false := decide_eq_false (by omega)
     have HV0 : Aside0 (Kd.R k36 36 wr w.heap.size (fun _ => True) (.slice Av (keptL s d).length cv) (keptL s d)) := ⟨by have := HV.out; rwa [List.take_length] at this⟩
     have HM20 : Aside0 (MI wr B2 s.length (fun x => if x ∈ idsOf s then (if x ∈ d then -1 else 1) else 0) (fun x => decide (x ∈ idsOf s))) := ⟨by have := HM2.out; rwa [List.take_length] at this⟩
     rw [List.take_length]
     clear HV HM2 hi hlt
     obtain ⟨D1, hD1, hF1⟩ := HM1.out
     have HD1 := Aside0.mk hD1; have HF1 := Aside0.mk hF1; clear hD1 hF1 HM1
     go_wp2_with (at_range; refine mi_range rfl _ rfl rfl HD1.out ?_; intro w5 hr5 hg5 hs5; have HR5 := Aside0.mk hr5; have HG5 := Aside0.mk hg5; clear hr5 hg5 hs5; go_frame)
     clear k1 k2
     have HV5 := Aside0.mk (R_none HV0.out HG5.out); have HM5 := Aside0.mk (HM20.out.kept HG5.out (by simp)); have HF5 := Aside0.mk (HF.out.grown HG5.out (fun k hk => by cases hk)); have HRB := Aside0.mk HF.out.lt; have HNR : Aside0 (B2 ≠ wr.heap.size) := ⟨by have := HM20.out.lt; omega⟩; have HVR : Aside0 (some wr.heap.size ≠ (Value.slice Av (keptL s d).length cv).ownBlock) := ⟨fun e => by have := Kd.R_lt HV0.out _ e.symm; omega⟩
     clear HV0 HM20 HF HG5 HD1
     generalize wr.heap.size = r at HR5 HRB HNR HVR ⊢
     generalize hVA : Value.slice Av (keptL s d).length cv = va at HV5 HVR ⊢
     clear hVA
     go_loopg [13] (Maps.size D1) (fun gq u wx => ∃ (left : Lit → Bool) (cnt : Nat), gq = cnt ∧ Aside0 (MR wx B1 r d.length D1 left cnt) ∧ Aside0 (∀ x : Int, x ∈ d → left (kI x) = false → goodD s d x = true) ∧ Aside0 (∀ x : Int, (Lit.int .i64 x).wf = true → left (kI x) = true → x ∈ d) ∧ Aside0 (Kd.R k36 36 wx w.heap.size (fun _ => True) va (keptL s d)) ∧ Aside0 (MI wx B2 s.length (fun x => if x ∈ idsOf s then (if x ∈ d then -1 else 1) else 0) (fun x => decide (x ∈ idsOf s))) ∧ Aside0 (FrA w wx #[.slice A0 s.length c0, .int .i64 sf, .int .i64 sn] #[.slice A1 d.length c1, .slice A2 a.length c2, .int .i64 fl, .int .i64 nx]))
     case atStart => exact ⟨_, _, rfl, HR5, ⟨fun x hx hl => by have h1 := HDX.out x hx; have h2 := (HF1.out x (wf_of (by omega) (by omega))).2; rw [h2] at hl; simp [hx] at hl⟩, ⟨fun x hw hl => by have h2 := (HF1.out x hw).2; rw [h2] at hl; simpa using hl⟩, HV5, HM5, HF5⟩
     case round =>
      clear HR5 HV5 HM5 HF5
      obtain ⟨left, cnt, rfl, HR, HG, HL, HV, HM2, HF⟩ := hrel
      skip
      go_wp2_with (at_next; refine mi_next rfl _ rfl HF1.out rfl HR.out ?_ ?_)
      ·intro hl
       have hall : d.all (goodD s d) = true := List.all_eq_true.mpr (fun x hx => HG.out x hx (hl x))
       have HQ2 := Aside0.mk (show (if addB nx (idsOf (keptL s d)) a = true then (keptL s d ++ a, fl, nx, (0 : Int)) else ([], 0, 0, 8)) = (r1, r2, r3, r4) from by have := HQ.out; rwa [hall, Bool.true_and] at this)
       clear hl hall HG HL HR HQ
       have qe0 : wr.cell? ⟨w.heap.size + 1, 0, none⟩ = some (.slice _ d.length c1) := (blk_cell HF.out.2.1 0).trans rfl
       have qe1 : wr.cell? ⟨w.heap.size + 1, 1, none⟩ = some (.slice _ a.length c2) := (blk_cell HF.out.2.1 1).trans rfl
       have qe2 : wr.cell? ⟨w.heap.size + 1, 2, none⟩ = some (.int .i64 fl) := (blk_cell HF.out.2.1 2).trans rfl
       have qe3 : wr.cell? ⟨w.heap.size + 1, 3, none⟩ = some (.int .i64 nx) := (blk_cell HF.out.2.1 3).trans rfl
       go_wp2_with fail
       clear qe0 qe1 qe2 qe3
       go_loopg [10, 91] a.length (fun gq uv u wx => ∃ (i : Nat) (v : Value) (f : Int → Int) (g : Int → Bool), i ≤ a.length ∧ gq = a.length - i ∧ u = .int .i64 (i : Int) ∧ uv = v ∧ Aside0 (Kd.R k36 36 wx w.heap.size (fun _ => True) v (keptL s d ++ a.take i)) ∧ Aside0 (MI wx B2 (s.length + i) f g) ∧ Aside0 (∀ x : Int, 0 < f x ↔ x ∈ idsOf (keptL s d ++ a.take i)) ∧ Aside0 (FrA w wx #[.slice A0 s.length c0, .int .i64 sf, .int .i64 sn] #[.slice A1 d.length c1, .slice A2 a.length c2, .int .i64 fl, .int .i64 nx]) ∧ Aside0 (addB nx (idsOf (keptL s d ++ a.take i)) (a.drop i) = addB nx (idsOf (keptL s d)) a))
       case atStart => exact ⟨0, va, _, _, by omega, by omega, rfl, rfl, ⟨by rw [List.take_zero, List.append_nil]; exact HV.out⟩, HM2, ⟨fun x => by rw [List.take_zero, List.append_nil]; exact ids_kept x⟩, HF, ⟨by rw [List.take_zero, List.append_nil, List.drop_zero]⟩⟩
       case round =>
        clear HV HM2 HF
        obtain ⟨i, v, f, g, hi, rfl, rfl, rfl, HV, HM, HFP, HF, HAB⟩ := hrel
        obtain ⟨Av4, cv4, rfl⟩ := Kd.R_slice HV.out
        by_cases hlt : i < a.length
        ·obtain ⟨g1, hg1⟩ : ∃ g1, a.length - i = g1 + 1 := ⟨a.length - i - 1, by omega⟩
         have k1 : decide ((i : Int) < (a.length : Int)) = true := decide_eq_true (by omega)
         have k2 : decide (i < a.length) = true := decide_eq_true hlt
         obtain ⟨ad, hA, hx0, hx1, hx2, hx3, hx4, hx5, hx6, hx7⟩ := at_T36 (Kd.C_below HR2.out HF.out.2.2.2) (i : Int) (by omega) (by omega)
         rw [Int.toNat_natCast] at hx0 hx1 hx2 hx3 hx4 hx5 hx6 hx7
         cases hA
         have i1 : (0 : Int) ≤ (i : Int) := by omega
         have i2 : (i : Int) < (a.length : Int) := by omega
         replace i1 := eq_true i1; replace i2 := eq_true i2
         have hpx := HAX.out (rd_T36 a (i : Int)) (by unfold rd_T36; rw [Int.toNat_natCast, List.getD_eq_getElem?_getD, List.getElem?_eq_getElem hlt]; exact List.getElem_mem hlt)
         have htk := rdP_take hlt
         have hab := HAB.out
         rw [rdP_drop hlt] at hab
         generalize rd_T36 a (i : Int) = p at hx0 hx1 hx2 hx3 hx4 hx5 hx6 hx7 hpx htk hab ⊢
         have hib : i ≤ 1000 := by have := HA.out; omega
         have HX := Aside0.mk (wf_of (x := p.f0) (by omega) (by omega)); have HTK := Aside0.mk htk; have HI := Aside0.mk hi; have HLT := Aside0.mk hlt; have HAB2 := Aside0.mk hab; clear hpx htk hi hlt hab HAB
         go_upto_region 27 with (fail)
         clear hx0 hx1 hx2 hx3 hx4 hx5 hx6 hx7
         have hvv := heap_alloc_new wr (.cells #[.int .i64 p.f0, .int .i64 p.f1, .bool p.f2.f0, .int .i64 p.f2.f1, .string p.f2.f2, .bool p.f3.f0, .int .i64 p.f3.f1, .string p.f3.f2] 36)
         have hbn := below_alloc (Below.refl wr.heap.size wr) (.cells #[.int .i64 p.f0, .int .i64 p.f1, .bool p.f2.f0, .int .i64 p.f2.f1, .string p.f2.f2, .bool p.f3.f0, .int .i64 p.f3.f1, .string p.f3.f2] 36)
         have HV6 := Aside0.mk (Kd.R_below HV.out hbn); have HM6 := Aside0.mk (HM.out.below hbn); have HF6 := Aside0.mk (HF.out.below hbn)
         clear hbn HV HM HF
         generalize wr.heap.size = V at hvv ⊢
         generalize World.alloc wr _ = w6 at HV6 HM6 HF6 hvv ⊢
         have HVV := Aside0.mk hvv; clear hvv
         obtain ⟨pid, hpid⟩ : ∃ pid, p.f0 = pid := ⟨_, rfl⟩
         have hlook := HM6.out.look HX.out
         have hfp := HFP.out p.f0
         have z0 : w6.cell? ⟨V, 0, none⟩ = some (.int .i64 p.f0) := (blk_cell HVV.out 0).trans rfl
         rw [hpid] at hlook z0 hfp
         obtain ⟨q, hq⟩ : ∃ q, f pid = q := ⟨_, rfl⟩
         rw [hq] at hlook hfp
         have HPID := Aside0.mk hpid; have HFQ := Aside0.mk hfp; clear hpid hq hfp
         by_cases hn : nx ≤ pid
         ·have k3 : decide (nx ≤ pid) = true := decide_eq_true hn
          have hbad : addB nx (idsOf (keptL s d ++ a.take i)) (p :: a.drop (i + 1)) = false := by unfold addB; rw [HPID.out, decide_eq_true hn]; rfl
          obtain ⟨rfl, rfl, rfl, rfl⟩ : [] = r1 ∧ 0 = r2 ∧ 0 = r3 ∧ 8 = r4 := by have := HQ2.out; rw [← HAB2.out, hbad, if_neg (by decide)] at this; simpa using this
          clear hbad hn hlook
          have qe0 : w6.cell? ⟨w.heap.size + 1, 0, none⟩ = some (.slice _ d.length c1) := (blk_cell HF6.out.2.1 0).trans rfl
          have qe1 : w6.cell? ⟨w.heap.size + 1, 1, none⟩ = some (.slice _ a.length c2) := (blk_cell HF6.out.2.1 1).trans rfl
          have qe2 : w6.cell? ⟨w.heap.size + 1, 2, none⟩ = some (.int .i64 fl) := (blk_cell HF6.out.2.1 2).trans rfl
          have qe3 : w6.cell? ⟨w.heap.size + 1, 3, none⟩ = some (.int .i64 nx) := (blk_cell HF6.out.2.1 3).trans rfl
          have qr0 : w6.cell? ⟨w.heap.size + 2, 0, none⟩ = some (.slice none 0 0) := (blk_cell HF6.out.2.2.1 0).trans rfl
          have qr1 : w6.cell? ⟨w.heap.size + 2, 1, none⟩ = some (.int .i64 0) := (blk_cell HF6.out.2.2.1 1).trans rfl
          have qr2 : w6.cell? ⟨w.heap.size + 2, 2, none⟩ = some (.int .i64 0) := (blk_cell HF6.out.2.2.1 2).trans rfl
          have qf0 := blk_frozen HF6.out.2.2.1 0
          have qf1 := blk_frozen HF6.out.2.2.1 1
          have qf2 := blk_frozen HF6.out.2.2.1 2
          go_wp2
          refine bodyPost_ret (v := .tuple #[.agg #[.slice none 0 0, .int .i64 0, .int .i64 0], .int .i64 8]) ?_ rfl ⟨_, rfl, Kd.R_nil _ _ _ _ _, HF6.out.put _ _ _⟩
          simp [results, Try.results9, go_sem, *]
         ·have k3 : decide (nx ≤ pid) = false := decide_eq_false hn
          by_cases hz : 0 < q
          ·have k4 : decide ((0 : Int) < q) = true := decide_eq_true hz
           have hin := HFQ.out.mp hz
           have hbad : addB nx (idsOf (keptL s d ++ a.take i)) (p :: a.drop (i + 1)) = false := by unfold addB; rw [HPID.out]; simp [hin]
           obtain ⟨rfl, rfl, rfl, rfl⟩ : [] = r1 ∧ 0 = r2 ∧ 0 = r3 ∧ 8 = r4 := by have := HQ2.out; rw [← HAB2.out, hbad, if_neg (by decide)] at this; simpa using this
           clear hbad hn hz hin
           have qe0 : w6.cell? ⟨w.heap.size + 1, 0, none⟩ = some (.slice _ d.length c1) := (blk_cell HF6.out.2.1 0).trans rfl
           have qe1 : w6.cell? ⟨w.heap.size + 1, 1, none⟩ = some (.slice _ a.length c2) := (blk_cell HF6.out.2.1 1).trans rfl
           have qe2 : w6.cell? ⟨w.heap.size + 1, 2, none⟩ = some (.int .i64 fl) := (blk_cell HF6.out.2.1 2).trans rfl
           have qe3 : w6.cell? ⟨w.heap.size + 1, 3, none⟩ = some (.int .i64 nx) := (blk_cell HF6.out.2.1 3).trans rfl
           have qr0 : w6.cell? ⟨w.heap.size + 2, 0, none⟩ = some (.slice none 0 0) := (blk_cell HF6.out.2.2.1 0).trans rfl
           have qr1 : w6.cell? ⟨w.heap.size + 2, 1, none⟩ = some (.int .i64 0) := (blk_cell HF6.out.2.2.1 1).trans rfl
           have qr2 : w6.cell? ⟨w.heap.size + 2, 2, none⟩ = some (.int .i64 0) := (blk_cell HF6.out.2.2.1 2).trans rfl
           have qf0 := blk_frozen HF6.out.2.2.1 0
           have qf1 := blk_frozen HF6.out.2.2.1 1
           have qf2 := blk_frozen HF6.out.2.2.1 2
           go_wp2
           refine bodyPost_ret (v := .tuple #[.agg #[.slice none 0 0, .int .i64 0, .int .i64 0], .int .i64 8]) ?_ rfl ⟨_, rfl, Kd.R_nil _ _ _ _ _, HF6.out.put _ _ _⟩
           simp [results, Try.results9, go_sem, *]
          ·have k4 : decide ((0 : Int) < q) = false := decide_eq_false hz
           have HND : Aside0 (¬ pid ∈ idsOf (keptL s d ++ a.take i)) := ⟨fun h => hz (HFQ.out.mpr h)⟩
           have HLL : Aside0 ((keptL s d ++ a.take i).length ≤ 1000001000) := ⟨by have h1 : (keptL s d).length ≤ s.length := List.length_filter_le _ _; have := HSL.out; rw [List.length_append, List.length_take]; omega⟩
           have HAN : Aside0 (addB nx (idsOf (keptL s d ++ a.take (i + 1))) (a.drop (i + 1)) = addB nx (idsOf (keptL s d)) a) := ⟨by
             rw [← HAB2.out, HTK.out, ← List.append_assoc, idsOf_snoc, HPID.out]
             conv => rhs; unfold addB
             rw [HPID.out, decide_eq_false hn]; simp [HND.out]⟩
           clear hn hz
           have qe0 : w6.cell? ⟨w.heap.size + 1, 0, none⟩ = some (.slice _ d.length c1) := (blk_cell HF6.out.2.1 0).trans rfl
           have qe1 : w6.cell? ⟨w.heap.size + 1, 1, none⟩ = some (.slice _ a.length c2) := (blk_cell HF6.out.2.1 1).trans rfl
           have qe2 : w6.cell? ⟨w.heap.size + 1, 2, none⟩ = some (.int .i64 fl) := (blk_cell HF6.out.2.1 2).trans rfl
           have qe3 : w6.cell? ⟨w.heap.size + 1, 3, none⟩ = some (.int .i64 nx) := (blk_cell HF6.out.2.1 3).trans rfl
           go_upto_region 30 with (at_mapUpdate; refine mi_put rfl _ _ _ rfl rfl HM6.out (by unfold maxLen; have := HLT.out; have := HSL.out; have := HA.out; omega) rfl rfl (HPID.out ▸ HX.out) (by decide) ?_; intro w7 hm7 hg7; have HM7 := Aside0.mk hm7; have HG7 := Aside0.mk hg7; clear hm7 hg7; go_frame)
           have HVV7 := Aside0.mk ((HG7.out.block V (blk_lt HVV.out) (by have := HM6.out.ne_blk HVV.out; simpa using Ne.symm this)).trans HVV.out)
           have HV7 := Aside0.mk (R_far HV6.out HG7.out (HM6.out.ne_own HV6.out)); have HF7 := Aside0.mk (HF6.out.grown HG7.out (fun k hk => by cases hk; exact HB2.out))
           clear z0 hlook HG7 HV6 HM6 HF6 HVV k3 k4 qe0 qe1 qe2 qe3
           have z0 : w7.cell? ⟨V, 0, none⟩ = some (.int .i64 p.f0) := (blk_cell HVV7.out 0).trans rfl
           have z1 : w7.cell? ⟨V, 1, none⟩ = some (.int .i64 p.f1) := (blk_cell HVV7.out 1).trans rfl
           have z2 : w7.cell? ⟨V, 2, none⟩ = some (.bool p.f2.f0) := (blk_cell HVV7.out 2).trans rfl
           have z3 : w7.cell? ⟨V, 3, none⟩ = some (.int .i64 p.f2.f1) := (blk_cell HVV7.out 3).trans rfl
           have z4 : w7.cell? ⟨V, 4, none⟩ = some (.string p.f2.f2) := (blk_cell HVV7.out 4).trans rfl
           have z5 : w7.cell? ⟨V, 5, none⟩ = some (.bool p.f3.f0) := (blk_cell HVV7.out 5).trans rfl
           have z6 : w7.cell? ⟨V, 6, none⟩ = some (.int .i64 p.f3.f1) := (blk_cell HVV7.out 6).trans rfl
           have z7 : w7.cell? ⟨V, 7, none⟩ = some (.string p.f3.f2) := (blk_cell HVV7.out 7).trans rfl
           go_wp2_with (at_builtin; refine Kd.R_append k36 (w0 := w) w.heap.size rfl (.tmp 111) (.tmp 113) 24 36 (.agg #[(.int .i64 0), (.int .i64 0), (.bool false), (.int .i64 0), (.string ⟨#[]⟩), (.bool false), (.int .i64 0), (.string ⟨#[]⟩)]) 80 rfl Try.underlying24 info36 rfl (by decide) (by omega) _ (keptL s d ++ a.take i) p [.int .i64 p.f0, .int .i64 p.f1, .bool p.f2.f0, .int .i64 p.f2.f1, .string p.f2.f2, .bool p.f3.f0, .int .i64 p.f3.f1, .string p.f3.f2] (fun _ => True) (fun _ => False) rfl rfl (k36_mkM _ _ _ p) (fun _ h => h.elim) (fun _ _ => trivial) HV7.out HF7.out.2.2.2 HF7.out.2.2.2.size (by have := HLL.out; omega) ?_; intro v1 w8 hv8 hb8 hg8 _; have HV8 := Aside0.mk hv8; have HG8 := Aside0.mk hg8; clear hv8 hb8 hg8; go_frame)
           go_roundg g1
           case measure => omega
           case rel => exact ⟨i + 1, v1, _, _, by have := HLT.out; omega, by omega, by go_num, rfl, ⟨by rw [HTK.out, ← List.append_assoc]; exact HV8.out⟩, HM7.out.kept HG8.out (HM7.out.ne_own HV7.out) |> fun h => ⟨h⟩, ⟨fun z => by
             rw [HTK.out, ← List.append_assoc, idsOf_snoc, HPID.out]
             by_cases e : z = pid
             ·subst e; simp
             ·simp only [if_neg e, List.mem_append, List.mem_singleton, e, or_false]; exact HFP.out z⟩, ⟨HF7.out.grown HG8.out (fun k hk => HF7.out.own HV7.out k hk)⟩, HAN⟩
        ·obtain rfl : i = a.length := by omega
         have k1 : decide ((a.length : Int) < (a.length : Int)) = false := decide_eq_false (by omega)
         have k2 : decide (a.length < a.length) = false := decide_eq_false (by omega)
         have hv := HV.out
         have hab := HAB.out
         rw [List.drop_length] at hab
         rw [List.take_length] at hv
         obtain ⟨rfl, rfl, rfl, rfl⟩ : keptL s d ++ a = r1 ∧ fl = r2 ∧ nx = r3 ∧ 0 = r4 := by have := HQ2.out; rw [← hab] at this; unfold addB at this; rw [if_pos rfl] at this; simpa using this
         rw [List.take_length]
         have HVV := Aside0.mk hv; clear hv hab HV HM hi hlt
         have qe0 : wr.cell? ⟨w.heap.size + 1, 0, none⟩ = some (.slice _ d.length c1) := (blk_cell HF.out.2.1 0).trans rfl
         have qe1 : wr.cell? ⟨w.heap.size + 1, 1, none⟩ = some (.slice _ a.length c2) := (blk_cell HF.out.2.1 1).trans rfl
         have qe2 : wr.cell? ⟨w.heap.size + 1, 2, none⟩ = some (.int .i64 fl) := (blk_cell HF.out.2.1 2).trans rfl
         have qe3 : wr.cell? ⟨w.heap.size + 1, 3, none⟩ = some (.int .i64 nx) := (blk_cell HF.out.2.1 3).trans rfl
         have qr0 : wr.cell? ⟨w.heap.size + 2, 0, none⟩ = some (.slice none 0 0) := (blk_cell HF.out.2.2.1 0).trans rfl
         have qr1 : wr.cell? ⟨w.heap.size + 2, 1, none⟩ = some (.int .i64 0) := (blk_cell HF.out.2.2.1 1).trans rfl
         have qr2 : wr.cell? ⟨w.heap.size + 2, 2, none⟩ = some (.int .i64 0) := (blk_cell HF.out.2.2.1 2).trans rfl
         have qf0 := blk_frozen HF.out.2.2.1 0
         have qf1 := blk_frozen HF.out.2.2.1 1
         have qf2 := blk_frozen HF.out.2.2.1 2
         go_wp2
         refine bodyPost_ret (v := .tuple #[.agg #[.slice Av4 (keptL s d ++ a).length cv4, .int .i64 fl, .int .i64 nx], .int .i64 0]) ?_ rfl ⟨_, rfl, Kd.R_set (Kd.R_set (Kd.R_set HVV.out HF.out.2.2.1 (by decide) 0 _) (blk_set HF.out.2.2.1 0 _) (by decide) 1 _) (blk_set (blk_set HF.out.2.2.1 0 _) 1 _) (by decide) 2 _, HF.out.put _ _ _⟩
         simp [results, Try.results9, go_sem, *]
      ·intro x w6 cnt6 hx hlx hr6 hlt hg6 hs6 hen
       have hxd := HL.out x hx hlx
       have HX := Aside0.mk hx; have HXD := Aside0.mk hxd; have HR6 := Aside0.mk hr6; have HLT := Aside0.mk hlt
       have hG6 : ∀ k, some r = some k → w.heap.size + 3 ≤ k := fun k hk => by cases hk; exact HRB.out
       have HV6 := Aside0.mk (R_far HV.out hg6 HVR.out); have HM6 := Aside0.mk (HM2.out.kept hg6 (by simpa using HNR.out)); have HF6 := Aside0.mk (HF.out.grown hg6 hG6)
       have HG6 : goodD s d x = true → Aside0 (∀ z : Int, z ∈ d → (left (kI z) && !(kI z).sameKey (kI x)) = false → goodD s d z = true) := fun hgx => ⟨fun z hz hl => by
         rw [strike] at hl
         by_cases e : z = x
         ·rw [e]; exact hgx
         ·exact HG.out z hz (by simpa [e] using hl)⟩
       have HL6 : Aside0 (∀ z : Int, (Lit.int .i64 z).wf = true → (left (kI z) && !(kI z).sameKey (kI x)) = true → z ∈ d) := ⟨fun z hz hl => HL.out z hz (by rw [Bool.and_eq_true] at hl; exact hl.1)⟩
       clear hx hlx hr6 hlt hg6 hs6 hxd hG6 HV HM2 HF HR HG HL
       have hlook := HM6.out.look HX.out
       obtain ⟨m, hm⟩ : ∃ m, d.count x = m := ⟨_, rfl⟩
       rw [hm] at hen ⊢
       have HMM := Aside0.mk hm; clear hm
       by_cases hm1 : 1 < m
       ·have k3 : decide ((1 : Int) < (m : Int)) = true := decide_eq_true (by omega)
        have k4 : decide (1 < m) = true := decide_eq_true hm1
        have hbad := all_bad HXD.out (show goodD s d x = false by unfold goodD; rw [HMM.out]; simp; omega)
        obtain ⟨rfl, rfl, rfl, rfl⟩ : [] = r1 ∧ 0 = r2 ∧ 0 = r3 ∧ 8 = r4 := by have := HQ.out; rw [hbad, Bool.false_and, if_neg (by decide)] at this; simpa using this
        clear hbad hm1 hlook HG6
        have qr0 : w6.cell? ⟨w.heap.size + 2, 0, none⟩ = some (.slice none 0 0) := (blk_cell HF6.out.2.2.1 0).trans rfl
        have qr1 : w6.cell? ⟨w.heap.size + 2, 1, none⟩ = some (.int .i64 0) := (blk_cell HF6.out.2.2.1 1).trans rfl
        have qr2 : w6.cell? ⟨w.heap.size + 2, 2, none⟩ = some (.int .i64 0) := (blk_cell HF6.out.2.2.1 2).trans rfl
        have qf0 := blk_frozen HF6.out.2.2.1 0
        have qf1 := blk_frozen HF6.out.2.2.1 1
        have qf2 := blk_frozen HF6.out.2.2.1 2
        go_wp2
        refine bodyPost_ret (v := .tuple #[.agg #[.slice none 0 0, .int .i64 0, .int .i64 0], .int .i64 8]) ?_ rfl ⟨_, rfl, Kd.R_nil _ _ _ _ _, HF6.out.put _ _ _⟩
        simp [results, Try.results9, go_sem, *]
       ·have k3 : decide ((1 : Int) < (m : Int)) = false := decide_eq_false (by omega)
        have k4 : decide (1 < m) = false := decide_eq_false hm1
        by_cases hxs : x ∈ idsOf s
        ·have hgood : goodD s d x = true := by unfold goodD; rw [HMM.out]; simp [hxs]; omega
         have HG7 := HG6 hgood
         rw [if_pos hxs, if_pos HXD.out] at hlook
         clear hgood hxs hm1 HG6
         go_wp2_with fail
         go_roundg cnt6
         case measure => exact HLT.out
         case rel => exact ⟨_, _, rfl, HR6, HG7, HL6, HV6, HM6, HF6⟩
        ·have hbad := all_bad HXD.out (show goodD s d x = false by unfold goodD; simp [hxs])
         obtain ⟨rfl, rfl, rfl, rfl⟩ : [] = r1 ∧ 0 = r2 ∧ 0 = r3 ∧ 8 = r4 := by have := HQ.out; rw [hbad, Bool.false_and, if_neg (by decide)] at this; simpa using this
         rw [if_neg hxs] at hlook
         clear hbad hxs hm1 HG6
         have qr0 : w6.cell? ⟨w.heap.size + 2, 0, none⟩ = some (.slice none 0 0) := (blk_cell HF6.out.2.2.1 0).trans rfl
         have qr1 : w6.cell? ⟨w.heap.size + 2, 1, none⟩ = some (.int .i64 0) := (blk_cell HF6.out.2.2.1 1).trans rfl
         have qr2 : w6.cell? ⟨w.heap.size + 2, 2, none⟩ = some (.int .i64 0) := (blk_cell HF6.out.2.2.1 2).trans rfl
         have qf0 := blk_frozen HF6.out.2.2.1 0
         have qf1 := blk_frozen HF6.out.2.2.1 1
         have qf2 := blk_frozen HF6.out.2.2.1 2
         go_wp2
         refine bodyPost_ret (v := .tuple #[.agg #[.slice none 0 0, .int .i64 0, .int .i64 0], .int .i64 8]) ?_ rfl ⟨_, rfl, Kd.R_nil _ _ _ _ _, HF6.out.put _ _ _⟩
         simp [results, Try.results9, go_sem, *]
def manifest_Apply.f (l0_0 : List S36) (a0_1 : Int) (a0_2 : Int) (l1_0 : List Int) (l1_1 : List S36) (a1_2 : Int) (a1_3 : Int) : Option (List S36 × Int × Int × Int) := if wfP l0_0 = true ∧ l0_0.length ≤ 1000000000 then some (applyL l0_0 a0_1 a0_2 l1_0 l1_1 a1_2 a1_3) else none
theorem manifest_Apply.calls (A0_0 : Option Addr) (c0_0 : Nat) (l0_0 : List S36) (a0_1 : Int) (a0_2 : Int) (A1_0 : Option Addr) (c1_0 : Nat) (l1_0 : List Int) (A1_1 : Option Addr) (c1_1 : Nat) (l1_1 : List S36) (a1_2 : Int) (a1_3 : Int) (r1 : List S36) (r2 : Int) (r3 : Int) (r4 : Int) (w : World) (hr0_0 : Kd.C k36 w A0_0 l0_0.length l0_0) (hc0_0 : l0_0.length ≤ c0_0) (hr1_0 : Kd.C (Kd.int .i64) w A1_0 l1_0.length l1_0) (hc1_0 : l1_0.length ≤ c1_0) (hr1_1 : Kd.C k36 w A1_1 l1_1.length l1_1) (hc1_1 : l1_1.length ≤ c1_1) (h : manifest_Apply.f l0_0 a0_1 a0_2 l1_0 l1_1 a1_2 a1_3 = some (r1, r2, r3, r4)) :
  Calls Try.prog 9 #[.agg #[.slice A0_0 l0_0.length c0_0, .int .i64 a0_1, .int .i64 a0_2], .agg #[.slice A1_0 l1_0.length c1_0, .slice A1_1 l1_1.length c1_1, .int .i64 a1_2, .int .i64 a1_3]] w fun e w' => ∃ v0_ : Value, e = .returned (.tuple #[.agg #[v0_, .int .i64 r2, .int .i64 r3], .int .i64 r4]) ∧ Kd.R k36 36 w' w.heap.size (fun _ => True) v0_ r1 ∧ Below w.heap.size w w' := by
 unfold manifest_Apply.f at h
 split at h
 ·rename_i hw
  have h := Option.some.inj h
  unfold applyL at h
  by_cases h0 : rightB l1_0 l1_1 a1_2 a1_3 = true ∧ (decide (a1_2 < a0_1) = false ∧ decide (a1_3 < a0_2) = false)
  ·obtain ⟨h0, h1, h2⟩ := h0
   obtain ⟨q1, q2, q3, q4, q5, q6⟩ := right_d h0
   have e1 : decide (a0_1 ≤ a1_2) = true := decide_eq_true (by have := of_decide_eq_false h1; omega)
   have e2 : decide (a0_2 ≤ a1_3) = true := decide_eq_true (by have := of_decide_eq_false h2; omega)
   rw [h0, e1, e2, Bool.true_and, Bool.true_and, Bool.true_and] at h
   exact manifest_Apply.yes A0_0 c0_0 l0_0 a0_1 a0_2 A1_0 c1_0 l1_0 A1_1 c1_1 l1_1 a1_2 a1_3 w hr0_0 hc0_0 hr1_0 hc1_0 hr1_1 hc1_1 (congrArg some h0) h1 h2 hw.1 hw.2 q1 q2 q3 q4 h
  ·have hf : (rightB l1_0 l1_1 a1_2 a1_3 && (decide (a0_1 ≤ a1_2) && (decide (a0_2 ≤ a1_3) && (l1_0.all (goodD l0_0 l1_0) && addB a1_3 (idsOf (keptL l0_0 l1_0)) l1_1)))) = false := by
    cases hr : rightB l1_0 l1_1 a1_2 a1_3
    ·rfl
    ·by_cases h1 : a1_2 < a0_1
     ·rw [decide_eq_false (show ¬ a0_1 ≤ a1_2 by omega)]; rfl
     ·by_cases h2 : a1_3 < a0_2
      ·rw [decide_eq_false (show ¬ a0_2 ≤ a1_3 by omega)]; simp
      ·exact absurd ⟨hr, decide_eq_false h1, decide_eq_false h2⟩ h0
   rw [hf, if_neg (by decide)] at h
   obtain ⟨rfl, rfl, rfl, rfl⟩ : [] = r1 ∧ 0 = r2 ∧ 0 = r3 ∧ 8 = r4 := by simpa using h
   refine manifest_Apply.no A0_0 c0_0 l0_0 a0_1 a0_2 A1_0 c1_0 l1_0 A1_1 c1_1 l1_1 a1_2 a1_3 w hr0_0 hc0_0 hr1_0 hc1_0 hr1_1 hc1_1 _ rfl ?_
   cases hr : rightB l1_0 l1_1 a1_2 a1_3
   ·exact .inl rfl
   ·by_cases h1 : a1_2 < a0_1
    ·exact .inr (.inl h1)
    ·by_cases h2 : a1_3 < a0_2
     ·exact .inr (.inr h2)
     ·exact absurd ⟨hr, decide_eq_false h1, decide_eq_false h2⟩ h0
 ·exact absurd h (by simp)
def api_Part_33.l0 : Nat → List (S36) → List (S36) → Int → Int → Option (Bool)
 | 0, _, _, _, _ => none
 | k + 1, x0, x1, x12, x13 => if x13 < x12 then (if 0 ≤ x13 then (if x13 < (x0.length : Int) then (if x13 < (x1.length : Int) then (if (!(((rd_T36 x0 x13).f0) == ((rd_T36 x1 x13).f0)) || (!(((rd_T36 x0 x13).f1) == ((rd_T36 x1 x13).f1)) || ((!(((rd_T36 x0 x13).f2.f0) == ((rd_T36 x1 x13).f2.f0)) || (!(((rd_T36 x0 x13).f2.f1) == ((rd_T36 x1 x13).f2.f1)) || (!((((rd_T36 x0 x13).f2.f2).toList) == (((rd_T36 x1 x13).f2.f2).toList))))) || ((!(((rd_T36 x0 x13).f3.f0) == ((rd_T36 x1 x13).f3.f0)) || (!(((rd_T36 x0 x13).f3.f1) == ((rd_T36 x1 x13).f3.f1)) || (!((((rd_T36 x0 x13).f3.f2).toList) == (((rd_T36 x1 x13).f3.f2).toList))))))))) = true then (some false) else (api_Part_33.l0 k x0 x1 x12 (wrap64 (x13 + 1)))) else (none)) else (none)) else (none)) else (some true)
def api_Part_33.f (k : Nat) (l0 : List (S36)) (l1 : List (S36)) : Option (Bool) := if (l0.length : Int) = (l1.length : Int) then (api_Part_33.l0 k l0 l1 (l0.length : Int) 0) else (some false)
theorem api_Part_33.mono_l : ∀ k, (∀ y0 y1 y2 y3, LeO (api_Part_33.l0 k y0 y1 y2 y3) (api_Part_33.l0 (k + 1) y0 y1 y2 y3))
 | 0 => fun _ _ _ _ r h => by simp [api_Part_33.l0] at h
 | k + 1 => by
  have ih0 := api_Part_33.mono_l k
  ·intro y0 y1 y2 y3
   unfold api_Part_33.l0
   repeat' first
   | (with_reducible exact ih0 _ _ _ _)
   | (with_reducible exact LeO.refl _)
   | (with_reducible exact LeO.none _)
   | (with_reducible refine LeO.ite ?_ ?_)
   | (with_reducible refine LeO.bind ?_ (fun _ => ?_))
   | exact ih0 _ _ _ _
   | exact LeO.none _
   | refine LeO.ite ?_ ?_
   | refine LeO.bind ?_ (fun _ => ?_)
theorem api_Part_33.mono : ∀ a0 a1 k, LeO (api_Part_33.f k a0 a1) (api_Part_33.f (k + 1) a0 a1) := by
 intro a0 a1 k
 have ih0 := api_Part_33.mono_l k
 unfold api_Part_33.f
 repeat' first
   | (with_reducible exact ih0 _ _ _ _)
   | (with_reducible exact LeO.refl _)
   | (with_reducible exact LeO.none _)
   | (with_reducible refine LeO.ite ?_ ?_)
   | (with_reducible refine LeO.bind ?_ (fun _ => ?_))
   | exact ih0 _ _ _ _
   | exact LeO.none _
   | refine LeO.ite ?_ ?_
   | refine LeO.bind ?_ (fun _ => ?_)
set_option maxHeartbeats 8000000 in
set_option maxRecDepth 100000 in
theorem api_Part_33.calls (k : Nat) (A0 : Option Addr) (c0 : Nat) (l0 : List (S36)) (A1 : Option Addr) (c1 : Nat) (l1 : List (S36)) (r : Bool) (w : World) (hr0 : Kd.C k36 w A0 l0.length l0) (hc0 : l0.length ≤ c0) (hr1 : Kd.C k36 w A1 l1.length l1) (hc1 : l1.length ≤ c1) (h : api_Part_33.f k l0 l1 = some r) :
  Calls Try.prog 33 #[.slice A0 l0.length c0, .slice A1 l1.length c1] w fun e w' => e = .returned (.bool r) ∧ Drawn0 w w' := by
 have hu36 := Try.underlying36
 have HR0 := Aside0.mk hr0
 have HC0 := Aside0.mk hc0
 clear hr0 hc0
 have HR1 := Aside0.mk hr1
 have HC1 := Aside0.mk hc1
 clear hr1 hc1
 have H : (if (l0.length : Int) = (l1.length : Int) then (api_Part_33.l0 k l0 l1 (l0.length : Int) 0) else (some false)) = some r := h
 clear h
 by_cases c3 : (l0.length : Int) = (l1.length : Int)
 ·rw [if_pos c3] at H
  have c3b0 : ((l0.length : Int) == (l1.length : Int)) = true := beq_iff_eq.mpr c3
  have c3b1 : ((l0.length : Int) != (l1.length : Int)) = false := bne_eq_false_iff_eq.mpr c3
  have c3b2 : (l0.length == l1.length) = true := by first | simpa using c3 | (simp at c3 ⊢; omega)
  clear c3
  have H' := Aside0.mk H
  clear H
  go_enter Try.func33, Try.ntmps33
  go_wp2
  repeat (go_quiet (fail); try go_wp2)
  go_loopg [13] k (fun kq v13 w' => ∃ (x13_1 : Int), v13 = .int .i64 x13_1 ∧ Aside0 (api_Part_33.l0 kq l0 l1 (l0.length : Int) x13_1 = some r) ∧ Aside0 (kq ≤ k) ∧ Drawn0 w w')
  case atStart => exact ⟨(0), z7_, H', ⟨Nat.le_refl _⟩, z12_⟩
  case round =>
   clear H'
   try clear c1
   try clear p2
   try clear c3
   try clear c3b0
   try clear c3b1
   try clear c3b2
   obtain ⟨x13_1, rfl, HA, HK1, ⟨m1, rfl⟩⟩ := hrel
   cases gk with
   | zero => exact absurd HA.out (by simp [api_Part_33.l0])
   | succ k1 =>
    have H := HA.out
    clear HA
    simp only [api_Part_33.l0] at H
    by_cases c4 : x13_1 < (l0.length : Int)
    ·rw [if_pos c4] at H
     have c4b0 : decide (x13_1 < (l0.length : Int)) = true := decide_eq_true c4
     clear c4
     by_cases c5 : 0 ≤ x13_1
     ·rw [if_pos c5] at H
      have c5b0 : decide (0 ≤ x13_1) = true := decide_eq_true c5
      clear c5
      by_cases c6 : x13_1 < (l0.length : Int)
      ·rw [if_pos c6] at H
       have c6b0 : decide (x13_1 < (l0.length : Int)) = true := decide_eq_true c6
       clear c6
       by_cases c7 : x13_1 < (l1.length : Int)
       ·rw [if_pos c7] at H
        have c7b0 : decide (x13_1 < (l1.length : Int)) = true := decide_eq_true c7
        clear c7
        by_cases c8 : (!(((rd_T36 l0 x13_1).f0) == ((rd_T36 l1 x13_1).f0)) || (!(((rd_T36 l0 x13_1).f1) == ((rd_T36 l1 x13_1).f1)) || ((!(((rd_T36 l0 x13_1).f2.f0) == ((rd_T36 l1 x13_1).f2.f0)) || (!(((rd_T36 l0 x13_1).f2.f1) == ((rd_T36 l1 x13_1).f2.f1)) || (!((((rd_T36 l0 x13_1).f2.f2).toList) == (((rd_T36 l1 x13_1).f2.f2).toList))))) || ((!(((rd_T36 l0 x13_1).f3.f0) == ((rd_T36 l1 x13_1).f3.f0)) || (!(((rd_T36 l0 x13_1).f3.f1) == ((rd_T36 l1 x13_1).f3.f1)) || (!((((rd_T36 l0 x13_1).f3.f2).toList) == (((rd_T36 l1 x13_1).f3.f2).toList))))))))) = true
        ·rw [if_pos c8] at H
         have c8b0 : (!(((rd_T36 l0 x13_1).f0) == ((rd_T36 l1 x13_1).f0)) || (!(((rd_T36 l0 x13_1).f1) == ((rd_T36 l1 x13_1).f1)) || ((!(((rd_T36 l0 x13_1).f2.f0) == ((rd_T36 l1 x13_1).f2.f0)) || (!(((rd_T36 l0 x13_1).f2.f1) == ((rd_T36 l1 x13_1).f2.f1)) || (!((((rd_T36 l0 x13_1).f2.f2).toList) == (((rd_T36 l1 x13_1).f2.f2).toList))))) || ((!(((rd_T36 l0 x13_1).f3.f0) == ((rd_T36 l1 x13_1).f3.f0)) || (!(((rd_T36 l0 x13_1).f3.f1) == ((rd_T36 l1 x13_1).f3.f1)) || (!((((rd_T36 l0 x13_1).f3.f2).toList) == (((rd_T36 l1 x13_1).f3.f2).toList))))))))) = true := c8
         clear c8
         obtain rfl := Option.some.inj H
         have p113 : 0 ≤ (x13_1 : Int) := of_decide_eq_true z6_
         have q113 : x13_1 < (l0.length : Int) := of_decide_eq_true z6_
         obtain ⟨ad113, e113, hx113_0, hx113_1, hx113_2, hx113_3, hx113_4, hx113_5, hx113_6, hx113_7⟩ := at_T36 HR0.out x13_1 p113 q113
         cases e113
         replace p113 := eq_true p113
         replace q113 := eq_true q113
         have p114 : 0 ≤ (x13_1 : Int) := of_decide_eq_true z6_
         have q114 : x13_1 < (l1.length : Int) := of_decide_eq_true z6_
         obtain ⟨ad114, e114, hx114_0, hx114_1, hx114_2, hx114_3, hx114_4, hx114_5, hx114_6, hx114_7⟩ := at_T36 HR1.out x13_1 p114 q114
         cases e114
         replace p114 := eq_true p114
         replace q114 := eq_true q114
         go_wp2
         repeat (go_quiet (fail); try go_wp2)
         go_ret
         exact ⟨z7_, z12_⟩
        ·rw [if_neg c8] at H
         have c8b0 : (!(((rd_T36 l0 x13_1).f0) == ((rd_T36 l1 x13_1).f0)) || (!(((rd_T36 l0 x13_1).f1) == ((rd_T36 l1 x13_1).f1)) || ((!(((rd_T36 l0 x13_1).f2.f0) == ((rd_T36 l1 x13_1).f2.f0)) || (!(((rd_T36 l0 x13_1).f2.f1) == ((rd_T36 l1 x13_1).f2.f1)) || (!((((rd_T36 l0 x13_1).f2.f2).toList) == (((rd_T36 l1 x13_1).f2.f2).toList))))) || ((!(((rd_T36 l0 x13_1).f3.f0) == ((rd_T36 l1 x13_1).f3.f0)) || (!(((rd_T36 l0 x13_1).f3.f1) == ((rd_T36 l1 x13_1).f3.f1)) || (!((((rd_T36 l0 x13_1).f3.f2).toList) == (((rd_T36 l1 x13_1).f3.f2).toList))))))))) = false := by simpa using c8
         clear c8
         have H' := Aside0.mk H
         clear H
         have p113 : 0 ≤ (x13_1 : Int) := of_decide_eq_true z6_
         have q113 : x13_1 < (l0.length : Int) := of_decide_eq_true z6_
         obtain ⟨ad113, e113, hx113_0, hx113_1, hx113_2, hx113_3, hx113_4, hx113_5, hx113_6, hx113_7⟩ := at_T36 HR0.out x13_1 p113 q113
         cases e113
         replace p113 := eq_true p113
         replace q113 := eq_true q113
         have p114 : 0 ≤ (x13_1 : Int) := of_decide_eq_true z6_
         have q114 : x13_1 < (l1.length : Int) := of_decide_eq_true z6_
         obtain ⟨ad114, e114, hx114_0, hx114_1, hx114_2, hx114_3, hx114_4, hx114_5, hx114_6, hx114_7⟩ := at_T36 HR1.out x13_1 p114 q114
         cases e114
         replace p114 := eq_true p114
         replace q114 := eq_true q114
         go_wp2
         repeat (go_quiet (fail); try go_wp2)
         go_roundg k1
         case measure => have := HK1.out; omega
         case rel => exact ⟨(wrap64 (x13_1 + 1)), z7_, H', ⟨by have := HK1.out; omega⟩, z12_⟩
       ·rw [if_neg c7] at H
        exact absurd H (by simp)
      ·rw [if_neg c6] at H
       exact absurd H (by simp)
     ·rw [if_neg c5] at H
      exact absurd H (by simp)
    ·rw [if_neg c4] at H
     have c4b0 : decide (x13_1 < (l0.length : Int)) = false := decide_eq_false c4
     clear c4
     obtain rfl := Option.some.inj H
     go_wp2
     repeat (go_quiet (fail); try go_wp2)
     go_ret
     exact ⟨z7_, z12_⟩
 ·rw [if_neg c3] at H
  have c3b0 : ((l0.length : Int) == (l1.length : Int)) = false := beq_eq_false_iff_ne.mpr c3
  have c3b1 : ((l0.length : Int) != (l1.length : Int)) = true := bne_iff_ne.mpr c3
  have c3b2 : (l0.length == l1.length) = false := by first | simpa using c3 | (simp at c3 ⊢; omega)
  obtain rfl := Option.some.inj H
  go_enter Try.func33, Try.ntmps33
  go_wp2
  repeat (go_quiet (fail); try go_wp2)
  go_ret
  exact ⟨z7_, z12_⟩
def manifest_Same.f (k : Nat) (l0_0 : List (S36)) (a0_1 : Int) (a0_2 : Int) (l1_0 : List (S36)) (a1_1 : Int) (a1_2 : Int) : Option (Bool) := if a0_1 = a1_1 then (if a0_2 = a1_2 then ((api_Part_33.f k l0_0 l1_0).bind fun t117 => (some t117)) else (some false)) else (some false)
theorem manifest_Same.mono : ∀ a0 a1 a2 a3 a4 a5 k, LeO (manifest_Same.f k a0 a1 a2 a3 a4 a5) (manifest_Same.f (k + 1) a0 a1 a2 a3 a4 a5) := by
 intro a0 a1 a2 a3 a4 a5 k
 unfold manifest_Same.f
 repeat' first
   | (with_reducible exact api_Part_33.mono _ _ _)
   | (with_reducible exact LeO.refl _)
   | (with_reducible exact LeO.none _)
   | (with_reducible refine LeO.ite ?_ ?_)
   | (with_reducible refine LeO.bind ?_ (fun _ => ?_))
   | exact api_Part_33.mono _ _ _
   | exact LeO.none _
   | refine LeO.ite ?_ ?_
   | refine LeO.bind ?_ (fun _ => ?_)
set_option maxHeartbeats 8000000 in
set_option maxRecDepth 100000 in
theorem manifest_Same.calls (k : Nat) (A0_0 : Option Addr) (c0_0 : Nat) (l0_0 : List (S36)) (a0_1 : Int) (a0_2 : Int) (A1_0 : Option Addr) (c1_0 : Nat) (l1_0 : List (S36)) (a1_1 : Int) (a1_2 : Int) (r : Bool) (w : World) (hr0_0 : Kd.C k36 w A0_0 l0_0.length l0_0) (hc0_0 : l0_0.length ≤ c0_0) (hr1_0 : Kd.C k36 w A1_0 l1_0.length l1_0) (hc1_0 : l1_0.length ≤ c1_0) (h : manifest_Same.f k l0_0 a0_1 a0_2 l1_0 a1_1 a1_2 = some r) :
  Calls Try.prog 17 #[.agg #[.slice A0_0 l0_0.length c0_0, .int .i64 a0_1, .int .i64 a0_2], .agg #[.slice A1_0 l1_0.length c1_0, .int .i64 a1_1, .int .i64 a1_2]] w fun e w' => e = .returned (.bool r) ∧ Below w.heap.size w w' := by
 have hu26 := Try.underlying26
 have HR0_0 := Aside0.mk hr0_0
 have HC0_0 := Aside0.mk hc0_0
 clear hr0_0 hc0_0
 have HR1_0 := Aside0.mk hr1_0
 have HC1_0 := Aside0.mk hc1_0
 clear hr1_0 hc1_0
 have HB := Aside0.mk (Below.refl w.heap.size w)
 have H : (if a0_1 = a1_1 then (if a0_2 = a1_2 then ((api_Part_33.f k l0_0 l1_0).bind fun t117 => (some t117)) else (some false)) else (some false)) = some r := h
 clear h
 by_cases c3 : a0_1 = a1_1
 ·rw [if_pos c3] at H
  have c3b0 : (a0_1 == a1_1) = true := beq_iff_eq.mpr c3
  have c3b1 : (a0_1 != a1_1) = false := bne_eq_false_iff_eq.mpr c3
  clear c3
  by_cases c4 : a0_2 = a1_2
  ·rw [if_pos c4] at H
   have c4b0 : (a0_2 == a1_2) = true := beq_iff_eq.mpr c4
   have c4b1 : (a0_2 != a1_2) = false := bne_eq_false_iff_eq.mpr c4
   clear c4
   replace H := Option.bind_eq_some_iff.mp H
   obtain ⟨t117, A50, H⟩ := H
   replace H : (some t117) = some r := H
   have A5 := Aside0.mk A50
   clear A50
   obtain rfl := Option.some.inj H
   go_enter Try.func17, Try.ntmps17
   go_wp2_with (first | ((with_reducible refine gate_dst (N := 2) rfl ?_); refine box_event ?hg (N := 2) ?hd (cs := #[.slice A0_0 l0_0.length c0_0, .int .i64 a0_1, .int .i64 a0_2]) (t := 26) ?hr ?_; (case hd => rfl); (case hg => rfl); (case hr => first | (go_simp; done) | (go_simp; rfl)); intro gb115 hg w6 hbox hb; have n0_ := Aside0.mk (below_step z1_ hb); have n1_ := Aside0.mk (hbox); have n2_ := Aside0.mk ((by rw [hg]; exact (below_size z1_) : w.heap.size ≤ gb115)); have n3_ := Aside0.mk ((by rw [hg]; exact (below_size z1_) : w.heap.size ≤ gb115)); clear HB; have HB := n0_; have BK115 := n1_; have GW115 := n2_; have GE115 := n3_; clear n0_ n1_ n2_ n3_; clear hb hbox hg) | ((with_reducible refine gate_dst (N := 3) rfl ?_); refine box_event ?hg (N := 3) ?hd (cs := #[.slice A1_0 l1_0.length c1_0, .int .i64 a1_1, .int .i64 a1_2]) (t := 26) ?hr ?_; (case hd => rfl); (case hg => rfl); (case hr => first | (go_simp; done) | (go_simp; rfl)); intro gb116 hg w7 hbox hb; have n0_ := Aside0.mk (blk_below (g := gb115) (o := .cells #[.slice A0_0 l0_0.length c0_0, .int .i64 a0_1, .int .i64 a0_2] 26 (0, 0)) (by (with_reducible repeat (first | refine blk_drewN ?_ _ | refine blk_drew ?_ | refine blk_alloc ?_ _)); exact BK115.out) hb); have n1_ := Aside0.mk (below_step z19_ hb); have n2_ := Aside0.mk (hbox); have n3_ := Aside0.mk ((by rw [hg]; exact (below_size z19_) : w.heap.size ≤ gb116)); have n4_ := Aside0.mk ((by rw [hg]; exact (below_size z19_) : w.heap.size ≤ gb116)); have n5_ := Aside0.mk ((by rw [hg]; exact Nat.ne_of_lt (blk_lt (g := gb115) (o := .cells #[.slice A0_0 l0_0.length c0_0, .int .i64 a0_1, .int .i64 a0_2] 26 (0, 0)) (by (with_reducible repeat (first | refine blk_drewN ?_ _ | refine blk_drew ?_ | refine blk_alloc ?_ _)); exact BK115.out)) : gb115 ≠ gb116)); have n6_ := Aside0.mk ((by rw [hg]; exact Nat.ne_of_gt (blk_lt (g := gb115) (o := .cells #[.slice A0_0 l0_0.length c0_0, .int .i64 a0_1, .int .i64 a0_2] 26 (0, 0)) (by (with_reducible repeat (first | refine blk_drewN ?_ _ | refine blk_drew ?_ | refine blk_alloc ?_ _)); exact BK115.out)) : gb116 ≠ gb115)); clear BK115; clear HB; have BK115 := n0_; have HB := n1_; have BK116 := n2_; have GW116 := n3_; have GE116 := n4_; have NB115_116 := n5_; have NB116_115 := n6_; clear n0_ n1_ n2_ n3_ n4_ n5_ n6_; clear hb hbox hg; have hnb8 := NB115_116.out; have hnc8 := NB116_115.out; have hcz9_0 : w7.cell? ⟨gb115, 0, none⟩ = some (.slice A0_0 l0_0.length c0_0) := (blk_cell BK115.out 0).trans rfl; have hcz9_1 : w7.cell? ⟨gb115, 1, none⟩ = some (.int .i64 a0_1) := (blk_cell BK115.out 1).trans rfl; have hcz9_2 : w7.cell? ⟨gb115, 2, none⟩ = some (.int .i64 a0_2) := (blk_cell BK115.out 2).trans rfl; have hfz9_0 := blk_frozen BK115.out 0; have hfz9_1 := blk_frozen BK115.out 1; have hfz9_2 := blk_frozen BK115.out 2; have hcz10_0 : w7.cell? ⟨gb116, 0, none⟩ = some (.slice A1_0 l1_0.length c1_0) := (blk_cell BK116.out 0).trans rfl; have hcz10_1 : w7.cell? ⟨gb116, 1, none⟩ = some (.int .i64 a1_1) := (blk_cell BK116.out 1).trans rfl; have hcz10_2 : w7.cell? ⟨gb116, 2, none⟩ = some (.int .i64 a1_2) := (blk_cell BK116.out 2).trans rfl; have hfz10_0 := blk_frozen BK116.out 0; have hfz10_1 := blk_frozen BK116.out 1; have hfz10_2 := blk_frozen BK116.out 2) | (go_at_call 33; (with_reducible refine (api_Part_33.calls k _ _ l0_0 _ _ l1_0 t117 _ ?side1 ?side2 ?side3 ?side4 A5.out).mono ?_); (case side1 => repeat (first | exact (Kd.C_below HR0_0.out HB.out) | (with_reducible refine Kd.C_alloc ?_ _) | (with_reducible refine Kd.C_drewN ?_ _) | (with_reducible refine Kd.C_drew ?_))); (case side2 => exact HC0_0.out); (case side3 => repeat (first | exact (Kd.C_below HR1_0.out HB.out) | (with_reducible refine Kd.C_alloc ?_ _) | (with_reducible refine Kd.C_drewN ?_ _) | (with_reducible refine Kd.C_drew ?_))); (case side4 => exact HC1_0.out); rintro e w' ⟨rfl, ⟨nd, rfl⟩⟩))
   go_ret
   exact ⟨z2_, z24_⟩
  ·rw [if_neg c4] at H
   have c4b0 : (a0_2 == a1_2) = false := beq_eq_false_iff_ne.mpr c4
   have c4b1 : (a0_2 != a1_2) = true := bne_iff_ne.mpr c4
   obtain rfl := Option.some.inj H
   go_enter Try.func17, Try.ntmps17
   go_wp2_with (first | ((with_reducible refine gate_dst (N := 2) rfl ?_); refine box_event ?hg (N := 2) ?hd (cs := #[.slice A0_0 l0_0.length c0_0, .int .i64 a0_1, .int .i64 a0_2]) (t := 26) ?hr ?_; (case hd => rfl); (case hg => rfl); (case hr => first | (go_simp; done) | (go_simp; rfl)); intro gb115 hg w11 hbox hb; have n0_ := Aside0.mk (below_step z1_ hb); have n1_ := Aside0.mk (hbox); have n2_ := Aside0.mk ((by rw [hg]; exact (below_size z1_) : w.heap.size ≤ gb115)); have n3_ := Aside0.mk ((by rw [hg]; exact (below_size z1_) : w.heap.size ≤ gb115)); clear HB; have HB := n0_; have BK115 := n1_; have GW115 := n2_; have GE115 := n3_; clear n0_ n1_ n2_ n3_; clear hb hbox hg) | ((with_reducible refine gate_dst (N := 3) rfl ?_); refine box_event ?hg (N := 3) ?hd (cs := #[.slice A1_0 l1_0.length c1_0, .int .i64 a1_1, .int .i64 a1_2]) (t := 26) ?hr ?_; (case hd => rfl); (case hg => rfl); (case hr => first | (go_simp; done) | (go_simp; rfl)); intro gb116 hg w12 hbox hb; have n0_ := Aside0.mk (blk_below (g := gb115) (o := .cells #[.slice A0_0 l0_0.length c0_0, .int .i64 a0_1, .int .i64 a0_2] 26 (0, 0)) (by (with_reducible repeat (first | refine blk_drewN ?_ _ | refine blk_drew ?_ | refine blk_alloc ?_ _)); exact BK115.out) hb); have n1_ := Aside0.mk (below_step z19_ hb); have n2_ := Aside0.mk (hbox); have n3_ := Aside0.mk ((by rw [hg]; exact (below_size z19_) : w.heap.size ≤ gb116)); have n4_ := Aside0.mk ((by rw [hg]; exact (below_size z19_) : w.heap.size ≤ gb116)); have n5_ := Aside0.mk ((by rw [hg]; exact Nat.ne_of_lt (blk_lt (g := gb115) (o := .cells #[.slice A0_0 l0_0.length c0_0, .int .i64 a0_1, .int .i64 a0_2] 26 (0, 0)) (by (with_reducible repeat (first | refine blk_drewN ?_ _ | refine blk_drew ?_ | refine blk_alloc ?_ _)); exact BK115.out)) : gb115 ≠ gb116)); have n6_ := Aside0.mk ((by rw [hg]; exact Nat.ne_of_gt (blk_lt (g := gb115) (o := .cells #[.slice A0_0 l0_0.length c0_0, .int .i64 a0_1, .int .i64 a0_2] 26 (0, 0)) (by (with_reducible repeat (first | refine blk_drewN ?_ _ | refine blk_drew ?_ | refine blk_alloc ?_ _)); exact BK115.out)) : gb116 ≠ gb115)); clear BK115; clear HB; have BK115 := n0_; have HB := n1_; have BK116 := n2_; have GW116 := n3_; have GE116 := n4_; have NB115_116 := n5_; have NB116_115 := n6_; clear n0_ n1_ n2_ n3_ n4_ n5_ n6_; clear hb hbox hg; have hnb13 := NB115_116.out; have hnc13 := NB116_115.out; have hcz14_0 : w12.cell? ⟨gb115, 0, none⟩ = some (.slice A0_0 l0_0.length c0_0) := (blk_cell BK115.out 0).trans rfl; have hcz14_1 : w12.cell? ⟨gb115, 1, none⟩ = some (.int .i64 a0_1) := (blk_cell BK115.out 1).trans rfl; have hcz14_2 : w12.cell? ⟨gb115, 2, none⟩ = some (.int .i64 a0_2) := (blk_cell BK115.out 2).trans rfl; have hfz14_0 := blk_frozen BK115.out 0; have hfz14_1 := blk_frozen BK115.out 1; have hfz14_2 := blk_frozen BK115.out 2; have hcz15_0 : w12.cell? ⟨gb116, 0, none⟩ = some (.slice A1_0 l1_0.length c1_0) := (blk_cell BK116.out 0).trans rfl; have hcz15_1 : w12.cell? ⟨gb116, 1, none⟩ = some (.int .i64 a1_1) := (blk_cell BK116.out 1).trans rfl; have hcz15_2 : w12.cell? ⟨gb116, 2, none⟩ = some (.int .i64 a1_2) := (blk_cell BK116.out 2).trans rfl; have hfz15_0 := blk_frozen BK116.out 0; have hfz15_1 := blk_frozen BK116.out 1; have hfz15_2 := blk_frozen BK116.out 2))
   go_ret
   exact ⟨z2_, z24_⟩
 ·rw [if_neg c3] at H
  have c3b0 : (a0_1 == a1_1) = false := beq_eq_false_iff_ne.mpr c3
  have c3b1 : (a0_1 != a1_1) = true := bne_iff_ne.mpr c3
  obtain rfl := Option.some.inj H
  go_enter Try.func17, Try.ntmps17
  go_wp2_with (first | ((with_reducible refine gate_dst (N := 2) rfl ?_); refine box_event ?hg (N := 2) ?hd (cs := #[.slice A0_0 l0_0.length c0_0, .int .i64 a0_1, .int .i64 a0_2]) (t := 26) ?hr ?_; (case hd => rfl); (case hg => rfl); (case hr => first | (go_simp; done) | (go_simp; rfl)); intro gb115 hg w16 hbox hb; have n0_ := Aside0.mk (below_step z1_ hb); have n1_ := Aside0.mk (hbox); have n2_ := Aside0.mk ((by rw [hg]; exact (below_size z1_) : w.heap.size ≤ gb115)); have n3_ := Aside0.mk ((by rw [hg]; exact (below_size z1_) : w.heap.size ≤ gb115)); clear HB; have HB := n0_; have BK115 := n1_; have GW115 := n2_; have GE115 := n3_; clear n0_ n1_ n2_ n3_; clear hb hbox hg) | ((with_reducible refine gate_dst (N := 3) rfl ?_); refine box_event ?hg (N := 3) ?hd (cs := #[.slice A1_0 l1_0.length c1_0, .int .i64 a1_1, .int .i64 a1_2]) (t := 26) ?hr ?_; (case hd => rfl); (case hg => rfl); (case hr => first | (go_simp; done) | (go_simp; rfl)); intro gb116 hg w17 hbox hb; have n0_ := Aside0.mk (blk_below (g := gb115) (o := .cells #[.slice A0_0 l0_0.length c0_0, .int .i64 a0_1, .int .i64 a0_2] 26 (0, 0)) (by (with_reducible repeat (first | refine blk_drewN ?_ _ | refine blk_drew ?_ | refine blk_alloc ?_ _)); exact BK115.out) hb); have n1_ := Aside0.mk (below_step z19_ hb); have n2_ := Aside0.mk (hbox); have n3_ := Aside0.mk ((by rw [hg]; exact (below_size z19_) : w.heap.size ≤ gb116)); have n4_ := Aside0.mk ((by rw [hg]; exact (below_size z19_) : w.heap.size ≤ gb116)); have n5_ := Aside0.mk ((by rw [hg]; exact Nat.ne_of_lt (blk_lt (g := gb115) (o := .cells #[.slice A0_0 l0_0.length c0_0, .int .i64 a0_1, .int .i64 a0_2] 26 (0, 0)) (by (with_reducible repeat (first | refine blk_drewN ?_ _ | refine blk_drew ?_ | refine blk_alloc ?_ _)); exact BK115.out)) : gb115 ≠ gb116)); have n6_ := Aside0.mk ((by rw [hg]; exact Nat.ne_of_gt (blk_lt (g := gb115) (o := .cells #[.slice A0_0 l0_0.length c0_0, .int .i64 a0_1, .int .i64 a0_2] 26 (0, 0)) (by (with_reducible repeat (first | refine blk_drewN ?_ _ | refine blk_drew ?_ | refine blk_alloc ?_ _)); exact BK115.out)) : gb116 ≠ gb115)); clear BK115; clear HB; have BK115 := n0_; have HB := n1_; have BK116 := n2_; have GW116 := n3_; have GE116 := n4_; have NB115_116 := n5_; have NB116_115 := n6_; clear n0_ n1_ n2_ n3_ n4_ n5_ n6_; clear hb hbox hg; have hnb18 := NB115_116.out; have hnc18 := NB116_115.out; have hcz19_0 : w17.cell? ⟨gb115, 0, none⟩ = some (.slice A0_0 l0_0.length c0_0) := (blk_cell BK115.out 0).trans rfl; have hcz19_1 : w17.cell? ⟨gb115, 1, none⟩ = some (.int .i64 a0_1) := (blk_cell BK115.out 1).trans rfl; have hcz19_2 : w17.cell? ⟨gb115, 2, none⟩ = some (.int .i64 a0_2) := (blk_cell BK115.out 2).trans rfl; have hfz19_0 := blk_frozen BK115.out 0; have hfz19_1 := blk_frozen BK115.out 1; have hfz19_2 := blk_frozen BK115.out 2; have hcz20_0 : w17.cell? ⟨gb116, 0, none⟩ = some (.slice A1_0 l1_0.length c1_0) := (blk_cell BK116.out 0).trans rfl; have hcz20_1 : w17.cell? ⟨gb116, 1, none⟩ = some (.int .i64 a1_1) := (blk_cell BK116.out 1).trans rfl; have hcz20_2 : w17.cell? ⟨gb116, 2, none⟩ = some (.int .i64 a1_2) := (blk_cell BK116.out 2).trans rfl; have hfz20_0 := blk_frozen BK116.out 0; have hfz20_1 := blk_frozen BK116.out 1; have hfz20_2 := blk_frozen BK116.out 2))
  go_ret
  exact ⟨z2_, z24_⟩
end Go.Proofs.Ytagokgijffpdnaa.G
