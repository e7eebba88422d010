import Derived.Test.YtpbeppmldckjlaaZG0
import Derived.Test.YtpbeppmldckjlaaZG9
import Derived.Test.YtpbeppmldckjlaaZG11
import Derived.Test.YtpbeppmldckjlaaZG12
namespace Go.Proofs.Ytpbeppmldckjlaa.G
open Go.RowKit Go.Proofs.YtpbeppmldckjlaaQ Go.Proofs.YtpbeppmldckjlaaW.PrintWords Go.Proofs.YtpbeppmldckjlaaW.PrintLast Go.Proofs.YtpbeppmldckjlaaW.PrintMore
attribute [local go_sem] max2_int min2_int max_two min_two max_three min_three max_four min_four   -- for this text's walks alone
set_option linter.unusedVariables false
set_option linter.unusedSimpArgs false
def tithebarnref01_Cursor_Done.f (s0_0 : ByteArray) (s0_1 : Int) (s0_2 : Int) : Option (Int × ByteArray × Int × Int) := if s0_2 = 0 then ((tithebarnref01_Cursor_Left.f s0_0 s0_1 s0_2).bind fun bt333 => (if bt333.1 > 0 then (some (5, bt333.2.1, bt333.2.2.1, bt333.2.2.2)) else (some (bt333.2.2.2, bt333.2.1, bt333.2.2.1, bt333.2.2.2)))) else (some (s0_2, s0_0, s0_1, s0_2))
set_option maxHeartbeats 8000000 in
set_option maxRecDepth 100000 in
theorem tithebarnref01_Cursor_Done.calls (g : Nat) (s0_0 : ByteArray) (s0_1 : Int) (s0_2 : Int) (r1 : Int) (r2 : ByteArray) (r3 : Int) (r4 : Int) (w0 w : World) (hI : IsS61 w0 w g s0_0 s0_1 s0_2) (hB : Below w0.heap.size w0 w) (h : tithebarnref01_Cursor_Done.f s0_0 s0_1 s0_2 = some (r1, r2, r3, r4)) :
    Calls Try.prog 33 #[.pointer (some ⟨g, 0, none⟩)] w fun e w' => e = .returned (.int .i64 r1) ∧ IsS61 w0 w' g r2 r3 r4 ∧ Below w0.heap.size w0 w' ∧ KeepBut w w' g none := by
  have HI0 := Aside0.mk hI
  have HK := Aside0.mk (KeepBut.refl w g none)
  have HL := Aside0.mk hB.size
  clear hI
  have HW0 := Aside0.mk hB.size
  have HB := Aside0.mk hB
  clear hB
  have H : (if s0_2 = 0 then ((tithebarnref01_Cursor_Left.f s0_0 s0_1 s0_2).bind fun bt333 => (if bt333.1 > 0 then (some (5, bt333.2.1, bt333.2.2.1, bt333.2.2.2)) else (some (bt333.2.2.2, bt333.2.1, bt333.2.2.1, bt333.2.2.2)))) else (some (s0_2, s0_0, s0_1, s0_2))) = some (r1, r2, r3, r4) := h
  clear h
  by_cases c2 : s0_2 = 0
  · rw [if_pos c2] at H
    have c2b0 : (s0_2 == 0) = true := beq_iff_eq.mpr c2
    have c2b1 : (s0_2 != 0) = false := bne_eq_false_iff_eq.mpr c2
    clear c2
    replace H := Option.bind_eq_some_iff.mp H
    obtain ⟨⟨t333, t334, t335, t336⟩, A30, H⟩ := H
    replace H : (if t333 > 0 then (some (5, t334, t335, t336)) else (some (t336, t334, t335, t336))) = some (r1, r2, r3, r4) := H
    have A3 := Aside0.mk A30
    clear A30
    by_cases c4 : t333 > 0
    · rw [if_pos c4] at H
      have c4b0 : decide (0 < t333) = true := decide_eq_true c4
      clear c4
      simp only [Option.some.injEq, Prod.mk.injEq] at H
      obtain ⟨rfl, rfl, rfl, rfl⟩ := H
      obtain ⟨HGz5, hgz5⟩ := HI0.out
      have hcz5_0 := cellS61_0 HGz5
      have hcz5_1 := cellS61_1 HGz5
      have hcz5_2 := cellS61_2 HGz5
      have hfz5_0 := blk_frozen HGz5 0
      have hfz5_1 := blk_frozen HGz5 1
      have hfz5_2 := blk_frozen HGz5 2
      clear HGz5 hgz5
      go_enter Try.func33, Try.ntmps33
      go_wp2_with (first | (go_at_call 54; (with_reducible refine (tithebarnref01_Cursor_Left.calls g s0_0 s0_1 s0_2 t333 t334 t335 t336 w0 _ ?side1 ?side2 A3.out).mono ?_); (case side1 => repeat (first | (with_reducible first | exact HI0.out | apply IsS61.alloc | apply IsS61.drewN | apply IsS61.drew | apply IsS61.set_0 | apply IsS61.set_1 | apply IsS61.set_2) | exact HI0.out)); (case side2 => repeat (first | (with_reducible first | exact HB.out | apply below_alloc | apply pw_below_drewN | apply below_drew1 | refine below_set ?_ (IsS61.ge HI0.out)) | exact HB.out)); rintro e w6 ⟨rfl, hi, hb, hk⟩; have n0_ := Aside0.mk (KeepBut.trans (by repeat (first | (with_reducible first | exact HK.out | apply KeepBut.set_ | apply keep_drewN | apply keep_drew | apply keep_alloc) | exact HK.out)) hk (.inl rfl)); have n1_ := Aside0.mk (hb); have n2_ := Aside0.mk (hi); clear HK; clear HB; clear HI0; have HK := n0_; have HB := n1_; have HI0 := n2_; clear n0_ n1_ n2_; (try clear hb); (try clear hb2); (try clear hk); (try clear hi)))
      go_ret
      exact ⟨by first | rfl | (simp [errW_none, errW_some] <;> rfl) | (simp [*, errW_none, errW_some] <;> rfl), by repeat (first | (with_reducible first | exact HI0.out | apply IsS61.alloc | apply IsS61.drewN | apply IsS61.drew | apply IsS61.set_0 | apply IsS61.set_1 | apply IsS61.set_2) | exact HI0.out), by repeat (first | (with_reducible first | exact HB.out | apply below_alloc | apply pw_below_drewN | apply below_drew1 | refine below_set ?_ (IsS61.ge HI0.out)) | exact HB.out), by repeat (first | (with_reducible first | exact HK.out | apply KeepBut.set_ | apply keep_drewN | apply keep_drew | apply keep_alloc) | exact HK.out)⟩
    · rw [if_neg c4] at H
      have c4b0 : decide (0 < t333) = false := decide_eq_false c4
      clear c4
      simp only [Option.some.injEq, Prod.mk.injEq] at H
      obtain ⟨rfl, rfl, rfl, rfl⟩ := H
      obtain ⟨HGz7, hgz7⟩ := HI0.out
      have hcz7_0 := cellS61_0 HGz7
      have hcz7_1 := cellS61_1 HGz7
      have hcz7_2 := cellS61_2 HGz7
      have hfz7_0 := blk_frozen HGz7 0
      have hfz7_1 := blk_frozen HGz7 1
      have hfz7_2 := blk_frozen HGz7 2
      clear HGz7 hgz7
      go_enter Try.func33, Try.ntmps33
      go_wp2_with (first | (go_at_call 54; (with_reducible refine (tithebarnref01_Cursor_Left.calls g s0_0 s0_1 s0_2 t333 t334 t335 t336 w0 _ ?side1 ?side2 A3.out).mono ?_); (case side1 => repeat (first | (with_reducible first | exact HI0.out | apply IsS61.alloc | apply IsS61.drewN | apply IsS61.drew | apply IsS61.set_0 | apply IsS61.set_1 | apply IsS61.set_2) | exact HI0.out)); (case side2 => repeat (first | (with_reducible first | exact HB.out | apply below_alloc | apply pw_below_drewN | apply below_drew1 | refine below_set ?_ (IsS61.ge HI0.out)) | exact HB.out)); rintro e w8 ⟨rfl, hi, hb, hk⟩; have n0_ := Aside0.mk (KeepBut.trans (by repeat (first | (with_reducible first | exact HK.out | apply KeepBut.set_ | apply keep_drewN | apply keep_drew | apply keep_alloc) | exact HK.out)) hk (.inl rfl)); have n1_ := Aside0.mk (hb); have n2_ := Aside0.mk (hi); clear HK; clear HB; clear HI0; have HK := n0_; have HB := n1_; have HI0 := n2_; clear n0_ n1_ n2_; (try clear hb); (try clear hb2); (try clear hk); (try clear hi); obtain ⟨HGz9, hgz9⟩ := HI0.out; have hcz9_0 := cellS61_0 HGz9; have hcz9_1 := cellS61_1 HGz9; have hcz9_2 := cellS61_2 HGz9; have hfz9_0 := blk_frozen HGz9 0; have hfz9_1 := blk_frozen HGz9 1; have hfz9_2 := blk_frozen HGz9 2; clear HGz9 hgz9))
      go_ret
      exact ⟨by first | rfl | (simp [errW_none, errW_some] <;> rfl) | (simp [*, errW_none, errW_some] <;> rfl), by repeat (first | (with_reducible first | exact HI0.out | apply IsS61.alloc | apply IsS61.drewN | apply IsS61.drew | apply IsS61.set_0 | apply IsS61.set_1 | apply IsS61.set_2) | exact HI0.out), by repeat (first | (with_reducible first | exact HB.out | apply below_alloc | apply pw_below_drewN | apply below_drew1 | refine below_set ?_ (IsS61.ge HI0.out)) | exact HB.out), by repeat (first | (with_reducible first | exact HK.out | apply KeepBut.set_ | apply keep_drewN | apply keep_drew | apply keep_alloc) | exact HK.out)⟩
  · rw [if_neg c2] at H
    have c2b0 : (s0_2 == 0) = false := beq_eq_false_iff_ne.mpr c2
    have c2b1 : (s0_2 != 0) = true := bne_iff_ne.mpr c2
    simp only [Option.some.injEq, Prod.mk.injEq] at H
    obtain ⟨rfl, rfl, rfl, rfl⟩ := H
    obtain ⟨HGz10, hgz10⟩ := HI0.out
    have hcz10_0 := cellS61_0 HGz10
    have hcz10_1 := cellS61_1 HGz10
    have hcz10_2 := cellS61_2 HGz10
    have hfz10_0 := blk_frozen HGz10 0
    have hfz10_1 := blk_frozen HGz10 1
    have hfz10_2 := blk_frozen HGz10 2
    clear HGz10 hgz10
    go_enter Try.func33, Try.ntmps33
    go_wp2
    go_ret
    exact ⟨by first | rfl | (simp [errW_none, errW_some] <;> rfl) | (simp [*, errW_none, errW_some] <;> rfl), by repeat (first | (with_reducible first | exact HI0.out | apply IsS61.alloc | apply IsS61.drewN | apply IsS61.drew | apply IsS61.set_0 | apply IsS61.set_1 | apply IsS61.set_2) | exact HI0.out), by repeat (first | (with_reducible first | exact HB.out | apply below_alloc | apply pw_below_drewN | apply below_drew1 | refine below_set ?_ (IsS61.ge HI0.out)) | exact HB.out), by repeat (first | (with_reducible first | exact HK.out | apply KeepBut.set_ | apply keep_drewN | apply keep_drew | apply keep_alloc) | exact HK.out)⟩
def tithebarnref07_Read.rows (k : Nat) : List S39 → ByteArray → Int → Int → List S43 → Int → Option (List S43 × Int × ByteArray × Int × Int)
  | [], s0, s1, s2, acc, e => some (acc, e, s0, s1, s2)
  | x :: l, s0, s1, s2, acc, e => if e = 0 then (tithebarnref07_value.f k s0 s1 s2 x.f0 x.f1).bind fun t => tithebarnref07_Read.rows k l t.2.2.2.2.1 t.2.2.2.2.2.1 t.2.2.2.2.2.2 (acc ++ [⟨t.1, t.2.1, t.2.2.1⟩]) t.2.2.2.1 else some (acc, e, s0, s1, s2)
def tithebarnref07_Read.end_ (gone : Bool) (q : List S43 × Int × ByteArray × Int × Int) : Option (Bool × List S43 × Int) :=
  if q.2.1 = 0 then (tithebarnref01_Cursor_Done.f q.2.2.1 q.2.2.2.1 q.2.2.2.2).bind fun t => if t.1 = 0 then some (gone, q.1, 0) else some (false, [], t.1) else some (false, [], q.2.1)
def tithebarnref07_Read.f (k : Nat) (l : List S39) (text : ByteArray) : Option (Bool × List S43 × Int) :=
  (tithebarnref02_Right.f k l).bind fun b => if b = true then (if 0 < l.length ∧ l.length ≤ 6 then (tithebarnref07_truth.f text 0 0).bind fun t => (tithebarnref07_Read.rows k (l.take (if t.1 = true then 1 else l.length)) t.2.2.1 t.2.2.2.1 t.2.2.2.2 [] t.2.1).bind (tithebarnref07_Read.end_ t.1) else none) else some (false, [], 4)
def tithebarnref07_Read.RowR (w0 W : World) (g R D : Nat) (gone : Bool) (v : Value) (acc : List S43) (s0 : ByteArray) (s1 s2 : Int) : Prop :=
  IsS61 w0 W g s0 s1 s2 ∧ Below w0.heap.size w0 W ∧ (W.heap[D]? = some (.cells #[.bool gone, v] 26 (0, 0)) ∧ w0.heap.size ≤ D) ∧ (W.heap[R]? = some (.cells #[.bool false, .slice none 0 0] 26 (0, 0)) ∧ w0.heap.size ≤ R) ∧ D ≠ R ∧ k43.R 43 W w0.heap.size (fun _ => True) v acc
section
variable {w0 W W' : World} {g R D V : Nat} {gone : Bool} {v v1 v2 v3 : Value} {acc acc' : List S43} {s0 t0 : ByteArray} {s1 s2 t1 t2 : Int}
theorem tithebarnref07_Read.RowR.below (h : tithebarnref07_Read.RowR w0 W g R D gone v acc s0 s1 s2) (hb : Below W.heap.size W W') : tithebarnref07_Read.RowR w0 W' g R D gone v acc s0 s1 s2 :=
  ⟨h.1.below hb, below_then h.2.1 h.2.1.size hb, ⟨(hb.block D (blk_lt h.2.2.1.1)).trans h.2.2.1.1, h.2.2.1.2⟩, ⟨(hb.block R (blk_lt h.2.2.2.1.1)).trans h.2.2.2.1.1, h.2.2.2.1.2⟩, h.2.2.2.2.1, Kd.R_below h.2.2.2.2.2 hb⟩
theorem tithebarnref07_Read.RowR.drew (h : tithebarnref07_Read.RowR w0 W g R D gone v acc s0 s1 s2) : tithebarnref07_Read.RowR w0 W.drew g R D gone v acc s0 s1 s2 := h.below (below_drew (Below.refl _ _))
theorem tithebarnref07_Read.RowR.gne (h : tithebarnref07_Read.RowR w0 W g R D gone v acc s0 s1 s2) : some g ≠ v.ownBlock := Kd.R_ne h.2.2.2.2.2 h.1.1 (by decide)
theorem tithebarnref07_Read.RowR.dne (h : tithebarnref07_Read.RowR w0 W g R D gone v acc s0 s1 s2) : some D ≠ v.ownBlock := Kd.R_ne h.2.2.2.2.2 h.2.2.1.1 (by decide)
theorem tithebarnref07_Read.RowR.rne (h : tithebarnref07_Read.RowR w0 W g R D gone v acc s0 s1 s2) : some R ≠ v.ownBlock := Kd.R_ne h.2.2.2.2.2 h.2.2.2.1.1 (by decide)
theorem tithebarnref07_Read.RowR.dg (h : tithebarnref07_Read.RowR w0 W g R D gone v acc s0 s1 s2) : D ≠ g := blk_ne h.2.2.1.1 h.1.1 (by decide)
theorem tithebarnref07_Read.RowR.rg (h : tithebarnref07_Read.RowR w0 W g R D gone v acc s0 s1 s2) : R ≠ g := blk_ne h.2.2.2.1.1 h.1.1 (by decide)
theorem tithebarnref07_Read.RowR.kept {S : Nat → Prop} (h : tithebarnref07_Read.RowR w0 W g R D gone v acc s0 s1 s2) (hk : Kept W W' S) (hi : IsS61 w0 W' g t0 t1 t2) (hb : Below w0.heap.size w0 W') (hd : ¬ S D) (hr : ¬ S R) (hv : ∀ k, v.ownBlock = some k → ¬ S k) : tithebarnref07_Read.RowR w0 W' g R D gone v acc t0 t1 t2 :=
  ⟨hi, hb, ⟨blk_kept h.2.2.1.1 hk hd, h.2.2.1.2⟩, ⟨blk_kept h.2.2.2.1.1 hk hr, h.2.2.2.1.2⟩, h.2.2.2.2.1, Kd.R_mono (Kd.R_kept (Kd.R_tight rfl h.2.2.2.2.2) hk (fun k hk' hs => hv k hk'.symm hs)) (fun _ _ => trivial)⟩
theorem tithebarnref07_Read.RowR.call (h : tithebarnref07_Read.RowR w0 W g R D gone v acc s0 s1 s2) (hi : IsS61 w0 W' g t0 t1 t2) (hb : Below w0.heap.size w0 W') (hk : KeepBut W W' g none) : tithebarnref07_Read.RowR w0 W' g R D gone v acc t0 t1 t2 :=
  h.kept (S := fun k => k = g) ⟨hk.1, fun i hi hn => hk.2 i hi hn (by simp)⟩ hi hb h.dg h.rg (fun k hk he => h.gne (he ▸ hk.symm))
theorem tithebarnref07_Read.RowR.app (h : tithebarnref07_Read.RowR w0 W g R D gone v acc s0 s1 s2) (hg : W.grownBy W' v.ownBlock) (hr : k43.R 43 W' w0.heap.size (fun _ => True) v1 acc') (hb : Below w0.heap.size w0 W') : tithebarnref07_Read.RowR w0 (W'.setCell ⟨D, 1, none⟩ v1) g R D gone v1 acc' s0 s1 s2 := by
  have d := blk_grown h.2.2.1.1 hg h.dne
  have rr := blk_grown h.2.2.2.1.1 hg h.rne
  have gg := blk_grown h.1.1 hg h.gne
  exact ⟨⟨blk_far gg (p := ⟨D, 1, none⟩) (Ne.symm h.dg) v1, h.1.2⟩, below_set hb h.2.2.1.2, ⟨blk_set d 1 v1, h.2.2.1.2⟩,
    ⟨blk_far rr (p := ⟨D, 1, none⟩) (Ne.symm h.2.2.2.2.1) v1, h.2.2.2.1.2⟩, h.2.2.2.2.1, Kd.R_set hr d (by decide) 1 v1⟩
theorem tithebarnref07_Read.RowR.bad (h : tithebarnref07_Read.RowR w0 W g R D gone v acc s0 s1 s2) (a b : Value) : Below w0.heap.size w0 ((W.setCell ⟨R, 0, none⟩ a).setCell ⟨R, 1, none⟩ b) := below_set (below_set h.2.1 h.2.2.2.1.2) h.2.2.2.1.2
theorem tithebarnref07_Read.RowR.good (h : tithebarnref07_Read.RowR w0 W g R D gone v acc s0 s1 s2) (a b : Value) : k43.R 43 ((W.setCell ⟨R, 0, none⟩ a).setCell ⟨R, 1, none⟩ b) w0.heap.size (fun _ => True) v acc :=
  Kd.R_set (Kd.R_set h.2.2.2.2.2 h.2.2.2.1.1 (by decide) 0 a) (blk_set h.2.2.2.1.1 0 a) (by decide) 1 b
theorem tithebarnref07_Read.RowR.d0 (h : tithebarnref07_Read.RowR w0 W g R D gone v acc s0 s1 s2) : W.cell? ⟨D, 0, none⟩ = some (.bool gone) := (blk_cell h.2.2.1.1 0).trans rfl
theorem tithebarnref07_Read.RowR.d1 (h : tithebarnref07_Read.RowR w0 W g R D gone v acc s0 s1 s2) : W.cell? ⟨D, 1, none⟩ = some v := (blk_cell h.2.2.1.1 1).trans rfl
theorem tithebarnref07_Read.RowR.r0 (h : tithebarnref07_Read.RowR w0 W g R D gone v acc s0 s1 s2) : W.cell? ⟨R, 0, none⟩ = some (.bool false) := (blk_cell h.2.2.2.1.1 0).trans rfl
theorem tithebarnref07_Read.RowR.r1 (h : tithebarnref07_Read.RowR w0 W g R D gone v acc s0 s1 s2) : W.cell? ⟨R, 1, none⟩ = some (.slice none 0 0) := (blk_cell h.2.2.2.1.1 1).trans rfl
end
theorem tithebarnref07_Read.value_at {k : Nat} {w0 w : World} {g : Nat} {s0 : ByteArray} {s1 s2 : Int} {a : Int} {null : Bool} {y : S43} {e' : Int} {t0 : ByteArray} {t1 t2 : Int} (hv : tithebarnref07_value.f k s0 s1 s2 a null = some (y.f0, y.f1, y.f2, e', t0, t1, t2)) (hI : IsS61 w0 w g s0 s1 s2) (hB : Below w0.heap.size w0 w) :
    Calls Try.prog 32 #[.pointer (some ⟨g, 0, none⟩), .agg #[.int .i64 a, .bool null]] w fun e w' => e = .returned (.tuple #[.agg #[.bool y.f0, .int .i64 y.f1, .string y.f2], .int .i64 e']) ∧ IsS61 w0 w' g t0 t1 t2 ∧ Below w0.heap.size w0 w' ∧ KeepBut w w' g none := tithebarnref07_value.calls k g _ _ _ _ _ _ _ _ _ _ _ _ w0 w hI hB hv
theorem tithebarnref07_Read.row_step {l : List S39} {m i : Nat} (hm : m ≤ l.length) (hi : i < m) {x : S39} (hx : rd_T39 l (i : Int) = x) : (l.take m).drop i = x :: (l.take m).drop (i + 1) := by
  have h1 : i < (l.take m).length := by rw [List.length_take]; omega
  rw [List.drop_eq_getElem_cons h1, List.getElem_take]
  unfold rd_T39 at hx
  rw [Int.toNat_natCast, List.getD_eq_getElem?_getD, List.getElem?_eq_getElem (by omega)] at hx
  exact congrArg (· :: _) hx
theorem tithebarnref07_Read.row_end {l : List S39} {m i : Nat} (hi : m ≤ i) : (l.take m).drop i = [] := List.drop_eq_nil_of_le (by rw [List.length_take]; omega)
theorem tithebarnref07_Read.rows_no {k : Nat} {x : S39} {l : List S39} {s0 : ByteArray} {s1 s2 e : Int} {acc : List S43} (h : e ≠ 0) : tithebarnref07_Read.rows k (x :: l) s0 s1 s2 acc e = some (acc, e, s0, s1, s2) := by
  unfold tithebarnref07_Read.rows; rw [if_neg h]
theorem tithebarnref07_Read.rows_on {k : Nat} {x : S39} {l : List S39} {s0 : ByteArray} {s1 s2 : Int} {acc : List S43} {F : List S43 × Int × ByteArray × Int × Int → Option (Bool × List S43 × Int)} {r : Bool × List S43 × Int} (h : (tithebarnref07_Read.rows k (x :: l) s0 s1 s2 acc 0).bind F = some r) :
    ∃ (y : S43) (e' : Int) (t0 : ByteArray) (t1 t2 : Int), tithebarnref07_value.f k s0 s1 s2 x.f0 x.f1 = some (y.f0, y.f1, y.f2, e', t0, t1, t2) ∧ (tithebarnref07_Read.rows k l t0 t1 t2 (acc ++ [y]) e').bind F = some r := by
  unfold tithebarnref07_Read.rows at h
  rw [if_pos rfl, Option.bind_assoc] at h
  obtain ⟨t, ht, h⟩ := Option.bind_eq_some_iff.mp h
  exact ⟨⟨t.1, t.2.1, t.2.2.1⟩, t.2.2.2.1, t.2.2.2.2.1, t.2.2.2.2.2.1, t.2.2.2.2.2.2, ht, h⟩
theorem tithebarnref07_Read.end_bad {gone : Bool} {acc : List S43} {e : Int} {s0 : ByteArray} {s1 s2 : Int} {r1 : Bool} {r2 : List S43} {r3 : Int} (h0 : e ≠ 0) (h : tithebarnref07_Read.end_ gone (acc, e, s0, s1, s2) = some (r1, r2, r3)) : false = r1 ∧ [] = r2 ∧ e = r3 := by
  unfold tithebarnref07_Read.end_ at h; rw [if_neg h0] at h; simpa using h
theorem tithebarnref07_Read.end_on {gone : Bool} {acc : List S43} {s0 : ByteArray} {s1 s2 : Int} {r1 : Bool} {r2 : List S43} {r3 : Int} (h : tithebarnref07_Read.end_ gone (acc, 0, s0, s1, s2) = some (r1, r2, r3)) :
    ∃ (dn : Int) (t0 : ByteArray) (t1 t2 : Int), tithebarnref01_Cursor_Done.f s0 s1 s2 = some (dn, t0, t1, t2) ∧ (dn = 0 → gone = r1 ∧ acc = r2 ∧ 0 = r3) ∧ (dn ≠ 0 → false = r1 ∧ [] = r2 ∧ dn = r3) := by
  unfold tithebarnref07_Read.end_ at h; rw [if_pos rfl] at h
  obtain ⟨t, ht, h⟩ := Option.bind_eq_some_iff.mp h
  refine ⟨t.1, t.2.1, t.2.2.1, t.2.2.2, ht, fun hz => ?_, fun hz => ?_⟩
  · rw [if_pos hz] at h; simpa using h
  · rw [if_neg hz] at h; simpa using h
theorem tithebarnref07_value.mono : ∀ a0 a1 a2 a3 a4 k, LeO (tithebarnref07_value.f k a0 a1 a2 a3 a4) (tithebarnref07_value.f (k + 1) a0 a1 a2 a3 a4) := by
  intro a0 a1 a2 a3 a4 k
  unfold tithebarnref07_value.f tithebarnref07_value.rest
  repeat' first
      | exact tithebarnref01_Cursor_Int.mono _ _ _ _
      | exact tithebarnref01_Cursor_Text.mono _ _ _ _ _
      | (with_reducible exact LeO.refl _)
      | (with_reducible refine LeO.ite ?_ ?_)
      | (with_reducible refine LeO.bind ?_ (fun _ => ?_))
theorem tithebarnref07_Read.rows_mono (k : Nat) : ∀ (l : List S39) (s0 : ByteArray) (s1 s2 : Int) (acc : List S43) (e : Int), LeO (tithebarnref07_Read.rows k l s0 s1 s2 acc e) (tithebarnref07_Read.rows (k + 1) l s0 s1 s2 acc e) := by
  intro l
  induction l with
  | nil => intro s0 s1 s2 acc e; exact LeO.refl _
  | cons x l ih =>
    intro s0 s1 s2 acc e
    unfold tithebarnref07_Read.rows
    refine LeO.ite (LeO.bind (tithebarnref07_value.mono _ _ _ _ _ k) (fun _ => ih _ _ _ _ _)) (LeO.refl _)
theorem tithebarnref07_Read.mono : ∀ a0 a1 k, LeO (tithebarnref07_Read.f k a0 a1) (tithebarnref07_Read.f (k + 1) a0 a1) := by
  intro a0 a1 k
  unfold tithebarnref07_Read.f
  refine LeO.bind (tithebarnref02_Right.mono _ k) (fun _ => LeO.ite (LeO.ite (LeO.bind (LeO.refl _) (fun _ => LeO.bind (tithebarnref07_Read.rows_mono k _ _ _ _ _ _) (fun _ => LeO.refl _))) (LeO.refl _)) (LeO.refl _))
set_option maxHeartbeats 4000000 in
set_option maxRecDepth 100000 in
theorem tithebarnref07_Read.no (k : Nat) (A0 : Option Addr) (c0 : Nat) (l : List S39) (text : ByteArray) (r1 : Bool) (r2 : List S43) (r3 : Int) (w : World) (hr0 : Kd.C k39 w A0 l.length l) (hc0 : l.length ≤ c0) (hR : tithebarnref02_Right.f k l = some false) (h : (false, [], 4) = (r1, r2, r3)) :
    Calls Try.prog 13 #[.slice A0 l.length c0, .string text] w fun e w' => ∃ v0_, e = .returned (.tuple #[.agg #[.bool r1, v0_], .int .i64 r3]) ∧ Kd.R k43 43 w' w.heap.size (fun _ => True) v0_ r2 ∧ Below w.heap.size w w' := by
  obtain ⟨rfl, rfl, rfl⟩ : false = r1 ∧ [] = r2 ∧ 4 = r3 := by simpa using h
  clear h
  have HR := Aside0.mk hR; clear hR
  have HC := Aside0.mk hr0; clear hr0
  have HC0 := Aside0.mk hc0; clear hc0
  go_enter Try.func13, Try.ntmps13
  go_wp2_with fail
  refine (tithebarnref02_Right.calls k A0 c0 l false _ (Kd.C_alloc HC.out _) HC0.out HR.out).mono ?_; rintro e w1 ⟨rfl, hb1⟩
  have hB1 := below_then (below_alloc (Below.refl w.heap.size w) (.cells #[.bool false, .slice none 0 0] 26)) (below_alloc (Below.refl w.heap.size w) (.cells #[.bool false, .slice none 0 0] 26)).size hb1.below
  have hR0 : w1.heap[w.heap.size]? = some (.cells #[.bool false, .slice none 0 0] 26 (0, 0)) := (hb1.below.block _ (by simp)).trans (heap_alloc_new w _)
  have q4 : w1.cell? ⟨w.heap.size, 0, none⟩ = some (.bool false) := (blk_cell hR0 0).trans rfl
  have q5 : w1.cell? ⟨w.heap.size, 1, none⟩ = some (.slice none 0 0) := (blk_cell hR0 1).trans rfl
  have q6 := blk_frozen hR0 0
  have q7 := blk_frozen hR0 1
  have HB1 := Aside0.mk hB1; clear hB1 hb1 hR0
  go_wp2
  refine bodyPost_ret (v := .tuple #[.agg #[.bool false, .slice none 0 0], .int .i64 4]) ?_ rfl ⟨_, rfl, Kd.R_nil _ _ _ _ _, below_set (below_set HB1.out (Nat.le_refl _)) (Nat.le_refl _)⟩
  simp [results, Try.results13, go_sem, *]
set_option maxHeartbeats 16000000 in
set_option maxRecDepth 100000 in
theorem tithebarnref07_Read.yes_false (k : Nat) (A0 : Option Addr) (c0 : Nat) (l : List S39) (text : ByteArray) (r1 : Bool) (r2 : List S43) (r3 : Int) (w : World) (hr0 : Kd.C k39 w A0 l.length l) (hc0 : l.length ≤ c0) (hR : tithebarnref02_Right.f k l = some true) (hl : 0 < l.length ∧ l.length ≤ 6) {te : Int} {x0 : ByteArray} {x1 x2 : Int} (ht : tithebarnref07_truth.f text 0 0 = some (false, te, x0, x1, x2)) (h : (tithebarnref07_Read.rows k (l.take l.length) x0 x1 x2 [] te).bind (tithebarnref07_Read.end_ false) = some (r1, r2, r3)) :
    Calls Try.prog 13 #[.slice A0 l.length c0, .string text] w fun e w' => ∃ v0_, e = .returned (.tuple #[.agg #[.bool r1, v0_], .int .i64 r3]) ∧ Kd.R k43 43 w' w.heap.size (fun _ => True) v0_ r2 ∧ Below w.heap.size w w' := by
  have HLN := Aside0.mk hl
  obtain ⟨ad, hA, -, -⟩ := at_T39 hr0 0 (by omega) (by have := HLN.out; omega)
  cases hA
  have HT := Aside0.mk ht; have HQ := Aside0.mk h; clear ht h hl
  have HR := Aside0.mk hR; clear hR
  have HC := Aside0.mk hr0; clear hr0
  have HC0 := Aside0.mk hc0; clear hc0
  go_enter Try.func13, Try.ntmps13
  go_wp2_with fail
  refine (tithebarnref02_Right.calls k (some ad) c0 l true _ (Kd.C_alloc HC.out _) HC0.out HR.out).mono ?_; rintro e w1 ⟨rfl, hb1⟩
  have hB1 := below_then (below_alloc (Below.refl w.heap.size w) (.cells #[.bool false, .slice none 0 0] 26)) (below_alloc (Below.refl w.heap.size w) (.cells #[.bool false, .slice none 0 0] 26)).size hb1.below
  have hR0 : w1.heap[w.heap.size]? = some (.cells #[.bool false, .slice none 0 0] 26 (0, 0)) := (hb1.below.block _ (by simp)).trans (heap_alloc_new w _)
  have HB1 := Aside0.mk hB1; have HR0 := Aside0.mk hR0; clear hB1 hb1 hR0 HR
  go_wp2_with (first | ((with_reducible refine gate_dst (N := 20) rfl ?_); refine box_event ?hg (N := 20) ?hd (cs := #[.string text, .int .i64 0, .int .i64 0]) (t := 61) ?hr ?_; (case hd => rfl); (case hg => rfl); (case hr => first | (go_simp; done) | (go_simp; rfl)); intro g hdg w3 hd0 hb3; have HDG := Aside0.mk hdg; clear hdg))
  have HR3 := Aside0.mk ((hb3.block _ (blk_lt HR0.out)).trans HR0.out)
  have HB3 := Aside0.mk (below_then HB1.out HB1.out.size hb3)
  have HI3 : Aside0 (IsS61 w w3 g text 0 0) := ⟨⟨hd0, by have := HB1.out.size; have := HDG.out; omega⟩⟩
  clear hd0 hb3 HDG HR0 HB1
  go_wp2_with fail
  refine (tithebarnref07_truth.calls g _ _ _ _ _ _ _ _ w _ HI3.out HB3.out HT.out).mono ?_; rintro e w4 ⟨rfl, hi4, hb4, hk4⟩
  have HR4 := Aside0.mk ((hk4.2 _ (blk_lt HR3.out) (blk_ne HR3.out HI3.out.1 (by decide)) (by simp)).trans HR3.out)
  have HI4 := Aside0.mk hi4; have HB4 := Aside0.mk hb4; clear hi4 hb4 hk4 HR3 HB3 HI3 HT
  have HS : Aside0 (tithebarnref07_Read.RowR w (w4.alloc (.cells #[.bool false, .slice none 0 0] 26)) g w.heap.size w4.heap.size false (.slice none 0 0) [] x0 x1 x2) :=
    have ha := below_alloc (Below.refl w4.heap.size w4) (.cells #[.bool false, .slice none 0 0] 26)
    ⟨HI4.out.below ha, below_then HB4.out HB4.out.size ha, ⟨heap_alloc_new w4 _, HB4.out.size⟩, ⟨(ha.block _ (blk_lt HR4.out)).trans HR4.out, Nat.le_refl _⟩, (fun e => by have := blk_lt HR4.out; omega), Kd.R_nil _ _ _ _ _⟩
  clear HI4 HB4 HR4
  have HR := HC; clear HC
  have l1 := HLN.out.1; have l2 := HLN.out.2
  go_wp2_with fail
  generalize w4.heap.size = D at *
  go_loopg [8, 11] l.length (fun gk ue u wx => ∃ (i : Nat) (v : Value) (acc : List S43) (s0 : ByteArray) (s1 s2 e : Int), i ≤ l.length ∧ gk = l.length - i ∧ u = .int .i64 (i : Int) ∧ ue = .int .i64 e ∧ acc.length ≤ i ∧ Aside0 (tithebarnref07_Read.RowR w wx g w.heap.size D false v acc s0 s1 s2) ∧ Aside0 ((tithebarnref07_Read.rows k ((l.take l.length).drop i) s0 s1 s2 acc e).bind (tithebarnref07_Read.end_ false) = some (r1, r2, r3)))
  case atStart => exact ⟨0, .slice none 0 0, [], x0, x1, x2, te, by omega, by omega, rfl, rfl, by simp, HS, ⟨by rw [List.drop_zero]; exact HQ.out⟩⟩
  case round =>
    clear HS HQ
    obtain ⟨i, v, acc, s0, s1, s2, e, hi, rfl, rfl, rfl, hal, HS, HQ⟩ := hrel
    obtain ⟨Av, cv, rfl⟩ := Kd.R_slice HS.out.2.2.2.2.2
    by_cases hlt : i < l.length
    · obtain ⟨g1, hg1⟩ : ∃ g1, l.length - i = g1 + 1 := ⟨l.length - i - 1, by omega⟩
      have k1 : decide ((i : Int) < (l.length : Int)) = true := decide_eq_true (by omega)
      have k2 : decide (i < l.length) = true := decide_eq_true hlt
      obtain ⟨x, hx⟩ : ∃ x, rd_T39 l (i : Int) = x := ⟨_, rfl⟩
      have hq := HQ.out
      rw [tithebarnref07_Read.row_step (by have := HLN.out; omega) hlt hx] at hq
      have HX := Aside0.mk hx; clear hx HQ
      by_cases hz : e = 0
      · subst hz
        have hz1 : ((0 : Int) == 0) = true := rfl
        obtain ⟨y, e', t0, t1, t2, hv, hq⟩ := tithebarnref07_Read.rows_on hq
        have HV := Aside0.mk hv; have HQ := Aside0.mk hq; clear hq hv
        have i1 : (0 : Int) ≤ (i : Int) := by omega
        have i2 : (i : Int) < (l.length : Int) := by have := HLN.out; omega
        replace i1 := eq_true i1; replace i2 := eq_true i2
        have hS := HS.out; clear HS
        obtain ⟨ad', hA, hx0, hx1⟩ := at_T39 (Kd.C_below HR.out hS.2.1) (i : Int) (by omega) (by have := HLN.out; omega)
        rw [Int.toNat_natCast] at hx0 hx1
        rw [HX.out] at hx0 hx1
        cases hA
        go_wp2_with fail
        refine (tithebarnref07_Read.value_at HV.out hS.1 hS.2.1).mono ?_; rintro en w6 ⟨rfl, hi6, hb6, hk6⟩
        have HS6 := Aside0.mk (hS.call hi6 hb6 hk6)
        have HS7 := Aside0.mk (HS6.out.below (below_alloc (Below.refl _ _) (.cells #[.bool y.f0, .int .i64 y.f1, .string y.f2] 43)))
        have hvv := heap_alloc_new w6 (.cells #[.bool y.f0, .int .i64 y.f1, .string y.f2] 43)
        clear hS hi6 hb6 hk6 hx0 hx1 HS6
        go_upto_region 14 with (fail)
        generalize w6.heap.size = V at hvv ⊢
        generalize World.alloc w6 _ = w7 at HS7 hvv ⊢
        have q3 := HS7.out.d1
        have z0 : w7.cell? ⟨V, 0, none⟩ = some (.bool y.f0) := (blk_cell hvv 0).trans rfl
        have z1 : w7.cell? ⟨V, 1, none⟩ = some (.int .i64 y.f1) := (blk_cell hvv 1).trans rfl
        have z2 : w7.cell? ⟨V, 2, none⟩ = some (.string y.f2) := (blk_cell hvv 2).trans rfl
        clear hvv
        go_wp2_with (at_builtin; refine Kd.R_append k43 (w0 := w) w.heap.size rfl (.tmp 51) (.tmp 53) 24 43 (.agg #[.bool false, .int .i64 0, .string ⟨#[]⟩]) 32 rfl Try.underlying24 info43 rfl (by decide) (by omega) (.slice Av acc.length cv) acc y [.bool y.f0, .int .i64 y.f1, .string y.f2] (fun _ => True) (fun _ => False) rfl rfl (k43_mkM _ _ _ y) (fun _ h => h.elim) (fun _ _ => trivial) HS7.out.2.2.2.2.2 HS7.out.2.1 HS7.out.2.1.size (by omega) ?_; intro v1 w8 ho6 hb6 hg6 _; obtain ⟨A6, c6, hv1⟩ := Kd.R_slice ho6; rw [show (acc ++ [y]).length = acc.length + 1 by simp] at hv1; subst hv1; have hD6 := blk_grown HS7.out.2.2.1.1 hg6 HS7.out.dne; have hd6 : w8.cell? ⟨D, 1, none⟩ = some (.slice Av acc.length cv) := (blk_cell hD6 1).trans rfl; have hf6 := blk_frozen hD6 1; have HS8 := Aside0.mk (HS7.out.app hg6 ho6 hb6); clear ho6 hb6 hg6 HS7 hD6)
        go_roundg g1
        case measure => omega
        case rel => exact ⟨i + 1, _, acc ++ [y], t0, t1, t2, e', by omega, by omega, by go_num, rfl, by simp; omega, HS8, HQ⟩
      · rw [tithebarnref07_Read.rows_no hz] at hq
        have HQ : Aside0 (tithebarnref07_Read.end_ false (acc, e, s0, s1, s2) = some (r1, r2, r3)) := ⟨hq⟩
        clear hq
        obtain ⟨rfl, rfl, rfl⟩ := tithebarnref07_Read.end_bad hz HQ.out
        have hz1 : (e != 0) = true := bne_iff_ne.mpr hz
        have hz2 : (e == 0) = false := beq_eq_false_iff_ne.mpr hz
        have HZ := Aside0.mk hz; clear hz
        have q2 := HS.out.d0
        have q3 := HS.out.d1
        have q4 := HS.out.r0
        have q5 := HS.out.r1
        have q6 := blk_frozen HS.out.2.2.2.1.1 0
        have q7 := blk_frozen HS.out.2.2.2.1.1 1
        go_wp2
        refine bodyPost_ret (v := .tuple #[.agg #[.bool false, .slice none 0 0], .int .i64 e]) ?_ rfl ⟨_, rfl, Kd.R_nil _ _ _ _ _, HS.out.bad _ _⟩
        simp [results, Try.results13, go_sem, *]
    · have k1 : decide ((i : Int) < (l.length : Int)) = false := decide_eq_false (by omega)
      have k2 : decide (i < l.length) = false := decide_eq_false hlt
      have hq := HQ.out
      rw [tithebarnref07_Read.row_end (by omega)] at hq
      have HQ : Aside0 (tithebarnref07_Read.end_ false (acc, e, s0, s1, s2) = some (r1, r2, r3)) := ⟨hq⟩
      clear hq hlt hi
      by_cases hz : e = 0
      · subst hz
        have hz1 : ((0 : Int) == 0) = true := rfl
        obtain ⟨dn, t0, t1, t2, hdn, hd1, hd2⟩ := tithebarnref07_Read.end_on HQ.out
        have HDN := Aside0.mk hdn; have HD1 := Aside0.mk hd1; have HD2 := Aside0.mk hd2; clear hdn hd1 hd2 HQ
        have q2 := HS.out.d0
        have q3 := HS.out.d1
        have q4 := HS.out.r0
        have q5 := HS.out.r1
        have q6 := blk_frozen HS.out.2.2.2.1.1 0
        have q7 := blk_frozen HS.out.2.2.2.1.1 1
        go_wp2_with fail
        refine (tithebarnref01_Cursor_Done.calls g _ _ _ _ _ _ _ w _ HS.out.1 HS.out.2.1 HDN.out).mono ?_; rintro e1 w7 ⟨rfl, hi7, hb7, hk7⟩
        have HS7 := Aside0.mk (HS.out.call hi7 hb7 hk7)
        clear hi7 hb7 hk7 HS HDN hz1
        clear q2 q3 q4 q5 q6 q7
        by_cases hz : dn = 0
        · obtain ⟨rfl, rfl, rfl⟩ := HD1.out hz
          subst hz
          have q2 := HS7.out.d0
          have q3 := HS7.out.d1
          have q4 := HS7.out.r0
          have q5 := HS7.out.r1
          have q6 := blk_frozen HS7.out.2.2.2.1.1 0
          have q7 := blk_frozen HS7.out.2.2.2.1.1 1
          go_wp2
          refine bodyPost_ret (v := .tuple #[.agg #[.bool false, .slice Av acc.length cv], .int .i64 0]) ?_ rfl ⟨_, rfl, HS7.out.good _ _, HS7.out.bad _ _⟩
          simp [results, Try.results13, go_sem, *]
        · obtain ⟨rfl, rfl, rfl⟩ := HD2.out hz
          have hz1 : (dn != 0) = true := bne_iff_ne.mpr hz
          have hz2 : (dn == 0) = false := beq_eq_false_iff_ne.mpr hz
          have HZ := Aside0.mk hz; clear hz
          have q2 := HS7.out.d0
          have q3 := HS7.out.d1
          have q4 := HS7.out.r0
          have q5 := HS7.out.r1
          have q6 := blk_frozen HS7.out.2.2.2.1.1 0
          have q7 := blk_frozen HS7.out.2.2.2.1.1 1
          go_wp2
          refine bodyPost_ret (v := .tuple #[.agg #[.bool false, .slice none 0 0], .int .i64 dn]) ?_ rfl ⟨_, rfl, Kd.R_nil _ _ _ _ _, HS7.out.bad _ _⟩
          simp [results, Try.results13, go_sem, *]
      · obtain ⟨rfl, rfl, rfl⟩ := tithebarnref07_Read.end_bad hz HQ.out
        have hz1 : (e != 0) = true := bne_iff_ne.mpr hz
        have hz2 : (e == 0) = false := beq_eq_false_iff_ne.mpr hz
        have HZ := Aside0.mk hz; clear hz
        have q2 := HS.out.d0
        have q3 := HS.out.d1
        have q4 := HS.out.r0
        have q5 := HS.out.r1
        have q6 := blk_frozen HS.out.2.2.2.1.1 0
        have q7 := blk_frozen HS.out.2.2.2.1.1 1
        go_wp2
        refine bodyPost_ret (v := .tuple #[.agg #[.bool false, .slice none 0 0], .int .i64 e]) ?_ rfl ⟨_, rfl, Kd.R_nil _ _ _ _ _, HS.out.bad _ _⟩
        simp [results, Try.results13, go_sem, *]
set_option maxHeartbeats 16000000 in
set_option maxRecDepth 100000 in
theorem tithebarnref07_Read.yes_true (k : Nat) (A0 : Option Addr) (c0 : Nat) (l : List S39) (text : ByteArray) (r1 : Bool) (r2 : List S43) (r3 : Int) (w : World) (hr0 : Kd.C k39 w A0 l.length l) (hc0 : l.length ≤ c0) (hR : tithebarnref02_Right.f k l = some true) (hl : 0 < l.length ∧ l.length ≤ 6) {te : Int} {x0 : ByteArray} {x1 x2 : Int} (ht : tithebarnref07_truth.f text 0 0 = some (true, te, x0, x1, x2)) (h : (tithebarnref07_Read.rows k (l.take 1) x0 x1 x2 [] te).bind (tithebarnref07_Read.end_ true) = some (r1, r2, r3)) :
    Calls Try.prog 13 #[.slice A0 l.length c0, .string text] w fun e w' => ∃ v0_, e = .returned (.tuple #[.agg #[.bool r1, v0_], .int .i64 r3]) ∧ Kd.R k43 43 w' w.heap.size (fun _ => True) v0_ r2 ∧ Below w.heap.size w w' := by
  have HLN := Aside0.mk hl
  obtain ⟨ad, hA, -, -⟩ := at_T39 hr0 0 (by omega) (by have := HLN.out; omega)
  cases hA
  have HT := Aside0.mk ht; have HQ := Aside0.mk h; clear ht h hl
  have HR := Aside0.mk hR; clear hR
  have HC := Aside0.mk hr0; clear hr0
  have HC0 := Aside0.mk hc0; clear hc0
  go_enter Try.func13, Try.ntmps13
  go_wp2_with fail
  refine (tithebarnref02_Right.calls k (some ad) c0 l true _ (Kd.C_alloc HC.out _) HC0.out HR.out).mono ?_; rintro e w1 ⟨rfl, hb1⟩
  have hB1 := below_then (below_alloc (Below.refl w.heap.size w) (.cells #[.bool false, .slice none 0 0] 26)) (below_alloc (Below.refl w.heap.size w) (.cells #[.bool false, .slice none 0 0] 26)).size hb1.below
  have hR0 : w1.heap[w.heap.size]? = some (.cells #[.bool false, .slice none 0 0] 26 (0, 0)) := (hb1.below.block _ (by simp)).trans (heap_alloc_new w _)
  have HB1 := Aside0.mk hB1; have HR0 := Aside0.mk hR0; clear hB1 hb1 hR0 HR
  go_wp2_with (first | ((with_reducible refine gate_dst (N := 20) rfl ?_); refine box_event ?hg (N := 20) ?hd (cs := #[.string text, .int .i64 0, .int .i64 0]) (t := 61) ?hr ?_; (case hd => rfl); (case hg => rfl); (case hr => first | (go_simp; done) | (go_simp; rfl)); intro g hdg w3 hd0 hb3; have HDG := Aside0.mk hdg; clear hdg))
  have HR3 := Aside0.mk ((hb3.block _ (blk_lt HR0.out)).trans HR0.out)
  have HB3 := Aside0.mk (below_then HB1.out HB1.out.size hb3)
  have HI3 : Aside0 (IsS61 w w3 g text 0 0) := ⟨⟨hd0, by have := HB1.out.size; have := HDG.out; omega⟩⟩
  clear hd0 hb3 HDG HR0 HB1
  go_wp2_with fail
  refine (tithebarnref07_truth.calls g _ _ _ _ _ _ _ _ w _ HI3.out HB3.out HT.out).mono ?_; rintro e w4 ⟨rfl, hi4, hb4, hk4⟩
  have HR4 := Aside0.mk ((hk4.2 _ (blk_lt HR3.out) (blk_ne HR3.out HI3.out.1 (by decide)) (by simp)).trans HR3.out)
  have HI4 := Aside0.mk hi4; have HB4 := Aside0.mk hb4; clear hi4 hb4 hk4 HR3 HB3 HI3 HT
  have HS : Aside0 (tithebarnref07_Read.RowR w (w4.alloc (.cells #[.bool true, .slice none 0 0] 26)) g w.heap.size w4.heap.size true (.slice none 0 0) [] x0 x1 x2) :=
    have ha := below_alloc (Below.refl w4.heap.size w4) (.cells #[.bool true, .slice none 0 0] 26)
    ⟨HI4.out.below ha, below_then HB4.out HB4.out.size ha, ⟨heap_alloc_new w4 _, HB4.out.size⟩, ⟨(ha.block _ (blk_lt HR4.out)).trans HR4.out, Nat.le_refl _⟩, (fun e => by have := blk_lt HR4.out; omega), Kd.R_nil _ _ _ _ _⟩
  clear HI4 HB4 HR4
  have HR := HC; clear HC
  have l1 := HLN.out.1; have l2 := HLN.out.2
  go_wp2_with fail
  generalize w4.heap.size = D at *
  go_loopg [8, 11] 1 (fun gk ue u wx => ∃ (i : Nat) (v : Value) (acc : List S43) (s0 : ByteArray) (s1 s2 e : Int), i ≤ 1 ∧ gk = 1 - i ∧ u = .int .i64 (i : Int) ∧ ue = .int .i64 e ∧ acc.length ≤ i ∧ Aside0 (tithebarnref07_Read.RowR w wx g w.heap.size D true v acc s0 s1 s2) ∧ Aside0 ((tithebarnref07_Read.rows k ((l.take 1).drop i) s0 s1 s2 acc e).bind (tithebarnref07_Read.end_ true) = some (r1, r2, r3)))
  case atStart => exact ⟨0, .slice none 0 0, [], x0, x1, x2, te, by omega, by omega, rfl, rfl, by simp, HS, ⟨by rw [List.drop_zero]; exact HQ.out⟩⟩
  case round =>
    clear HS HQ
    obtain ⟨i, v, acc, s0, s1, s2, e, hi, rfl, rfl, rfl, hal, HS, HQ⟩ := hrel
    obtain ⟨Av, cv, rfl⟩ := Kd.R_slice HS.out.2.2.2.2.2
    by_cases hlt : i < 1
    · obtain ⟨g1, hg1⟩ : ∃ g1, 1 - i = g1 + 1 := ⟨1 - i - 1, by omega⟩
      have k1 : decide ((i : Int) < (1 : Int)) = true := decide_eq_true (by omega)
      have k2 : decide (i < 1) = true := decide_eq_true hlt
      obtain ⟨x, hx⟩ : ∃ x, rd_T39 l (i : Int) = x := ⟨_, rfl⟩
      have hq := HQ.out
      rw [tithebarnref07_Read.row_step (by have := HLN.out; omega) hlt hx] at hq
      have HX := Aside0.mk hx; clear hx HQ
      by_cases hz : e = 0
      · subst hz
        have hz1 : ((0 : Int) == 0) = true := rfl
        obtain ⟨y, e', t0, t1, t2, hv, hq⟩ := tithebarnref07_Read.rows_on hq
        have HV := Aside0.mk hv; have HQ := Aside0.mk hq; clear hq hv
        have i1 : (0 : Int) ≤ (i : Int) := by omega
        have i2 : (i : Int) < (l.length : Int) := by have := HLN.out; omega
        replace i1 := eq_true i1; replace i2 := eq_true i2
        have hS := HS.out; clear HS
        obtain ⟨ad', hA, hx0, hx1⟩ := at_T39 (Kd.C_below HR.out hS.2.1) (i : Int) (by omega) (by have := HLN.out; omega)
        rw [Int.toNat_natCast] at hx0 hx1
        rw [HX.out] at hx0 hx1
        cases hA
        go_wp2_with fail
        refine (tithebarnref07_Read.value_at HV.out hS.1 hS.2.1).mono ?_; rintro en w6 ⟨rfl, hi6, hb6, hk6⟩
        have HS6 := Aside0.mk (hS.call hi6 hb6 hk6)
        have HS7 := Aside0.mk (HS6.out.below (below_alloc (Below.refl _ _) (.cells #[.bool y.f0, .int .i64 y.f1, .string y.f2] 43)))
        have hvv := heap_alloc_new w6 (.cells #[.bool y.f0, .int .i64 y.f1, .string y.f2] 43)
        clear hS hi6 hb6 hk6 hx0 hx1 HS6
        go_upto_region 14 with (fail)
        generalize w6.heap.size = V at hvv ⊢
        generalize World.alloc w6 _ = w7 at HS7 hvv ⊢
        have q3 := HS7.out.d1
        have z0 : w7.cell? ⟨V, 0, none⟩ = some (.bool y.f0) := (blk_cell hvv 0).trans rfl
        have z1 : w7.cell? ⟨V, 1, none⟩ = some (.int .i64 y.f1) := (blk_cell hvv 1).trans rfl
        have z2 : w7.cell? ⟨V, 2, none⟩ = some (.string y.f2) := (blk_cell hvv 2).trans rfl
        clear hvv
        go_wp2_with (at_builtin; refine Kd.R_append k43 (w0 := w) w.heap.size rfl (.tmp 51) (.tmp 53) 24 43 (.agg #[.bool false, .int .i64 0, .string ⟨#[]⟩]) 32 rfl Try.underlying24 info43 rfl (by decide) (by omega) (.slice Av acc.length cv) acc y [.bool y.f0, .int .i64 y.f1, .string y.f2] (fun _ => True) (fun _ => False) rfl rfl (k43_mkM _ _ _ y) (fun _ h => h.elim) (fun _ _ => trivial) HS7.out.2.2.2.2.2 HS7.out.2.1 HS7.out.2.1.size (by omega) ?_; intro v1 w8 ho6 hb6 hg6 _; obtain ⟨A6, c6, hv1⟩ := Kd.R_slice ho6; rw [show (acc ++ [y]).length = acc.length + 1 by simp] at hv1; subst hv1; have hD6 := blk_grown HS7.out.2.2.1.1 hg6 HS7.out.dne; have hd6 : w8.cell? ⟨D, 1, none⟩ = some (.slice Av acc.length cv) := (blk_cell hD6 1).trans rfl; have hf6 := blk_frozen hD6 1; have HS8 := Aside0.mk (HS7.out.app hg6 ho6 hb6); clear ho6 hb6 hg6 HS7 hD6)
        go_roundg g1
        case measure => omega
        case rel => exact ⟨i + 1, _, acc ++ [y], t0, t1, t2, e', by omega, by omega, by go_num, rfl, by simp; omega, HS8, HQ⟩
      · rw [tithebarnref07_Read.rows_no hz] at hq
        have HQ : Aside0 (tithebarnref07_Read.end_ true (acc, e, s0, s1, s2) = some (r1, r2, r3)) := ⟨hq⟩
        clear hq
        obtain ⟨rfl, rfl, rfl⟩ := tithebarnref07_Read.end_bad hz HQ.out
        have hz1 : (e != 0) = true := bne_iff_ne.mpr hz
        have hz2 : (e == 0) = false := beq_eq_false_iff_ne.mpr hz
        have HZ := Aside0.mk hz; clear hz
        have q2 := HS.out.d0
        have q3 := HS.out.d1
        have q4 := HS.out.r0
        have q5 := HS.out.r1
        have q6 := blk_frozen HS.out.2.2.2.1.1 0
        have q7 := blk_frozen HS.out.2.2.2.1.1 1
        go_wp2
        refine bodyPost_ret (v := .tuple #[.agg #[.bool false, .slice none 0 0], .int .i64 e]) ?_ rfl ⟨_, rfl, Kd.R_nil _ _ _ _ _, HS.out.bad _ _⟩
        simp [results, Try.results13, go_sem, *]
    · have k1 : decide ((i : Int) < (1 : Int)) = false := decide_eq_false (by omega)
      have k2 : decide (i < 1) = false := decide_eq_false hlt
      have hq := HQ.out
      rw [tithebarnref07_Read.row_end (by omega)] at hq
      have HQ : Aside0 (tithebarnref07_Read.end_ true (acc, e, s0, s1, s2) = some (r1, r2, r3)) := ⟨hq⟩
      clear hq hlt hi
      by_cases hz : e = 0
      · subst hz
        have hz1 : ((0 : Int) == 0) = true := rfl
        obtain ⟨dn, t0, t1, t2, hdn, hd1, hd2⟩ := tithebarnref07_Read.end_on HQ.out
        have HDN := Aside0.mk hdn; have HD1 := Aside0.mk hd1; have HD2 := Aside0.mk hd2; clear hdn hd1 hd2 HQ
        have q2 := HS.out.d0
        have q3 := HS.out.d1
        have q4 := HS.out.r0
        have q5 := HS.out.r1
        have q6 := blk_frozen HS.out.2.2.2.1.1 0
        have q7 := blk_frozen HS.out.2.2.2.1.1 1
        go_wp2_with fail
        refine (tithebarnref01_Cursor_Done.calls g _ _ _ _ _ _ _ w _ HS.out.1 HS.out.2.1 HDN.out).mono ?_; rintro e1 w7 ⟨rfl, hi7, hb7, hk7⟩
        have HS7 := Aside0.mk (HS.out.call hi7 hb7 hk7)
        clear hi7 hb7 hk7 HS HDN hz1
        clear q2 q3 q4 q5 q6 q7
        by_cases hz : dn = 0
        · obtain ⟨rfl, rfl, rfl⟩ := HD1.out hz
          subst hz
          have q2 := HS7.out.d0
          have q3 := HS7.out.d1
          have q4 := HS7.out.r0
          have q5 := HS7.out.r1
          have q6 := blk_frozen HS7.out.2.2.2.1.1 0
          have q7 := blk_frozen HS7.out.2.2.2.1.1 1
          go_wp2
          refine bodyPost_ret (v := .tuple #[.agg #[.bool true, .slice Av acc.length cv], .int .i64 0]) ?_ rfl ⟨_, rfl, HS7.out.good _ _, HS7.out.bad _ _⟩
          simp [results, Try.results13, go_sem, *]
        · obtain ⟨rfl, rfl, rfl⟩ := HD2.out hz
          have hz1 : (dn != 0) = true := bne_iff_ne.mpr hz
          have hz2 : (dn == 0) = false := beq_eq_false_iff_ne.mpr hz
          have HZ := Aside0.mk hz; clear hz
          have q2 := HS7.out.d0
          have q3 := HS7.out.d1
          have q4 := HS7.out.r0
          have q5 := HS7.out.r1
          have q6 := blk_frozen HS7.out.2.2.2.1.1 0
          have q7 := blk_frozen HS7.out.2.2.2.1.1 1
          go_wp2
          refine bodyPost_ret (v := .tuple #[.agg #[.bool false, .slice none 0 0], .int .i64 dn]) ?_ rfl ⟨_, rfl, Kd.R_nil _ _ _ _ _, HS7.out.bad _ _⟩
          simp [results, Try.results13, go_sem, *]
      · obtain ⟨rfl, rfl, rfl⟩ := tithebarnref07_Read.end_bad hz HQ.out
        have hz1 : (e != 0) = true := bne_iff_ne.mpr hz
        have hz2 : (e == 0) = false := beq_eq_false_iff_ne.mpr hz
        have HZ := Aside0.mk hz; clear hz
        have q2 := HS.out.d0
        have q3 := HS.out.d1
        have q4 := HS.out.r0
        have q5 := HS.out.r1
        have q6 := blk_frozen HS.out.2.2.2.1.1 0
        have q7 := blk_frozen HS.out.2.2.2.1.1 1
        go_wp2
        refine bodyPost_ret (v := .tuple #[.agg #[.bool false, .slice none 0 0], .int .i64 e]) ?_ rfl ⟨_, rfl, Kd.R_nil _ _ _ _ _, HS.out.bad _ _⟩
        simp [results, Try.results13, go_sem, *]
theorem tithebarnref07_Read.calls (k : Nat) (A0 : Option Addr) (c0 : Nat) (l : List S39) (text : ByteArray) (r1 : Bool) (r2 : List S43) (r3 : Int) (w : World) (hr0 : Kd.C k39 w A0 l.length l) (hc0 : l.length ≤ c0) (h : tithebarnref07_Read.f k l text = some (r1, r2, r3)) :
    Calls Try.prog 13 #[.slice A0 l.length c0, .string text] w fun e w' => ∃ v0_, e = .returned (.tuple #[.agg #[.bool r1, v0_], .int .i64 r3]) ∧ Kd.R k43 43 w' w.heap.size (fun _ => True) v0_ r2 ∧ Below w.heap.size w w' := by
  unfold tithebarnref07_Read.f at h
  obtain ⟨b, hR, h⟩ := Option.bind_eq_some_iff.mp h
  cases b
  · exact tithebarnref07_Read.no k A0 c0 l text r1 r2 r3 w hr0 hc0 hR (by simpa using h)
  · rw [if_pos rfl] at h
    split at h
    · rename_i hl
      obtain ⟨⟨tb, te, x0, x1, x2⟩, hT, h⟩ := Option.bind_eq_some_iff.mp h
      cases tb
      · exact tithebarnref07_Read.yes_false k A0 c0 l text r1 r2 r3 w hr0 hc0 hR hl hT h
      · exact tithebarnref07_Read.yes_true k A0 c0 l text r1 r2 r3 w hr0 hc0 hR hl hT h
    · exact absurd h (by simp)
end Go.Proofs.Ytpbeppmldckjlaa.G
