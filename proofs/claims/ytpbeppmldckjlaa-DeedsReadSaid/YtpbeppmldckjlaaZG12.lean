import Derived.Test.YtpbeppmldckjlaaZG0
import Derived.Test.YtpbeppmldckjlaaZG11
namespace Go.Proofs.Ytpbeppmldckjlaa.G
open Go.RowKit Go.Proofs.YtpbeppmldckjlaaQ Go.Proofs.YtpbeppmldckjlaaW.PrintWords Go.Proofs.YtpbeppmldckjlaaW.PrintLast Go.Proofs.YtpbeppmldckjlaaW.PrintMore
attribute [local go_sem] max2_int min2_int max_two min_two max_three min_three max_four min_four   -- for this text's walks alone
set_option linter.unusedVariables false
set_option linter.unusedSimpArgs false
def Value07.T7 : Bool × List (List Nat × List Nat) := (true, [([], []), ([0], [0]), ([], []), ([2], [2]), ([3], [3]), ([4], [4]), ([1, 0, 1], [1]), ([5, 6, 0, 1, 2, 3, 4, 5, 6], [5])])
theorem Value07.tab7 : rtab .any (opsOf Try.f32 7) = Value07.T7 := by kernel_rfl
def Value07.T9 : Bool × List (List Nat × List Nat) := (true, [([], []), ([0], [0]), ([], []), ([2], [2]), ([3], [3]), ([4], [4]), ([1, 0, 1], [1]), ([5, 6, 0, 1, 2, 3, 4, 5, 6], [5])])
theorem Value07.tab9 : rtab .any (opsOf Try.f32 9) = Value07.T9 := by kernel_rfl
def VS (w0 w W : World) (g E D : Nat) (a : ByteArray) (b c : Int) (k : Int) (null : Bool) (v0 v1 v2 : Value) : Prop :=
  IsS61 w0 W g a b c ∧ Below w0.heap.size w0 W ∧ KeepBut w W g none ∧ W.heap[E]? = some (.cells #[.int .i64 k, .bool null] 39 (0, 0)) ∧ W.heap[D]? = some (.cells #[v0, v1, v2] 43 (0, 0)) ∧ w.heap.size ≤ D ∧ w0.heap.size ≤ D
section
variable {w0 w W W' : World} {g E D : Nat} {a a' : ByteArray} {b b' c c' : Int} {k : Int} {null : Bool} {v0 v1 v2 : Value}
theorem VS.one (h : VS w0 w W g E D a b c k null v0 v1 v2) {j : Nat} {u x0 x1 x2 : Value} (hx : (#[v0, v1, v2] : Array Value).setIfInBounds j u = #[x0, x1, x2]) : VS w0 w (W.setCell ⟨D, j, none⟩ u) g E D a b c k null x0 x1 x2 :=
  have hg : g ≠ D := blk_ne h.1.1 h.2.2.2.2.1 (by decide)
  have hE : E ≠ D := blk_ne h.2.2.2.1 h.2.2.2.2.1 (by decide)
  ⟨⟨blk_far h.1.1 (p := ⟨D, j, none⟩) hg u, h.1.2⟩, below_set h.2.1 h.2.2.2.2.2.2,
   ⟨by have := h.2.2.1.1; simpa using this, fun i hi hn hr => (Below.heap_setCell W ⟨D, j, none⟩ u i (fun e => by have := h.2.2.2.2.2.1; have e' : i = D := e; omega)).trans (h.2.2.1.2 i hi hn hr)⟩,
   blk_far h.2.2.2.1 (p := ⟨D, j, none⟩) hE u, by rw [← hx]; exact blk_set h.2.2.2.2.1 j u, h.2.2.2.2.2⟩
theorem VS.set (h : VS w0 w W g E D a b c k null v0 v1 v2) (x0 x1 x2 : Value) : VS w0 w (((W.setCell ⟨D, 0, none⟩ x0).setCell ⟨D, 1, none⟩ x1).setCell ⟨D, 2, none⟩ x2) g E D a b c k null x0 x1 x2 :=
  ((h.one (j := 0) (u := x0) (x0 := x0) (x1 := v1) (x2 := v2) rfl).one (j := 1) (u := x1) (x0 := x0) (x1 := x1) (x2 := v2) rfl).one (j := 2) rfl
theorem VS.call (h : VS w0 w W g E D a b c k null v0 v1 v2) (hi : IsS61 w0 W' g a' b' c') (hb : Below w0.heap.size w0 W') (hk : KeepBut W W' g none) : VS w0 w W' g E D a' b' c' k null v0 v1 v2 :=
  have hg : D ≠ g := blk_ne h.2.2.2.2.1 h.1.1 (by decide)
  have hE : E ≠ g := blk_ne h.2.2.2.1 h.1.1 (by decide)
  ⟨hi, hb, h.2.2.1.trans hk (.inl rfl), (hk.2 E (blk_lt h.2.2.2.1) hE (by simp)).trans h.2.2.2.1, (hk.2 D (blk_lt h.2.2.2.2.1) hg (by simp)).trans h.2.2.2.2.1, h.2.2.2.2.2⟩
theorem VS.drew (h : VS w0 w W g E D a b c k null v0 v1 v2) : VS w0 w W.drew g E D a b c k null v0 v1 v2 := ⟨⟨h.1.1, h.1.2⟩, below_drew h.2.1, keep_drew h.2.2.1, h.2.2.2⟩
theorem VS.g2 (h : VS w0 w W g E D a b c k null v0 v1 v2) : W.cell? ⟨g, 2, none⟩ = some (.int .i64 c) := (blk_cell h.1.1 2).trans rfl
theorem VS.e0 (h : VS w0 w W g E D a b c k null v0 v1 v2) : W.cell? ⟨E, 0, none⟩ = some (.int .i64 k) := (blk_cell h.2.2.2.1 0).trans rfl
theorem VS.e1 (h : VS w0 w W g E D a b c k null v0 v1 v2) : W.cell? ⟨E, 1, none⟩ = some (.bool null) := (blk_cell h.2.2.2.1 1).trans rfl
theorem VS.d0 (h : VS w0 w W g E D a b c k null v0 v1 v2) : W.cell? ⟨D, 0, none⟩ = some v0 := (blk_cell h.2.2.2.2.1 0).trans rfl
theorem VS.d1 (h : VS w0 w W g E D a b c k null v0 v1 v2) : W.cell? ⟨D, 1, none⟩ = some v1 := (blk_cell h.2.2.2.2.1 1).trans rfl
theorem VS.d2 (h : VS w0 w W g E D a b c k null v0 v1 v2) : W.cell? ⟨D, 2, none⟩ = some v2 := (blk_cell h.2.2.2.2.1 2).trans rfl
theorem VS.fz (h : VS w0 w W g E D a b c k null v0 v1 v2) (j : Nat) : W.frozen? ⟨D, j, none⟩ = false := blk_frozen h.2.2.2.2.1 j
theorem VS.fin (h : VS w0 w W g E D a b c k null v0 v1 v2) : IsS61 w0 W g a b c ∧ Below w0.heap.size w0 W ∧ KeepBut w W g none := ⟨h.1, h.2.1, h.2.2.1⟩
end
def tithebarnref07_value.rest (k : Nat) (s0 : ByteArray) (s1 s2 : Int) (a : Int) : Option (Bool × Int × ByteArray × Int × ByteArray × Int × Int) :=
  if a = 1 then (tithebarnref01_Cursor_Int.f k s0 s1 s2).bind fun t => some (false, t.1, ⟨#[]⟩, t.2.2.2, t.2) else (tithebarnref01_Cursor_Text.f k s0 s1 s2 64).bind fun t => some (false, 0, t.1, t.2.2.2, t.2)
def tithebarnref07_value.f (k : Nat) (s0 : ByteArray) (s1 s2 : Int) (a : Int) (null : Bool) : Option (Bool × Int × ByteArray × Int × ByteArray × Int × Int) :=
  if null = true then (tithebarnref07_truth.f s0 s1 s2).bind fun t => if t.2.1 = 0 ∧ t.1 = false then tithebarnref07_value.rest k t.2.2.1 t.2.2.2.1 t.2.2.2.2 a else some (t.1, 0, ⟨#[]⟩, t.2.1, t.2.2) else tithebarnref07_value.rest k s0 s1 s2 a
section
variable {w0 w W : World} {g : Nat} {s0 : ByteArray} {s1 s2 : Int}
set_option maxHeartbeats 4000000 in
set_option maxRecDepth 100000 in
theorem tithebarnref07_value.go_false_int {k : Nat} {a : Int} (hk : a = 1) {t1 : Int} {u0 : ByteArray} {u1 u2 : Int} (hT : tithebarnref01_Cursor_Int.f k s0 s1 s2 = some (t1, u0, u1, u2)) (hI : IsS61 w0 w g s0 s1 s2) (hB : Below w0.heap.size w0 w) :
    Calls Try.prog 32 #[.pointer (some ⟨g, 0, none⟩), .agg #[.int .i64 a, .bool false]] w fun e w' => e = .returned (.tuple #[.agg #[.bool false, .int .i64 t1, .string ⟨#[]⟩], .int .i64 u2]) ∧ IsS61 w0 w' g u0 u1 u2 ∧ Below w0.heap.size w0 w' ∧ KeepBut w w' g none := by
  subst hk
  have hk : ((1 : Int) == 1) = true := rfl
  have HT := Aside0.mk hT; clear hT
  have HI := Aside0.mk hI; have HB := Aside0.mk hB; clear hI hB
  go_enter Try.func32, Try.ntmps32
  go_upto_region 1 with (first | ((with_reducible refine gate_dst (N := 3) rfl ?_); refine box_event ?hg (N := 3) ?hd (cs := #[.int .i64 1, .bool false]) (t := 39) ?hr ?_; (case hd => rfl); (case hg => rfl); (case hr => first | (go_simp; done) | (go_simp; rfl)); intro E hE w1 hbox hb1; have HBX := Aside0.mk hbox; have HB1 := Aside0.mk hb1; clear hbox hb1 hE))
  have HVS : VS w0 w (w1.alloc (.cells #[.bool false, .int .i64 0, .string ⟨#[]⟩] 43)) g E w1.heap.size s0 s1 s2 1 false (.bool false) (.int .i64 0) (.string ⟨#[]⟩) :=
    have ha := below_alloc (Below.refl w1.heap.size w1) (.cells #[.bool false, .int .i64 0, .string ⟨#[]⟩] 43)
    have hk := HB1.out.size
    ⟨⟨(ha.block g (by have := blk_lt HI.out.1; omega)).trans ((HB1.out.block g (blk_lt HI.out.1)).trans HI.out.1), HI.out.2⟩, below_then (below_then HB.out HB.out.size HB1.out) (by have := HB.out.size; omega) ha, ⟨Nat.le_trans hk ha.size, fun i hi _ _ => (ha.block i (by omega)).trans (HB1.out.block i hi)⟩, (ha.block E (blk_lt HBX.out)).trans HBX.out, heap_alloc_new w1 _, hk, by have := HB.out.size; omega⟩
  have HV := Aside0.mk HVS; clear HVS HBX HB1 HI HB
  generalize w1.heap.size = D at HV ⊢
  generalize World.alloc w1 _ = w2 at HV ⊢
  have p0 := HV.out.g2
  have p1 := HV.out.e0
  have p2 := HV.out.e1
  have p3 := HV.out.d0
  have p4 := HV.out.d1
  have p5 := HV.out.d2
  have p6 := HV.out.fz 0
  have p7 := HV.out.fz 1
  have p8 := HV.out.fz 2
  go_wp2_with fail
  refine (tithebarnref01_Cursor_Int.calls k g _ _ _ _ _ _ _ w0 _ HV.out.1 HV.out.2.1 HT.out).mono ?_; rintro e w5 ⟨rfl, hi5, hb5, hk5⟩
  replace HV := Aside0.mk (HV.out.call hi5 hb5 hk5)
  clear hi5 hb5 hk5
  clear p0 p1 p2 p3 p4 p5 p6 p7 p8
  go_wp2_with fail
  have hV := HV.out; clear HV
  refine start_ (n := 8) (S := fun w' => True) (ds := []) #[false, false, false, false, false, false, false, false] (by kernel_rfl) rfl rfl trivial (fun hHeld => ?_)
  refine with_tab Value07.tab7 (fun HT_ => ?_)
  have hV := hV.drew
  generalize World.drew _ = w6 at hV hHeld ⊢
  have p0 := hV.g2
  have p1 := hV.e0
  have p2 := hV.e1
  have p3 := hV.d0
  have p4 := hV.d1
  have p5 := hV.d2
  have p6 := hV.fz 0
  have p7 := hV.fz 1
  have p8 := hV.fz 2
  refine pure_ (i := 0) (N := (some 30)) (v := ?_) (a' := ?_) #[true, false, false, false, false, false, false, false] rfl rfl (any_of HT_.out (by kernel_rfl)) (fun _ _ _ h => h) (Or.inl ⟨by rfl, ?_⟩) ?_ ?_
  rotate_left
  · intro w'
    go_simp
    with_reducible rfl
  rotate_left
  · simp only [Act.put, List.setIfInBounds_toArray, List.set_cons_zero, List.set_cons_succ, i64_w, i32_w]
    rfl
  refine pure_ (i := 1) (N := (some 31)) (v := ?_) (a' := ?_) #[true, true, false, false, false, false, false, false] rfl rfl (any_of HT_.out (by kernel_rfl)) (fun _ _ _ h => h) (Or.inl ⟨by rfl, ?_⟩) ?_ ?_
  rotate_left
  · intro w'
    go_simp
    with_reducible rfl
  rotate_left
  · simp only [Act.put, List.setIfInBounds_toArray, List.set_cons_zero, List.set_cons_succ, i64_w, i32_w]
    rfl
  refine pure_ (i := 2) (N := (some 32)) (v := ?_) (a' := ?_) #[true, true, true, false, false, false, false, false] rfl rfl (any_of HT_.out (by kernel_rfl)) (fun _ _ _ h => h) (Or.inl ⟨by rfl, ?_⟩) ?_ ?_
  rotate_left
  · intro w'
    go_simp
    with_reducible rfl
  rotate_left
  · simp only [Act.put, List.setIfInBounds_toArray, List.set_cons_zero, List.set_cons_succ, i64_w, i32_w]
    rfl
  refine pure_ (i := 3) (N := (some 33)) (v := ?_) (a' := ?_) #[true, true, true, true, false, false, false, false] rfl rfl (any_of HT_.out (by kernel_rfl)) (fun _ _ _ h => h) (Or.inl ⟨by rfl, ?_⟩) ?_ ?_
  rotate_left
  · intro w'
    go_simp
    with_reducible rfl
  rotate_left
  · simp only [Act.put, List.setIfInBounds_toArray, List.set_cons_zero, List.set_cons_succ, i64_w, i32_w]
    rfl
  refine pure_ (i := 4) (N := (some 34)) (v := ?_) (a' := ?_) #[true, true, true, true, true, false, false, false] rfl rfl (any_of HT_.out (by kernel_rfl)) (fun _ _ _ h => h) (Or.inl ⟨by rfl, ?_⟩) ?_ ?_
  rotate_left
  · intro w'
    go_simp
    with_reducible rfl
  rotate_left
  · simp only [Act.put, List.setIfInBounds_toArray, List.set_cons_zero, List.set_cons_succ, i64_w, i32_w]
    rfl
  refine two_ (i := 5) (j := 6) (Ni := (some 35)) (Nj := none) #[true, true, true, true, true, true, false, false] #[true, true, true, true, true, false, true, false] rfl rfl rfl rfl (two_of HT_.out (by kernel_rfl)) (by decide) (by decide) (fun K hK => ?_) (fun K hK => ?_)
  · skip
    refine value_ (w1 := ?_) (v := ?_) (by rfl) rfl ?_ ?_
    rotate_left 2
    · go_simp
      constructor
      · rfl
      · rfl
    refine hK.out _ _ trivial (fun hHeld => ?_)
    clear hK K
    refine norm_ (a' := ?_) ?_ ?_
    rotate_left
    · show Act.put _ (some 35) _ = _
      simp only [Act.put, List.setIfInBounds_toArray, List.set_cons_zero, List.set_cons_succ, i64_w, i32_w]
      rfl
    refine one_ (i := 6) (N := none) #[true, true, true, true, true, true, true, false] rfl rfl (one_of HT_.out (by kernel_rfl)) (by decide) (fun K hK => ?_)
    refine skip_ (w1 := ?_) (by rfl) rfl ?_ ?_
    rotate_left
    · go_simp
      rfl
    replace hV := hV.set (.bool false) (.int .i64 t1) (.string ⟨#[]⟩)
    clear p0 p1 p2 p3 p4 p5 p6 p7 p8
    generalize (((w6.setCell ⟨D, 0, none⟩ (.bool false)).setCell ⟨D, 1, none⟩ (.int .i64 t1)).setCell ⟨D, 2, none⟩ (.string ⟨#[]⟩)) = w8 at hV ⊢
    have p0 := hV.g2
    have p1 := hV.e0
    have p2 := hV.e1
    have p3 := hV.d0
    have p4 := hV.d1
    have p5 := hV.d2
    have p6 := hV.fz 0
    have p7 := hV.fz 1
    have p8 := hV.fz 2
    refine hK.out _ _ trivial (fun hHeld => ?_)
    clear hK K
    refine pure_ (i := 7) (N := (some 5)) (v := ?_) (a' := ?_) #[true, true, true, true, true, true, true, true] rfl rfl (any_of HT_.out (by kernel_rfl)) (fun _ _ _ h => h) (Or.inl ⟨by rfl, ?_⟩) ?_ ?_
    rotate_left
    · intro w'
      go_simp
      with_reducible rfl
    rotate_left
    · simp only [Act.put, List.setIfInBounds_toArray, List.set_cons_zero, List.set_cons_succ, i64_w, i32_w]
      rfl
    refine done_ (done_of HT_.out (by kernel_rfl)) ?_
    have HV := Aside0.mk hV; clear hV
    go_wp2
    refine bodyPost_ret (v := .tuple #[.agg #[.bool false, .int .i64 t1, .string ⟨#[]⟩], .int .i64 u2]) ?_ rfl ⟨rfl, HV.out.fin⟩
    simp [results, Try.results32, go_sem, *]
  · skip
    refine skip_ (w1 := ?_) (by rfl) rfl ?_ ?_
    rotate_left
    · go_simp
      rfl
    replace hV := hV.set (.bool false) (.int .i64 t1) (.string ⟨#[]⟩)
    clear p0 p1 p2 p3 p4 p5 p6 p7 p8
    generalize (((w6.setCell ⟨D, 0, none⟩ (.bool false)).setCell ⟨D, 1, none⟩ (.int .i64 t1)).setCell ⟨D, 2, none⟩ (.string ⟨#[]⟩)) = w8 at hV ⊢
    have p0 := hV.g2
    have p1 := hV.e0
    have p2 := hV.e1
    have p3 := hV.d0
    have p4 := hV.d1
    have p5 := hV.d2
    have p6 := hV.fz 0
    have p7 := hV.fz 1
    have p8 := hV.fz 2
    refine hK.out _ _ trivial (fun hHeld => ?_)
    clear hK K
    refine one_ (i := 5) (N := (some 35)) #[true, true, true, true, true, true, true, false] rfl rfl (one_of HT_.out (by kernel_rfl)) (by decide) (fun K hK => ?_)
    refine value_ (w1 := ?_) (v := ?_) (by rfl) rfl ?_ ?_
    rotate_left 2
    · go_simp
      constructor
      · rfl
      · rfl
    refine hK.out _ _ trivial (fun hHeld => ?_)
    clear hK K
    refine norm_ (a' := ?_) ?_ ?_
    rotate_left
    · show Act.put _ (some 35) _ = _
      simp only [Act.put, List.setIfInBounds_toArray, List.set_cons_zero, List.set_cons_succ, i64_w, i32_w]
      rfl
    refine pure_ (i := 7) (N := (some 5)) (v := ?_) (a' := ?_) #[true, true, true, true, true, true, true, true] rfl rfl (any_of HT_.out (by kernel_rfl)) (fun _ _ _ h => h) (Or.inl ⟨by rfl, ?_⟩) ?_ ?_
    rotate_left
    · intro w'
      go_simp
      with_reducible rfl
    rotate_left
    · simp only [Act.put, List.setIfInBounds_toArray, List.set_cons_zero, List.set_cons_succ, i64_w, i32_w]
      rfl
    refine done_ (done_of HT_.out (by kernel_rfl)) ?_
    have HV := Aside0.mk hV; clear hV
    go_wp2
    refine bodyPost_ret (v := .tuple #[.agg #[.bool false, .int .i64 t1, .string ⟨#[]⟩], .int .i64 u2]) ?_ rfl ⟨rfl, HV.out.fin⟩
    simp [results, Try.results32, go_sem, *]
set_option maxHeartbeats 4000000 in
set_option maxRecDepth 100000 in
theorem tithebarnref07_value.go_false_text {k : Nat} {a : Int} (hk : (a == 1) = false) {t1 : ByteArray} {u0 : ByteArray} {u1 u2 : Int} (hT : tithebarnref01_Cursor_Text.f k s0 s1 s2 64 = some (t1, u0, u1, u2)) (hI : IsS61 w0 w g s0 s1 s2) (hB : Below w0.heap.size w0 w) :
    Calls Try.prog 32 #[.pointer (some ⟨g, 0, none⟩), .agg #[.int .i64 a, .bool false]] w fun e w' => e = .returned (.tuple #[.agg #[.bool false, .int .i64 0, .string t1], .int .i64 u2]) ∧ IsS61 w0 w' g u0 u1 u2 ∧ Below w0.heap.size w0 w' ∧ KeepBut w w' g none := by
  have HT := Aside0.mk hT; clear hT
  have HI := Aside0.mk hI; have HB := Aside0.mk hB; clear hI hB
  go_enter Try.func32, Try.ntmps32
  go_upto_region 1 with (first | ((with_reducible refine gate_dst (N := 3) rfl ?_); refine box_event ?hg (N := 3) ?hd (cs := #[.int .i64 a, .bool false]) (t := 39) ?hr ?_; (case hd => rfl); (case hg => rfl); (case hr => first | (go_simp; done) | (go_simp; rfl)); intro E hE w1 hbox hb1; have HBX := Aside0.mk hbox; have HB1 := Aside0.mk hb1; clear hbox hb1 hE))
  have HVS : VS w0 w (w1.alloc (.cells #[.bool false, .int .i64 0, .string ⟨#[]⟩] 43)) g E w1.heap.size s0 s1 s2 a false (.bool false) (.int .i64 0) (.string ⟨#[]⟩) :=
    have ha := below_alloc (Below.refl w1.heap.size w1) (.cells #[.bool false, .int .i64 0, .string ⟨#[]⟩] 43)
    have hk := HB1.out.size
    ⟨⟨(ha.block g (by have := blk_lt HI.out.1; omega)).trans ((HB1.out.block g (blk_lt HI.out.1)).trans HI.out.1), HI.out.2⟩, below_then (below_then HB.out HB.out.size HB1.out) (by have := HB.out.size; omega) ha, ⟨Nat.le_trans hk ha.size, fun i hi _ _ => (ha.block i (by omega)).trans (HB1.out.block i hi)⟩, (ha.block E (blk_lt HBX.out)).trans HBX.out, heap_alloc_new w1 _, hk, by have := HB.out.size; omega⟩
  have HV := Aside0.mk HVS; clear HVS HBX HB1 HI HB
  generalize w1.heap.size = D at HV ⊢
  generalize World.alloc w1 _ = w2 at HV ⊢
  have p0 := HV.out.g2
  have p1 := HV.out.e0
  have p2 := HV.out.e1
  have p3 := HV.out.d0
  have p4 := HV.out.d1
  have p5 := HV.out.d2
  have p6 := HV.out.fz 0
  have p7 := HV.out.fz 1
  have p8 := HV.out.fz 2
  go_wp2_with fail
  refine (tithebarnref01_Cursor_Text.calls k g _ _ _ _ _ _ _ _ w0 _ HV.out.1 HV.out.2.1 HT.out).mono ?_; rintro e w5 ⟨rfl, hi5, hb5, hk5⟩
  replace HV := Aside0.mk (HV.out.call hi5 hb5 hk5)
  clear hi5 hb5 hk5
  clear p0 p1 p2 p3 p4 p5 p6 p7 p8
  go_wp2_with fail
  have hV := HV.out; clear HV
  refine start_ (n := 8) (S := fun w' => True) (ds := []) #[false, false, false, false, false, false, false, false] (by kernel_rfl) rfl rfl trivial (fun hHeld => ?_)
  refine with_tab Value07.tab9 (fun HT_ => ?_)
  have hV := hV.drew
  generalize World.drew _ = w6 at hV hHeld ⊢
  have p0 := hV.g2
  have p1 := hV.e0
  have p2 := hV.e1
  have p3 := hV.d0
  have p4 := hV.d1
  have p5 := hV.d2
  have p6 := hV.fz 0
  have p7 := hV.fz 1
  have p8 := hV.fz 2
  refine pure_ (i := 0) (N := (some 38)) (v := ?_) (a' := ?_) #[true, false, false, false, false, false, false, false] rfl rfl (any_of HT_.out (by kernel_rfl)) (fun _ _ _ h => h) (Or.inl ⟨by rfl, ?_⟩) ?_ ?_
  rotate_left
  · intro w'
    go_simp
    with_reducible rfl
  rotate_left
  · simp only [Act.put, List.setIfInBounds_toArray, List.set_cons_zero, List.set_cons_succ, i64_w, i32_w]
    rfl
  refine pure_ (i := 1) (N := (some 39)) (v := ?_) (a' := ?_) #[true, true, false, false, false, false, false, false] rfl rfl (any_of HT_.out (by kernel_rfl)) (fun _ _ _ h => h) (Or.inl ⟨by rfl, ?_⟩) ?_ ?_
  rotate_left
  · intro w'
    go_simp
    with_reducible rfl
  rotate_left
  · simp only [Act.put, List.setIfInBounds_toArray, List.set_cons_zero, List.set_cons_succ, i64_w, i32_w]
    rfl
  refine pure_ (i := 2) (N := (some 40)) (v := ?_) (a' := ?_) #[true, true, true, false, false, false, false, false] rfl rfl (any_of HT_.out (by kernel_rfl)) (fun _ _ _ h => h) (Or.inl ⟨by rfl, ?_⟩) ?_ ?_
  rotate_left
  · intro w'
    go_simp
    with_reducible rfl
  rotate_left
  · simp only [Act.put, List.setIfInBounds_toArray, List.set_cons_zero, List.set_cons_succ, i64_w, i32_w]
    rfl
  refine pure_ (i := 3) (N := (some 41)) (v := ?_) (a' := ?_) #[true, true, true, true, false, false, false, false] rfl rfl (any_of HT_.out (by kernel_rfl)) (fun _ _ _ h => h) (Or.inl ⟨by rfl, ?_⟩) ?_ ?_
  rotate_left
  · intro w'
    go_simp
    with_reducible rfl
  rotate_left
  · simp only [Act.put, List.setIfInBounds_toArray, List.set_cons_zero, List.set_cons_succ, i64_w, i32_w]
    rfl
  refine pure_ (i := 4) (N := (some 42)) (v := ?_) (a' := ?_) #[true, true, true, true, true, false, false, false] rfl rfl (any_of HT_.out (by kernel_rfl)) (fun _ _ _ h => h) (Or.inl ⟨by rfl, ?_⟩) ?_ ?_
  rotate_left
  · intro w'
    go_simp
    with_reducible rfl
  rotate_left
  · simp only [Act.put, List.setIfInBounds_toArray, List.set_cons_zero, List.set_cons_succ, i64_w, i32_w]
    rfl
  refine two_ (i := 5) (j := 6) (Ni := (some 43)) (Nj := none) #[true, true, true, true, true, true, false, false] #[true, true, true, true, true, false, true, false] rfl rfl rfl rfl (two_of HT_.out (by kernel_rfl)) (by decide) (by decide) (fun K hK => ?_) (fun K hK => ?_)
  · skip
    refine value_ (w1 := ?_) (v := ?_) (by rfl) rfl ?_ ?_
    rotate_left 2
    · go_simp
      constructor
      · rfl
      · rfl
    refine hK.out _ _ trivial (fun hHeld => ?_)
    clear hK K
    refine norm_ (a' := ?_) ?_ ?_
    rotate_left
    · show Act.put _ (some 43) _ = _
      simp only [Act.put, List.setIfInBounds_toArray, List.set_cons_zero, List.set_cons_succ, i64_w, i32_w]
      rfl
    refine one_ (i := 6) (N := none) #[true, true, true, true, true, true, true, false] rfl rfl (one_of HT_.out (by kernel_rfl)) (by decide) (fun K hK => ?_)
    refine skip_ (w1 := ?_) (by rfl) rfl ?_ ?_
    rotate_left
    · go_simp
      rfl
    replace hV := hV.set (.bool false) (.int .i64 0) (.string t1)
    clear p0 p1 p2 p3 p4 p5 p6 p7 p8
    generalize (((w6.setCell ⟨D, 0, none⟩ (.bool false)).setCell ⟨D, 1, none⟩ (.int .i64 0)).setCell ⟨D, 2, none⟩ (.string t1)) = w8 at hV ⊢
    have p0 := hV.g2
    have p1 := hV.e0
    have p2 := hV.e1
    have p3 := hV.d0
    have p4 := hV.d1
    have p5 := hV.d2
    have p6 := hV.fz 0
    have p7 := hV.fz 1
    have p8 := hV.fz 2
    refine hK.out _ _ trivial (fun hHeld => ?_)
    clear hK K
    refine pure_ (i := 7) (N := (some 5)) (v := ?_) (a' := ?_) #[true, true, true, true, true, true, true, true] rfl rfl (any_of HT_.out (by kernel_rfl)) (fun _ _ _ h => h) (Or.inl ⟨by rfl, ?_⟩) ?_ ?_
    rotate_left
    · intro w'
      go_simp
      with_reducible rfl
    rotate_left
    · simp only [Act.put, List.setIfInBounds_toArray, List.set_cons_zero, List.set_cons_succ, i64_w, i32_w]
      rfl
    refine done_ (done_of HT_.out (by kernel_rfl)) ?_
    have HV := Aside0.mk hV; clear hV
    go_wp2
    refine bodyPost_ret (v := .tuple #[.agg #[.bool false, .int .i64 0, .string t1], .int .i64 u2]) ?_ rfl ⟨rfl, HV.out.fin⟩
    simp [results, Try.results32, go_sem, *]
  · skip
    refine skip_ (w1 := ?_) (by rfl) rfl ?_ ?_
    rotate_left
    · go_simp
      rfl
    replace hV := hV.set (.bool false) (.int .i64 0) (.string t1)
    clear p0 p1 p2 p3 p4 p5 p6 p7 p8
    generalize (((w6.setCell ⟨D, 0, none⟩ (.bool false)).setCell ⟨D, 1, none⟩ (.int .i64 0)).setCell ⟨D, 2, none⟩ (.string t1)) = w8 at hV ⊢
    have p0 := hV.g2
    have p1 := hV.e0
    have p2 := hV.e1
    have p3 := hV.d0
    have p4 := hV.d1
    have p5 := hV.d2
    have p6 := hV.fz 0
    have p7 := hV.fz 1
    have p8 := hV.fz 2
    refine hK.out _ _ trivial (fun hHeld => ?_)
    clear hK K
    refine one_ (i := 5) (N := (some 43)) #[true, true, true, true, true, true, true, false] rfl rfl (one_of HT_.out (by kernel_rfl)) (by decide) (fun K hK => ?_)
    refine value_ (w1 := ?_) (v := ?_) (by rfl) rfl ?_ ?_
    rotate_left 2
    · go_simp
      constructor
      · rfl
      · rfl
    refine hK.out _ _ trivial (fun hHeld => ?_)
    clear hK K
    refine norm_ (a' := ?_) ?_ ?_
    rotate_left
    · show Act.put _ (some 43) _ = _
      simp only [Act.put, List.setIfInBounds_toArray, List.set_cons_zero, List.set_cons_succ, i64_w, i32_w]
      rfl
    refine pure_ (i := 7) (N := (some 5)) (v := ?_) (a' := ?_) #[true, true, true, true, true, true, true, true] rfl rfl (any_of HT_.out (by kernel_rfl)) (fun _ _ _ h => h) (Or.inl ⟨by rfl, ?_⟩) ?_ ?_
    rotate_left
    · intro w'
      go_simp
      with_reducible rfl
    rotate_left
    · simp only [Act.put, List.setIfInBounds_toArray, List.set_cons_zero, List.set_cons_succ, i64_w, i32_w]
      rfl
    refine done_ (done_of HT_.out (by kernel_rfl)) ?_
    have HV := Aside0.mk hV; clear hV
    go_wp2
    refine bodyPost_ret (v := .tuple #[.agg #[.bool false, .int .i64 0, .string t1], .int .i64 u2]) ?_ rfl ⟨rfl, HV.out.fin⟩
    simp [results, Try.results32, go_sem, *]
set_option maxHeartbeats 4000000 in
set_option maxRecDepth 100000 in
theorem tithebarnref07_value.go_true_int {k : Nat} {a : Int} {x0 : ByteArray} {x1 x2 : Int} (hU : tithebarnref07_truth.f s0 s1 s2 = some (false, 0, x0, x1, x2)) (hk : a = 1) {t1 : Int} {u0 : ByteArray} {u1 u2 : Int} (hT : tithebarnref01_Cursor_Int.f k x0 x1 x2 = some (t1, u0, u1, u2)) (hI : IsS61 w0 w g s0 s1 s2) (hB : Below w0.heap.size w0 w) :
    Calls Try.prog 32 #[.pointer (some ⟨g, 0, none⟩), .agg #[.int .i64 a, .bool true]] w fun e w' => e = .returned (.tuple #[.agg #[.bool false, .int .i64 t1, .string ⟨#[]⟩], .int .i64 u2]) ∧ IsS61 w0 w' g u0 u1 u2 ∧ Below w0.heap.size w0 w' ∧ KeepBut w w' g none := by
  subst hk
  have hk : ((1 : Int) == 1) = true := rfl
  have HT := Aside0.mk hT; clear hT
  have HU := Aside0.mk hU; clear hU
  have HI := Aside0.mk hI; have HB := Aside0.mk hB; clear hI hB
  go_enter Try.func32, Try.ntmps32
  go_upto_region 1 with (first | ((with_reducible refine gate_dst (N := 3) rfl ?_); refine box_event ?hg (N := 3) ?hd (cs := #[.int .i64 1, .bool true]) (t := 39) ?hr ?_; (case hd => rfl); (case hg => rfl); (case hr => first | (go_simp; done) | (go_simp; rfl)); intro E hE w1 hbox hb1; have HBX := Aside0.mk hbox; have HB1 := Aside0.mk hb1; clear hbox hb1 hE))
  have HVS : VS w0 w (w1.alloc (.cells #[.bool false, .int .i64 0, .string ⟨#[]⟩] 43)) g E w1.heap.size s0 s1 s2 1 true (.bool false) (.int .i64 0) (.string ⟨#[]⟩) :=
    have ha := below_alloc (Below.refl w1.heap.size w1) (.cells #[.bool false, .int .i64 0, .string ⟨#[]⟩] 43)
    have hk := HB1.out.size
    ⟨⟨(ha.block g (by have := blk_lt HI.out.1; omega)).trans ((HB1.out.block g (blk_lt HI.out.1)).trans HI.out.1), HI.out.2⟩, below_then (below_then HB.out HB.out.size HB1.out) (by have := HB.out.size; omega) ha, ⟨Nat.le_trans hk ha.size, fun i hi _ _ => (ha.block i (by omega)).trans (HB1.out.block i hi)⟩, (ha.block E (blk_lt HBX.out)).trans HBX.out, heap_alloc_new w1 _, hk, by have := HB.out.size; omega⟩
  have HV := Aside0.mk HVS; clear HVS HBX HB1 HI HB
  generalize w1.heap.size = D at HV ⊢
  generalize World.alloc w1 _ = w2 at HV ⊢
  have p0 := HV.out.g2
  have p1 := HV.out.e0
  have p2 := HV.out.e1
  have p3 := HV.out.d0
  have p4 := HV.out.d1
  have p5 := HV.out.d2
  have p6 := HV.out.fz 0
  have p7 := HV.out.fz 1
  have p8 := HV.out.fz 2
  go_wp2_with fail
  refine (tithebarnref07_truth.calls g _ _ _ _ _ _ _ _ w0 _ HV.out.1 HV.out.2.1 HU.out).mono ?_; rintro e w4 ⟨rfl, hi4, hb4, hk4⟩
  replace HV := Aside0.mk (HV.out.call hi4 hb4 hk4)
  clear hi4 hb4 hk4
  clear p0 p1 p2 p3 p4 p5 p6 p7 p8
  have p0 := HV.out.g2
  have p1 := HV.out.e0
  have p2 := HV.out.e1
  have p3 := HV.out.d0
  have p4 := HV.out.d1
  have p5 := HV.out.d2
  have p6 := HV.out.fz 0
  have p7 := HV.out.fz 1
  have p8 := HV.out.fz 2
  go_wp2_with fail
  refine (tithebarnref01_Cursor_Int.calls k g _ _ _ _ _ _ _ w0 _ HV.out.1 HV.out.2.1 HT.out).mono ?_; rintro e w5 ⟨rfl, hi5, hb5, hk5⟩
  replace HV := Aside0.mk (HV.out.call hi5 hb5 hk5)
  clear hi5 hb5 hk5
  clear p0 p1 p2 p3 p4 p5 p6 p7 p8
  go_wp2_with fail
  have hV := HV.out; clear HV
  refine start_ (n := 8) (S := fun w' => True) (ds := []) #[false, false, false, false, false, false, false, false] (by kernel_rfl) rfl rfl trivial (fun hHeld => ?_)
  refine with_tab Value07.tab7 (fun HT_ => ?_)
  have hV := hV.drew
  generalize World.drew _ = w6 at hV hHeld ⊢
  have p0 := hV.g2
  have p1 := hV.e0
  have p2 := hV.e1
  have p3 := hV.d0
  have p4 := hV.d1
  have p5 := hV.d2
  have p6 := hV.fz 0
  have p7 := hV.fz 1
  have p8 := hV.fz 2
  refine pure_ (i := 0) (N := (some 30)) (v := ?_) (a' := ?_) #[true, false, false, false, false, false, false, false] rfl rfl (any_of HT_.out (by kernel_rfl)) (fun _ _ _ h => h) (Or.inl ⟨by rfl, ?_⟩) ?_ ?_
  rotate_left
  · intro w'
    go_simp
    with_reducible rfl
  rotate_left
  · simp only [Act.put, List.setIfInBounds_toArray, List.set_cons_zero, List.set_cons_succ, i64_w, i32_w]
    rfl
  refine pure_ (i := 1) (N := (some 31)) (v := ?_) (a' := ?_) #[true, true, false, false, false, false, false, false] rfl rfl (any_of HT_.out (by kernel_rfl)) (fun _ _ _ h => h) (Or.inl ⟨by rfl, ?_⟩) ?_ ?_
  rotate_left
  · intro w'
    go_simp
    with_reducible rfl
  rotate_left
  · simp only [Act.put, List.setIfInBounds_toArray, List.set_cons_zero, List.set_cons_succ, i64_w, i32_w]
    rfl
  refine pure_ (i := 2) (N := (some 32)) (v := ?_) (a' := ?_) #[true, true, true, false, false, false, false, false] rfl rfl (any_of HT_.out (by kernel_rfl)) (fun _ _ _ h => h) (Or.inl ⟨by rfl, ?_⟩) ?_ ?_
  rotate_left
  · intro w'
    go_simp
    with_reducible rfl
  rotate_left
  · simp only [Act.put, List.setIfInBounds_toArray, List.set_cons_zero, List.set_cons_succ, i64_w, i32_w]
    rfl
  refine pure_ (i := 3) (N := (some 33)) (v := ?_) (a' := ?_) #[true, true, true, true, false, false, false, false] rfl rfl (any_of HT_.out (by kernel_rfl)) (fun _ _ _ h => h) (Or.inl ⟨by rfl, ?_⟩) ?_ ?_
  rotate_left
  · intro w'
    go_simp
    with_reducible rfl
  rotate_left
  · simp only [Act.put, List.setIfInBounds_toArray, List.set_cons_zero, List.set_cons_succ, i64_w, i32_w]
    rfl
  refine pure_ (i := 4) (N := (some 34)) (v := ?_) (a' := ?_) #[true, true, true, true, true, false, false, false] rfl rfl (any_of HT_.out (by kernel_rfl)) (fun _ _ _ h => h) (Or.inl ⟨by rfl, ?_⟩) ?_ ?_
  rotate_left
  · intro w'
    go_simp
    with_reducible rfl
  rotate_left
  · simp only [Act.put, List.setIfInBounds_toArray, List.set_cons_zero, List.set_cons_succ, i64_w, i32_w]
    rfl
  refine two_ (i := 5) (j := 6) (Ni := (some 35)) (Nj := none) #[true, true, true, true, true, true, false, false] #[true, true, true, true, true, false, true, false] rfl rfl rfl rfl (two_of HT_.out (by kernel_rfl)) (by decide) (by decide) (fun K hK => ?_) (fun K hK => ?_)
  · skip
    refine value_ (w1 := ?_) (v := ?_) (by rfl) rfl ?_ ?_
    rotate_left 2
    · go_simp
      constructor
      · rfl
      · rfl
    refine hK.out _ _ trivial (fun hHeld => ?_)
    clear hK K
    refine norm_ (a' := ?_) ?_ ?_
    rotate_left
    · show Act.put _ (some 35) _ = _
      simp only [Act.put, List.setIfInBounds_toArray, List.set_cons_zero, List.set_cons_succ, i64_w, i32_w]
      rfl
    refine one_ (i := 6) (N := none) #[true, true, true, true, true, true, true, false] rfl rfl (one_of HT_.out (by kernel_rfl)) (by decide) (fun K hK => ?_)
    refine skip_ (w1 := ?_) (by rfl) rfl ?_ ?_
    rotate_left
    · go_simp
      rfl
    replace hV := hV.set (.bool false) (.int .i64 t1) (.string ⟨#[]⟩)
    clear p0 p1 p2 p3 p4 p5 p6 p7 p8
    generalize (((w6.setCell ⟨D, 0, none⟩ (.bool false)).setCell ⟨D, 1, none⟩ (.int .i64 t1)).setCell ⟨D, 2, none⟩ (.string ⟨#[]⟩)) = w8 at hV ⊢
    have p0 := hV.g2
    have p1 := hV.e0
    have p2 := hV.e1
    have p3 := hV.d0
    have p4 := hV.d1
    have p5 := hV.d2
    have p6 := hV.fz 0
    have p7 := hV.fz 1
    have p8 := hV.fz 2
    refine hK.out _ _ trivial (fun hHeld => ?_)
    clear hK K
    refine pure_ (i := 7) (N := (some 5)) (v := ?_) (a' := ?_) #[true, true, true, true, true, true, true, true] rfl rfl (any_of HT_.out (by kernel_rfl)) (fun _ _ _ h => h) (Or.inl ⟨by rfl, ?_⟩) ?_ ?_
    rotate_left
    · intro w'
      go_simp
      with_reducible rfl
    rotate_left
    · simp only [Act.put, List.setIfInBounds_toArray, List.set_cons_zero, List.set_cons_succ, i64_w, i32_w]
      rfl
    refine done_ (done_of HT_.out (by kernel_rfl)) ?_
    have HV := Aside0.mk hV; clear hV
    go_wp2
    refine bodyPost_ret (v := .tuple #[.agg #[.bool false, .int .i64 t1, .string ⟨#[]⟩], .int .i64 u2]) ?_ rfl ⟨rfl, HV.out.fin⟩
    simp [results, Try.results32, go_sem, *]
  · skip
    refine skip_ (w1 := ?_) (by rfl) rfl ?_ ?_
    rotate_left
    · go_simp
      rfl
    replace hV := hV.set (.bool false) (.int .i64 t1) (.string ⟨#[]⟩)
    clear p0 p1 p2 p3 p4 p5 p6 p7 p8
    generalize (((w6.setCell ⟨D, 0, none⟩ (.bool false)).setCell ⟨D, 1, none⟩ (.int .i64 t1)).setCell ⟨D, 2, none⟩ (.string ⟨#[]⟩)) = w8 at hV ⊢
    have p0 := hV.g2
    have p1 := hV.e0
    have p2 := hV.e1
    have p3 := hV.d0
    have p4 := hV.d1
    have p5 := hV.d2
    have p6 := hV.fz 0
    have p7 := hV.fz 1
    have p8 := hV.fz 2
    refine hK.out _ _ trivial (fun hHeld => ?_)
    clear hK K
    refine one_ (i := 5) (N := (some 35)) #[true, true, true, true, true, true, true, false] rfl rfl (one_of HT_.out (by kernel_rfl)) (by decide) (fun K hK => ?_)
    refine value_ (w1 := ?_) (v := ?_) (by rfl) rfl ?_ ?_
    rotate_left 2
    · go_simp
      constructor
      · rfl
      · rfl
    refine hK.out _ _ trivial (fun hHeld => ?_)
    clear hK K
    refine norm_ (a' := ?_) ?_ ?_
    rotate_left
    · show Act.put _ (some 35) _ = _
      simp only [Act.put, List.setIfInBounds_toArray, List.set_cons_zero, List.set_cons_succ, i64_w, i32_w]
      rfl
    refine pure_ (i := 7) (N := (some 5)) (v := ?_) (a' := ?_) #[true, true, true, true, true, true, true, true] rfl rfl (any_of HT_.out (by kernel_rfl)) (fun _ _ _ h => h) (Or.inl ⟨by rfl, ?_⟩) ?_ ?_
    rotate_left
    · intro w'
      go_simp
      with_reducible rfl
    rotate_left
    · simp only [Act.put, List.setIfInBounds_toArray, List.set_cons_zero, List.set_cons_succ, i64_w, i32_w]
      rfl
    refine done_ (done_of HT_.out (by kernel_rfl)) ?_
    have HV := Aside0.mk hV; clear hV
    go_wp2
    refine bodyPost_ret (v := .tuple #[.agg #[.bool false, .int .i64 t1, .string ⟨#[]⟩], .int .i64 u2]) ?_ rfl ⟨rfl, HV.out.fin⟩
    simp [results, Try.results32, go_sem, *]
set_option maxHeartbeats 4000000 in
set_option maxRecDepth 100000 in
theorem tithebarnref07_value.go_true_text {k : Nat} {a : Int} {x0 : ByteArray} {x1 x2 : Int} (hU : tithebarnref07_truth.f s0 s1 s2 = some (false, 0, x0, x1, x2)) (hk : (a == 1) = false) {t1 : ByteArray} {u0 : ByteArray} {u1 u2 : Int} (hT : tithebarnref01_Cursor_Text.f k x0 x1 x2 64 = some (t1, u0, u1, u2)) (hI : IsS61 w0 w g s0 s1 s2) (hB : Below w0.heap.size w0 w) :
    Calls Try.prog 32 #[.pointer (some ⟨g, 0, none⟩), .agg #[.int .i64 a, .bool true]] w fun e w' => e = .returned (.tuple #[.agg #[.bool false, .int .i64 0, .string t1], .int .i64 u2]) ∧ IsS61 w0 w' g u0 u1 u2 ∧ Below w0.heap.size w0 w' ∧ KeepBut w w' g none := by
  have HT := Aside0.mk hT; clear hT
  have HU := Aside0.mk hU; clear hU
  have HI := Aside0.mk hI; have HB := Aside0.mk hB; clear hI hB
  go_enter Try.func32, Try.ntmps32
  go_upto_region 1 with (first | ((with_reducible refine gate_dst (N := 3) rfl ?_); refine box_event ?hg (N := 3) ?hd (cs := #[.int .i64 a, .bool true]) (t := 39) ?hr ?_; (case hd => rfl); (case hg => rfl); (case hr => first | (go_simp; done) | (go_simp; rfl)); intro E hE w1 hbox hb1; have HBX := Aside0.mk hbox; have HB1 := Aside0.mk hb1; clear hbox hb1 hE))
  have HVS : VS w0 w (w1.alloc (.cells #[.bool false, .int .i64 0, .string ⟨#[]⟩] 43)) g E w1.heap.size s0 s1 s2 a true (.bool false) (.int .i64 0) (.string ⟨#[]⟩) :=
    have ha := below_alloc (Below.refl w1.heap.size w1) (.cells #[.bool false, .int .i64 0, .string ⟨#[]⟩] 43)
    have hk := HB1.out.size
    ⟨⟨(ha.block g (by have := blk_lt HI.out.1; omega)).trans ((HB1.out.block g (blk_lt HI.out.1)).trans HI.out.1), HI.out.2⟩, below_then (below_then HB.out HB.out.size HB1.out) (by have := HB.out.size; omega) ha, ⟨Nat.le_trans hk ha.size, fun i hi _ _ => (ha.block i (by omega)).trans (HB1.out.block i hi)⟩, (ha.block E (blk_lt HBX.out)).trans HBX.out, heap_alloc_new w1 _, hk, by have := HB.out.size; omega⟩
  have HV := Aside0.mk HVS; clear HVS HBX HB1 HI HB
  generalize w1.heap.size = D at HV ⊢
  generalize World.alloc w1 _ = w2 at HV ⊢
  have p0 := HV.out.g2
  have p1 := HV.out.e0
  have p2 := HV.out.e1
  have p3 := HV.out.d0
  have p4 := HV.out.d1
  have p5 := HV.out.d2
  have p6 := HV.out.fz 0
  have p7 := HV.out.fz 1
  have p8 := HV.out.fz 2
  go_wp2_with fail
  refine (tithebarnref07_truth.calls g _ _ _ _ _ _ _ _ w0 _ HV.out.1 HV.out.2.1 HU.out).mono ?_; rintro e w4 ⟨rfl, hi4, hb4, hk4⟩
  replace HV := Aside0.mk (HV.out.call hi4 hb4 hk4)
  clear hi4 hb4 hk4
  clear p0 p1 p2 p3 p4 p5 p6 p7 p8
  have p0 := HV.out.g2
  have p1 := HV.out.e0
  have p2 := HV.out.e1
  have p3 := HV.out.d0
  have p4 := HV.out.d1
  have p5 := HV.out.d2
  have p6 := HV.out.fz 0
  have p7 := HV.out.fz 1
  have p8 := HV.out.fz 2
  go_wp2_with fail
  refine (tithebarnref01_Cursor_Text.calls k g _ _ _ _ _ _ _ _ w0 _ HV.out.1 HV.out.2.1 HT.out).mono ?_; rintro e w5 ⟨rfl, hi5, hb5, hk5⟩
  replace HV := Aside0.mk (HV.out.call hi5 hb5 hk5)
  clear hi5 hb5 hk5
  clear p0 p1 p2 p3 p4 p5 p6 p7 p8
  go_wp2_with fail
  have hV := HV.out; clear HV
  refine start_ (n := 8) (S := fun w' => True) (ds := []) #[false, false, false, false, false, false, false, false] (by kernel_rfl) rfl rfl trivial (fun hHeld => ?_)
  refine with_tab Value07.tab9 (fun HT_ => ?_)
  have hV := hV.drew
  generalize World.drew _ = w6 at hV hHeld ⊢
  have p0 := hV.g2
  have p1 := hV.e0
  have p2 := hV.e1
  have p3 := hV.d0
  have p4 := hV.d1
  have p5 := hV.d2
  have p6 := hV.fz 0
  have p7 := hV.fz 1
  have p8 := hV.fz 2
  refine pure_ (i := 0) (N := (some 38)) (v := ?_) (a' := ?_) #[true, false, false, false, false, false, false, false] rfl rfl (any_of HT_.out (by kernel_rfl)) (fun _ _ _ h => h) (Or.inl ⟨by rfl, ?_⟩) ?_ ?_
  rotate_left
  · intro w'
    go_simp
    with_reducible rfl
  rotate_left
  · simp only [Act.put, List.setIfInBounds_toArray, List.set_cons_zero, List.set_cons_succ, i64_w, i32_w]
    rfl
  refine pure_ (i := 1) (N := (some 39)) (v := ?_) (a' := ?_) #[true, true, false, false, false, false, false, false] rfl rfl (any_of HT_.out (by kernel_rfl)) (fun _ _ _ h => h) (Or.inl ⟨by rfl, ?_⟩) ?_ ?_
  rotate_left
  · intro w'
    go_simp
    with_reducible rfl
  rotate_left
  · simp only [Act.put, List.setIfInBounds_toArray, List.set_cons_zero, List.set_cons_succ, i64_w, i32_w]
    rfl
  refine pure_ (i := 2) (N := (some 40)) (v := ?_) (a' := ?_) #[true, true, true, false, false, false, false, false] rfl rfl (any_of HT_.out (by kernel_rfl)) (fun _ _ _ h => h) (Or.inl ⟨by rfl, ?_⟩) ?_ ?_
  rotate_left
  · intro w'
    go_simp
    with_reducible rfl
  rotate_left
  · simp only [Act.put, List.setIfInBounds_toArray, List.set_cons_zero, List.set_cons_succ, i64_w, i32_w]
    rfl
  refine pure_ (i := 3) (N := (some 41)) (v := ?_) (a' := ?_) #[true, true, true, true, false, false, false, false] rfl rfl (any_of HT_.out (by kernel_rfl)) (fun _ _ _ h => h) (Or.inl ⟨by rfl, ?_⟩) ?_ ?_
  rotate_left
  · intro w'
    go_simp
    with_reducible rfl
  rotate_left
  · simp only [Act.put, List.setIfInBounds_toArray, List.set_cons_zero, List.set_cons_succ, i64_w, i32_w]
    rfl
  refine pure_ (i := 4) (N := (some 42)) (v := ?_) (a' := ?_) #[true, true, true, true, true, false, false, false] rfl rfl (any_of HT_.out (by kernel_rfl)) (fun _ _ _ h => h) (Or.inl ⟨by rfl, ?_⟩) ?_ ?_
  rotate_left
  · intro w'
    go_simp
    with_reducible rfl
  rotate_left
  · simp only [Act.put, List.setIfInBounds_toArray, List.set_cons_zero, List.set_cons_succ, i64_w, i32_w]
    rfl
  refine two_ (i := 5) (j := 6) (Ni := (some 43)) (Nj := none) #[true, true, true, true, true, true, false, false] #[true, true, true, true, true, false, true, false] rfl rfl rfl rfl (two_of HT_.out (by kernel_rfl)) (by decide) (by decide) (fun K hK => ?_) (fun K hK => ?_)
  · skip
    refine value_ (w1 := ?_) (v := ?_) (by rfl) rfl ?_ ?_
    rotate_left 2
    · go_simp
      constructor
      · rfl
      · rfl
    refine hK.out _ _ trivial (fun hHeld => ?_)
    clear hK K
    refine norm_ (a' := ?_) ?_ ?_
    rotate_left
    · show Act.put _ (some 43) _ = _
      simp only [Act.put, List.setIfInBounds_toArray, List.set_cons_zero, List.set_cons_succ, i64_w, i32_w]
      rfl
    refine one_ (i := 6) (N := none) #[true, true, true, true, true, true, true, false] rfl rfl (one_of HT_.out (by kernel_rfl)) (by decide) (fun K hK => ?_)
    refine skip_ (w1 := ?_) (by rfl) rfl ?_ ?_
    rotate_left
    · go_simp
      rfl
    replace hV := hV.set (.bool false) (.int .i64 0) (.string t1)
    clear p0 p1 p2 p3 p4 p5 p6 p7 p8
    generalize (((w6.setCell ⟨D, 0, none⟩ (.bool false)).setCell ⟨D, 1, none⟩ (.int .i64 0)).setCell ⟨D, 2, none⟩ (.string t1)) = w8 at hV ⊢
    have p0 := hV.g2
    have p1 := hV.e0
    have p2 := hV.e1
    have p3 := hV.d0
    have p4 := hV.d1
    have p5 := hV.d2
    have p6 := hV.fz 0
    have p7 := hV.fz 1
    have p8 := hV.fz 2
    refine hK.out _ _ trivial (fun hHeld => ?_)
    clear hK K
    refine pure_ (i := 7) (N := (some 5)) (v := ?_) (a' := ?_) #[true, true, true, true, true, true, true, true] rfl rfl (any_of HT_.out (by kernel_rfl)) (fun _ _ _ h => h) (Or.inl ⟨by rfl, ?_⟩) ?_ ?_
    rotate_left
    · intro w'
      go_simp
      with_reducible rfl
    rotate_left
    · simp only [Act.put, List.setIfInBounds_toArray, List.set_cons_zero, List.set_cons_succ, i64_w, i32_w]
      rfl
    refine done_ (done_of HT_.out (by kernel_rfl)) ?_
    have HV := Aside0.mk hV; clear hV
    go_wp2
    refine bodyPost_ret (v := .tuple #[.agg #[.bool false, .int .i64 0, .string t1], .int .i64 u2]) ?_ rfl ⟨rfl, HV.out.fin⟩
    simp [results, Try.results32, go_sem, *]
  · skip
    refine skip_ (w1 := ?_) (by rfl) rfl ?_ ?_
    rotate_left
    · go_simp
      rfl
    replace hV := hV.set (.bool false) (.int .i64 0) (.string t1)
    clear p0 p1 p2 p3 p4 p5 p6 p7 p8
    generalize (((w6.setCell ⟨D, 0, none⟩ (.bool false)).setCell ⟨D, 1, none⟩ (.int .i64 0)).setCell ⟨D, 2, none⟩ (.string t1)) = w8 at hV ⊢
    have p0 := hV.g2
    have p1 := hV.e0
    have p2 := hV.e1
    have p3 := hV.d0
    have p4 := hV.d1
    have p5 := hV.d2
    have p6 := hV.fz 0
    have p7 := hV.fz 1
    have p8 := hV.fz 2
    refine hK.out _ _ trivial (fun hHeld => ?_)
    clear hK K
    refine one_ (i := 5) (N := (some 43)) #[true, true, true, true, true, true, true, false] rfl rfl (one_of HT_.out (by kernel_rfl)) (by decide) (fun K hK => ?_)
    refine value_ (w1 := ?_) (v := ?_) (by rfl) rfl ?_ ?_
    rotate_left 2
    · go_simp
      constructor
      · rfl
      · rfl
    refine hK.out _ _ trivial (fun hHeld => ?_)
    clear hK K
    refine norm_ (a' := ?_) ?_ ?_
    rotate_left
    · show Act.put _ (some 43) _ = _
      simp only [Act.put, List.setIfInBounds_toArray, List.set_cons_zero, List.set_cons_succ, i64_w, i32_w]
      rfl
    refine pure_ (i := 7) (N := (some 5)) (v := ?_) (a' := ?_) #[true, true, true, true, true, true, true, true] rfl rfl (any_of HT_.out (by kernel_rfl)) (fun _ _ _ h => h) (Or.inl ⟨by rfl, ?_⟩) ?_ ?_
    rotate_left
    · intro w'
      go_simp
      with_reducible rfl
    rotate_left
    · simp only [Act.put, List.setIfInBounds_toArray, List.set_cons_zero, List.set_cons_succ, i64_w, i32_w]
      rfl
    refine done_ (done_of HT_.out (by kernel_rfl)) ?_
    have HV := Aside0.mk hV; clear hV
    go_wp2
    refine bodyPost_ret (v := .tuple #[.agg #[.bool false, .int .i64 0, .string t1], .int .i64 u2]) ?_ rfl ⟨rfl, HV.out.fin⟩
    simp [results, Try.results32, go_sem, *]
set_option maxHeartbeats 4000000 in
set_option maxRecDepth 100000 in
theorem tithebarnref07_value.go_stop {k : Nat} {a : Int} {tb : Bool} {te : Int} {x0 : ByteArray} {x1 x2 : Int} (hU : tithebarnref07_truth.f s0 s1 s2 = some (tb, te, x0, x1, x2)) (hs : te ≠ 0 ∨ tb = true) (hI : IsS61 w0 w g s0 s1 s2) (hB : Below w0.heap.size w0 w) :
    Calls Try.prog 32 #[.pointer (some ⟨g, 0, none⟩), .agg #[.int .i64 a, .bool true]] w fun e w' => e = .returned (.tuple #[.agg #[.bool tb, .int .i64 0, .string ⟨#[]⟩], .int .i64 te]) ∧ IsS61 w0 w' g x0 x1 x2 ∧ Below w0.heap.size w0 w' ∧ KeepBut w w' g none := by
  have HS := Aside0.mk hs; clear hs
  have HU := Aside0.mk hU; clear hU
  have HI := Aside0.mk hI; have HB := Aside0.mk hB; clear hI hB
  go_enter Try.func32, Try.ntmps32
  go_upto_region 1 with (first | ((with_reducible refine gate_dst (N := 3) rfl ?_); refine box_event ?hg (N := 3) ?hd (cs := #[.int .i64 a, .bool true]) (t := 39) ?hr ?_; (case hd => rfl); (case hg => rfl); (case hr => first | (go_simp; done) | (go_simp; rfl)); intro E hE w1 hbox hb1; have HBX := Aside0.mk hbox; have HB1 := Aside0.mk hb1; clear hbox hb1 hE))
  have HVS : VS w0 w (w1.alloc (.cells #[.bool false, .int .i64 0, .string ⟨#[]⟩] 43)) g E w1.heap.size s0 s1 s2 a true (.bool false) (.int .i64 0) (.string ⟨#[]⟩) :=
    have ha := below_alloc (Below.refl w1.heap.size w1) (.cells #[.bool false, .int .i64 0, .string ⟨#[]⟩] 43)
    have hk := HB1.out.size
    ⟨⟨(ha.block g (by have := blk_lt HI.out.1; omega)).trans ((HB1.out.block g (blk_lt HI.out.1)).trans HI.out.1), HI.out.2⟩, below_then (below_then HB.out HB.out.size HB1.out) (by have := HB.out.size; omega) ha, ⟨Nat.le_trans hk ha.size, fun i hi _ _ => (ha.block i (by omega)).trans (HB1.out.block i hi)⟩, (ha.block E (blk_lt HBX.out)).trans HBX.out, heap_alloc_new w1 _, hk, by have := HB.out.size; omega⟩
  have HV := Aside0.mk HVS; clear HVS HBX HB1 HI HB
  generalize w1.heap.size = D at HV ⊢
  generalize World.alloc w1 _ = w2 at HV ⊢
  have p0 := HV.out.g2
  have p1 := HV.out.e0
  have p2 := HV.out.e1
  have p3 := HV.out.d0
  have p4 := HV.out.d1
  have p5 := HV.out.d2
  have p6 := HV.out.fz 0
  have p7 := HV.out.fz 1
  have p8 := HV.out.fz 2
  go_wp2_with fail
  refine (tithebarnref07_truth.calls g _ _ _ _ _ _ _ _ w0 _ HV.out.1 HV.out.2.1 HU.out).mono ?_; rintro e w4 ⟨rfl, hi4, hb4, hk4⟩
  replace HV := Aside0.mk (HV.out.call hi4 hb4 hk4)
  clear hi4 hb4 hk4 HU
  clear p0 p1 p2 p3 p4 p5 p6 p7 p8
  have p0 := HV.out.g2
  have p1 := HV.out.e0
  have p2 := HV.out.e1
  have p3 := HV.out.d0
  have p4 := HV.out.d1
  have p5 := HV.out.d2
  have p6 := HV.out.fz 0
  have p7 := HV.out.fz 1
  have p8 := HV.out.fz 2
  by_cases hz : te = 0
  · have htb : tb = true := HS.out.resolve_left (fun h => h hz)
    subst hz htb
    go_wp2
    replace HV := Aside0.mk (HV.out.set (.bool true) (.int .i64 0) (.string ⟨#[]⟩))
    refine bodyPost_ret (v := .tuple #[.agg #[.bool true, .int .i64 0, .string ⟨#[]⟩], .int .i64 0]) ?_ rfl ⟨rfl, HV.out.fin⟩
    simp [results, Try.results32, go_sem, *]
  · have hz1 : (te != 0) = true := bne_iff_ne.mpr hz
    have hz2 : (te == 0) = false := beq_eq_false_iff_ne.mpr hz
    clear hz HS
    go_wp2
    replace HV := Aside0.mk (HV.out.set (.bool tb) (.int .i64 0) (.string ⟨#[]⟩))
    refine bodyPost_ret (v := .tuple #[.agg #[.bool tb, .int .i64 0, .string ⟨#[]⟩], .int .i64 te]) ?_ rfl ⟨rfl, HV.out.fin⟩
    simp [results, Try.results32, go_sem, *]
end
theorem tithebarnref07_value.calls (k : Nat) (g : Nat) (s0_0 : ByteArray) (s0_1 : Int) (s0_2 : Int) (a1_0 : Int) (a1_1 : Bool) (r1 : Bool) (r2 : Int) (r3 : ByteArray) (r4 : Int) (r5 : ByteArray) (r6 : Int) (r7 : Int) (w0 w : World) (hI : IsS61 w0 w g s0_0 s0_1 s0_2) (hB : Below w0.heap.size w0 w) (h : tithebarnref07_value.f k s0_0 s0_1 s0_2 a1_0 a1_1 = some (r1, r2, r3, r4, r5, r6, r7)) :
    Calls Try.prog 32 #[.pointer (some ⟨g, 0, none⟩), .agg #[.int .i64 a1_0, .bool a1_1]] w fun e w' => e = .returned (.tuple #[.agg #[.bool r1, .int .i64 r2, .string r3], .int .i64 r4]) ∧ IsS61 w0 w' g r5 r6 r7 ∧ Below w0.heap.size w0 w' ∧ KeepBut w w' g none := by
  unfold tithebarnref07_value.f tithebarnref07_value.rest at h
  cases a1_1
  · rw [if_neg (by decide)] at h
    by_cases hk : a1_0 = 1
    · rw [if_pos hk] at h
      obtain ⟨⟨t1, u0, u1, u2⟩, hT, h⟩ := Option.bind_eq_some_iff.mp h
      obtain ⟨rfl, rfl, rfl, rfl, rfl, rfl, rfl⟩ := by simpa using h
      exact tithebarnref07_value.go_false_int hk hT hI hB
    · rw [if_neg hk] at h
      obtain ⟨⟨t1, u0, u1, u2⟩, hT, h⟩ := Option.bind_eq_some_iff.mp h
      obtain ⟨rfl, rfl, rfl, rfl, rfl, rfl, rfl⟩ := by simpa using h
      exact tithebarnref07_value.go_false_text (beq_eq_false_iff_ne.mpr hk) hT hI hB
  · rw [if_pos rfl] at h
    obtain ⟨⟨tb, te, x0, x1, x2⟩, hU, h⟩ := Option.bind_eq_some_iff.mp h
    simp only at h
    by_cases hs : te = 0 ∧ tb = false
    · rw [if_pos hs] at h
      obtain ⟨rfl, rfl⟩ := hs
      by_cases hk : a1_0 = 1
      · rw [if_pos hk] at h
        obtain ⟨⟨t1, u0, u1, u2⟩, hT, h⟩ := Option.bind_eq_some_iff.mp h
        obtain ⟨rfl, rfl, rfl, rfl, rfl, rfl, rfl⟩ := by simpa using h
        exact tithebarnref07_value.go_true_int hU hk hT hI hB
      · rw [if_neg hk] at h
        obtain ⟨⟨t1, u0, u1, u2⟩, hT, h⟩ := Option.bind_eq_some_iff.mp h
        obtain ⟨rfl, rfl, rfl, rfl, rfl, rfl, rfl⟩ := by simpa using h
        exact tithebarnref07_value.go_true_text hU (beq_eq_false_iff_ne.mpr hk) hT hI hB
    · rw [if_neg hs] at h
      obtain ⟨rfl, rfl, rfl, rfl, rfl, rfl, rfl⟩ := by simpa using h
      exact tithebarnref07_value.go_stop (k := k) hU (by cases tb <;> by_cases hz : te = 0 <;> simp_all) hI hB
end Go.Proofs.Ytpbeppmldckjlaa.G
