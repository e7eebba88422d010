import Derived.Test.YtagokgijffpdnaaZQA
import Derived.Test.YtagokgijffpdnaaZG3
import Derived.Test.YtagokgijffpdnaaZG18
import Derived.Test.YtagokgijffpdnaaZG10
import Derived.Test.YtagokgijffpdnaaZG5
namespace Go.Proofs.Ytagokgijffpdnaa.G
open Go.RowKit Go.Proofs.YtagokgijffpdnaaQ Go.Proofs.YtagokgijffpdnaaW.PrintWords Go.Proofs.YtagokgijffpdnaaW.PrintLast Go.Proofs.YtagokgijffpdnaaW.PrintMore
attribute [local go_sem] max2_int min2_int max_two min_two max_three min_three max_four min_four   -- for this text's walks alone
set_option linter.unusedVariables false
set_option linter.unusedSimpArgs false
def aUint (r : List Int) (e : Int) : Int × List Int × Int := if e = 0 then ((decU r).1, r.drop (decU r).2.1, (decU r).2.2) else (0, r, e)
def aInt (r : List Int) (e : Int) : Int × List Int × Int := (unfold_ (aUint r e).1, (aUint r e).2)
def aText (most : Int) (r : List Int) (e : Int) : List Int × List Int × Int :=
 if e = 0 then
  if (decU r).2.2 = 0 then
   if most < 0 ∨ most < (decU r).1 then ([], r, 3)
   else if ((r.drop (decU r).2.1).length : Int) < (decU r).1 then ([], r, 2)
   else ((r.drop (decU r).2.1).take (decU r).1.toNat, (r.drop (decU r).2.1).drop (decU r).1.toNat, 0)
  else ([], r, (decU r).2.2)
 else ([], r, e)
def aDone (r : List Int) (e : Int) : Int := if e = 0 then (if r = [] then 0 else 5) else e
theorem decU_u64 {r : List Int} (hr : Bs r) : u64 (decU r).1 := by
 rcases h : decU r with ⟨x, n, e⟩
 rcases decU_err h with ⟨rfl, _⟩ | ⟨_, rfl, _⟩
 ·exact (decU_bytes hr h).2.1
 ·unfold u64; simp
theorem aUint_u64 {r : List Int} (hr : Bs r) (e : Int) : u64 (aUint r e).1 := by
 unfold aUint; split
 ·exact decU_u64 hr
 ·unfold u64; simp
theorem aUint_Bs {r : List Int} (hr : Bs r) (e : Int) : Bs (aUint r e).2.1 := by
 unfold aUint; split
 ·exact hr.drop _
 ·exact hr
theorem aText_Bs {r : List Int} (hr : Bs r) (m e : Int) : Bs (aText m r e).1 ∧ Bs (aText m r e).2.1 := by
 unfold aText
 repeat' split
 all_goals first | exact ⟨Bs.nil, hr⟩ | exact ⟨(hr.drop _).take _, (hr.drop _).drop _⟩
theorem cUint_f (s : ByteArray) (e : Int) : tally_Cursor_Uint.f s e = some ((aUint (bytesOf s) e).1, strOfNums (aUint (bytesOf s) e).2.1, (aUint (bytesOf s) e).2.2) := by
 unfold tally_Cursor_Uint.f tally_Cursor_ok.f tally_next.f aUint
 simp only [Option.bind_some]
 by_cases c : e = 0
 ·rw [if_pos (by simpa using c), if_pos c]
  simp only
  rw [← bytesOf_tail, strOfNums_bytesOf]
 ·rw [if_neg (by simpa using c), if_neg c]
  simp only
  rw [strOfNums_bytesOf]
theorem cInt_f (s : ByteArray) (e : Int) : tally_Cursor_Int.f s e = some ((aInt (bytesOf s) e).1, strOfNums (aInt (bytesOf s) e).2.1, (aInt (bytesOf s) e).2.2) := by
 unfold tally_Cursor_Int.f
 rw [cUint_f]
 simp only [Option.bind_some]
 rw [zag _ (aUint_u64 (Bs.bytesOf s) e)]; rfl
theorem toList_nil (s : ByteArray) : s.toList = [] ↔ bytesOf s = [] := by rw [ByteArray.toList_eq]; unfold bytesOf; simp
theorem cDone_f (s : ByteArray) (e : Int) : tally_Cursor_Done.f s e = some (aDone (bytesOf s) e, s, e) := by
 unfold tally_Cursor_Done.f tally_Cursor_ok.f tally_Cursor_Err.f aDone
 simp only [Option.bind_some]
 by_cases c : e = 0
 ·rw [if_pos (by simpa using c), if_pos c]
  by_cases d : bytesOf s = []
  ·rw [if_pos ((toList_nil s).2 d), if_pos d, c]
  ·rw [if_neg (fun h => d ((toList_nil s).1 h)), if_neg d]
 ·rw [if_neg (by simpa using c), if_neg c]
theorem cText_f {k : Nat} (hk : 1 ≤ k) (s : ByteArray) (e m : Int) (hs : s.size ≤ 9223372036854775807) (hm : m < 9223372036854775808) : tally_Cursor_Text.f k s e m = some (strOfNums (aText m (bytesOf s) e).1, strOfNums (aText m (bytesOf s) e).2.1, (aText m (bytesOf s) e).2.2) := by
 obtain ⟨k, rfl⟩ : ∃ n, k = n + 1 := ⟨k - 1, by omega⟩
 unfold tally_Cursor_Text.f tally_Cursor_ok.f tally_next.f aText
 simp only [Option.bind_some]
 by_cases c : e = 0
 ·rw [if_pos (by simpa using c), if_pos c]
  by_cases d : (decU (bytesOf s)).2.2 = 0
  ·rw [if_pos d, if_pos d]
   have hx := decU_u64 (Bs.bytesOf s)
   have ht := bytesOf_tail s (decU (bytesOf s)).2.1
   have hsz : (s.extract (decU (bytesOf s)).2.1 s.size).size ≤ s.size := by simp
   generalize s.extract (decU (bytesOf s)).2.1 s.size = r at *
   rw [← ht]
   generalize (decU (bytesOf s)).1 = x at *
   obtain ⟨x0, x1⟩ := hx
   by_cases g : m < 0
   ·rw [if_pos g, if_pos (Or.inl g)]
    simp only [tally_Cursor_Text.j0]
    rw [if_pos trivial, strOfNums_bytesOf]; rfl
   ·rw [if_neg g, wu64 (x := m) (by omega) (by omega)]
    simp only [tally_Cursor_Text.j0]
    by_cases g2 : m < x
    ·rw [if_pos (by simpa using g2), if_pos (Or.inr g2), strOfNums_bytesOf]; rfl
    ·rw [if_neg (by simpa using g2), wu64 (x := (r.size : Int)) (by omega) (by omega), if_neg (show ¬ (m < 0 ∨ m < x) by omega), bytesOf_size]
     by_cases g3 : (r.size : Int) < x
     ·rw [if_pos g3, if_pos g3, strOfNums_bytesOf]; rfl
     ·rw [if_neg g3, if_neg g3, if_pos x0, if_pos (by omega), c]
      simp only
      have e1 : bytesOf (r.extract 0 x.toNat) = (bytesOf r).take x.toNat := by rw [bytesOf_extract]; rfl
      have e2 : bytesOf (r.extract x.toNat r.size) = (bytesOf r).drop x.toNat := bytesOf_tail r _
      rw [← e1, ← e2, strOfNums_bytesOf, strOfNums_bytesOf]
  ·rw [if_neg d, if_neg d, strOfNums_bytesOf]; rfl
 ·rw [if_neg (by simpa using c), if_neg c, strOfNums_bytesOf]; rfl
def Cur (w0 w : World) (g : Nat) (r : List Int) (e : Int) : Prop := IsS88 w0 w g (strOfNums r) e ∧ Bs r ∧ r.length ≤ 4611686018427387904
theorem Cur.keep {w0 W W' : World} {g g' : Nat} {r : List Int} {e : Int} (h : Cur w0 W g r e) (hk : KeepBut W W' g' none) (hne : g ≠ g') : Cur w0 W' g r e := by
 refine ⟨⟨?_, h.1.2⟩, h.2⟩
 rw [hk.2 g (Array.getElem?_eq_some_iff.1 h.1.1).1 hne (by simp)]
 exact h.1.1
theorem Cur.below {w0 W W' : World} {g : Nat} {r : List Int} {e : Int} (h : Cur w0 W g r e) (hb : Below W.heap.size W W') : Cur w0 W' g r e := by
 refine ⟨⟨?_, h.1.2⟩, h.2⟩
 rw [hb.block g (Array.getElem?_eq_some_iff.1 h.1.1).1]
 exact h.1.1
theorem Cur.drew {w0 W : World} {g : Nat} {r : List Int} {e : Int} (h : Cur w0 W g r e) : Cur w0 W.drew g r e := h
theorem Cur.drewN {w0 W : World} {g : Nat} {r : List Int} {e : Int} (h : Cur w0 W g r e) (n : Nat) : Cur w0 (W.drewN n) g r e := ⟨⟨h.1.1, h.1.2⟩, h.2⟩
theorem Cur.lt {w0 W : World} {g : Nat} {r : List Int} {e : Int} (h : Cur w0 W g r e) : g < W.heap.size := (Array.getElem?_eq_some_iff.1 h.1.1).1
theorem Cur.ge {w0 W : World} {g : Nat} {r : List Int} {e : Int} (h : Cur w0 W g r e) : w0.heap.size ≤ g := h.1.2
theorem from_any {w0 w : World} (s : ByteArray) (hs : s.size ≤ 4611686018427387904) (hB : Below w0.heap.size w0 w) : Calls Try.prog 29 #[.string s] w fun en w' =>
  ∃ g, en = .returned (.pointer (some ⟨g, 0, none⟩)) ∧ Cur w0 w' g (bytesOf s) 0 ∧ w.heap.size ≤ g ∧ Below w0.heap.size w0 w' ∧ Below w.heap.size w w' := by
 refine (tally_From.calls s s 0 w w (Below.refl _ _) rfl).mono ?_
 rintro en w' ⟨g, rfl, hI, _, hb⟩
 refine ⟨g, rfl, ⟨⟨by rw [strOfNums_bytesOf]; exact hI.1, Nat.le_trans hB.size hI.2⟩, Bs.bytesOf s, by rw [bytesOf_size]; exact hs⟩, hI.2, below_then hB hB.size hb, hb⟩
section
variable {w0 w : World} {g : Nat} {r : List Int} {e : Int}
theorem Cur.bytes (hC : Cur w0 w g r e) : bytesOf (strOfNums r) = r := bytesOf_strOfNums hC.2.1
theorem Cur.size (hC : Cur w0 w g r e) : (strOfNums r).size ≤ 4611686018427387904 := by rw [size_strOfNums]; exact hC.2.2
theorem aUint_len (r : List Int) (e : Int) : (aUint r e).2.1.length ≤ r.length := by unfold aUint; split <;> simp
theorem aText_len (r : List Int) (m e : Int) : (aText m r e).2.1.length ≤ r.length ∧ (aText m r e).1.length ≤ r.length := by
 unfold aText
 repeat' split
 all_goals simp
 all_goals omega
theorem uint_any (hC : Cur w0 w g r e) (hB : Below w0.heap.size w0 w) : Calls Try.prog 69 #[.pointer (some ⟨g, 0, none⟩)] w fun en w' =>
  en = .returned (.int .u64 (aUint r e).1) ∧ Cur w0 w' g (aUint r e).2.1 (aUint r e).2.2 ∧ Below w0.heap.size w0 w' ∧ KeepBut w w' g none := by
 have h := cUint_f (strOfNums r) e
 rw [hC.bytes] at h
 refine (tally_Cursor_Uint.calls g _ _ _ _ _ w0 w hC.1 hB h).mono ?_
 rintro en w' ⟨rfl, hI, hb, hk⟩
 exact ⟨rfl, ⟨hI, aUint_Bs hC.2.1 e, Nat.le_trans (aUint_len r e) hC.2.2⟩, hb, hk⟩
theorem int_any (hC : Cur w0 w g r e) (hB : Below w0.heap.size w0 w) : Calls Try.prog 71 #[.pointer (some ⟨g, 0, none⟩)] w fun en w' =>
  en = .returned (.int .i64 (aInt r e).1) ∧ Cur w0 w' g (aUint r e).2.1 (aUint r e).2.2 ∧ Below w0.heap.size w0 w' ∧ KeepBut w w' g none := by
 have h := cInt_f (strOfNums r) e
 rw [hC.bytes] at h
 refine (tally_Cursor_Int.calls g _ _ _ _ _ w0 w hC.1 hB h).mono ?_
 rintro en w' ⟨rfl, hI, hb, hk⟩
 exact ⟨rfl, ⟨hI, aUint_Bs hC.2.1 e, Nat.le_trans (aUint_len r e) hC.2.2⟩, hb, hk⟩
theorem text_any (m : Int) (hm : m < 9223372036854775808) (hC : Cur w0 w g r e) (hB : Below w0.heap.size w0 w) : Calls Try.prog 72 #[.pointer (some ⟨g, 0, none⟩), .int .i64 m] w fun en w' =>
  en = .returned (.string (strOfNums (aText m r e).1)) ∧ Cur w0 w' g (aText m r e).2.1 (aText m r e).2.2 ∧ Below w0.heap.size w0 w' ∧ KeepBut w w' g none := by
 have h := cText_f (k := 1) (Nat.le_refl _) (strOfNums r) e m (by have := hC.size; omega) hm
 rw [hC.bytes] at h
 refine (tally_Cursor_Text.calls 1 g _ _ m _ _ _ w0 w hC.1 hB h).mono ?_
 rintro en w' ⟨rfl, hI, hb, hk⟩
 exact ⟨rfl, ⟨hI, (aText_Bs hC.2.1 m e).2, Nat.le_trans (aText_len r m e).1 hC.2.2⟩, hb, hk⟩
theorem done_any (hC : Cur w0 w g r e) (hB : Below w0.heap.size w0 w) : Calls Try.prog 54 #[.pointer (some ⟨g, 0, none⟩)] w fun en w' =>
  en = .returned (.int .i64 (aDone r e)) ∧ Cur w0 w' g r e ∧ Below w0.heap.size w0 w' ∧ KeepBut w w' g none := by
 have h := cDone_f (strOfNums r) e
 rw [hC.bytes] at h
 refine (tally_Cursor_Done.calls g _ _ _ _ _ w0 w hC.1 hB h).mono ?_
 rintro en w' ⟨rfl, hI, hb, hk⟩
 exact ⟨rfl, ⟨hI, hC.2⟩, hb, hk⟩
end
theorem Cur.cell1 {w0 w : World} {g : Nat} {r : List Int} {e : Int} (hC : Cur w0 w g r e) : w.cell? ⟨g, 1, none⟩ = some (.int .i64 e) := by simp [World.cell?, hC.1.1]
set_option maxHeartbeats 400000 in
set_option maxRecDepth 100000 in
theorem err_same {w0 w : World} {g : Nat} {r : List Int} {e : Int} (hC : Cur w0 w g r e) : Calls Try.prog 70 #[.pointer (some ⟨g, 0, none⟩)] w fun en w' => en = .returned (.int .i64 e) ∧ w' = w := by
 have h1 := hC.cell1
 clear hC
 go_enter Try.func70, Try.ntmps70
 go_wp2
 go_ret
 exact ⟨rfl, rfl⟩
section
variable {ops : Array Oper} {rest : List Oper} {o : Oper} {a : Act} {Q : Exit → Act → World → Prop}
end
theorem Cur.kept {w0 W W' : World} {g : Nat} {r : List Int} {e : Int} {S : Nat → Prop} (h : Cur w0 W g r e) (hk : Kept W W' S) (hn : ¬ S g) : Cur w0 W' g r e := by
 refine ⟨⟨?_, h.1.2⟩, h.2⟩
 rw [hk.2 g h.lt hn]
 exact h.1.1
def RdS (w0 W : World) (g c : Nat) (r : List Int) (e : Int) (odd : Bool) : Prop := W.heap[g]? = some (.cells #[.pointer (some ⟨c, 0, none⟩), .bool odd] 65 (0, 0)) ∧ w0.heap.size ≤ g ∧ Cur w0 W c r e
def GC (g c : Nat) : Nat → Prop := fun k => k = g ∨ k = c
theorem RdS.ne {w0 W : World} {g c : Nat} {r : List Int} {e : Int} {odd : Bool} (h : RdS w0 W g c r e odd) : g ≠ c := blk_ne h.1 h.2.2.1.1 (by decide)
theorem RdS.drew {w0 W : World} {g c : Nat} {r : List Int} {e : Int} {odd : Bool} (h : RdS w0 W g c r e odd) : RdS w0 W.drew g c r e odd := ⟨h.1, h.2.1, h.2.2.drew⟩
theorem RdS.below {w0 W W' : World} {g c : Nat} {r : List Int} {e : Int} {odd : Bool} (h : RdS w0 W g c r e odd) (hb : Below W.heap.size W W') : RdS w0 W' g c r e odd := ⟨(hb.block g (blk_lt h.1)).trans h.1, h.2.1, h.2.2.below hb⟩
theorem RdS.kept {w0 W W' : World} {g c : Nat} {r : List Int} {e : Int} {odd : Bool} {S : Nat → Prop} (h : RdS w0 W g c r e odd) (hk : Kept W W' S) (h1 : ¬ S g) (h2 : ¬ S c) : RdS w0 W' g c r e odd := ⟨blk_kept h.1 hk h1, h.2.1, h.2.2.kept hk h2⟩
theorem RdS.far {w0 W : World} {g c : Nat} {r : List Int} {e : Int} {odd : Bool} (h : RdS w0 W g c r e odd) {n : Nat} (h1 : g ≠ n) (h2 : c ≠ n) (j : Nat) (v : Value) : RdS w0 (W.setCell ⟨n, j, none⟩ v) g c r e odd :=
 ⟨blk_far h.1 (p := ⟨n, j, none⟩) h1 v, h.2.1, ⟨⟨blk_far h.2.2.1.1 (p := ⟨n, j, none⟩) h2 v, h.2.2.1.2⟩, h.2.2.2⟩⟩
theorem RdS.grown {w0 W W' : World} {g c : Nat} {r : List Int} {e : Int} {odd : Bool} {row : Option Nat} (h : RdS w0 W g c r e odd) (hg : W.grownBy W' row) (h1 : some g ≠ row) (h2 : some c ≠ row) : RdS w0 W' g c r e odd :=
 ⟨blk_grown h.1 hg h1, h.2.1, ⟨⟨blk_grown h.2.2.1.1 hg h2, h.2.2.1.2⟩, h.2.2.2⟩⟩
theorem Kept.gc {w W : World} {g c : Nat} (hk : KeepBut w W c none) : Kept w W (GC g c) := Kept.of_keep (Kept.refl w _) hk (.inl (.inr rfl))
theorem RdS.on {w0 W W' : World} {g c : Nat} {r r' : List Int} {e e' : Int} {odd : Bool} (h : RdS w0 W g c r e odd) (hk : KeepBut W W' c none) (hc : Cur w0 W' c r' e') : RdS w0 W' g c r' e' odd :=
 ⟨(hk.2 g (blk_lt h.1) h.ne (by simp)).trans h.1, h.2.1, hc⟩
def numL (r : List Int) (e : Int) (odd : Bool) : Int × List Int × Int × Bool := if 999999999 < (aUint r e).1 then (0, (aUint r e).2.1, (aUint r e).2.2, true) else ((aUint r e).1, (aUint r e).2.1, (aUint r e).2.2, odd)
def valL (r : List Int) (e : Int) : S34 × List Int × Int := (⟨false, (aInt r e).1, strOfNums (aText 64 (aUint r e).2.1 (aUint r e).2.2).1⟩, (aText 64 (aUint r e).2.1 (aUint r e).2.2).2.1, (aText 64 (aUint r e).2.1 (aUint r e).2.2).2.2)
section
variable {w0 w : World} {g c : Nat} {r : List Int} {e : Int} {odd : Bool}
theorem RdS.c0 (h : RdS w0 w g c r e odd) : w.cell? ⟨g, 0, none⟩ = some (.pointer (some ⟨c, 0, none⟩)) := (blk_cell h.1 0).trans rfl
theorem RdS.c1 (h : RdS w0 w g c r e odd) : w.cell? ⟨g, 1, none⟩ = some (.bool odd) := (blk_cell h.1 1).trans rfl
theorem RdS.f1 (h : RdS w0 w g c r e odd) : w.frozen? ⟨g, 1, none⟩ = false := blk_frozen h.1 1
set_option maxHeartbeats 1000000 in
set_option maxRecDepth 100000 in
theorem fine_any {f : Bool} (hf : (!odd && (e == 0)) = f) (hR : RdS w0 w g c r e odd) : Calls Try.prog 52 #[.pointer (some ⟨g, 0, none⟩)] w fun en w' => en = .returned (.bool f) ∧ w' = w := by
 have c0 := hR.c0
 have c1 := hR.c1
 have HR := Aside0.mk hR
 subst hf
 clear hR
 cases odd
 ·go_enter Try.func52, Try.ntmps52
  go_wp2_with fail
  refine (err_same HR.out.2.2).mono ?_; rintro en w1 ⟨rfl, rfl⟩
  go_wp2
  go_ret
  exact ⟨rfl, rfl⟩
 ·go_enter Try.func52, Try.ntmps52
  go_wp2
  go_ret
  exact ⟨rfl, rfl⟩
set_option maxHeartbeats 1000000 in
set_option maxRecDepth 100000 in
theorem number_any {n : Int} {r' : List Int} {e' : Int} {odd' : Bool} (hn : numL r e odd = (n, r', e', odd')) (hR : RdS w0 w g c r e odd) (hB : Below w0.heap.size w0 w) :
  Calls Try.prog 51 #[.pointer (some ⟨g, 0, none⟩)] w fun en w' => en = .returned (.int .i64 n) ∧ RdS w0 w' g c r' e' odd' ∧ Below w0.heap.size w0 w' ∧ Kept w w' (GC g c) := by
 have hx := aUint_u64 hR.2.2.2.1 e
 unfold numL at hn
 have c0 := hR.c0
 have HR := Aside0.mk hR; have HB := Aside0.mk hB
 clear hR hB
 go_enter Try.func51, Try.ntmps51
 go_wp2_with fail
 refine (uint_any HR.out.2.2 HB.out).mono ?_; rintro en w1 ⟨rfl, hc, hb, hk⟩
 obtain ⟨⟨x, r1, e1⟩, hu⟩ : ∃ z, aUint r e = z := ⟨_, rfl⟩
 rw [hu] at hn hx hc ⊢
 simp only at hn hx hc ⊢
 have hR1 := HR.out.on hk hc
 have c1 := hR1.c1; have f1 := hR1.f1
 have HR1 := Aside0.mk hR1; have HB1 := Aside0.mk hb; have HK1 := Aside0.mk (Kept.gc (g := g) hk)
 clear c0 hR1 hb hk hc hu
 by_cases hlt : 999999999 < x
 ·rw [if_pos hlt] at hn
  have fin : RdS w0 (w1.setCell ⟨g, 1, none⟩ (.bool true)) g c r1 e1 true ∧ Below w0.heap.size w0 (w1.setCell ⟨g, 1, none⟩ (.bool true)) ∧ Kept w (w1.setCell ⟨g, 1, none⟩ (.bool true)) (GC g c) :=
   ⟨⟨blk_set HR1.out.1 1 _, HR1.out.2.1, HR1.out.2.2.keep (KeepBut.set_ (KeepBut.refl w1 g none) 1 _) (Ne.symm HR1.out.ne)⟩, below_set HB1.out HR1.out.2.1, Kept.setCell HK1.out (.inl (.inl rfl)) _⟩
  have HFIN := Aside0.mk fin
  clear fin
  obtain ⟨rfl, rfl, rfl, rfl⟩ := by simpa using hn
  have k1 : decide (999999999 < x) = true := decide_eq_true hlt
  have HLT := Aside0.mk hlt; clear hlt hn hx
  go_wp2
  go_ret
  exact ⟨rfl, HFIN.out⟩
 ·rw [if_neg hlt] at hn
  obtain ⟨rfl, rfl, rfl, rfl⟩ := by simpa using hn
  have k1 : decide (999999999 < x) = false := decide_eq_false hlt
  obtain ⟨x0, x1⟩ := hx
  have hw : wrap64 x = x := w64 (by omega) (by omega)
  have hw2 : IntKind.i64.wrap x = x := by rw [i64_w]; exact hw
  have HLT := Aside0.mk hlt; clear hlt hn
  go_wp2
  refine bodyPost_ret (v := .int .i64 x) ?_ rfl ⟨rfl, HR1.out, HB1.out, HK1.out⟩
  simp [results, Try.results51, go_sem, *]
end
theorem gc_new {w0 w : World} {g c : Nat} {r : List Int} {e : Int} {odd : Bool} (h : RdS w0 w g c r e odd) {k : Nat} (hk : w.heap.size ≤ k) : ¬ GC g c k := fun he => by
 have h1 := blk_lt h.1
 have h2 := h.2.2.lt
 rcases he with he | he <;> omega
theorem val_one {w0 w X : World} {g c n : Nat} {r : List Int} {e : Int} {odd : Bool} (hn : w0.heap.size ≤ n) (hw : w.heap.size ≤ n) (hg : g ≠ n) (hc : c ≠ n) (h : RdS w0 X g c r e odd ∧ Below w0.heap.size w0 X ∧ Kept w X (GC g c)) (j : Nat) (v : Value) :
  RdS w0 (X.setCell ⟨n, j, none⟩ v) g c r e odd ∧ Below w0.heap.size w0 (X.setCell ⟨n, j, none⟩ v) ∧ Kept w (X.setCell ⟨n, j, none⟩ v) (GC g c) :=
 ⟨h.1.far hg hc j v, below_set h.2.1 hn, Kept.setCell (p := ⟨n, j, none⟩) h.2.2 (.inr hw) v⟩
theorem val_fin {w0 w w1 : World} {g c : Nat} {r r' : List Int} {e e' : Int} {odd odd' : Bool} (hR : RdS w0 w g c r e odd) (hB : Below w0.heap.size w0 w) (h1 : RdS w0 w1 g c r' e' odd') (h2 : Below w0.heap.size w0 w1) (h3 : Kept w w1 (GC g c)) (v0 v1 v2 : Value) :
  RdS w0 (((w1.setCell ⟨w.heap.size, 0, none⟩ v0).setCell ⟨w.heap.size, 1, none⟩ v1).setCell ⟨w.heap.size, 2, none⟩ v2) g c r' e' odd' ∧ Below w0.heap.size w0 (((w1.setCell ⟨w.heap.size, 0, none⟩ v0).setCell ⟨w.heap.size, 1, none⟩ v1).setCell ⟨w.heap.size, 2, none⟩ v2) ∧ Kept w (((w1.setCell ⟨w.heap.size, 0, none⟩ v0).setCell ⟨w.heap.size, 1, none⟩ v1).setCell ⟨w.heap.size, 2, none⟩ v2) (GC g c) := by
 obtain ⟨n, hnn⟩ : ∃ n, n = w.heap.size := ⟨_, rfl⟩
 rw [← hnn]
 have hw : w.heap.size ≤ n := Nat.le_of_eq hnn.symm
 have hn : w0.heap.size ≤ n := Nat.le_trans hB.size hw
 have hg : g ≠ n := fun e => gc_new hR hw (.inl e.symm)
 have hc : c ≠ n := fun e => gc_new hR hw (.inr e.symm)
 exact val_one hn hw hg hc (val_one hn hw hg hc (val_one hn hw hg hc ⟨h1, h2, h3⟩ 0 v0) 1 v1) 2 v2
set_option maxHeartbeats 4000000 in
set_option maxRecDepth 100000 in
theorem value_any {w0 w : World} {g c : Nat} {r : List Int} {e : Int} {odd : Bool} {v : S34} {r' : List Int} {e' : Int} (hv : valL r e = (v, r', e')) (hR : RdS w0 w g c r e odd) (hB : Below w0.heap.size w0 w) :
  Calls Try.prog 53 #[.pointer (some ⟨g, 0, none⟩)] w fun en w' => en = .returned (.agg #[.bool v.f0, .int .i64 v.f1, .string v.f2]) ∧ RdS w0 w' g c r' e' odd ∧ Below w0.heap.size w0 w' ∧ Kept w w' (GC g c) := by
 unfold valL at hv
 obtain ⟨x, hx⟩ : ∃ x, (aInt r e).1 = x := ⟨_, rfl⟩
 obtain ⟨⟨u, r1, e1⟩, hu⟩ : ∃ z, aUint r e = z := ⟨_, rfl⟩
 obtain ⟨⟨s, r2, e2⟩, ht⟩ : ∃ z, aText 64 r1 e1 = z := ⟨_, rfl⟩
 rw [hx, hu] at hv
 simp only [ht] at hv
 obtain ⟨rfl, rfl, rfl⟩ := by simpa using hv
 clear hv
 have HR := Aside0.mk hR; have HB := Aside0.mk hB
 have HB1 := Aside0.mk (below_alloc (Below.refl w.heap.size w) (.cells #[.bool false, .int .i64 0, .string ⟨#[]⟩] 34))
 have HY : Aside0 ((w.alloc (.cells #[.bool false, .int .i64 0, .string ⟨#[]⟩] 34)).heap[w.heap.size]? = some (.cells #[.bool false, .int .i64 0, .string ⟨#[]⟩] 34 (0, 0))) := ⟨heap_alloc_new w _⟩
 have HX := Aside0.mk hx; have HU := Aside0.mk hu; have HT := Aside0.mk ht
 have c0 := (hR.below HB1.out).c0
 clear hR hB hx hu ht
 go_enter Try.func53, Try.ntmps53
 go_wp2_with fail
 refine (int_any (HR.out.below HB1.out).2.2 (below_then HB.out HB.out.size HB1.out)).mono ?_; rintro en w1 ⟨rfl, hc, hb, hk⟩
 rw [HX.out]
 rw [HU.out] at hc
 have HR1 := Aside0.mk ((HR.out.below HB1.out).on hk hc); have HBB1 := Aside0.mk hb; have HK1 := Aside0.mk (Kept.then_ (Kept.of_below HB1.out (GC g c)) (Kept.gc (g := g) hk) (fun _ h => .inl h))
 have HY1 := Aside0.mk (blk_kept HY.out (Kept.gc (g := g) hk) (gc_new HR.out (Nat.le_refl _)))
 clear hc hb hk c0 HY
 have c0 := HR1.out.c0
 go_wp2_with fail
 refine (text_any 64 (by omega) HR1.out.2.2 HBB1.out).mono ?_; rintro en w2 ⟨rfl, hc, hb, hk⟩
 rw [HT.out] at hc ⊢
 have HR2 := Aside0.mk (HR1.out.on hk hc); have HBB2 := Aside0.mk hb; have HK2 := Aside0.mk (HK1.out.then_ (Kept.gc (g := g) hk) (fun _ h => .inl h))
 have hy := blk_kept HY1.out (Kept.gc (g := g) hk) (gc_new HR.out (Nat.le_refl _))
 clear hc hb hk c0 HY1
 have d0 : w2.cell? ⟨w.heap.size, 0, none⟩ = some (.bool false) := (blk_cell hy 0).trans rfl
 have d1 : w2.cell? ⟨w.heap.size, 1, none⟩ = some (.int .i64 0) := (blk_cell hy 1).trans rfl
 have d2 : w2.cell? ⟨w.heap.size, 2, none⟩ = some (.string ⟨#[]⟩) := (blk_cell hy 2).trans rfl
 have f0 := blk_frozen hy 0
 have f1 := blk_frozen hy 1
 have f2 := blk_frozen hy 2
 have HY2 := Aside0.mk hy; clear hy
 go_wp2
 refine bodyPost_ret (v := .agg #[.bool false, .int .i64 x, .string (strOfNums s)]) ?_ rfl ⟨rfl, val_fin HR.out HB.out HR2.out HBB2.out HK2.out _ _ _⟩
 simp [results, Try.results53, go_sem, *]
def dropsL : Nat → List Int → Int → Bool → List Int → List Int × List Int × Int × Bool
 | 0, r, e, odd, acc => (acc, r, e, odd)
 | n + 1, r, e, odd, acc => if (!odd && (e == 0)) = true then dropsL n (numL r e odd).2.1 (numL r e odd).2.2.1 (numL r e odd).2.2.2 (acc ++ [(numL r e odd).1]) else (acc, r, e, odd)
def partL (r : List Int) (e : Int) (odd : Bool) : S36 × List Int × Int × Bool :=
 (fun (a : Int × List Int × Int × Bool) => (fun (b : Int × List Int × Int × Bool) => (fun (lo : S34 × List Int × Int) => (fun (hi : S34 × List Int × Int) => (⟨a.1, b.1, lo.1, hi.1⟩, hi.2.1, hi.2.2, b.2.2.2)) (valL lo.2.1 lo.2.2)) (valL b.2.1 b.2.2.1)) (numL a.2.1 a.2.2.1 a.2.2.2)) (numL r e odd)
def addsL : Nat → List Int → Int → Bool → List S36 → List S36 × List Int × Int × Bool
 | 0, r, e, odd, acc => (acc, r, e, odd)
 | n + 1, r, e, odd, acc => if (!odd && (e == 0)) = true then addsL n (partL r e odd).2.1 (partL r e odd).2.2.1 (partL r e odd).2.2.2 (acc ++ [(partL r e odd).1]) else (acc, r, e, odd)
def tailL (d : List Int) (a : List S36) (q : List Int × Int × Bool) : List Int × List S36 × Int × Int × Bool :=
 (fun (f : Int × List Int × Int × Bool) => (fun (x : Int × List Int × Int × Bool) => (d, a, f.1, x.1, (!x.2.2.2 && (aDone x.2.1 x.2.2.1 == 0)) && rightB d a f.1 x.1)) (numL f.2.1 f.2.2.1 f.2.2.2)) (numL q.1 q.2.1 q.2.2)
def afterAdds (d : List Int) (q : List S36 × List Int × Int × Bool) : List Int × List S36 × Int × Int × Bool := tailL d q.1 q.2
def afterDrops (q : List Int × List Int × Int × Bool) : List Int × List S36 × Int × Int × Bool :=
 (fun (m : Int × List Int × Int × Bool) => afterAdds q.1 (addsL m.1.toNat m.2.1 m.2.2.1 m.2.2.2 [])) (numL q.2.1 q.2.2.1 q.2.2.2)
def editL (r : List Int) : List Int × List S36 × Int × Int × Bool :=
 (fun (n : Int × List Int × Int × Bool) => afterDrops (dropsL n.1.toNat n.2.1 n.2.2.1 n.2.2.2 [])) (numL r 0 false)
theorem drops_no {n : Nat} {r : List Int} {e : Int} {odd : Bool} {acc : List Int} (h : (!odd && (e == 0)) = false) : dropsL n r e odd acc = (acc, r, e, odd) := by
 cases n <;> unfold dropsL
 ·rfl
 ·rw [if_neg (by rw [h]; decide)]
theorem drops_on {n : Nat} {r r1 : List Int} {e e1 x : Int} {odd o1 : Bool} {acc : List Int} (h : (!odd && (e == 0)) = true) (hx : numL r e odd = (x, r1, e1, o1)) : dropsL (n + 1) r e odd acc = dropsL n r1 e1 o1 (acc ++ [x]) := by
 rw [dropsL, if_pos h, hx]
theorem adds_no {n : Nat} {r : List Int} {e : Int} {odd : Bool} {acc : List S36} (h : (!odd && (e == 0)) = false) : addsL n r e odd acc = (acc, r, e, odd) := by
 cases n <;> unfold addsL
 ·rfl
 ·rw [if_neg (by rw [h]; decide)]
theorem adds_on {n : Nat} {r r1 r2 r3 r4 : List Int} {e e1 e2 e3 e4 x y : Int} {odd o1 o2 : Bool} {lo hi : S34} {acc : List S36} (h : (!odd && (e == 0)) = true) (hx : numL r e odd = (x, r1, e1, o1)) (hy : numL r1 e1 o1 = (y, r2, e2, o2)) (hl : valL r2 e2 = (lo, r3, e3)) (hh : valL r3 e3 = (hi, r4, e4)) : addsL (n + 1) r e odd acc = addsL n r4 e4 o2 (acc ++ [⟨x, y, lo, hi⟩]) := by
 have hp : partL r e odd = (⟨x, y, lo, hi⟩, r4, e4, o2) := by unfold partL; simp only [hx, hy, hl, hh]
 rw [addsL, if_pos h, hp]
theorem numL_range {r : List Int} (hr : Bs r) {e : Int} {odd : Bool} {n : Int} {r1 : List Int} {e1 : Int} {o1 : Bool} (h : numL r e odd = (n, r1, e1, o1)) : 0 ≤ n ∧ n ≤ 999999999 := by
 have hu := aUint_u64 hr e
 unfold numL at h
 split at h
 ·obtain ⟨rfl, -⟩ := Prod.mk.inj h; omega
 ·obtain ⟨rfl, -⟩ := Prod.mk.inj h; unfold u64 at hu; omega
def EdS (w0 ws W : World) (g c R D : Nat) (vd va : Value) (d : List Int) (a : List S36) (fl nx : Int) (r : List Int) (e : Int) (odd : Bool) : Prop :=
 RdS w0 W g c r e odd ∧ Below w0.heap.size w0 W ∧ Kept ws W (GC g c) ∧ (W.heap[D]? = some (.cells #[vd, va, .int .i64 fl, .int .i64 nx] 32 (0, 0)) ∧ ws.heap.size ≤ D) ∧ (W.heap[R]? = some (.cells #[.slice none 0 0, .slice none 0 0, .int .i64 0, .int .i64 0] 32 (0, 0)) ∧ ws.heap.size ≤ R) ∧ D ≠ R ∧ w0.heap.size ≤ ws.heap.size ∧
 (Kd.int .i64).R 3 W w0.heap.size (fun k => ws.heap.size ≤ k) vd d ∧ k36.R 36 W w0.heap.size (fun k => ws.heap.size ≤ k) va a
section
variable {w0 ws W W' : World} {g c R D V : Nat} {vd va v1 : Value} {d d' : List Int} {a a' : List S36} {fl nx : Int} {r r' : List Int} {e e' : Int} {odd odd' : Bool}
theorem EdS.rd (h : EdS w0 ws W g c R D vd va d a fl nx r e odd) : RdS w0 W g c r e odd := h.1
theorem EdS.bl (h : EdS w0 ws W g c R D vd va d a fl nx r e odd) : Below w0.heap.size w0 W := h.2.1
theorem EdS.kp (h : EdS w0 ws W g c R D vd va d a fl nx r e odd) : Kept ws W (GC g c) := h.2.2.1
theorem EdS.dd (h : EdS w0 ws W g c R D vd va d a fl nx r e odd) : W.heap[D]? = some (.cells #[vd, va, .int .i64 fl, .int .i64 nx] 32 (0, 0)) := h.2.2.2.1.1
theorem EdS.dge (h : EdS w0 ws W g c R D vd va d a fl nx r e odd) : ws.heap.size ≤ D := h.2.2.2.1.2
theorem EdS.rr (h : EdS w0 ws W g c R D vd va d a fl nx r e odd) : W.heap[R]? = some (.cells #[.slice none 0 0, .slice none 0 0, .int .i64 0, .int .i64 0] 32 (0, 0)) := h.2.2.2.2.1.1
theorem EdS.rge (h : EdS w0 ws W g c R D vd va d a fl nx r e odd) : ws.heap.size ≤ R := h.2.2.2.2.1.2
theorem EdS.dr (h : EdS w0 ws W g c R D vd va d a fl nx r e odd) : D ≠ R := h.2.2.2.2.2.1
theorem EdS.ge (h : EdS w0 ws W g c R D vd va d a fl nx r e odd) : w0.heap.size ≤ ws.heap.size := h.2.2.2.2.2.2.1
theorem EdS.rowd (h : EdS w0 ws W g c R D vd va d a fl nx r e odd) : (Kd.int .i64).R 3 W w0.heap.size (fun k => ws.heap.size ≤ k) vd d := h.2.2.2.2.2.2.2.1
theorem EdS.rowa (h : EdS w0 ws W g c R D vd va d a fl nx r e odd) : k36.R 36 W w0.heap.size (fun k => ws.heap.size ≤ k) va a := h.2.2.2.2.2.2.2.2
theorem EdS.le (h : EdS w0 ws W g c R D vd va d a fl nx r e odd) : ws.heap.size ≤ W.heap.size := h.kp.1
theorem EdS.below (h : EdS w0 ws W g c R D vd va d a fl nx r e odd) (hb : Below W.heap.size W W') : EdS w0 ws W' g c R D vd va d a fl nx r e odd :=
 ⟨h.rd.below hb, below_then h.bl h.bl.size hb, h.kp.below hb, ⟨(hb.block D (blk_lt h.dd)).trans h.dd, h.dge⟩, ⟨(hb.block R (blk_lt h.rr)).trans h.rr, h.rge⟩, h.dr, h.ge, Kd.R_below h.rowd hb, Kd.R_below h.rowa hb⟩
theorem EdS.drew (h : EdS w0 ws W g c R D vd va d a fl nx r e odd) : EdS w0 ws W.drew g c R D vd va d a fl nx r e odd := h.below (below_drew (Below.refl _ _))
theorem EdS.dgc (h : EdS w0 ws W g c R D vd va d a fl nx r e odd) : ¬ GC g c D := fun x => x.elim (blk_ne h.dd h.rd.1 (by decide)) (blk_ne h.dd h.rd.2.2.1.1 (by decide))
theorem EdS.rgc (h : EdS w0 ws W g c R D vd va d a fl nx r e odd) : ¬ GC g c R := fun x => x.elim (blk_ne h.rr h.rd.1 (by decide)) (blk_ne h.rr h.rd.2.2.1.1 (by decide))
theorem EdS.nd (h : EdS w0 ws W g c R D vd va d a fl nx r e odd) {k t : Nat} {cs : Array Value} (hk : W.heap[k]? = some (.cells cs t (0, 0))) (ht : 3 ≠ t) : some k ≠ vd.ownBlock := Kd.R_ne h.rowd hk ht
theorem EdS.na (h : EdS w0 ws W g c R D vd va d a fl nx r e odd) {k t : Nat} {cs : Array Value} (hk : W.heap[k]? = some (.cells cs t (0, 0))) (ht : 36 ≠ t) : some k ≠ va.ownBlock := Kd.R_ne h.rowa hk ht
theorem rowd_kept {v : Value} {l : List Int} {ok S : Nat → Prop} (h : (Kd.int .i64).R 3 W w0.heap.size ok v l) (hk : Kept W W' S) (hn : ∀ k, v.ownBlock = some k → ¬ S k) : (Kd.int .i64).R 3 W' w0.heap.size ok v l :=
 Kd.R_mono (Kd.R_kept (Kd.R_tight2 rfl h) hk (fun k hk' => hn k hk'.1.symm)) (fun _ hk => hk.2)
theorem rowa_kept {v : Value} {l : List S36} {ok S : Nat → Prop} (h : k36.R 36 W w0.heap.size ok v l) (hk : Kept W W' S) (hn : ∀ k, v.ownBlock = some k → ¬ S k) : k36.R 36 W' w0.heap.size ok v l :=
 Kd.R_mono (Kd.R_kept (Kd.R_tight2 rfl h) hk (fun k hk' => hn k hk'.1.symm)) (fun _ hk => hk.2)
theorem EdS.val (h : EdS w0 ws W g c R D vd va d a fl nx r e odd) (hk : Kept W W' (GC g c)) (hr : RdS w0 W' g c r' e' odd') (hb : Below w0.heap.size w0 W') : EdS w0 ws W' g c R D vd va d a fl nx r' e' odd' :=
 ⟨hr, hb, h.kp.then_ hk (fun _ x => .inl x), ⟨blk_kept h.dd hk h.dgc, h.dge⟩, ⟨blk_kept h.rr hk h.rgc, h.rge⟩, h.dr, h.ge,
  rowd_kept h.rowd hk (fun k hk' hs => hs.elim (fun e => h.nd h.rd.1 (by decide) (e ▸ hk'.symm)) (fun e => h.nd h.rd.2.2.1.1 (by decide) (e ▸ hk'.symm))),
  rowa_kept h.rowa hk (fun k hk' hs => hs.elim (fun e => h.na h.rd.1 (by decide) (e ▸ hk'.symm)) (fun e => h.na h.rd.2.2.1.1 (by decide) (e ▸ hk'.symm)))⟩
theorem EdS.appd (h : EdS w0 ws W g c R D vd va d a fl nx r e odd) (hg : W.grownBy W' vd.ownBlock) (hr : (Kd.int .i64).R 3 W' w0.heap.size (fun k => ws.heap.size ≤ k) v1 d') (hb : Below w0.heap.size w0 W') : EdS w0 ws (W'.setCell ⟨D, 0, none⟩ v1) g c R D v1 va d' a fl nx r e odd := by
 have dd := blk_grown h.dd hg (h.nd h.dd (by decide))
 have rr := blk_grown h.rr hg (h.nd h.rr (by decide))
 have ra := Kd.R_drop (Kd.R_grown (Kd.R_apartR h.rowa h.rowd (by decide)) hg (fun _ hk => hk.2))
 have rd := h.rd.grown hg (h.nd h.rd.1 (by decide)) (h.nd h.rd.2.2.1.1 (by decide))
 exact ⟨rd.far (fun e => h.dgc (.inl e.symm)) (fun e => h.dgc (.inr e.symm)) 0 v1, below_set hb (Nat.le_trans h.ge h.dge), Kept.setCell (p := ⟨D, 0, none⟩) (Kept.of_grown hg h.kp (fun k hk => .inr (h.rowd.1 k hk))) (.inr h.dge) v1, ⟨blk_set dd 0 v1, h.dge⟩,
  ⟨blk_far rr (p := ⟨D, 0, none⟩) (Ne.symm h.dr) v1, h.rge⟩, h.dr, h.ge, Kd.R_set hr dd (by decide) 0 v1, Kd.R_set ra dd (by decide) 0 v1⟩
theorem EdS.appa (h : EdS w0 ws W g c R D vd va d a fl nx r e odd) (hg : W.grownBy W' va.ownBlock) (hr : k36.R 36 W' w0.heap.size (fun k => ws.heap.size ≤ k) v1 a') (hb : Below w0.heap.size w0 W') : EdS w0 ws (W'.setCell ⟨D, 1, none⟩ v1) g c R D vd v1 d a' fl nx r e odd := by
 have dd := blk_grown h.dd hg (h.na h.dd (by decide))
 have rr := blk_grown h.rr hg (h.na h.rr (by decide))
 have ra := Kd.R_drop (Kd.R_grown (Kd.R_apartR h.rowd h.rowa (by decide)) hg (fun _ hk => hk.2))
 have rd := h.rd.grown hg (h.na h.rd.1 (by decide)) (h.na h.rd.2.2.1.1 (by decide))
 exact ⟨rd.far (fun e => h.dgc (.inl e.symm)) (fun e => h.dgc (.inr e.symm)) 1 v1, below_set hb (Nat.le_trans h.ge h.dge), Kept.setCell (p := ⟨D, 1, none⟩) (Kept.of_grown hg h.kp (fun k hk => .inr (h.rowa.1 k hk))) (.inr h.dge) v1, ⟨blk_set dd 1 v1, h.dge⟩,
  ⟨blk_far rr (p := ⟨D, 1, none⟩) (Ne.symm h.dr) v1, h.rge⟩, h.dr, h.ge, Kd.R_set ra dd (by decide) 1 v1, Kd.R_set hr dd (by decide) 1 v1⟩
theorem EdS.far (h : EdS w0 ws W g c R D vd va d a fl nx r e odd) {cs : Array Value} (hV : W.heap[V]? = some (.cells cs 36 (0, 0))) (hn : some V ≠ va.ownBlock) (h0 : ws.heap.size ≤ V) (j : Nat) (v : Value) : EdS w0 ws (W.setCell ⟨V, j, none⟩ v) g c R D vd va d a fl nx r e odd :=
 have hk : Kept W (W.setCell ⟨V, j, none⟩ v) (fun k => k = V) := Kept.setCell (p := ⟨V, j, none⟩) (Kept.refl W (fun k => k = V)) (.inl rfl) v
 ⟨h.rd.far (blk_ne h.rd.1 hV (by decide)) (blk_ne h.rd.2.2.1.1 hV (by decide)) j v, below_set h.bl (Nat.le_trans h.ge h0), Kept.setCell (p := ⟨V, j, none⟩) h.kp (.inr h0) v, ⟨blk_kept h.dd hk (blk_ne h.dd hV (by decide)), h.dge⟩, ⟨blk_kept h.rr hk (blk_ne h.rr hV (by decide)), h.rge⟩, h.dr, h.ge,
  Kd.R_set h.rowd hV (by decide) j v, rowa_kept h.rowa hk (fun k hk' he => hn (he ▸ hk'.symm))⟩
theorem EdS.put3 (h : EdS w0 ws W g c R D vd va d a fl nx r e odd) {cs : Array Value} (hV : W.heap[V]? = some (.cells cs 36 (0, 0))) (hn : some V ≠ va.ownBlock) (h0 : ws.heap.size ≤ V) (i j k : Nat) (x y z : Value) :
  EdS w0 ws (((W.setCell ⟨V, i, none⟩ x).setCell ⟨V, j, none⟩ y).setCell ⟨V, k, none⟩ z) g c R D vd va d a fl nx r e odd :=
 ((h.far hV hn h0 i x).far (blk_set hV i x) hn h0 j y).far (blk_set (blk_set hV i x) j y) hn h0 k z
theorem EdS.new (h : EdS w0 ws W g c R D vd va d a fl nx r e odd) : some W.heap.size ≠ va.ownBlock := fun he => by
 obtain ⟨_, inner, ho, _⟩ := h.rowa
 have := own_lt ho _ he.symm
 omega
theorem EdS.setF (h : EdS w0 ws W g c R D vd va d a fl nx r e odd) (x : Int) : EdS w0 ws (W.setCell ⟨D, 2, none⟩ (.int .i64 x)) g c R D vd va d a x nx r e odd :=
 ⟨h.rd.far (fun e => h.dgc (.inl e.symm)) (fun e => h.dgc (.inr e.symm)) 2 _, below_set h.bl (Nat.le_trans h.ge h.dge), Kept.setCell (p := ⟨D, 2, none⟩) h.kp (.inr h.dge) _, ⟨blk_set h.dd 2 _, h.dge⟩, ⟨blk_far h.rr (p := ⟨D, 2, none⟩) (Ne.symm h.dr) _, h.rge⟩, h.dr, h.ge, Kd.R_set h.rowd h.dd (by decide) 2 _, Kd.R_set h.rowa h.dd (by decide) 2 _⟩
theorem EdS.setX (h : EdS w0 ws W g c R D vd va d a fl nx r e odd) (x : Int) : EdS w0 ws (W.setCell ⟨D, 3, none⟩ (.int .i64 x)) g c R D vd va d a fl x r e odd :=
 ⟨h.rd.far (fun e => h.dgc (.inl e.symm)) (fun e => h.dgc (.inr e.symm)) 3 _, below_set h.bl (Nat.le_trans h.ge h.dge), Kept.setCell (p := ⟨D, 3, none⟩) h.kp (.inr h.dge) _, ⟨blk_set h.dd 3 _, h.dge⟩, ⟨blk_far h.rr (p := ⟨D, 3, none⟩) (Ne.symm h.dr) _, h.rge⟩, h.dr, h.ge, Kd.R_set h.rowd h.dd (by decide) 3 _, Kd.R_set h.rowa h.dd (by decide) 3 _⟩
def EdE (w0 ws W : World) (g c : Nat) (vd va : Value) (d : List Int) (a : List S36) : Prop :=
 Below w0.heap.size w0 W ∧ Kept ws W (GC g c) ∧ (Kd.int .i64).R 3 W w0.heap.size (fun k => ws.heap.size ≤ k) vd d ∧ k36.R 36 W w0.heap.size (fun k => ws.heap.size ≤ k) va a
theorem EdS.out_one {cs : Array Value} (h : EdE w0 ws W g c vd va d a) (hR : W.heap[R]? = some (.cells cs 32 (0, 0))) (h0 : w0.heap.size ≤ ws.heap.size) (h1 : ws.heap.size ≤ R) (j : Nat) (v : Value) : EdE w0 ws (W.setCell ⟨R, j, none⟩ v) g c vd va d a :=
 ⟨below_set h.1 (Nat.le_trans h0 h1), Kept.setCell (p := ⟨R, j, none⟩) h.2.1 (.inr h1) v, Kd.R_set h.2.2.1 hR (by decide) j v, Kd.R_set h.2.2.2 hR (by decide) j v⟩
theorem EdS.out (h : EdS w0 ws W g c R D vd va d a fl nx r e odd) (x0 x1 x2 x3 : Value) : EdE w0 ws ((((W.setCell ⟨R, 0, none⟩ x0).setCell ⟨R, 1, none⟩ x1).setCell ⟨R, 2, none⟩ x2).setCell ⟨R, 3, none⟩ x3) g c vd va d a :=
 have b0 := h.rr
 have b1 := blk_set b0 0 x0
 have b2 := blk_set b1 1 x1
 have b3 := blk_set b2 2 x2
 EdS.out_one (EdS.out_one (EdS.out_one (EdS.out_one ⟨h.bl, h.kp, h.rowd, h.rowa⟩ b0 h.ge h.rge 0 x0) b1 h.ge h.rge 1 x1) b2 h.ge h.rge 2 x2) b3 h.ge h.rge 3 x3
theorem EdS.d0 (h : EdS w0 ws W g c R D vd va d a fl nx r e odd) : W.cell? ⟨D, 0, none⟩ = some vd := (blk_cell h.dd 0).trans rfl
theorem EdS.d1 (h : EdS w0 ws W g c R D vd va d a fl nx r e odd) : W.cell? ⟨D, 1, none⟩ = some va := (blk_cell h.dd 1).trans rfl
theorem EdS.d2 (h : EdS w0 ws W g c R D vd va d a fl nx r e odd) : W.cell? ⟨D, 2, none⟩ = some (.int .i64 fl) := (blk_cell h.dd 2).trans rfl
theorem EdS.d3 (h : EdS w0 ws W g c R D vd va d a fl nx r e odd) : W.cell? ⟨D, 3, none⟩ = some (.int .i64 nx) := (blk_cell h.dd 3).trans rfl
theorem EdS.r0 (h : EdS w0 ws W g c R D vd va d a fl nx r e odd) : W.cell? ⟨R, 0, none⟩ = some (.slice none 0 0) := (blk_cell h.rr 0).trans rfl
theorem EdS.r1 (h : EdS w0 ws W g c R D vd va d a fl nx r e odd) : W.cell? ⟨R, 1, none⟩ = some (.slice none 0 0) := (blk_cell h.rr 1).trans rfl
theorem EdS.r2 (h : EdS w0 ws W g c R D vd va d a fl nx r e odd) : W.cell? ⟨R, 2, none⟩ = some (.int .i64 0) := (blk_cell h.rr 2).trans rfl
theorem EdS.r3 (h : EdS w0 ws W g c R D vd va d a fl nx r e odd) : W.cell? ⟨R, 3, none⟩ = some (.int .i64 0) := (blk_cell h.rr 3).trans rfl
end
def ManEdit.T5 : Bool × List (List Nat × List Nat) := (true, [([], []), ([0], [0]), ([], []), ([2], [2]), ([3], [3]), ([1, 4, 3], [1, 4]), ([0, 1, 2, 3, 4, 5], []), ([6, 5, 5, 0, 1, 2, 3, 4, 5], [5, 6])])
theorem ManEdit.tab5 : rtab .any (opsOf Try.f30 5) = ManEdit.T5 := by kernel_rfl
def ManEdit.T15 : Bool × List (List Nat × List Nat) := (true, [([], []), ([], []), ([1], [1]), ([2], [2]), ([3], [3]), ([4], [4]), ([5], [5]), ([6], [6]), ([7, 6], [6, 7]), ([8, 6], [6, 8]), ([9, 6], [6, 9]), ([10, 6, 6], [6, 10]), ([11, 6], [6, 11]), ([6, 12], [6, 12]), ([13, 11], [13]), ([14], [14]), ([15, 14, 14], [14, 15]), ([14, 16], [14, 16]), ([0, 16, 0], [0]), ([17, 18, 0, 1, 2, 3, 4, 5, 6, 7, 8, 9, 10, 11, 12, 13, 14, 15, 16, 17, 18], [17])])
theorem ManEdit.tab15 : rtab .any (opsOf Try.f30 15) = ManEdit.T15 := by kernel_rfl
set_option maxHeartbeats 16000000 in
set_option maxRecDepth 100000 in
theorem edit_any {w0 w : World} {g c : Nat} {r : List Int} {d : List Int} {a : List S36} {fl nx : Int} {ok : Bool} (h : editL r = (d, a, fl, nx, ok)) (hR : RdS w0 w g c r 0 false) (hB : Below w0.heap.size w0 w) :
  Calls Try.prog 30 #[.pointer (some ⟨g, 0, none⟩)] w fun en w' => ∃ vd va, en = .returned (.tuple #[.agg #[vd, va, .int .i64 fl, .int .i64 nx], .bool ok]) ∧ EdE w0 w w' g c vd va d a := by
 unfold editL at h
 obtain ⟨⟨n, r1, e1, o1⟩, hn⟩ : ∃ z, numL r 0 false = z := ⟨_, rfl⟩
 rw [hn] at h
 simp only at h
 have hrg := numL_range hR.2.2.2.1 hn
 obtain ⟨i0, rfl⟩ : ∃ i : Nat, n = (i : Int) := ⟨n.toNat, by omega⟩
 rw [Int.toNat_natCast] at h
 have HN := Aside0.mk hn; have HQ := Aside0.mk h; have HR := Aside0.mk hR; have HB := Aside0.mk hB
 have HB1 := Aside0.mk (below_alloc (below_alloc (Below.refl w.heap.size w) (.cells #[.slice none 0 0, .slice none 0 0, .int .i64 0, .int .i64 0] 32)) (.cells #[.slice none 0 0, .slice none 0 0, .int .i64 0, .int .i64 0] 32))
 have HY0 : Aside0 (((w.alloc (.cells #[.slice none 0 0, .slice none 0 0, .int .i64 0, .int .i64 0] 32)).alloc (.cells #[.slice none 0 0, .slice none 0 0, .int .i64 0, .int .i64 0] 32)).heap[w.heap.size]? = some (.cells #[.slice none 0 0, .slice none 0 0, .int .i64 0, .int .i64 0] 32 (0, 0))) := ⟨((below_alloc (Below.refl _ (w.alloc (.cells #[.slice none 0 0, .slice none 0 0, .int .i64 0, .int .i64 0] 32))) _).block w.heap.size (by simp)).trans (heap_alloc_new w _)⟩
 have HY1 : Aside0 (((w.alloc (.cells #[.slice none 0 0, .slice none 0 0, .int .i64 0, .int .i64 0] 32)).alloc (.cells #[.slice none 0 0, .slice none 0 0, .int .i64 0, .int .i64 0] 32)).heap[w.heap.size + 1]? = some (.cells #[.slice none 0 0, .slice none 0 0, .int .i64 0, .int .i64 0] 32 (0, 0))) := ⟨by have := heap_alloc_new (w.alloc (.cells #[.slice none 0 0, .slice none 0 0, .int .i64 0, .int .i64 0] 32)) (.cells #[.slice none 0 0, .slice none 0 0, .int .i64 0, .int .i64 0] 32); simpa using this⟩
 clear hn h hR hB
 go_enter Try.func30, Try.ntmps30
 go_wp2_with fail
 refine (number_any HN.out (HR.out.below HB1.out) (below_then HB.out HB.out.size HB1.out)).mono ?_; rintro en w1 ⟨rfl, hr, hb, hk⟩
 have HS : Aside0 (EdS w0 w w1 g c w.heap.size (w.heap.size + 1) (.slice none 0 0) (.slice none 0 0) [] [] 0 0 r1 e1 o1) := ⟨hr, hb, Kept.then_ (Kept.of_below HB1.out (GC g c)) hk (fun _ h => .inl h), ⟨blk_kept HY1.out hk (gc_new HR.out (Nat.le_succ _)), Nat.le_succ _⟩, ⟨blk_kept HY0.out hk (gc_new HR.out (Nat.le_refl _)), Nat.le_refl _⟩, Nat.succ_ne_self _, HB.out.size, Kd.R_nil _ _ _ _ _, Kd.R_nil _ _ _ _ _⟩
 clear hr hb hk HY0 HY1 HB1 HN HR HB
 generalize w.heap.size + 1 = D at HS ⊢
 generalize w.heap.size = R at HS ⊢
 go_upto_block 0 with fail
 go_cut [] (fun wc => ∃ (vd : Value) (dd : List Int) (r : List Int) (e : Int) (odd : Bool), dd.length ≤ 999999999 ∧ Aside0 (EdS w0 w wc g c R D vd (.slice none 0 0) dd [] 0 0 r e odd) ∧ Aside0 (afterDrops (dd, r, e, odd) = (d, a, fl, nx, ok)))
 case first =>
  go_wp2_with fail
  go_loopg [5] i0 (fun gk u wx => ∃ (i : Nat) (vd : Value) (dd : List Int) (r : List Int) (e : Int) (odd : Bool), gk = i ∧ u = .int .i64 (i : Int) ∧ dd.length + i ≤ 999999999 ∧ Aside0 (EdS w0 w wx g c R D vd (.slice none 0 0) dd [] 0 0 r e odd) ∧ Aside0 (afterDrops (dropsL i r e odd dd) = (d, a, fl, nx, ok)))
  case atStart => exact ⟨i0, _, [], r1, e1, o1, rfl, rfl, by simp; omega, HS, HQ⟩
  case round =>
   clear HS HQ hrg
   obtain ⟨i, vd, dd, r, e, odd, hgi, rfl, hal, HS, HQ⟩ := hrel
   obtain ⟨Av, cv, rfl⟩ := Kd.R_slice HS.out.rowd
   rcases i with _ | j
   ·subst hgi
    have k1 : decide ((0 : Int) < ((0 : Nat) : Int)) = false := rfl
    have k2 : decide ((0 : Int) < 0) = false := rfl
    go_wp2_with fail
    go_meet
    case rel => exact ⟨_, dd, r, e, odd, by omega, HS, HQ⟩
   ·subst hgi
    have k1 : decide ((0 : Int) < ((j + 1 : Nat) : Int)) = true := decide_eq_true (by omega)
    have k2 : decide ((0 : Int) < (j : Int) + 1) = true := decide_eq_true (by omega)
    obtain ⟨f, hf⟩ : ∃ f, (!odd && (e == 0)) = f := ⟨_, rfl⟩
    have HF := Aside0.mk hf
    have hq := HQ.out
    cases f
    ·rw [drops_no hf] at hq
     have HQ' := Aside0.mk hq; clear hq hf HQ
     go_wp2_with fail
     refine (fine_any HF.out HS.out.rd).mono ?_; rintro en w2 ⟨rfl, rfl⟩
     go_wp2_with fail
     go_meet
     case rel => exact ⟨_, dd, r, e, odd, by omega, HS, HQ'⟩
    ·obtain ⟨⟨x, r', e', odd'⟩, hx⟩ : ∃ z, numL r e odd = z := ⟨_, rfl⟩
     rw [drops_on hf hx] at hq
     have HN := Aside0.mk hx; have HQ' := Aside0.mk hq; clear hq hf HQ hx
     go_wp2_with fail
     refine (fine_any HF.out HS.out.rd).mono ?_; rintro en w2 ⟨rfl, rfl⟩
     have hS := HS.out
     clear HS HF
     go_upto_region 5 with (fail)
     refine start_ (n := 8) (S := fun w' => True) (ds := []) (bs_ 8 0) (by kernel_rfl) rfl rfl trivial (fun hHeld => ?_)
     refine with_tab ManEdit.tab5 (fun HT_ => ?_)
     have hS := hS.drew
     generalize World.drew _ = w4 at hS hHeld ⊢
     refine pA_ 0 (some 18) (bs_ 8 1) HT_ ?_ ?_ ?_ ?_ ?_
     rotate_left; (intro w'; go_simp; with_reducible rfl); rotate_left; (simp only [PT_]; rfl)
     refine pA_ 2 (some 20) (bs_ 8 5) HT_ ?_ ?_ ?_ ?_ ?_
     rotate_left; (intro w'; go_simp; with_reducible rfl); rotate_left; (simp only [PT_]; rfl)
     refine two_ (i := 1) (j := 3) (Ni := (some 19)) (Nj := (some 21)) (bs_ 8 7) (bs_ 8 13) rfl rfl rfl rfl (two_of HT_.out (by kernel_rfl)) (by decide) (by decide) (fun K hK => ?_) (fun K hK => ?_)
     ·skip
      have hcell := hS.d0
      refine value_ (w1 := ?_) (v := ?_) (by rfl) rfl ?_ ?_
      rotate_left 2; (go_simp; constructor; rfl; rfl)
      refine hK.out _ _ trivial (fun hHeld => ?_)
      clear hK K
      refine norm_ (a' := ?_) ?_ ?_; rotate_left; (show Act.put _ (some 19) _ = _; simp only [PT_]; rfl)
      refine oA_ 3 (some 21) (bs_ 8 15) HT_ (fun K hK => ?_)
      refine goes_ Try.func51 (by kernel_rfl) rfl #[.pointer (some ⟨g, 0, none⟩)] (by rfl) rfl rfl (by first | rfl | (simp only [List.map_toArray, List.map_cons, List.map_nil]; rfl)) ?_
      refine (number_any HN.out hS.rd hS.bl).mono ?_
      rintro en w5 ⟨rfl, hr5, hb5, hk5⟩
      refine ⟨_, rfl, ?_⟩
      replace hS := hS.val hk5 hr5 hb5
      clear hr5 hb5 hk5
      refine hK.out _ _ trivial (fun hHeld => ?_)
      clear hK K
      refine norm_ (a' := ?_) ?_ ?_; rotate_left; (show Act.put _ (some 21) _ = _; simp only [PT_]; rfl)
      refine oA_ 4 (some 22) (bs_ 8 31) HT_ (fun K hK => ?_)
      refine value_ (w1 := ?_) (v := ?_) (by rfl) rfl ?_ ?_
      rotate_left 2; (go_simp; constructor; rfl; rfl)
      refine hK.out _ _ trivial (fun hHeld => ?_)
      clear hK K
      refine norm_ (a' := ?_) ?_ ?_; rotate_left; (show Act.put _ (some 22) _ = _; simp only [PT_]; rfl)
      refine oA_ 5 (some 23) (bs_ 8 63) HT_ (fun K hK => ?_)
      refine Kd.R_append_step (Kd.int .i64) (w0 := w0) w0.heap.size (by rfl) (.tmp 19) (.tmp 22) 30 3 (.int .i64 0) 8 rfl Try.underlying30 info3 rfl (by decide) (by omega) (.slice Av dd.length cv) dd x [.int .i64 x] (fun k => w.heap.size ≤ k) (fun _ => False) rfl rfl rfl (fun _ h => h.elim) (fun _ hk => Nat.le_trans hS.le hk) hS.rowd hS.bl hS.bl.size (by omega) ?_
      intro v1 w6 ho6 hb6 hg6 _
      obtain ⟨A6, c6, hv1⟩ := Kd.R_slice ho6
      rw [show (dd ++ [x]).length = dd.length + 1 by simp] at hv1
      subst hv1
      have hD6 := blk_grown hS.dd hg6 (hS.nd hS.dd (by decide))
      have hd6 : w6.cell? ⟨D, 0, none⟩ = some (.slice Av dd.length cv) := (blk_cell hD6 0).trans rfl
      have hf6 := blk_frozen hD6 0
      have hS6 := hS.appd hg6 ho6 hb6
      refine hK.out _ _ trivial (fun hHeld => ?_)
      clear hK K
      refine norm_ (a' := ?_) ?_ ?_; rotate_left; (show Act.put _ (some 23) _ = _; simp only [PT_]; rfl)
      refine pA_ 6 (some 24) (bs_ 8 127) HT_ ?_ ?_ ?_ ?_ ?_
      rotate_left; (intro w'; go_simp; with_reducible rfl); rotate_left; (simp only [PT_]; rfl)
      refine oA_ 7 none (bs_ 8 255) HT_ (fun K hK => ?_)
      refine skip_ (w1 := ?_) (by rfl) rfl ?_ ?_
      rotate_left
      ·go_simp
       rfl
      refine hK.out _ _ trivial (fun hHeld => ?_)
      clear hK K
      refine done_ (done_of HT_.out (by kernel_rfl)) ?_
      go_wp2_with fail
      go_roundg j
      case measure => omega
      case rel => exact ⟨j, _, dd ++ [x], r', e', odd', rfl, by go_num, by simp; omega, ⟨hS6⟩, HQ'⟩
     ·skip
      refine goes_ Try.func51 (by kernel_rfl) rfl #[.pointer (some ⟨g, 0, none⟩)] (by rfl) rfl rfl (by first | rfl | (simp only [List.map_toArray, List.map_cons, List.map_nil]; rfl)) ?_
      refine (number_any HN.out hS.rd hS.bl).mono ?_
      rintro en w5 ⟨rfl, hr5, hb5, hk5⟩
      refine ⟨_, rfl, ?_⟩
      replace hS := hS.val hk5 hr5 hb5
      clear hr5 hb5 hk5
      refine hK.out _ _ trivial (fun hHeld => ?_)
      clear hK K
      refine norm_ (a' := ?_) ?_ ?_; rotate_left; (show Act.put _ (some 21) _ = _; simp only [PT_]; rfl)
      refine two_ (i := 1) (j := 4) (Ni := (some 19)) (Nj := (some 22)) (bs_ 8 15) (bs_ 8 29) rfl rfl rfl rfl (two_of HT_.out (by kernel_rfl)) (by decide) (by decide) (fun K hK => ?_) (fun K hK => ?_)
      ·skip
       have hcell := hS.d0
       refine value_ (w1 := ?_) (v := ?_) (by rfl) rfl ?_ ?_
       rotate_left 2; (go_simp; constructor; rfl; rfl)
       refine hK.out _ _ trivial (fun hHeld => ?_)
       clear hK K
       refine norm_ (a' := ?_) ?_ ?_; rotate_left; (show Act.put _ (some 19) _ = _; simp only [PT_]; rfl)
       refine oA_ 4 (some 22) (bs_ 8 31) HT_ (fun K hK => ?_)
       refine value_ (w1 := ?_) (v := ?_) (by rfl) rfl ?_ ?_
       rotate_left 2; (go_simp; constructor; rfl; rfl)
       refine hK.out _ _ trivial (fun hHeld => ?_)
       clear hK K
       refine norm_ (a' := ?_) ?_ ?_; rotate_left; (show Act.put _ (some 22) _ = _; simp only [PT_]; rfl)
       refine oA_ 5 (some 23) (bs_ 8 63) HT_ (fun K hK => ?_)
       refine Kd.R_append_step (Kd.int .i64) (w0 := w0) w0.heap.size (by rfl) (.tmp 19) (.tmp 22) 30 3 (.int .i64 0) 8 rfl Try.underlying30 info3 rfl (by decide) (by omega) (.slice Av dd.length cv) dd x [.int .i64 x] (fun k => w.heap.size ≤ k) (fun _ => False) rfl rfl rfl (fun _ h => h.elim) (fun _ hk => Nat.le_trans hS.le hk) hS.rowd hS.bl hS.bl.size (by omega) ?_
       intro v1 w6 ho6 hb6 hg6 _
       obtain ⟨A6, c6, hv1⟩ := Kd.R_slice ho6
       rw [show (dd ++ [x]).length = dd.length + 1 by simp] at hv1
       subst hv1
       have hD6 := blk_grown hS.dd hg6 (hS.nd hS.dd (by decide))
       have hd6 : w6.cell? ⟨D, 0, none⟩ = some (.slice Av dd.length cv) := (blk_cell hD6 0).trans rfl
       have hf6 := blk_frozen hD6 0
       have hS6 := hS.appd hg6 ho6 hb6
       refine hK.out _ _ trivial (fun hHeld => ?_)
       clear hK K
       refine norm_ (a' := ?_) ?_ ?_; rotate_left; (show Act.put _ (some 23) _ = _; simp only [PT_]; rfl)
       refine pA_ 6 (some 24) (bs_ 8 127) HT_ ?_ ?_ ?_ ?_ ?_
       rotate_left; (intro w'; go_simp; with_reducible rfl); rotate_left; (simp only [PT_]; rfl)
       refine oA_ 7 none (bs_ 8 255) HT_ (fun K hK => ?_)
       refine skip_ (w1 := ?_) (by rfl) rfl ?_ ?_
       rotate_left
       ·go_simp
        rfl
       refine hK.out _ _ trivial (fun hHeld => ?_)
       clear hK K
       refine done_ (done_of HT_.out (by kernel_rfl)) ?_
       go_wp2_with fail
       go_roundg j
       case measure => omega
       case rel => exact ⟨j, _, dd ++ [x], r', e', odd', rfl, by go_num, by simp; omega, ⟨hS6⟩, HQ'⟩
      ·skip
       refine value_ (w1 := ?_) (v := ?_) (by rfl) rfl ?_ ?_
       rotate_left 2; (go_simp; constructor; rfl; rfl)
       refine hK.out _ _ trivial (fun hHeld => ?_)
       clear hK K
       refine norm_ (a' := ?_) ?_ ?_; rotate_left; (show Act.put _ (some 22) _ = _; simp only [PT_]; rfl)
       refine oA_ 1 (some 19) (bs_ 8 31) HT_ (fun K hK => ?_)
       have hcell := (hS.below (below_alloc (Below.refl _ _) (.cells #[.int .i64 x] 3))).d0
       refine value_ (w1 := ?_) (v := ?_) (by rfl) rfl ?_ ?_
       rotate_left 2; (go_simp; constructor; rfl; rfl)
       refine hK.out _ _ trivial (fun hHeld => ?_)
       clear hK K
       refine norm_ (a' := ?_) ?_ ?_; rotate_left; (show Act.put _ (some 19) _ = _; simp only [PT_]; rfl)
       refine oA_ 5 (some 23) (bs_ 8 63) HT_ (fun K hK => ?_)
       refine Kd.R_append_step (Kd.int .i64) (w0 := w0) w0.heap.size (by rfl) (.tmp 19) (.tmp 22) 30 3 (.int .i64 0) 8 rfl Try.underlying30 info3 rfl (by decide) (by omega) (.slice Av dd.length cv) dd x [.int .i64 x] (fun k => w.heap.size ≤ k) (fun _ => False) rfl rfl rfl (fun _ h => h.elim) (fun _ hk => Nat.le_trans hS.le hk) hS.rowd hS.bl hS.bl.size (by omega) ?_
       intro v1 w6 ho6 hb6 hg6 _
       obtain ⟨A6, c6, hv1⟩ := Kd.R_slice ho6
       rw [show (dd ++ [x]).length = dd.length + 1 by simp] at hv1
       subst hv1
       have hD6 := blk_grown hS.dd hg6 (hS.nd hS.dd (by decide))
       have hd6 : w6.cell? ⟨D, 0, none⟩ = some (.slice Av dd.length cv) := (blk_cell hD6 0).trans rfl
       have hf6 := blk_frozen hD6 0
       have hS6 := hS.appd hg6 ho6 hb6
       refine hK.out _ _ trivial (fun hHeld => ?_)
       clear hK K
       refine norm_ (a' := ?_) ?_ ?_; rotate_left; (show Act.put _ (some 23) _ = _; simp only [PT_]; rfl)
       refine pA_ 6 (some 24) (bs_ 8 127) HT_ ?_ ?_ ?_ ?_ ?_
       rotate_left; (intro w'; go_simp; with_reducible rfl); rotate_left; (simp only [PT_]; rfl)
       refine oA_ 7 none (bs_ 8 255) HT_ (fun K hK => ?_)
       refine skip_ (w1 := ?_) (by rfl) rfl ?_ ?_
       rotate_left
       ·go_simp
        rfl
       refine hK.out _ _ trivial (fun hHeld => ?_)
       clear hK K
       refine done_ (done_of HT_.out (by kernel_rfl)) ?_
       go_wp2_with fail
       go_roundg j
       case measure => omega
       case rel => exact ⟨j, _, dd ++ [x], r', e', odd', rfl, by go_num, by simp; omega, ⟨hS6⟩, HQ'⟩
 case rest =>
  clear HS HQ hrg
  obtain ⟨vd, dd, r, e, odd, hdl, HS, HQ⟩ := hcut
  obtain ⟨Av, cv, rfl⟩ := Kd.R_slice HS.out.rowd
  obtain ⟨⟨m, r2, e2, o2⟩, hm⟩ : ∃ z, numL r e odd = z := ⟨_, rfl⟩
  have hq : afterAdds dd (addsL m.toNat r2 e2 o2 []) = (d, a, fl, nx, ok) := by have h := HQ.out; unfold afterDrops at h; simpa only [hm] using h
  have hrg := numL_range HS.out.rd.2.2.2.1 hm
  obtain ⟨m0, rfl⟩ : ∃ i : Nat, m = (i : Int) := ⟨m.toNat, by omega⟩
  rw [Int.toNat_natCast] at hq
  have HM := Aside0.mk hm; have HQ2 := Aside0.mk hq; clear hm hq HQ
  go_wp2_with fail
  refine (number_any HM.out HS.out.rd HS.out.bl).mono ?_; rintro en w2 ⟨rfl, hr2, hb2, hk2⟩
  have HS2 := Aside0.mk (HS.out.val hk2 hr2 hb2); clear hr2 hb2 hk2 HS HM
  go_upto_block 2 with fail
  go_cut [] (fun wc => ∃ (va : Value) (aa : List S36) (r : List Int) (e : Int) (odd : Bool), aa.length ≤ 999999999 ∧ Aside0 (EdS w0 w wc g c R D (.slice Av dd.length cv) va dd aa 0 0 r e odd) ∧ Aside0 (afterAdds dd (aa, r, e, odd) = (d, a, fl, nx, ok)))
  case first =>
   go_wp2_with fail
   go_loopg [6] m0 (fun gk u wx => ∃ (i : Nat) (va : Value) (aa : List S36) (r : List Int) (e : Int) (odd : Bool), gk = i ∧ u = .int .i64 (i : Int) ∧ aa.length + i ≤ 999999999 ∧ Aside0 (EdS w0 w wx g c R D (.slice Av dd.length cv) va dd aa 0 0 r e odd) ∧ Aside0 (afterAdds dd (addsL i r e odd aa) = (d, a, fl, nx, ok)))
   case atStart => exact ⟨m0, _, [], r2, e2, o2, rfl, rfl, by simp; omega, HS2, HQ2⟩
   case round =>
    clear HS2 HQ2 hrg
    obtain ⟨i, va, aa, r, e, odd, hgi, rfl, hal, HS, HQ⟩ := hrel
    obtain ⟨Aw, cw, rfl⟩ := Kd.R_slice HS.out.rowa
    rcases i with _ | j
    ·subst hgi
     have k1 : decide ((0 : Int) < ((0 : Nat) : Int)) = false := rfl
     have k2 : decide ((0 : Int) < 0) = false := rfl
     go_wp2_with fail
     go_meet
     case rel => exact ⟨_, aa, r, e, odd, by omega, HS, HQ⟩
    ·subst hgi
     have k1 : decide ((0 : Int) < ((j + 1 : Nat) : Int)) = true := decide_eq_true (by omega)
     have k2 : decide ((0 : Int) < (j : Int) + 1) = true := decide_eq_true (by omega)
     obtain ⟨f, hf⟩ : ∃ f, (!odd && (e == 0)) = f := ⟨_, rfl⟩
     have HF := Aside0.mk hf
     have hq := HQ.out
     cases f
     ·rw [adds_no hf] at hq
      have HQ' := Aside0.mk hq; clear hq hf HQ
      go_wp2_with fail
      refine (fine_any HF.out HS.out.rd).mono ?_; rintro en w3 ⟨rfl, rfl⟩
      go_wp2_with fail
      go_meet
      case rel => exact ⟨_, aa, r, e, odd, by omega, HS, HQ'⟩
     ·obtain ⟨⟨x, ra, ea, oa⟩, hx⟩ : ∃ z, numL r e odd = z := ⟨_, rfl⟩
      obtain ⟨⟨y, rb, eb, ob⟩, hy⟩ : ∃ z, numL ra ea oa = z := ⟨_, rfl⟩
      obtain ⟨⟨lo, rc, ec⟩, hlo⟩ : ∃ z, valL rb eb = z := ⟨_, rfl⟩
      obtain ⟨⟨hi, rz, ed⟩, hhi⟩ : ∃ z, valL rc ec = z := ⟨_, rfl⟩
      rw [adds_on hf hx hy hlo hhi] at hq
      have HX := Aside0.mk hx; have HY := Aside0.mk hy; have HL := Aside0.mk hlo; have HH := Aside0.mk hhi; have HQ' := Aside0.mk hq; clear hq hf HQ hx hy hlo hhi
      go_wp2_with fail
      refine (fine_any HF.out HS.out.rd).mono ?_; rintro en w3 ⟨rfl, rfl⟩
      clear HF k1 k2
      go_wp2_with fail
      refine (number_any HX.out HS.out.rd HS.out.bl).mono ?_; rintro en w4 ⟨rfl, hr, hb, hk⟩
      have HS4 := Aside0.mk (HS.out.val hk hr hb); clear hr hb hk HS HX
      go_wp2_with fail
      refine (number_any HY.out HS4.out.rd HS4.out.bl).mono ?_; rintro en w5 ⟨rfl, hr, hb, hk⟩
      have HS5 := Aside0.mk (HS4.out.val hk hr hb); clear hr hb hk HS4 HY
      have HV := Aside0.mk (heap_alloc_new w5 (.cells #[.int .i64 x, .int .i64 y, .bool false, .int .i64 0, .string ⟨#[]⟩, .bool false, .int .i64 0, .string ⟨#[]⟩] 36)); have HVN := Aside0.mk HS5.out.new; have HVG := Aside0.mk HS5.out.le; have HS6 := Aside0.mk (HS5.out.below (below_alloc (Below.refl _ _) (.cells #[.int .i64 x, .int .i64 y, .bool false, .int .i64 0, .string ⟨#[]⟩, .bool false, .int .i64 0, .string ⟨#[]⟩] 36)))
      go_wp2_with fail
      generalize w5.heap.size = V at HV HVN HVG ⊢
      generalize World.alloc w5 _ = w6 at HV HS6 ⊢
      clear HS5
      refine (value_any HL.out HS6.out.rd HS6.out.bl).mono ?_; rintro en w7 ⟨rfl, hr, hb, hk⟩
      have hgv : ¬ GC g c V := fun z => z.elim (blk_ne HV.out HS6.out.rd.1 (by decide)) (blk_ne HV.out HS6.out.rd.2.2.1.1 (by decide))
      replace HV := Aside0.mk (blk_kept HV.out hk hgv)
      have HS7 := Aside0.mk (HS6.out.val hk hr hb); clear hr hb hk HS6 hgv
      have z2 : _ := (blk_cell HV.out 2)
      have z3 : _ := (blk_cell HV.out 3)
      have z4 : _ := (blk_cell HV.out 4)
      have zf2 := blk_frozen HV.out 2
      have zf3 := blk_frozen HV.out 3
      have zf4 := blk_frozen HV.out 4
      simp at z2 z3 z4
      go_wp2_with fail
      have HS8 := Aside0.mk (HS7.out.put3 HV.out HVN.out HVG.out 2 3 4 (.bool lo.f0) (.int .i64 lo.f1) (.string lo.f2))
      have HV' : Aside0 ((((w7.setCell ⟨V, 2, none⟩ (.bool lo.f0)).setCell ⟨V, 3, none⟩ (.int .i64 lo.f1)).setCell ⟨V, 4, none⟩ (.string lo.f2)).heap[V]? = some (.cells #[.int .i64 x, .int .i64 y, .bool lo.f0, .int .i64 lo.f1, .string lo.f2, .bool false, .int .i64 0, .string ⟨#[]⟩] 36 (0, 0))) := ⟨blk_set (blk_set (blk_set HV.out 2 _) 3 _) 4 _⟩
      clear HV HS7 z2 z3 z4 zf2 zf3 zf4
      have HV := HV'; clear HV'
      generalize (((w7.setCell ⟨V, 2, none⟩ (.bool lo.f0)).setCell ⟨V, 3, none⟩ (.int .i64 lo.f1)).setCell ⟨V, 4, none⟩ (.string lo.f2)) = w8 at HS8 HV ⊢
      refine (value_any HH.out HS8.out.rd HS8.out.bl).mono ?_; rintro en w9 ⟨rfl, hr, hb, hk⟩
      have hgv : ¬ GC g c V := fun z => z.elim (blk_ne HV.out HS8.out.rd.1 (by decide)) (blk_ne HV.out HS8.out.rd.2.2.1.1 (by decide))
      replace HV := Aside0.mk (blk_kept HV.out hk hgv)
      have HS9 := Aside0.mk (HS8.out.val hk hr hb); clear hr hb hk HS8 hgv
      have z5 : _ := (blk_cell HV.out 5)
      have z6 : _ := (blk_cell HV.out 6)
      have z7 : _ := (blk_cell HV.out 7)
      have zf5 := blk_frozen HV.out 5
      have zf6 := blk_frozen HV.out 6
      have zf7 := blk_frozen HV.out 7
      simp at z5 z6 z7
      go_upto_region 12 with (fail)
      have HS10 := Aside0.mk (HS9.out.put3 HV.out HVN.out HVG.out 5 6 7 (.bool hi.f0) (.int .i64 hi.f1) (.string hi.f2))
      have HV' : Aside0 ((((w9.setCell ⟨V, 5, none⟩ (.bool hi.f0)).setCell ⟨V, 6, none⟩ (.int .i64 hi.f1)).setCell ⟨V, 7, none⟩ (.string hi.f2)).heap[V]? = some (.cells #[.int .i64 x, .int .i64 y, .bool lo.f0, .int .i64 lo.f1, .string lo.f2, .bool hi.f0, .int .i64 hi.f1, .string hi.f2] 36 (0, 0))) := ⟨blk_set (blk_set (blk_set HV.out 5 _) 6 _) 7 _⟩
      clear HV HS9 z5 z6 z7 zf5 zf6 zf7
      have HV := HV'; clear HV'
      generalize (((w9.setCell ⟨V, 5, none⟩ (.bool hi.f0)).setCell ⟨V, 6, none⟩ (.int .i64 hi.f1)).setCell ⟨V, 7, none⟩ (.string hi.f2)) = w10 at HS10 HV ⊢
      have q1 := HS10.out.d1
      have z0 : w10.cell? ⟨V, 0, none⟩ = some (.int .i64 x) := (blk_cell HV.out 0).trans rfl
      have z1 : w10.cell? ⟨V, 1, none⟩ = some (.int .i64 y) := (blk_cell HV.out 1).trans rfl
      have z2 : w10.cell? ⟨V, 2, none⟩ = some (.bool lo.f0) := (blk_cell HV.out 2).trans rfl
      have z3 : w10.cell? ⟨V, 3, none⟩ = some (.int .i64 lo.f1) := (blk_cell HV.out 3).trans rfl
      have z4 : w10.cell? ⟨V, 4, none⟩ = some (.string lo.f2) := (blk_cell HV.out 4).trans rfl
      have z5 : w10.cell? ⟨V, 5, none⟩ = some (.bool hi.f0) := (blk_cell HV.out 5).trans rfl
      have z6 : w10.cell? ⟨V, 6, none⟩ = some (.int .i64 hi.f1) := (blk_cell HV.out 6).trans rfl
      have z7 : w10.cell? ⟨V, 7, none⟩ = some (.string hi.f2) := (blk_cell HV.out 7).trans rfl
      clear HVN HVG HL HH
      go_wp2_with (at_builtin; refine Kd.R_append k36 (w0 := w0) w0.heap.size rfl (.tmp 47) (.tmp 49) 24 36 (.agg #[(.int .i64 0), (.int .i64 0), (.bool false), (.int .i64 0), (.string ⟨#[]⟩), (.bool false), (.int .i64 0), (.string ⟨#[]⟩)]) 80 rfl Try.underlying24 info36 rfl (by decide) (by omega) (.slice Aw aa.length cw) aa ⟨x, y, lo, hi⟩ [.int .i64 x, .int .i64 y, .bool lo.f0, .int .i64 lo.f1, .string lo.f2, .bool hi.f0, .int .i64 hi.f1, .string hi.f2] (fun k => w.heap.size ≤ k) (fun _ => False) rfl rfl (k36_mkM _ _ _ _) (fun _ h => h.elim) (fun _ hk => Nat.le_trans HS10.out.le hk) HS10.out.rowa HS10.out.bl HS10.out.bl.size (by omega) ?_; intro v1 w11 ho6 hb6 hg6 _; obtain ⟨A6, c6, hv1⟩ := Kd.R_slice ho6; rw [show (aa ++ [(⟨x, y, lo, hi⟩ : S36)]).length = aa.length + 1 by simp] at hv1; subst hv1; have hD6 := blk_grown HS10.out.dd hg6 (HS10.out.na HS10.out.dd (by decide)); have hd6 : w11.cell? ⟨D, 1, none⟩ = some (.slice Aw aa.length cw) := (blk_cell hD6 1).trans rfl; have hf6 := blk_frozen hD6 1; have HS11 := Aside0.mk (HS10.out.appa hg6 ho6 hb6); clear ho6 hb6 hg6 HS10 hD6)
      go_roundg j
      case measure => omega
      case rel => exact ⟨j, _, aa ++ [⟨x, y, lo, hi⟩], rz, ed, ob, rfl, by go_num, by simp; omega, HS11, HQ'⟩
  case rest =>
   clear HS2 HQ2 hrg hdl
   obtain ⟨va, aa, r, e, odd, hal, HS, HQ⟩ := hcut
   obtain ⟨Aw, cw, rfl⟩ := Kd.R_slice HS.out.rowa
   obtain ⟨⟨x, r2, e2, o2⟩, hx⟩ : ∃ z, numL r e odd = z := ⟨_, rfl⟩
   obtain ⟨⟨y, r3, e3, o3⟩, hy⟩ : ∃ z, numL r2 e2 o2 = z := ⟨_, rfl⟩
   obtain ⟨b, hb⟩ : ∃ b, rightB dd aa x y = b := ⟨_, rfl⟩
   obtain ⟨dn, hdn⟩ : ∃ dn, aDone r3 e3 = dn := ⟨_, rfl⟩
   have hq : (dd, aa, x, y, (!o3 && (dn == 0)) && b) = (d, a, fl, nx, ok) := by have h := HQ.out; unfold afterAdds tailL at h; simpa only [hx, hy, hb, hdn] using h
   obtain ⟨rfl, rfl, rfl, rfl, hok⟩ := by simpa only [Prod.mk.injEq] using hq
   have HOK := Aside0.mk hok
   clear hok hq HQ
   have HX := Aside0.mk hx; have HY := Aside0.mk hy; have HRB := Aside0.mk hb; have HDN := Aside0.mk hdn; clear hx hy hb hdn
   go_wp2_with fail
   refine (number_any HX.out HS.out.rd HS.out.bl).mono ?_; rintro en w2 ⟨rfl, hr, hb, hk⟩
   have HS2 := Aside0.mk (HS.out.val hk hr hb); clear hr hb hk HS HX
   have q0 := HS2.out.d0; have q1 := HS2.out.d1; have q2 := HS2.out.d2; have q3 := HS2.out.d3
   have p2 := blk_frozen HS2.out.dd 2; have p3 := blk_frozen HS2.out.dd 3
   go_wp2_with fail
   have HS3 := Aside0.mk (HS2.out.setF x)
   clear HS2 q0 q1 q2 q3 p2 p3
   refine (number_any HY.out HS3.out.rd HS3.out.bl).mono ?_; rintro en w4 ⟨rfl, hr, hb, hk⟩
   have HS4 := Aside0.mk (HS3.out.val hk hr hb); clear hr hb hk HS3 HY
   have q0 := HS4.out.d0; have q1 := HS4.out.d1; have q2 := HS4.out.d2; have q3 := HS4.out.d3
   have p2 := blk_frozen HS4.out.dd 2; have p3 := blk_frozen HS4.out.dd 3
   go_upto_region 15 with (fail)
   have hS := HS4.out.setX y
   clear HS4 q0 q1 q2 q3 p2 p3
   generalize w4.setCell ⟨D, 3, none⟩ (.int .i64 y) = w5 at hS ⊢
   cases o3
   ·by_cases hz : dn = 0
    ·subst hz
     have hz1 : ((0 : Int) == 0) = true := rfl
     have hok : b = ok := by simpa using HOK.out
     subst hok
     clear HOK
     refine start_ (n := 20) (S := fun w' => True) (ds := []) (bs_ 20 0) (by kernel_rfl) rfl rfl trivial (fun hHeld => ?_)
     refine with_tab ManEdit.tab15 (fun HT_ => ?_)
     have hS := hS.drew
     generalize World.drew _ = w4 at hS hHeld ⊢
     refine pA_ 1 (some 59) (bs_ 20 2) HT_ ?_ ?_ ?_ ?_ ?_
     rotate_left; (intro w'; go_simp; with_reducible rfl); rotate_left; (simp only [PT_]; rfl)
     refine pA_ 2 (some 60) (bs_ 20 6) HT_ ?_ ?_ ?_ ?_ ?_
     rotate_left; (intro w'; go_simp; with_reducible rfl); rotate_left; (simp only [PT_]; rfl)
     refine pA_ 3 (some 61) (bs_ 20 14) HT_ ?_ ?_ ?_ ?_ ?_
     rotate_left; (intro w'; go_simp; with_reducible rfl); rotate_left; (simp only [PT_]; rfl)
     refine two_ (i := 0) (j := 4) (Ni := (some 58)) (Nj := (some 62)) (bs_ 20 15) (bs_ 20 30) rfl rfl rfl rfl (two_of HT_.out (by kernel_rfl)) (by decide) (by decide) (fun K hK => ?_) (fun K hK => ?_)
     ·skip
      have q0 := hS.d0; have q1 := hS.d1; have q2 := hS.d2; have q3 := hS.d3
      refine value_ (w1 := ?_) (v := ?_) (by rfl) rfl ?_ ?_
      rotate_left 2; (go_simp; constructor; rfl; rfl)
      clear q0 q1 q2 q3
      refine hK.out _ _ trivial (fun hHeld => ?_)
      clear hK K
      refine norm_ (a' := ?_) ?_ ?_; rotate_left; (show Act.put _ (some 58) _ = _; simp only [PT_]; rfl)
      refine oA_ 4 (some 62) (bs_ 20 31) HT_ (fun K hK => ?_)
      have q0 := hS.rd.c0; have q1 := hS.rd.c1
      refine value_ (w1 := ?_) (v := ?_) (by rfl) rfl ?_ ?_
      rotate_left 2; (go_simp; constructor; rfl; rfl)
      clear q0 q1
      refine hK.out _ _ trivial (fun hHeld => ?_)
      clear hK K
      refine norm_ (a' := ?_) ?_ ?_; rotate_left; (show Act.put _ (some 62) _ = _; simp only [PT_]; rfl)
      refine pA_ 5 (some 63) (bs_ 20 63) HT_ ?_ ?_ ?_ ?_ ?_
      rotate_left; (intro w'; go_simp; with_reducible rfl); rotate_left; (simp only [PT_]; rfl)
      refine pA_ 6 (some 64) (bs_ 20 127) HT_ ?_ ?_ ?_ ?_ ?_
      rotate_left; (intro w'; go_simp; with_reducible rfl); rotate_left; (simp only [PT_]; rfl)
      refine pA_ 7 (some 65) (bs_ 20 255) HT_ ?_ ?_ ?_ ?_ ?_
      rotate_left; (intro w'; go_simp; with_reducible rfl); rotate_left; (simp only [PT_]; rfl)
      refine pA_ 8 (some 66) (bs_ 20 511) HT_ ?_ ?_ ?_ ?_ ?_
      rotate_left; (intro w'; go_simp; with_reducible rfl); rotate_left; (simp only [PT_]; rfl)
      refine pA_ 9 (some 67) (bs_ 20 1023) HT_ ?_ ?_ ?_ ?_ ?_
      rotate_left; (intro w'; go_simp; with_reducible rfl); rotate_left; (simp only [PT_]; rfl)
      refine oA_ 10 (some 68) (bs_ 20 2047) HT_ (fun K hK => ?_)
      have q0 := hS.rd.c0; have q1 := hS.rd.c1
      refine value_ (w1 := ?_) (v := ?_) (by rfl) rfl ?_ ?_
      rotate_left 2; (go_simp; constructor; rfl; rfl)
      clear q0 q1
      refine hK.out _ _ trivial (fun hHeld => ?_)
      clear hK K
      refine norm_ (a' := ?_) ?_ ?_; rotate_left; (show Act.put _ (some 68) _ = _; simp only [PT_]; rfl)
      refine oA_ 11 (some 69) (bs_ 20 4095) HT_ (fun K hK => ?_)
      refine goes_ Try.func54 (by kernel_rfl) rfl #[.pointer (some ⟨c, 0, none⟩)] (by rfl) rfl rfl (by first | rfl | (simp only [List.map_toArray, List.map_cons, List.map_nil]; rfl)) ?_
      refine (done_any hS.rd.2.2 hS.bl).mono ?_
      rintro en w6 ⟨rfl, hc6, hb6, hk6⟩
      refine ⟨_, rfl, ?_⟩
      rw [HDN.out]
      replace hS := hS.val (Kept.gc (g := g) hk6) (hS.rd.on hk6 hc6) hb6
      clear hc6 hb6 hk6
      refine hK.out _ _ trivial (fun hHeld => ?_)
      clear hK K
      refine norm_ (a' := ?_) ?_ ?_; rotate_left; (show Act.put _ (some 69) _ = _; simp only [PT_]; rfl)
      refine pA_ 12 (some 70) (bs_ 20 8191) HT_ ?_ ?_ ?_ ?_ ?_
      rotate_left; (intro w'; go_simp; with_reducible rfl); rotate_left; (simp only [PT_]; rfl)
      refine pA_ 13 (some 71) (bs_ 20 16383) HT_ ?_ ?_ ?_ ?_ ?_
      rotate_left; (intro w'; go_simp; with_reducible rfl); rotate_left; (simp only [PT_]; rfl)
      refine pA_ 14 (some 72) (bs_ 20 32767) HT_ ?_ ?_ ?_ ?_ ?_
      rotate_left; (intro w'; go_simp; with_reducible rfl); rotate_left; (simp only [PT_]; rfl)
      refine oA_ 15 (some 73) (bs_ 20 65535) HT_ (fun K hK => ?_)
      have q0 := hS.d0; have q1 := hS.d1; have q2 := hS.d2; have q3 := hS.d3
      refine value_ (w1 := ?_) (v := ?_) (by rfl) rfl ?_ ?_
      rotate_left 2; (go_simp; constructor; rfl; rfl)
      clear q0 q1 q2 q3
      refine hK.out _ _ trivial (fun hHeld => ?_)
      clear hK K
      refine norm_ (a' := ?_) ?_ ?_; rotate_left; (show Act.put _ (some 73) _ = _; simp only [PT_]; rfl)
      refine oA_ 16 (some 74) (bs_ 20 131071) HT_ (fun K hK => ?_)
      refine goes_ Try.func18 (by kernel_rfl) rfl #[.agg #[.slice Av dd.length cv, .slice Aw aa.length cw, .int .i64 x, .int .i64 y]] (by rfl) rfl rfl (by first | rfl | (simp only [List.map_toArray, List.map_cons, List.map_nil]; rfl)) ?_
      refine (manifest_right.calls Av cv dd Aw cw aa x y b _ (Kd.R_reads' hS.rowd).2.2 (Kd.R_reads' hS.rowd).2.1 (Kd.R_reads' hS.rowa).2.2 (Kd.R_reads' hS.rowa).2.1 (by unfold manifest_right.f; rw [HRB.out])).mono ?_
      rintro en w7 ⟨rfl, hb7⟩
      refine ⟨_, rfl, ?_⟩
      replace hS := hS.below hb7
      clear hb7
      refine hK.out _ _ trivial (fun hHeld => ?_)
      clear hK K
      refine norm_ (a' := ?_) ?_ ?_; rotate_left; (show Act.put _ (some 74) _ = _; simp only [PT_]; rfl)
      refine pA_ 17 (some 75) (bs_ 20 262143) HT_ ?_ ?_ ?_ ?_ ?_
      rotate_left; (intro w'; go_simp; with_reducible rfl); rotate_left; (simp only [PT_]; rfl)
      refine oA_ 18 none (bs_ 20 524287) HT_ (fun K hK => ?_)
      have t0 := hS.r0; have t1 := hS.r1; have t2 := hS.r2; have t3 := hS.r3; have s0 := blk_frozen hS.rr 0; have s1 := blk_frozen hS.rr 1; have s2 := blk_frozen hS.rr 2; have s3 := blk_frozen hS.rr 3
      refine skip_ (w1 := ?_) (by rfl) rfl ?_ ?_
      rotate_left
      ·go_simp
       rfl
      refine hK.out _ _ trivial (fun hHeld => ?_)
      clear hK K
      refine pA_ 19 (some 3) (bs_ 20 1048575) HT_ ?_ ?_ ?_ ?_ ?_
      rotate_left; (intro w'; go_simp; with_reducible rfl); rotate_left; (simp only [PT_]; rfl)
      refine done_ (done_of HT_.out (by kernel_rfl)) ?_
      go_wp2_with fail
      refine bodyPost_ret (v := .tuple #[.agg #[.slice Av dd.length cv, .slice Aw aa.length cw, .int .i64 x, .int .i64 y], .bool b]) ?_ rfl ⟨_, _, rfl, hS.out _ _ _ _⟩
      simp [results, Try.results30, go_sem, *]
     ·skip
      have q0 := hS.rd.c0; have q1 := hS.rd.c1
      refine value_ (w1 := ?_) (v := ?_) (by rfl) rfl ?_ ?_
      rotate_left 2; (go_simp; constructor; rfl; rfl)
      clear q0 q1
      refine hK.out _ _ trivial (fun hHeld => ?_)
      clear hK K
      refine norm_ (a' := ?_) ?_ ?_; rotate_left; (show Act.put _ (some 62) _ = _; simp only [PT_]; rfl)
      refine pA_ 5 (some 63) (bs_ 20 62) HT_ ?_ ?_ ?_ ?_ ?_
      rotate_left; (intro w'; go_simp; with_reducible rfl); rotate_left; (simp only [PT_]; rfl)
      refine pA_ 6 (some 64) (bs_ 20 126) HT_ ?_ ?_ ?_ ?_ ?_
      rotate_left; (intro w'; go_simp; with_reducible rfl); rotate_left; (simp only [PT_]; rfl)
      refine pA_ 7 (some 65) (bs_ 20 254) HT_ ?_ ?_ ?_ ?_ ?_
      rotate_left; (intro w'; go_simp; with_reducible rfl); rotate_left; (simp only [PT_]; rfl)
      refine pA_ 8 (some 66) (bs_ 20 510) HT_ ?_ ?_ ?_ ?_ ?_
      rotate_left; (intro w'; go_simp; with_reducible rfl); rotate_left; (simp only [PT_]; rfl)
      refine pA_ 9 (some 67) (bs_ 20 1022) HT_ ?_ ?_ ?_ ?_ ?_
      rotate_left; (intro w'; go_simp; with_reducible rfl); rotate_left; (simp only [PT_]; rfl)
      refine two_ (i := 0) (j := 10) (Ni := (some 58)) (Nj := (some 68)) (bs_ 20 1023) (bs_ 20 2046) rfl rfl rfl rfl (two_of HT_.out (by kernel_rfl)) (by decide) (by decide) (fun K hK => ?_) (fun K hK => ?_)
      ·skip
       have q0 := hS.d0; have q1 := hS.d1; have q2 := hS.d2; have q3 := hS.d3
       refine value_ (w1 := ?_) (v := ?_) (by rfl) rfl ?_ ?_
       rotate_left 2; (go_simp; constructor; rfl; rfl)
       clear q0 q1 q2 q3
       refine hK.out _ _ trivial (fun hHeld => ?_)
       clear hK K
       refine norm_ (a' := ?_) ?_ ?_; rotate_left; (show Act.put _ (some 58) _ = _; simp only [PT_]; rfl)
       refine oA_ 10 (some 68) (bs_ 20 2047) HT_ (fun K hK => ?_)
       have q0 := hS.rd.c0; have q1 := hS.rd.c1
       refine value_ (w1 := ?_) (v := ?_) (by rfl) rfl ?_ ?_
       rotate_left 2; (go_simp; constructor; rfl; rfl)
       clear q0 q1
       refine hK.out _ _ trivial (fun hHeld => ?_)
       clear hK K
       refine norm_ (a' := ?_) ?_ ?_; rotate_left; (show Act.put _ (some 68) _ = _; simp only [PT_]; rfl)
       refine oA_ 11 (some 69) (bs_ 20 4095) HT_ (fun K hK => ?_)
       refine goes_ Try.func54 (by kernel_rfl) rfl #[.pointer (some ⟨c, 0, none⟩)] (by rfl) rfl rfl (by first | rfl | (simp only [List.map_toArray, List.map_cons, List.map_nil]; rfl)) ?_
       refine (done_any hS.rd.2.2 hS.bl).mono ?_
       rintro en w6 ⟨rfl, hc6, hb6, hk6⟩
       refine ⟨_, rfl, ?_⟩
       rw [HDN.out]
       replace hS := hS.val (Kept.gc (g := g) hk6) (hS.rd.on hk6 hc6) hb6
       clear hc6 hb6 hk6
       refine hK.out _ _ trivial (fun hHeld => ?_)
       clear hK K
       refine norm_ (a' := ?_) ?_ ?_; rotate_left; (show Act.put _ (some 69) _ = _; simp only [PT_]; rfl)
       refine pA_ 12 (some 70) (bs_ 20 8191) HT_ ?_ ?_ ?_ ?_ ?_
       rotate_left; (intro w'; go_simp; with_reducible rfl); rotate_left; (simp only [PT_]; rfl)
       refine pA_ 13 (some 71) (bs_ 20 16383) HT_ ?_ ?_ ?_ ?_ ?_
       rotate_left; (intro w'; go_simp; with_reducible rfl); rotate_left; (simp only [PT_]; rfl)
       refine pA_ 14 (some 72) (bs_ 20 32767) HT_ ?_ ?_ ?_ ?_ ?_
       rotate_left; (intro w'; go_simp; with_reducible rfl); rotate_left; (simp only [PT_]; rfl)
       refine oA_ 15 (some 73) (bs_ 20 65535) HT_ (fun K hK => ?_)
       have q0 := hS.d0; have q1 := hS.d1; have q2 := hS.d2; have q3 := hS.d3
       refine value_ (w1 := ?_) (v := ?_) (by rfl) rfl ?_ ?_
       rotate_left 2; (go_simp; constructor; rfl; rfl)
       clear q0 q1 q2 q3
       refine hK.out _ _ trivial (fun hHeld => ?_)
       clear hK K
       refine norm_ (a' := ?_) ?_ ?_; rotate_left; (show Act.put _ (some 73) _ = _; simp only [PT_]; rfl)
       refine oA_ 16 (some 74) (bs_ 20 131071) HT_ (fun K hK => ?_)
       refine goes_ Try.func18 (by kernel_rfl) rfl #[.agg #[.slice Av dd.length cv, .slice Aw aa.length cw, .int .i64 x, .int .i64 y]] (by rfl) rfl rfl (by first | rfl | (simp only [List.map_toArray, List.map_cons, List.map_nil]; rfl)) ?_
       refine (manifest_right.calls Av cv dd Aw cw aa x y b _ (Kd.R_reads' hS.rowd).2.2 (Kd.R_reads' hS.rowd).2.1 (Kd.R_reads' hS.rowa).2.2 (Kd.R_reads' hS.rowa).2.1 (by unfold manifest_right.f; rw [HRB.out])).mono ?_
       rintro en w7 ⟨rfl, hb7⟩
       refine ⟨_, rfl, ?_⟩
       replace hS := hS.below hb7
       clear hb7
       refine hK.out _ _ trivial (fun hHeld => ?_)
       clear hK K
       refine norm_ (a' := ?_) ?_ ?_; rotate_left; (show Act.put _ (some 74) _ = _; simp only [PT_]; rfl)
       refine pA_ 17 (some 75) (bs_ 20 262143) HT_ ?_ ?_ ?_ ?_ ?_
       rotate_left; (intro w'; go_simp; with_reducible rfl); rotate_left; (simp only [PT_]; rfl)
       refine oA_ 18 none (bs_ 20 524287) HT_ (fun K hK => ?_)
       have t0 := hS.r0; have t1 := hS.r1; have t2 := hS.r2; have t3 := hS.r3; have s0 := blk_frozen hS.rr 0; have s1 := blk_frozen hS.rr 1; have s2 := blk_frozen hS.rr 2; have s3 := blk_frozen hS.rr 3
       refine skip_ (w1 := ?_) (by rfl) rfl ?_ ?_
       rotate_left
       ·go_simp
        rfl
       refine hK.out _ _ trivial (fun hHeld => ?_)
       clear hK K
       refine pA_ 19 (some 3) (bs_ 20 1048575) HT_ ?_ ?_ ?_ ?_ ?_
       rotate_left; (intro w'; go_simp; with_reducible rfl); rotate_left; (simp only [PT_]; rfl)
       refine done_ (done_of HT_.out (by kernel_rfl)) ?_
       go_wp2_with fail
       refine bodyPost_ret (v := .tuple #[.agg #[.slice Av dd.length cv, .slice Aw aa.length cw, .int .i64 x, .int .i64 y], .bool b]) ?_ rfl ⟨_, _, rfl, hS.out _ _ _ _⟩
       simp [results, Try.results30, go_sem, *]
      ·skip
       have q0 := hS.rd.c0; have q1 := hS.rd.c1
       refine value_ (w1 := ?_) (v := ?_) (by rfl) rfl ?_ ?_
       rotate_left 2; (go_simp; constructor; rfl; rfl)
       clear q0 q1
       refine hK.out _ _ trivial (fun hHeld => ?_)
       clear hK K
       refine norm_ (a' := ?_) ?_ ?_; rotate_left; (show Act.put _ (some 68) _ = _; simp only [PT_]; rfl)
       refine two_ (i := 0) (j := 11) (Ni := (some 58)) (Nj := (some 69)) (bs_ 20 2047) (bs_ 20 4094) rfl rfl rfl rfl (two_of HT_.out (by kernel_rfl)) (by decide) (by decide) (fun K hK => ?_) (fun K hK => ?_)
       ·skip
        have q0 := hS.d0; have q1 := hS.d1; have q2 := hS.d2; have q3 := hS.d3
        refine value_ (w1 := ?_) (v := ?_) (by rfl) rfl ?_ ?_
        rotate_left 2; (go_simp; constructor; rfl; rfl)
        clear q0 q1 q2 q3
        refine hK.out _ _ trivial (fun hHeld => ?_)
        clear hK K
        refine norm_ (a' := ?_) ?_ ?_; rotate_left; (show Act.put _ (some 58) _ = _; simp only [PT_]; rfl)
        refine oA_ 11 (some 69) (bs_ 20 4095) HT_ (fun K hK => ?_)
        refine goes_ Try.func54 (by kernel_rfl) rfl #[.pointer (some ⟨c, 0, none⟩)] (by rfl) rfl rfl (by first | rfl | (simp only [List.map_toArray, List.map_cons, List.map_nil]; rfl)) ?_
        refine (done_any hS.rd.2.2 hS.bl).mono ?_
        rintro en w6 ⟨rfl, hc6, hb6, hk6⟩
        refine ⟨_, rfl, ?_⟩
        rw [HDN.out]
        replace hS := hS.val (Kept.gc (g := g) hk6) (hS.rd.on hk6 hc6) hb6
        clear hc6 hb6 hk6
        refine hK.out _ _ trivial (fun hHeld => ?_)
        clear hK K
        refine norm_ (a' := ?_) ?_ ?_; rotate_left; (show Act.put _ (some 69) _ = _; simp only [PT_]; rfl)
        refine pA_ 12 (some 70) (bs_ 20 8191) HT_ ?_ ?_ ?_ ?_ ?_
        rotate_left; (intro w'; go_simp; with_reducible rfl); rotate_left; (simp only [PT_]; rfl)
        refine pA_ 13 (some 71) (bs_ 20 16383) HT_ ?_ ?_ ?_ ?_ ?_
        rotate_left; (intro w'; go_simp; with_reducible rfl); rotate_left; (simp only [PT_]; rfl)
        refine pA_ 14 (some 72) (bs_ 20 32767) HT_ ?_ ?_ ?_ ?_ ?_
        rotate_left; (intro w'; go_simp; with_reducible rfl); rotate_left; (simp only [PT_]; rfl)
        refine oA_ 15 (some 73) (bs_ 20 65535) HT_ (fun K hK => ?_)
        have q0 := hS.d0; have q1 := hS.d1; have q2 := hS.d2; have q3 := hS.d3
        refine value_ (w1 := ?_) (v := ?_) (by rfl) rfl ?_ ?_
        rotate_left 2; (go_simp; constructor; rfl; rfl)
        clear q0 q1 q2 q3
        refine hK.out _ _ trivial (fun hHeld => ?_)
        clear hK K
        refine norm_ (a' := ?_) ?_ ?_; rotate_left; (show Act.put _ (some 73) _ = _; simp only [PT_]; rfl)
        refine oA_ 16 (some 74) (bs_ 20 131071) HT_ (fun K hK => ?_)
        refine goes_ Try.func18 (by kernel_rfl) rfl #[.agg #[.slice Av dd.length cv, .slice Aw aa.length cw, .int .i64 x, .int .i64 y]] (by rfl) rfl rfl (by first | rfl | (simp only [List.map_toArray, List.map_cons, List.map_nil]; rfl)) ?_
        refine (manifest_right.calls Av cv dd Aw cw aa x y b _ (Kd.R_reads' hS.rowd).2.2 (Kd.R_reads' hS.rowd).2.1 (Kd.R_reads' hS.rowa).2.2 (Kd.R_reads' hS.rowa).2.1 (by unfold manifest_right.f; rw [HRB.out])).mono ?_
        rintro en w7 ⟨rfl, hb7⟩
        refine ⟨_, rfl, ?_⟩
        replace hS := hS.below hb7
        clear hb7
        refine hK.out _ _ trivial (fun hHeld => ?_)
        clear hK K
        refine norm_ (a' := ?_) ?_ ?_; rotate_left; (show Act.put _ (some 74) _ = _; simp only [PT_]; rfl)
        refine pA_ 17 (some 75) (bs_ 20 262143) HT_ ?_ ?_ ?_ ?_ ?_
        rotate_left; (intro w'; go_simp; with_reducible rfl); rotate_left; (simp only [PT_]; rfl)
        refine oA_ 18 none (bs_ 20 524287) HT_ (fun K hK => ?_)
        have t0 := hS.r0; have t1 := hS.r1; have t2 := hS.r2; have t3 := hS.r3; have s0 := blk_frozen hS.rr 0; have s1 := blk_frozen hS.rr 1; have s2 := blk_frozen hS.rr 2; have s3 := blk_frozen hS.rr 3
        refine skip_ (w1 := ?_) (by rfl) rfl ?_ ?_
        rotate_left
        ·go_simp
         rfl
        refine hK.out _ _ trivial (fun hHeld => ?_)
        clear hK K
        refine pA_ 19 (some 3) (bs_ 20 1048575) HT_ ?_ ?_ ?_ ?_ ?_
        rotate_left; (intro w'; go_simp; with_reducible rfl); rotate_left; (simp only [PT_]; rfl)
        refine done_ (done_of HT_.out (by kernel_rfl)) ?_
        go_wp2_with fail
        refine bodyPost_ret (v := .tuple #[.agg #[.slice Av dd.length cv, .slice Aw aa.length cw, .int .i64 x, .int .i64 y], .bool b]) ?_ rfl ⟨_, _, rfl, hS.out _ _ _ _⟩
        simp [results, Try.results30, go_sem, *]
       ·skip
        refine goes_ Try.func54 (by kernel_rfl) rfl #[.pointer (some ⟨c, 0, none⟩)] (by rfl) rfl rfl (by first | rfl | (simp only [List.map_toArray, List.map_cons, List.map_nil]; rfl)) ?_
        refine (done_any hS.rd.2.2 hS.bl).mono ?_
        rintro en w6 ⟨rfl, hc6, hb6, hk6⟩
        refine ⟨_, rfl, ?_⟩
        rw [HDN.out]
        replace hS := hS.val (Kept.gc (g := g) hk6) (hS.rd.on hk6 hc6) hb6
        clear hc6 hb6 hk6
        refine hK.out _ _ trivial (fun hHeld => ?_)
        clear hK K
        refine norm_ (a' := ?_) ?_ ?_; rotate_left; (show Act.put _ (some 69) _ = _; simp only [PT_]; rfl)
        refine pA_ 12 (some 70) (bs_ 20 8190) HT_ ?_ ?_ ?_ ?_ ?_
        rotate_left; (intro w'; go_simp; with_reducible rfl); rotate_left; (simp only [PT_]; rfl)
        refine pA_ 13 (some 71) (bs_ 20 16382) HT_ ?_ ?_ ?_ ?_ ?_
        rotate_left; (intro w'; go_simp; with_reducible rfl); rotate_left; (simp only [PT_]; rfl)
        refine pA_ 14 (some 72) (bs_ 20 32766) HT_ ?_ ?_ ?_ ?_ ?_
        rotate_left; (intro w'; go_simp; with_reducible rfl); rotate_left; (simp only [PT_]; rfl)
        refine two_ (i := 0) (j := 15) (Ni := (some 58)) (Nj := (some 73)) (bs_ 20 32767) (bs_ 20 65534) rfl rfl rfl rfl (two_of HT_.out (by kernel_rfl)) (by decide) (by decide) (fun K hK => ?_) (fun K hK => ?_)
        ·skip
         have q0 := hS.d0; have q1 := hS.d1; have q2 := hS.d2; have q3 := hS.d3
         refine value_ (w1 := ?_) (v := ?_) (by rfl) rfl ?_ ?_
         rotate_left 2; (go_simp; constructor; rfl; rfl)
         clear q0 q1 q2 q3
         refine hK.out _ _ trivial (fun hHeld => ?_)
         clear hK K
         refine norm_ (a' := ?_) ?_ ?_; rotate_left; (show Act.put _ (some 58) _ = _; simp only [PT_]; rfl)
         refine oA_ 15 (some 73) (bs_ 20 65535) HT_ (fun K hK => ?_)
         have q0 := hS.d0; have q1 := hS.d1; have q2 := hS.d2; have q3 := hS.d3
         refine value_ (w1 := ?_) (v := ?_) (by rfl) rfl ?_ ?_
         rotate_left 2; (go_simp; constructor; rfl; rfl)
         clear q0 q1 q2 q3
         refine hK.out _ _ trivial (fun hHeld => ?_)
         clear hK K
         refine norm_ (a' := ?_) ?_ ?_; rotate_left; (show Act.put _ (some 73) _ = _; simp only [PT_]; rfl)
         refine oA_ 16 (some 74) (bs_ 20 131071) HT_ (fun K hK => ?_)
         refine goes_ Try.func18 (by kernel_rfl) rfl #[.agg #[.slice Av dd.length cv, .slice Aw aa.length cw, .int .i64 x, .int .i64 y]] (by rfl) rfl rfl (by first | rfl | (simp only [List.map_toArray, List.map_cons, List.map_nil]; rfl)) ?_
         refine (manifest_right.calls Av cv dd Aw cw aa x y b _ (Kd.R_reads' hS.rowd).2.2 (Kd.R_reads' hS.rowd).2.1 (Kd.R_reads' hS.rowa).2.2 (Kd.R_reads' hS.rowa).2.1 (by unfold manifest_right.f; rw [HRB.out])).mono ?_
         rintro en w7 ⟨rfl, hb7⟩
         refine ⟨_, rfl, ?_⟩
         replace hS := hS.below hb7
         clear hb7
         refine hK.out _ _ trivial (fun hHeld => ?_)
         clear hK K
         refine norm_ (a' := ?_) ?_ ?_; rotate_left; (show Act.put _ (some 74) _ = _; simp only [PT_]; rfl)
         refine pA_ 17 (some 75) (bs_ 20 262143) HT_ ?_ ?_ ?_ ?_ ?_
         rotate_left; (intro w'; go_simp; with_reducible rfl); rotate_left; (simp only [PT_]; rfl)
         refine oA_ 18 none (bs_ 20 524287) HT_ (fun K hK => ?_)
         have t0 := hS.r0; have t1 := hS.r1; have t2 := hS.r2; have t3 := hS.r3; have s0 := blk_frozen hS.rr 0; have s1 := blk_frozen hS.rr 1; have s2 := blk_frozen hS.rr 2; have s3 := blk_frozen hS.rr 3
         refine skip_ (w1 := ?_) (by rfl) rfl ?_ ?_
         rotate_left
         ·go_simp
          rfl
         refine hK.out _ _ trivial (fun hHeld => ?_)
         clear hK K
         refine pA_ 19 (some 3) (bs_ 20 1048575) HT_ ?_ ?_ ?_ ?_ ?_
         rotate_left; (intro w'; go_simp; with_reducible rfl); rotate_left; (simp only [PT_]; rfl)
         refine done_ (done_of HT_.out (by kernel_rfl)) ?_
         go_wp2_with fail
         refine bodyPost_ret (v := .tuple #[.agg #[.slice Av dd.length cv, .slice Aw aa.length cw, .int .i64 x, .int .i64 y], .bool b]) ?_ rfl ⟨_, _, rfl, hS.out _ _ _ _⟩
         simp [results, Try.results30, go_sem, *]
        ·skip
         have q0 := hS.d0; have q1 := hS.d1; have q2 := hS.d2; have q3 := hS.d3
         refine value_ (w1 := ?_) (v := ?_) (by rfl) rfl ?_ ?_
         rotate_left 2; (go_simp; constructor; rfl; rfl)
         clear q0 q1 q2 q3
         refine hK.out _ _ trivial (fun hHeld => ?_)
         clear hK K
         refine norm_ (a' := ?_) ?_ ?_; rotate_left; (show Act.put _ (some 73) _ = _; simp only [PT_]; rfl)
         refine two_ (i := 0) (j := 16) (Ni := (some 58)) (Nj := (some 74)) (bs_ 20 65535) (bs_ 20 131070) rfl rfl rfl rfl (two_of HT_.out (by kernel_rfl)) (by decide) (by decide) (fun K hK => ?_) (fun K hK => ?_)
         ·skip
          have q0 := hS.d0; have q1 := hS.d1; have q2 := hS.d2; have q3 := hS.d3
          refine value_ (w1 := ?_) (v := ?_) (by rfl) rfl ?_ ?_
          rotate_left 2; (go_simp; constructor; rfl; rfl)
          clear q0 q1 q2 q3
          refine hK.out _ _ trivial (fun hHeld => ?_)
          clear hK K
          refine norm_ (a' := ?_) ?_ ?_; rotate_left; (show Act.put _ (some 58) _ = _; simp only [PT_]; rfl)
          refine oA_ 16 (some 74) (bs_ 20 131071) HT_ (fun K hK => ?_)
          refine goes_ Try.func18 (by kernel_rfl) rfl #[.agg #[.slice Av dd.length cv, .slice Aw aa.length cw, .int .i64 x, .int .i64 y]] (by rfl) rfl rfl (by first | rfl | (simp only [List.map_toArray, List.map_cons, List.map_nil]; rfl)) ?_
          refine (manifest_right.calls Av cv dd Aw cw aa x y b _ (Kd.R_reads' hS.rowd).2.2 (Kd.R_reads' hS.rowd).2.1 (Kd.R_reads' hS.rowa).2.2 (Kd.R_reads' hS.rowa).2.1 (by unfold manifest_right.f; rw [HRB.out])).mono ?_
          rintro en w7 ⟨rfl, hb7⟩
          refine ⟨_, rfl, ?_⟩
          replace hS := hS.below hb7
          clear hb7
          refine hK.out _ _ trivial (fun hHeld => ?_)
          clear hK K
          refine norm_ (a' := ?_) ?_ ?_; rotate_left; (show Act.put _ (some 74) _ = _; simp only [PT_]; rfl)
          refine pA_ 17 (some 75) (bs_ 20 262143) HT_ ?_ ?_ ?_ ?_ ?_
          rotate_left; (intro w'; go_simp; with_reducible rfl); rotate_left; (simp only [PT_]; rfl)
          refine oA_ 18 none (bs_ 20 524287) HT_ (fun K hK => ?_)
          have t0 := hS.r0; have t1 := hS.r1; have t2 := hS.r2; have t3 := hS.r3; have s0 := blk_frozen hS.rr 0; have s1 := blk_frozen hS.rr 1; have s2 := blk_frozen hS.rr 2; have s3 := blk_frozen hS.rr 3
          refine skip_ (w1 := ?_) (by rfl) rfl ?_ ?_
          rotate_left
          ·go_simp
           rfl
          refine hK.out _ _ trivial (fun hHeld => ?_)
          clear hK K
          refine pA_ 19 (some 3) (bs_ 20 1048575) HT_ ?_ ?_ ?_ ?_ ?_
          rotate_left; (intro w'; go_simp; with_reducible rfl); rotate_left; (simp only [PT_]; rfl)
          refine done_ (done_of HT_.out (by kernel_rfl)) ?_
          go_wp2_with fail
          refine bodyPost_ret (v := .tuple #[.agg #[.slice Av dd.length cv, .slice Aw aa.length cw, .int .i64 x, .int .i64 y], .bool b]) ?_ rfl ⟨_, _, rfl, hS.out _ _ _ _⟩
          simp [results, Try.results30, go_sem, *]
         ·skip
          refine goes_ Try.func18 (by kernel_rfl) rfl #[.agg #[.slice Av dd.length cv, .slice Aw aa.length cw, .int .i64 x, .int .i64 y]] (by rfl) rfl rfl (by first | rfl | (simp only [List.map_toArray, List.map_cons, List.map_nil]; rfl)) ?_
          refine (manifest_right.calls Av cv dd Aw cw aa x y b _ (Kd.R_reads' hS.rowd).2.2 (Kd.R_reads' hS.rowd).2.1 (Kd.R_reads' hS.rowa).2.2 (Kd.R_reads' hS.rowa).2.1 (by unfold manifest_right.f; rw [HRB.out])).mono ?_
          rintro en w7 ⟨rfl, hb7⟩
          refine ⟨_, rfl, ?_⟩
          replace hS := hS.below hb7
          clear hb7
          refine hK.out _ _ trivial (fun hHeld => ?_)
          clear hK K
          refine norm_ (a' := ?_) ?_ ?_; rotate_left; (show Act.put _ (some 74) _ = _; simp only [PT_]; rfl)
          refine pA_ 17 (some 75) (bs_ 20 262142) HT_ ?_ ?_ ?_ ?_ ?_
          rotate_left; (intro w'; go_simp; with_reducible rfl); rotate_left; (simp only [PT_]; rfl)
          refine oA_ 0 (some 58) (bs_ 20 262143) HT_ (fun K hK => ?_)
          have q0 := hS.d0; have q1 := hS.d1; have q2 := hS.d2; have q3 := hS.d3
          refine value_ (w1 := ?_) (v := ?_) (by rfl) rfl ?_ ?_
          rotate_left 2; (go_simp; constructor; rfl; rfl)
          clear q0 q1 q2 q3
          refine hK.out _ _ trivial (fun hHeld => ?_)
          clear hK K
          refine norm_ (a' := ?_) ?_ ?_; rotate_left; (show Act.put _ (some 58) _ = _; simp only [PT_]; rfl)
          refine oA_ 18 none (bs_ 20 524287) HT_ (fun K hK => ?_)
          have t0 := hS.r0; have t1 := hS.r1; have t2 := hS.r2; have t3 := hS.r3; have s0 := blk_frozen hS.rr 0; have s1 := blk_frozen hS.rr 1; have s2 := blk_frozen hS.rr 2; have s3 := blk_frozen hS.rr 3
          refine skip_ (w1 := ?_) (by rfl) rfl ?_ ?_
          rotate_left
          ·go_simp
           rfl
          refine hK.out _ _ trivial (fun hHeld => ?_)
          clear hK K
          refine pA_ 19 (some 3) (bs_ 20 1048575) HT_ ?_ ?_ ?_ ?_ ?_
          rotate_left; (intro w'; go_simp; with_reducible rfl); rotate_left; (simp only [PT_]; rfl)
          refine done_ (done_of HT_.out (by kernel_rfl)) ?_
          go_wp2_with fail
          refine bodyPost_ret (v := .tuple #[.agg #[.slice Av dd.length cv, .slice Aw aa.length cw, .int .i64 x, .int .i64 y], .bool b]) ?_ rfl ⟨_, _, rfl, hS.out _ _ _ _⟩
          simp [results, Try.results30, go_sem, *]
    ·have hz1 : (dn == 0) = false := beq_eq_false_iff_ne.mpr hz
     have HZ := Aside0.mk hz; clear hz
     have hok : false = ok := by simpa [hz1] using HOK.out
     subst hok
     clear HOK
     refine start_ (n := 20) (S := fun w' => True) (ds := []) (bs_ 20 0) (by kernel_rfl) rfl rfl trivial (fun hHeld => ?_)
     refine with_tab ManEdit.tab15 (fun HT_ => ?_)
     have hS := hS.drew
     generalize World.drew _ = w4 at hS hHeld ⊢
     refine pA_ 1 (some 59) (bs_ 20 2) HT_ ?_ ?_ ?_ ?_ ?_
     rotate_left; (intro w'; go_simp; with_reducible rfl); rotate_left; (simp only [PT_]; rfl)
     refine pA_ 2 (some 60) (bs_ 20 6) HT_ ?_ ?_ ?_ ?_ ?_
     rotate_left; (intro w'; go_simp; with_reducible rfl); rotate_left; (simp only [PT_]; rfl)
     refine pA_ 3 (some 61) (bs_ 20 14) HT_ ?_ ?_ ?_ ?_ ?_
     rotate_left; (intro w'; go_simp; with_reducible rfl); rotate_left; (simp only [PT_]; rfl)
     refine two_ (i := 0) (j := 4) (Ni := (some 58)) (Nj := (some 62)) (bs_ 20 15) (bs_ 20 30) rfl rfl rfl rfl (two_of HT_.out (by kernel_rfl)) (by decide) (by decide) (fun K hK => ?_) (fun K hK => ?_)
     ·skip
      have q0 := hS.d0; have q1 := hS.d1; have q2 := hS.d2; have q3 := hS.d3
      refine value_ (w1 := ?_) (v := ?_) (by rfl) rfl ?_ ?_
      rotate_left 2; (go_simp; constructor; rfl; rfl)
      clear q0 q1 q2 q3
      refine hK.out _ _ trivial (fun hHeld => ?_)
      clear hK K
      refine norm_ (a' := ?_) ?_ ?_; rotate_left; (show Act.put _ (some 58) _ = _; simp only [PT_]; rfl)
      refine oA_ 4 (some 62) (bs_ 20 31) HT_ (fun K hK => ?_)
      have q0 := hS.rd.c0; have q1 := hS.rd.c1
      refine value_ (w1 := ?_) (v := ?_) (by rfl) rfl ?_ ?_
      rotate_left 2; (go_simp; constructor; rfl; rfl)
      clear q0 q1
      refine hK.out _ _ trivial (fun hHeld => ?_)
      clear hK K
      refine norm_ (a' := ?_) ?_ ?_; rotate_left; (show Act.put _ (some 62) _ = _; simp only [PT_]; rfl)
      refine pA_ 5 (some 63) (bs_ 20 63) HT_ ?_ ?_ ?_ ?_ ?_
      rotate_left; (intro w'; go_simp; with_reducible rfl); rotate_left; (simp only [PT_]; rfl)
      refine pA_ 6 (some 64) (bs_ 20 127) HT_ ?_ ?_ ?_ ?_ ?_
      rotate_left; (intro w'; go_simp; with_reducible rfl); rotate_left; (simp only [PT_]; rfl)
      refine pA_ 7 (some 65) (bs_ 20 255) HT_ ?_ ?_ ?_ ?_ ?_
      rotate_left; (intro w'; go_simp; with_reducible rfl); rotate_left; (simp only [PT_]; rfl)
      refine pA_ 8 (some 66) (bs_ 20 511) HT_ ?_ ?_ ?_ ?_ ?_
      rotate_left; (intro w'; go_simp; with_reducible rfl); rotate_left; (simp only [PT_]; rfl)
      refine pA_ 9 (some 67) (bs_ 20 1023) HT_ ?_ ?_ ?_ ?_ ?_
      rotate_left; (intro w'; go_simp; with_reducible rfl); rotate_left; (simp only [PT_]; rfl)
      refine oA_ 10 (some 68) (bs_ 20 2047) HT_ (fun K hK => ?_)
      have q0 := hS.rd.c0; have q1 := hS.rd.c1
      refine value_ (w1 := ?_) (v := ?_) (by rfl) rfl ?_ ?_
      rotate_left 2; (go_simp; constructor; rfl; rfl)
      clear q0 q1
      refine hK.out _ _ trivial (fun hHeld => ?_)
      clear hK K
      refine norm_ (a' := ?_) ?_ ?_; rotate_left; (show Act.put _ (some 68) _ = _; simp only [PT_]; rfl)
      refine oA_ 11 (some 69) (bs_ 20 4095) HT_ (fun K hK => ?_)
      refine goes_ Try.func54 (by kernel_rfl) rfl #[.pointer (some ⟨c, 0, none⟩)] (by rfl) rfl rfl (by first | rfl | (simp only [List.map_toArray, List.map_cons, List.map_nil]; rfl)) ?_
      refine (done_any hS.rd.2.2 hS.bl).mono ?_
      rintro en w6 ⟨rfl, hc6, hb6, hk6⟩
      refine ⟨_, rfl, ?_⟩
      rw [HDN.out]
      replace hS := hS.val (Kept.gc (g := g) hk6) (hS.rd.on hk6 hc6) hb6
      clear hc6 hb6 hk6
      refine hK.out _ _ trivial (fun hHeld => ?_)
      clear hK K
      refine norm_ (a' := ?_) ?_ ?_; rotate_left; (show Act.put _ (some 69) _ = _; simp only [PT_]; rfl)
      refine pA_ 12 (some 70) (bs_ 20 8191) HT_ ?_ ?_ ?_ ?_ ?_
      rotate_left; (intro w'; go_simp; with_reducible rfl); rotate_left; (simp only [PT_]; rfl)
      refine pA_ 13 (some 71) (bs_ 20 16383) HT_ ?_ ?_ ?_ ?_ ?_
      rotate_left; (intro w'; go_simp; with_reducible rfl); rotate_left; (simp only [PT_]; rfl)
      refine pA_ 14 (some 72) (bs_ 20 32767) HT_ ?_ ?_ ?_ ?_ ?_
      rotate_left; (intro w'; go_simp; with_reducible rfl); rotate_left; (simp only [PT_]; rfl)
      refine pB_ 15 (some 73) (bs_ 20 65535) HT_ ?_ ?_ ?_
      rotate_left
      ·simp only [PT_]
       rfl
      refine pB_ 16 (some 74) (bs_ 20 131071) HT_ ?_ ?_ ?_
      rotate_left
      ·simp only [PT_]
       rfl
      refine pA_ 17 (some 75) (bs_ 20 262143) HT_ ?_ ?_ ?_ ?_ ?_
      rotate_left; (intro w'; go_simp; with_reducible rfl); rotate_left; (simp only [PT_]; rfl)
      refine oA_ 18 none (bs_ 20 524287) HT_ (fun K hK => ?_)
      have t0 := hS.r0; have t1 := hS.r1; have t2 := hS.r2; have t3 := hS.r3; have s0 := blk_frozen hS.rr 0; have s1 := blk_frozen hS.rr 1; have s2 := blk_frozen hS.rr 2; have s3 := blk_frozen hS.rr 3
      refine skip_ (w1 := ?_) (by rfl) rfl ?_ ?_
      rotate_left
      ·go_simp
       rfl
      refine hK.out _ _ trivial (fun hHeld => ?_)
      clear hK K
      refine pA_ 19 (some 3) (bs_ 20 1048575) HT_ ?_ ?_ ?_ ?_ ?_
      rotate_left; (intro w'; go_simp; with_reducible rfl); rotate_left; (simp only [PT_]; rfl)
      refine done_ (done_of HT_.out (by kernel_rfl)) ?_
      go_wp2_with fail
      refine bodyPost_ret (v := .tuple #[.agg #[.slice Av dd.length cv, .slice Aw aa.length cw, .int .i64 x, .int .i64 y], .bool false]) ?_ rfl ⟨_, _, rfl, hS.out _ _ _ _⟩
      simp [results, Try.results30, go_sem, *]
     ·skip
      have q0 := hS.rd.c0; have q1 := hS.rd.c1
      refine value_ (w1 := ?_) (v := ?_) (by rfl) rfl ?_ ?_
      rotate_left 2; (go_simp; constructor; rfl; rfl)
      clear q0 q1
      refine hK.out _ _ trivial (fun hHeld => ?_)
      clear hK K
      refine norm_ (a' := ?_) ?_ ?_; rotate_left; (show Act.put _ (some 62) _ = _; simp only [PT_]; rfl)
      refine pA_ 5 (some 63) (bs_ 20 62) HT_ ?_ ?_ ?_ ?_ ?_
      rotate_left; (intro w'; go_simp; with_reducible rfl); rotate_left; (simp only [PT_]; rfl)
      refine pA_ 6 (some 64) (bs_ 20 126) HT_ ?_ ?_ ?_ ?_ ?_
      rotate_left; (intro w'; go_simp; with_reducible rfl); rotate_left; (simp only [PT_]; rfl)
      refine pA_ 7 (some 65) (bs_ 20 254) HT_ ?_ ?_ ?_ ?_ ?_
      rotate_left; (intro w'; go_simp; with_reducible rfl); rotate_left; (simp only [PT_]; rfl)
      refine pA_ 8 (some 66) (bs_ 20 510) HT_ ?_ ?_ ?_ ?_ ?_
      rotate_left; (intro w'; go_simp; with_reducible rfl); rotate_left; (simp only [PT_]; rfl)
      refine pA_ 9 (some 67) (bs_ 20 1022) HT_ ?_ ?_ ?_ ?_ ?_
      rotate_left; (intro w'; go_simp; with_reducible rfl); rotate_left; (simp only [PT_]; rfl)
      refine two_ (i := 0) (j := 10) (Ni := (some 58)) (Nj := (some 68)) (bs_ 20 1023) (bs_ 20 2046) rfl rfl rfl rfl (two_of HT_.out (by kernel_rfl)) (by decide) (by decide) (fun K hK => ?_) (fun K hK => ?_)
      ·skip
       have q0 := hS.d0; have q1 := hS.d1; have q2 := hS.d2; have q3 := hS.d3
       refine value_ (w1 := ?_) (v := ?_) (by rfl) rfl ?_ ?_
       rotate_left 2; (go_simp; constructor; rfl; rfl)
       clear q0 q1 q2 q3
       refine hK.out _ _ trivial (fun hHeld => ?_)
       clear hK K
       refine norm_ (a' := ?_) ?_ ?_; rotate_left; (show Act.put _ (some 58) _ = _; simp only [PT_]; rfl)
       refine oA_ 10 (some 68) (bs_ 20 2047) HT_ (fun K hK => ?_)
       have q0 := hS.rd.c0; have q1 := hS.rd.c1
       refine value_ (w1 := ?_) (v := ?_) (by rfl) rfl ?_ ?_
       rotate_left 2; (go_simp; constructor; rfl; rfl)
       clear q0 q1
       refine hK.out _ _ trivial (fun hHeld => ?_)
       clear hK K
       refine norm_ (a' := ?_) ?_ ?_; rotate_left; (show Act.put _ (some 68) _ = _; simp only [PT_]; rfl)
       refine oA_ 11 (some 69) (bs_ 20 4095) HT_ (fun K hK => ?_)
       refine goes_ Try.func54 (by kernel_rfl) rfl #[.pointer (some ⟨c, 0, none⟩)] (by rfl) rfl rfl (by first | rfl | (simp only [List.map_toArray, List.map_cons, List.map_nil]; rfl)) ?_
       refine (done_any hS.rd.2.2 hS.bl).mono ?_
       rintro en w6 ⟨rfl, hc6, hb6, hk6⟩
       refine ⟨_, rfl, ?_⟩
       rw [HDN.out]
       replace hS := hS.val (Kept.gc (g := g) hk6) (hS.rd.on hk6 hc6) hb6
       clear hc6 hb6 hk6
       refine hK.out _ _ trivial (fun hHeld => ?_)
       clear hK K
       refine norm_ (a' := ?_) ?_ ?_; rotate_left; (show Act.put _ (some 69) _ = _; simp only [PT_]; rfl)
       refine pA_ 12 (some 70) (bs_ 20 8191) HT_ ?_ ?_ ?_ ?_ ?_
       rotate_left; (intro w'; go_simp; with_reducible rfl); rotate_left; (simp only [PT_]; rfl)
       refine pA_ 13 (some 71) (bs_ 20 16383) HT_ ?_ ?_ ?_ ?_ ?_
       rotate_left; (intro w'; go_simp; with_reducible rfl); rotate_left; (simp only [PT_]; rfl)
       refine pA_ 14 (some 72) (bs_ 20 32767) HT_ ?_ ?_ ?_ ?_ ?_
       rotate_left; (intro w'; go_simp; with_reducible rfl); rotate_left; (simp only [PT_]; rfl)
       refine pB_ 15 (some 73) (bs_ 20 65535) HT_ ?_ ?_ ?_
       rotate_left
       ·simp only [PT_]
        rfl
       refine pB_ 16 (some 74) (bs_ 20 131071) HT_ ?_ ?_ ?_
       rotate_left
       ·simp only [PT_]
        rfl
       refine pA_ 17 (some 75) (bs_ 20 262143) HT_ ?_ ?_ ?_ ?_ ?_
       rotate_left; (intro w'; go_simp; with_reducible rfl); rotate_left; (simp only [PT_]; rfl)
       refine oA_ 18 none (bs_ 20 524287) HT_ (fun K hK => ?_)
       have t0 := hS.r0; have t1 := hS.r1; have t2 := hS.r2; have t3 := hS.r3; have s0 := blk_frozen hS.rr 0; have s1 := blk_frozen hS.rr 1; have s2 := blk_frozen hS.rr 2; have s3 := blk_frozen hS.rr 3
       refine skip_ (w1 := ?_) (by rfl) rfl ?_ ?_
       rotate_left
       ·go_simp
        rfl
       refine hK.out _ _ trivial (fun hHeld => ?_)
       clear hK K
       refine pA_ 19 (some 3) (bs_ 20 1048575) HT_ ?_ ?_ ?_ ?_ ?_
       rotate_left; (intro w'; go_simp; with_reducible rfl); rotate_left; (simp only [PT_]; rfl)
       refine done_ (done_of HT_.out (by kernel_rfl)) ?_
       go_wp2_with fail
       refine bodyPost_ret (v := .tuple #[.agg #[.slice Av dd.length cv, .slice Aw aa.length cw, .int .i64 x, .int .i64 y], .bool false]) ?_ rfl ⟨_, _, rfl, hS.out _ _ _ _⟩
       simp [results, Try.results30, go_sem, *]
      ·skip
       have q0 := hS.rd.c0; have q1 := hS.rd.c1
       refine value_ (w1 := ?_) (v := ?_) (by rfl) rfl ?_ ?_
       rotate_left 2; (go_simp; constructor; rfl; rfl)
       clear q0 q1
       refine hK.out _ _ trivial (fun hHeld => ?_)
       clear hK K
       refine norm_ (a' := ?_) ?_ ?_; rotate_left; (show Act.put _ (some 68) _ = _; simp only [PT_]; rfl)
       refine two_ (i := 0) (j := 11) (Ni := (some 58)) (Nj := (some 69)) (bs_ 20 2047) (bs_ 20 4094) rfl rfl rfl rfl (two_of HT_.out (by kernel_rfl)) (by decide) (by decide) (fun K hK => ?_) (fun K hK => ?_)
       ·skip
        have q0 := hS.d0; have q1 := hS.d1; have q2 := hS.d2; have q3 := hS.d3
        refine value_ (w1 := ?_) (v := ?_) (by rfl) rfl ?_ ?_
        rotate_left 2; (go_simp; constructor; rfl; rfl)
        clear q0 q1 q2 q3
        refine hK.out _ _ trivial (fun hHeld => ?_)
        clear hK K
        refine norm_ (a' := ?_) ?_ ?_; rotate_left; (show Act.put _ (some 58) _ = _; simp only [PT_]; rfl)
        refine oA_ 11 (some 69) (bs_ 20 4095) HT_ (fun K hK => ?_)
        refine goes_ Try.func54 (by kernel_rfl) rfl #[.pointer (some ⟨c, 0, none⟩)] (by rfl) rfl rfl (by first | rfl | (simp only [List.map_toArray, List.map_cons, List.map_nil]; rfl)) ?_
        refine (done_any hS.rd.2.2 hS.bl).mono ?_
        rintro en w6 ⟨rfl, hc6, hb6, hk6⟩
        refine ⟨_, rfl, ?_⟩
        rw [HDN.out]
        replace hS := hS.val (Kept.gc (g := g) hk6) (hS.rd.on hk6 hc6) hb6
        clear hc6 hb6 hk6
        refine hK.out _ _ trivial (fun hHeld => ?_)
        clear hK K
        refine norm_ (a' := ?_) ?_ ?_; rotate_left; (show Act.put _ (some 69) _ = _; simp only [PT_]; rfl)
        refine pA_ 12 (some 70) (bs_ 20 8191) HT_ ?_ ?_ ?_ ?_ ?_
        rotate_left; (intro w'; go_simp; with_reducible rfl); rotate_left; (simp only [PT_]; rfl)
        refine pA_ 13 (some 71) (bs_ 20 16383) HT_ ?_ ?_ ?_ ?_ ?_
        rotate_left; (intro w'; go_simp; with_reducible rfl); rotate_left; (simp only [PT_]; rfl)
        refine pA_ 14 (some 72) (bs_ 20 32767) HT_ ?_ ?_ ?_ ?_ ?_
        rotate_left; (intro w'; go_simp; with_reducible rfl); rotate_left; (simp only [PT_]; rfl)
        refine pB_ 15 (some 73) (bs_ 20 65535) HT_ ?_ ?_ ?_
        rotate_left
        ·simp only [PT_]
         rfl
        refine pB_ 16 (some 74) (bs_ 20 131071) HT_ ?_ ?_ ?_
        rotate_left
        ·simp only [PT_]
         rfl
        refine pA_ 17 (some 75) (bs_ 20 262143) HT_ ?_ ?_ ?_ ?_ ?_
        rotate_left; (intro w'; go_simp; with_reducible rfl); rotate_left; (simp only [PT_]; rfl)
        refine oA_ 18 none (bs_ 20 524287) HT_ (fun K hK => ?_)
        have t0 := hS.r0; have t1 := hS.r1; have t2 := hS.r2; have t3 := hS.r3; have s0 := blk_frozen hS.rr 0; have s1 := blk_frozen hS.rr 1; have s2 := blk_frozen hS.rr 2; have s3 := blk_frozen hS.rr 3
        refine skip_ (w1 := ?_) (by rfl) rfl ?_ ?_
        rotate_left
        ·go_simp
         rfl
        refine hK.out _ _ trivial (fun hHeld => ?_)
        clear hK K
        refine pA_ 19 (some 3) (bs_ 20 1048575) HT_ ?_ ?_ ?_ ?_ ?_
        rotate_left; (intro w'; go_simp; with_reducible rfl); rotate_left; (simp only [PT_]; rfl)
        refine done_ (done_of HT_.out (by kernel_rfl)) ?_
        go_wp2_with fail
        refine bodyPost_ret (v := .tuple #[.agg #[.slice Av dd.length cv, .slice Aw aa.length cw, .int .i64 x, .int .i64 y], .bool false]) ?_ rfl ⟨_, _, rfl, hS.out _ _ _ _⟩
        simp [results, Try.results30, go_sem, *]
       ·skip
        refine goes_ Try.func54 (by kernel_rfl) rfl #[.pointer (some ⟨c, 0, none⟩)] (by rfl) rfl rfl (by first | rfl | (simp only [List.map_toArray, List.map_cons, List.map_nil]; rfl)) ?_
        refine (done_any hS.rd.2.2 hS.bl).mono ?_
        rintro en w6 ⟨rfl, hc6, hb6, hk6⟩
        refine ⟨_, rfl, ?_⟩
        rw [HDN.out]
        replace hS := hS.val (Kept.gc (g := g) hk6) (hS.rd.on hk6 hc6) hb6
        clear hc6 hb6 hk6
        refine hK.out _ _ trivial (fun hHeld => ?_)
        clear hK K
        refine norm_ (a' := ?_) ?_ ?_; rotate_left; (show Act.put _ (some 69) _ = _; simp only [PT_]; rfl)
        refine pA_ 12 (some 70) (bs_ 20 8190) HT_ ?_ ?_ ?_ ?_ ?_
        rotate_left; (intro w'; go_simp; with_reducible rfl); rotate_left; (simp only [PT_]; rfl)
        refine pA_ 13 (some 71) (bs_ 20 16382) HT_ ?_ ?_ ?_ ?_ ?_
        rotate_left; (intro w'; go_simp; with_reducible rfl); rotate_left; (simp only [PT_]; rfl)
        refine pA_ 14 (some 72) (bs_ 20 32766) HT_ ?_ ?_ ?_ ?_ ?_
        rotate_left; (intro w'; go_simp; with_reducible rfl); rotate_left; (simp only [PT_]; rfl)
        refine pB_ 15 (some 73) (bs_ 20 65534) HT_ ?_ ?_ ?_
        rotate_left
        ·simp only [PT_]
         rfl
        refine pB_ 16 (some 74) (bs_ 20 131070) HT_ ?_ ?_ ?_
        rotate_left
        ·simp only [PT_]
         rfl
        refine pA_ 17 (some 75) (bs_ 20 262142) HT_ ?_ ?_ ?_ ?_ ?_
        rotate_left; (intro w'; go_simp; with_reducible rfl); rotate_left; (simp only [PT_]; rfl)
        refine oA_ 0 (some 58) (bs_ 20 262143) HT_ (fun K hK => ?_)
        have q0 := hS.d0; have q1 := hS.d1; have q2 := hS.d2; have q3 := hS.d3
        refine value_ (w1 := ?_) (v := ?_) (by rfl) rfl ?_ ?_
        rotate_left 2; (go_simp; constructor; rfl; rfl)
        clear q0 q1 q2 q3
        refine hK.out _ _ trivial (fun hHeld => ?_)
        clear hK K
        refine norm_ (a' := ?_) ?_ ?_; rotate_left; (show Act.put _ (some 58) _ = _; simp only [PT_]; rfl)
        refine oA_ 18 none (bs_ 20 524287) HT_ (fun K hK => ?_)
        have t0 := hS.r0; have t1 := hS.r1; have t2 := hS.r2; have t3 := hS.r3; have s0 := blk_frozen hS.rr 0; have s1 := blk_frozen hS.rr 1; have s2 := blk_frozen hS.rr 2; have s3 := blk_frozen hS.rr 3
        refine skip_ (w1 := ?_) (by rfl) rfl ?_ ?_
        rotate_left
        ·go_simp
         rfl
        refine hK.out _ _ trivial (fun hHeld => ?_)
        clear hK K
        refine pA_ 19 (some 3) (bs_ 20 1048575) HT_ ?_ ?_ ?_ ?_ ?_
        rotate_left; (intro w'; go_simp; with_reducible rfl); rotate_left; (simp only [PT_]; rfl)
        refine done_ (done_of HT_.out (by kernel_rfl)) ?_
        go_wp2_with fail
        refine bodyPost_ret (v := .tuple #[.agg #[.slice Av dd.length cv, .slice Aw aa.length cw, .int .i64 x, .int .i64 y], .bool false]) ?_ rfl ⟨_, _, rfl, hS.out _ _ _ _⟩
        simp [results, Try.results30, go_sem, *]
   ·have hok : false = ok := by simpa using HOK.out
    subst hok
    clear HOK
    refine start_ (n := 20) (S := fun w' => True) (ds := []) (bs_ 20 0) (by kernel_rfl) rfl rfl trivial (fun hHeld => ?_)
    refine with_tab ManEdit.tab15 (fun HT_ => ?_)
    have hS := hS.drew
    generalize World.drew _ = w4 at hS hHeld ⊢
    refine pA_ 1 (some 59) (bs_ 20 2) HT_ ?_ ?_ ?_ ?_ ?_
    rotate_left; (intro w'; go_simp; with_reducible rfl); rotate_left; (simp only [PT_]; rfl)
    refine pA_ 2 (some 60) (bs_ 20 6) HT_ ?_ ?_ ?_ ?_ ?_
    rotate_left; (intro w'; go_simp; with_reducible rfl); rotate_left; (simp only [PT_]; rfl)
    refine pA_ 3 (some 61) (bs_ 20 14) HT_ ?_ ?_ ?_ ?_ ?_
    rotate_left; (intro w'; go_simp; with_reducible rfl); rotate_left; (simp only [PT_]; rfl)
    refine two_ (i := 0) (j := 4) (Ni := (some 58)) (Nj := (some 62)) (bs_ 20 15) (bs_ 20 30) rfl rfl rfl rfl (two_of HT_.out (by kernel_rfl)) (by decide) (by decide) (fun K hK => ?_) (fun K hK => ?_)
    ·skip
     have q0 := hS.d0; have q1 := hS.d1; have q2 := hS.d2; have q3 := hS.d3
     refine value_ (w1 := ?_) (v := ?_) (by rfl) rfl ?_ ?_
     rotate_left 2; (go_simp; constructor; rfl; rfl)
     clear q0 q1 q2 q3
     refine hK.out _ _ trivial (fun hHeld => ?_)
     clear hK K
     refine norm_ (a' := ?_) ?_ ?_; rotate_left; (show Act.put _ (some 58) _ = _; simp only [PT_]; rfl)
     refine oA_ 4 (some 62) (bs_ 20 31) HT_ (fun K hK => ?_)
     have q0 := hS.rd.c0; have q1 := hS.rd.c1
     refine value_ (w1 := ?_) (v := ?_) (by rfl) rfl ?_ ?_
     rotate_left 2; (go_simp; constructor; rfl; rfl)
     clear q0 q1
     refine hK.out _ _ trivial (fun hHeld => ?_)
     clear hK K
     refine norm_ (a' := ?_) ?_ ?_; rotate_left; (show Act.put _ (some 62) _ = _; simp only [PT_]; rfl)
     refine pA_ 5 (some 63) (bs_ 20 63) HT_ ?_ ?_ ?_ ?_ ?_
     rotate_left; (intro w'; go_simp; with_reducible rfl); rotate_left; (simp only [PT_]; rfl)
     refine pA_ 6 (some 64) (bs_ 20 127) HT_ ?_ ?_ ?_ ?_ ?_
     rotate_left; (intro w'; go_simp; with_reducible rfl); rotate_left; (simp only [PT_]; rfl)
     refine pB_ 7 (some 65) (bs_ 20 255) HT_ ?_ ?_ ?_
     rotate_left
     ·simp only [PT_]
      rfl
     refine pB_ 8 (some 66) (bs_ 20 511) HT_ ?_ ?_ ?_
     rotate_left
     ·simp only [PT_]
      rfl
     refine pB_ 9 (some 67) (bs_ 20 1023) HT_ ?_ ?_ ?_
     rotate_left
     ·simp only [PT_]
      rfl
     refine pB_ 10 (some 68) (bs_ 20 2047) HT_ ?_ ?_ ?_
     rotate_left
     ·simp only [PT_]
      rfl
     refine pB_ 11 (some 69) (bs_ 20 4095) HT_ ?_ ?_ ?_
     rotate_left
     ·simp only [PT_]
      rfl
     refine pB_ 12 (some 70) (bs_ 20 8191) HT_ ?_ ?_ ?_
     rotate_left
     ·simp only [PT_]
      rfl
     refine pA_ 13 (some 71) (bs_ 20 16383) HT_ ?_ ?_ ?_ ?_ ?_
     rotate_left; (intro w'; go_simp; with_reducible rfl); rotate_left; (simp only [PT_]; rfl)
     refine pA_ 14 (some 72) (bs_ 20 32767) HT_ ?_ ?_ ?_ ?_ ?_
     rotate_left; (intro w'; go_simp; with_reducible rfl); rotate_left; (simp only [PT_]; rfl)
     refine pB_ 15 (some 73) (bs_ 20 65535) HT_ ?_ ?_ ?_
     rotate_left
     ·simp only [PT_]
      rfl
     refine pB_ 16 (some 74) (bs_ 20 131071) HT_ ?_ ?_ ?_
     rotate_left
     ·simp only [PT_]
      rfl
     refine pA_ 17 (some 75) (bs_ 20 262143) HT_ ?_ ?_ ?_ ?_ ?_
     rotate_left; (intro w'; go_simp; with_reducible rfl); rotate_left; (simp only [PT_]; rfl)
     refine oA_ 18 none (bs_ 20 524287) HT_ (fun K hK => ?_)
     have t0 := hS.r0; have t1 := hS.r1; have t2 := hS.r2; have t3 := hS.r3; have s0 := blk_frozen hS.rr 0; have s1 := blk_frozen hS.rr 1; have s2 := blk_frozen hS.rr 2; have s3 := blk_frozen hS.rr 3
     refine skip_ (w1 := ?_) (by rfl) rfl ?_ ?_
     rotate_left
     ·go_simp
      rfl
     refine hK.out _ _ trivial (fun hHeld => ?_)
     clear hK K
     refine pA_ 19 (some 3) (bs_ 20 1048575) HT_ ?_ ?_ ?_ ?_ ?_
     rotate_left; (intro w'; go_simp; with_reducible rfl); rotate_left; (simp only [PT_]; rfl)
     refine done_ (done_of HT_.out (by kernel_rfl)) ?_
     go_wp2_with fail
     refine bodyPost_ret (v := .tuple #[.agg #[.slice Av dd.length cv, .slice Aw aa.length cw, .int .i64 x, .int .i64 y], .bool false]) ?_ rfl ⟨_, _, rfl, hS.out _ _ _ _⟩
     simp [results, Try.results30, go_sem, *]
    ·skip
     have q0 := hS.rd.c0; have q1 := hS.rd.c1
     refine value_ (w1 := ?_) (v := ?_) (by rfl) rfl ?_ ?_
     rotate_left 2; (go_simp; constructor; rfl; rfl)
     clear q0 q1
     refine hK.out _ _ trivial (fun hHeld => ?_)
     clear hK K
     refine norm_ (a' := ?_) ?_ ?_; rotate_left; (show Act.put _ (some 62) _ = _; simp only [PT_]; rfl)
     refine pA_ 5 (some 63) (bs_ 20 62) HT_ ?_ ?_ ?_ ?_ ?_
     rotate_left; (intro w'; go_simp; with_reducible rfl); rotate_left; (simp only [PT_]; rfl)
     refine pA_ 6 (some 64) (bs_ 20 126) HT_ ?_ ?_ ?_ ?_ ?_
     rotate_left; (intro w'; go_simp; with_reducible rfl); rotate_left; (simp only [PT_]; rfl)
     refine pB_ 7 (some 65) (bs_ 20 254) HT_ ?_ ?_ ?_
     rotate_left
     ·simp only [PT_]
      rfl
     refine pB_ 8 (some 66) (bs_ 20 510) HT_ ?_ ?_ ?_
     rotate_left
     ·simp only [PT_]
      rfl
     refine pB_ 9 (some 67) (bs_ 20 1022) HT_ ?_ ?_ ?_
     rotate_left
     ·simp only [PT_]
      rfl
     refine pB_ 10 (some 68) (bs_ 20 2046) HT_ ?_ ?_ ?_
     rotate_left
     ·simp only [PT_]
      rfl
     refine pB_ 11 (some 69) (bs_ 20 4094) HT_ ?_ ?_ ?_
     rotate_left
     ·simp only [PT_]
      rfl
     refine pB_ 12 (some 70) (bs_ 20 8190) HT_ ?_ ?_ ?_
     rotate_left
     ·simp only [PT_]
      rfl
     refine pA_ 13 (some 71) (bs_ 20 16382) HT_ ?_ ?_ ?_ ?_ ?_
     rotate_left; (intro w'; go_simp; with_reducible rfl); rotate_left; (simp only [PT_]; rfl)
     refine pA_ 14 (some 72) (bs_ 20 32766) HT_ ?_ ?_ ?_ ?_ ?_
     rotate_left; (intro w'; go_simp; with_reducible rfl); rotate_left; (simp only [PT_]; rfl)
     refine pB_ 15 (some 73) (bs_ 20 65534) HT_ ?_ ?_ ?_
     rotate_left
     ·simp only [PT_]
      rfl
     refine pB_ 16 (some 74) (bs_ 20 131070) HT_ ?_ ?_ ?_
     rotate_left
     ·simp only [PT_]
      rfl
     refine pA_ 17 (some 75) (bs_ 20 262142) HT_ ?_ ?_ ?_ ?_ ?_
     rotate_left; (intro w'; go_simp; with_reducible rfl); rotate_left; (simp only [PT_]; rfl)
     refine oA_ 0 (some 58) (bs_ 20 262143) HT_ (fun K hK => ?_)
     have q0 := hS.d0; have q1 := hS.d1; have q2 := hS.d2; have q3 := hS.d3
     refine value_ (w1 := ?_) (v := ?_) (by rfl) rfl ?_ ?_
     rotate_left 2; (go_simp; constructor; rfl; rfl)
     clear q0 q1 q2 q3
     refine hK.out _ _ trivial (fun hHeld => ?_)
     clear hK K
     refine norm_ (a' := ?_) ?_ ?_; rotate_left; (show Act.put _ (some 58) _ = _; simp only [PT_]; rfl)
     refine oA_ 18 none (bs_ 20 524287) HT_ (fun K hK => ?_)
     have t0 := hS.r0; have t1 := hS.r1; have t2 := hS.r2; have t3 := hS.r3; have s0 := blk_frozen hS.rr 0; have s1 := blk_frozen hS.rr 1; have s2 := blk_frozen hS.rr 2; have s3 := blk_frozen hS.rr 3
     refine skip_ (w1 := ?_) (by rfl) rfl ?_ ?_
     rotate_left
     ·go_simp
      rfl
     refine hK.out _ _ trivial (fun hHeld => ?_)
     clear hK K
     refine pA_ 19 (some 3) (bs_ 20 1048575) HT_ ?_ ?_ ?_ ?_ ?_
     rotate_left; (intro w'; go_simp; with_reducible rfl); rotate_left; (simp only [PT_]; rfl)
     refine done_ (done_of HT_.out (by kernel_rfl)) ?_
     go_wp2_with fail
     refine bodyPost_ret (v := .tuple #[.agg #[.slice Av dd.length cv, .slice Aw aa.length cw, .int .i64 x, .int .i64 y], .bool false]) ?_ rfl ⟨_, _, rfl, hS.out _ _ _ _⟩
     simp [results, Try.results30, go_sem, *]
def readL : List ByteArray → List S36 → Int → Int → Option (List S36 × Int × Int × Int)
 | [], s, sf, sn => some (s, sf, sn, 0)
 | f :: l, s, sf, sn => if f.size ≤ 4611686018427387904 then (if (editL (bytesOf f)).2.2.2.2 = true then (manifest_Apply.f s sf sn (editL (bytesOf f)).1 (editL (bytesOf f)).2.1 (editL (bytesOf f)).2.2.1 (editL (bytesOf f)).2.2.2.1).bind (fun t => if t.2.2.2 = 0 then readL l t.1 t.2.1 t.2.2.1 else some ([], 0, 0, 8)) else some ([], 0, 0, 8)) else none
def manifest_Read.f (k : Nat) (text : ByteArray) : Option (List S36 × Int × Int × Int) := (frame_Scan.f k text).bind fun t => if t.2.2 = 0 then readL t.1 [] 0 0 else some ([], 0, 0, 8)
theorem manifest_Read.mono : ∀ a0 k, LeO (manifest_Read.f k a0) (manifest_Read.f (k + 1) a0) := by
 intro a0 k
 unfold manifest_Read.f
 exact LeO.bind (frame_Scan.mono _ k) (fun _ => LeO.refl _)
theorem readL_on {f : ByteArray} {l : List ByteArray} {s : List S36} {sf sn : Int} {r : List S36 × Int × Int × Int} (h : readL (f :: l) s sf sn = some r) : ∃ (d : List Int) (a : List S36) (fl nx : Int) (ok : Bool), f.size ≤ 4611686018427387904 ∧ editL (bytesOf f) = (d, a, fl, nx, ok) ∧ (ok = false → r = ([], 0, 0, 8)) ∧
  (ok = true → ∃ (s' : List S36) (sf' sn' e : Int), manifest_Apply.f s sf sn d a fl nx = some (s', sf', sn', e) ∧ (e ≠ 0 → r = ([], 0, 0, 8)) ∧ (e = 0 → readL l s' sf' sn' = some r)) := by
 unfold readL at h
 split at h
 ·rename_i hs
  obtain ⟨⟨d, a, fl, nx, ok⟩, hz⟩ : ∃ z, editL (bytesOf f) = z := ⟨_, rfl⟩
  rw [hz] at h
  simp only at h
  refine ⟨d, a, fl, nx, ok, hs, hz, fun ho => ?_, fun ho => ?_⟩
  ·rw [if_neg (by rw [ho]; decide)] at h; exact (Option.some.inj h).symm
  ·rw [if_pos ho] at h
   obtain ⟨t, ht, h⟩ := Option.bind_eq_some_iff.mp h
   refine ⟨t.1, t.2.1, t.2.2.1, t.2.2.2, ht, fun he => ?_, fun he => ?_⟩
   ·rw [if_neg he] at h; exact (Option.some.inj h).symm
   ·rw [if_pos he] at h; exact h
 ·exact absurd h (by simp)
def RdA (w W : World) (R S : Nat) (vf : Value) (fr : List ByteArray) (vs : Value) (s : List S36) (sf sn : Int) : Prop :=
 Below w.heap.size w W ∧ (W.heap[R]? = some (.cells #[.slice none 0 0, .int .i64 0, .int .i64 0] 26 (0, 0)) ∧ w.heap.size ≤ R) ∧ (W.heap[S]? = some (.cells #[vs, .int .i64 sf, .int .i64 sn] 26 (0, 0)) ∧ w.heap.size ≤ S) ∧ S ≠ R ∧ Kd.string.R 9 W w.heap.size (fun _ => True) vf fr ∧ k36.R 36 W w.heap.size (fun _ => True) vs s
section
variable {w W W' : World} {R S g c : Nat} {vf vs v1 : Value} {fr : List ByteArray} {s s' : List S36} {sf sn sf' sn' : Int}
theorem RdA.below (h : RdA w W R S vf fr vs s sf sn) (hb : Below W.heap.size W W') : RdA w W' R S vf fr vs s sf sn :=
 ⟨below_then h.1 h.1.size hb, ⟨(hb.block R (blk_lt h.2.1.1)).trans h.2.1.1, h.2.1.2⟩, ⟨(hb.block S (blk_lt h.2.2.1.1)).trans h.2.2.1.1, h.2.2.1.2⟩, h.2.2.2.1, Kd.R_below h.2.2.2.2.1 hb, Kd.R_below h.2.2.2.2.2 hb⟩
theorem RdA.kept (h : RdA w W R S vf fr vs s sf sn) (hk : Kept W W' (GC g c)) (hb : Below w.heap.size w W') {cs cs2 : Array Value} (hg : W.heap[g]? = some (.cells cs 65 (0, 0))) (hc : W.heap[c]? = some (.cells cs2 88 (0, 0))) : RdA w W' R S vf fr vs s sf sn :=
 ⟨hb, ⟨blk_kept h.2.1.1 hk (fun z => z.elim (blk_ne h.2.1.1 hg (by decide)) (blk_ne h.2.1.1 hc (by decide))), h.2.1.2⟩, ⟨blk_kept h.2.2.1.1 hk (fun z => z.elim (blk_ne h.2.2.1.1 hg (by decide)) (blk_ne h.2.2.1.1 hc (by decide))), h.2.2.1.2⟩, h.2.2.2.1,
  Kd.R_mono (Kd.R_kept (Kd.R_tight rfl h.2.2.2.2.1) hk (fun k hk' hs => hs.elim (fun e => Kd.R_ne h.2.2.2.2.1 hg (by decide) (e ▸ hk')) (fun e => Kd.R_ne h.2.2.2.2.1 hc (by decide) (e ▸ hk')))) (fun _ _ => trivial),
  Kd.R_mono (Kd.R_kept (Kd.R_tight rfl h.2.2.2.2.2) hk (fun k hk' hs => hs.elim (fun e => Kd.R_ne h.2.2.2.2.2 hg (by decide) (e ▸ hk')) (fun e => Kd.R_ne h.2.2.2.2.2 hc (by decide) (e ▸ hk')))) (fun _ _ => trivial)⟩
theorem RdA.next (h : RdA w W R S vf fr vs s sf sn) (hr : k36.R 36 W w.heap.size (fun _ => True) v1 s') (x y : Int) : RdA w (((W.setCell ⟨S, 0, none⟩ v1).setCell ⟨S, 1, none⟩ (.int .i64 x)).setCell ⟨S, 2, none⟩ (.int .i64 y)) R S vf fr v1 s' x y :=
 have b0 := h.2.2.1.1
 have b1 := blk_set b0 0 v1
 have b2 := blk_set b1 1 (.int .i64 x)
 have b3 := blk_set b2 2 (.int .i64 y)
 have nr : R ≠ S := Ne.symm h.2.2.2.1
 ⟨below_set (below_set (below_set h.1 h.2.2.1.2) h.2.2.1.2) h.2.2.1.2, ⟨blk_far (blk_far (blk_far h.2.1.1 (p := ⟨S, 0, none⟩) nr _) (p := ⟨S, 1, none⟩) nr _) (p := ⟨S, 2, none⟩) nr _, h.2.1.2⟩, ⟨b3, h.2.2.1.2⟩, h.2.2.2.1,
  Kd.R_set (Kd.R_set (Kd.R_set h.2.2.2.2.1 b0 (by decide) 0 _) b1 (by decide) 1 _) b2 (by decide) 2 _, Kd.R_set (Kd.R_set (Kd.R_set hr b0 (by decide) 0 _) b1 (by decide) 1 _) b2 (by decide) 2 _⟩
theorem RdA.out (h : RdA w W R S vf fr vs s sf sn) (a b d : Value) : Below w.heap.size w (((W.setCell ⟨R, 0, none⟩ a).setCell ⟨R, 1, none⟩ b).setCell ⟨R, 2, none⟩ d) := below_set (below_set (below_set h.1 h.2.1.2) h.2.1.2) h.2.1.2
theorem RdA.outr (h : RdA w W R S vf fr vs s sf sn) (a b d : Value) : k36.R 36 (((W.setCell ⟨R, 0, none⟩ a).setCell ⟨R, 1, none⟩ b).setCell ⟨R, 2, none⟩ d) w.heap.size (fun _ => True) vs s :=
 have b0 := h.2.1.1
 have b1 := blk_set b0 0 a
 have b2 := blk_set b1 1 b
 Kd.R_set (Kd.R_set (Kd.R_set h.2.2.2.2.2 b0 (by decide) 0 _) b1 (by decide) 1 _) b2 (by decide) 2 _
theorem RdA.r0 (h : RdA w W R S vf fr vs s sf sn) : W.cell? ⟨R, 0, none⟩ = some (.slice none 0 0) := (blk_cell h.2.1.1 0).trans rfl
theorem RdA.r1 (h : RdA w W R S vf fr vs s sf sn) : W.cell? ⟨R, 1, none⟩ = some (.int .i64 0) := (blk_cell h.2.1.1 1).trans rfl
theorem RdA.r2 (h : RdA w W R S vf fr vs s sf sn) : W.cell? ⟨R, 2, none⟩ = some (.int .i64 0) := (blk_cell h.2.1.1 2).trans rfl
theorem RdA.s0 (h : RdA w W R S vf fr vs s sf sn) : W.cell? ⟨S, 0, none⟩ = some vs := (blk_cell h.2.2.1.1 0).trans rfl
theorem RdA.s1 (h : RdA w W R S vf fr vs s sf sn) : W.cell? ⟨S, 1, none⟩ = some (.int .i64 sf) := (blk_cell h.2.2.1.1 1).trans rfl
theorem RdA.s2 (h : RdA w W R S vf fr vs s sf sn) : W.cell? ⟨S, 2, none⟩ = some (.int .i64 sn) := (blk_cell h.2.2.1.1 2).trans rfl
end
theorem fr_step {l : List ByteArray} {i : Nat} (hi : i < l.length) {x : ByteArray} (hx : rdOf ByteArray.empty l (i : Int) = x) : l.drop i = x :: l.drop (i + 1) := by
 rw [List.drop_eq_getElem_cons hi]
 unfold rdOf at hx
 rw [Int.toNat_natCast, List.getD_eq_getElem?_getD, List.getElem?_eq_getElem hi] at hx
 exact congrArg (· :: _) hx
set_option maxHeartbeats 16000000 in
set_option maxRecDepth 100000 in
theorem manifest_Read.calls (k : Nat) (text : ByteArray) (r1 : List S36) (r2 r3 r4 : Int) (w : World) (h : manifest_Read.f k text = some (r1, r2, r3, r4)) :
  Calls Try.prog 15 #[.string text] w fun e w' => ∃ v0_ : Value, e = .returned (.tuple #[.agg #[v0_, .int .i64 r2, .int .i64 r3], .int .i64 r4]) ∧ Kd.R k36 36 w' w.heap.size (fun _ => True) v0_ r1 ∧ Below w.heap.size w w' := by
 unfold manifest_Read.f at h
 obtain ⟨⟨fr, n3, er⟩, hsc, h⟩ := Option.bind_eq_some_iff.mp h
 simp only at h
 have HSC := Aside0.mk hsc; have HQ := Aside0.mk h; clear hsc h
 have HB0 := Aside0.mk (below_alloc (Below.refl w.heap.size w) (.cells #[.slice none 0 0, .int .i64 0, .int .i64 0] 26))
 have HR0 := Aside0.mk (heap_alloc_new w (.cells #[.slice none 0 0, .int .i64 0, .int .i64 0] 26))
 go_enter Try.func15, Try.ntmps15
 go_wp2_with fail
 refine (frame_Scan.calls k text fr n3 er _ HSC.out).mono ?_; rintro e w1 ⟨v0, rfl, hr, hb⟩
 obtain ⟨Af, cf, rfl⟩ := Kd.R_slice hr
 have HF := Aside0.mk (Kd.R_lower hr (show w.heap.size ≤ _ from HB0.out.size)); have HB1 := Aside0.mk (below_then HB0.out HB0.out.size hb); have HR1 := Aside0.mk ((hb.block _ (blk_lt HR0.out)).trans HR0.out)
 clear hr hb HB0 HR0 HSC
 have HS : Aside0 (RdA w (w1.alloc (.cells #[.slice none 0 0, .int .i64 0, .int .i64 0] 26)) w.heap.size w1.heap.size (.slice Af fr.length cf) fr (.slice none 0 0) [] 0 0) :=
  have ha := below_alloc (Below.refl w1.heap.size w1) (.cells #[.slice none 0 0, .int .i64 0, .int .i64 0] 26)
  ⟨below_then HB1.out HB1.out.size ha, ⟨(ha.block _ (blk_lt HR1.out)).trans HR1.out, Nat.le_refl _⟩, ⟨heap_alloc_new w1 _, HB1.out.size⟩, (fun e => by have := blk_lt HR1.out; omega), Kd.R_below HF.out ha, Kd.R_nil _ _ _ _ _⟩
 by_cases hz : er = 0
 ·subst hz
  replace HQ : Aside0 (readL fr [] 0 0 = some (r1, r2, r3, r4)) := ⟨by have h := HQ.out; rwa [if_pos rfl] at h⟩
  have hz1 : ((0 : Int) != 0) = false := rfl
  clear HB1 HR1 HF
  go_wp2_with fail
  generalize w1.heap.size = S at HS ⊢
  generalize hRR : w.heap.size = R at HS ⊢
  clear hRR
  generalize World.alloc w1 _ = w2 at HS ⊢
  have HL : fr.length ≤ 9223372036854775807 := Kd.C_max (Kd.R_reads' HS.out.2.2.2.2.1).2.2
  go_loopg [24] fr.length (fun gk u wx => ∃ (i : Nat) (vs : Value) (s : List S36) (sf sn : Int), i ≤ fr.length ∧ gk = fr.length - i ∧ u = .int .i64 (i : Int) ∧ Aside0 (RdA w wx R S (.slice Af fr.length cf) fr vs s sf sn) ∧ Aside0 (readL (fr.drop i) s sf sn = some (r1, r2, r3, r4)))
  case atStart => exact ⟨0, _, [], 0, 0, by omega, by omega, rfl, HS, ⟨by rw [List.drop_zero]; exact HQ.out⟩⟩
  case round =>
   clear HS HQ hz1
   obtain ⟨i, vs, s, sf, sn, hi, rfl, rfl, HS, HQ⟩ := hrel
   obtain ⟨As, cs, rfl⟩ := Kd.R_slice HS.out.2.2.2.2.2
   by_cases hlt : i < fr.length
   ·obtain ⟨g1, hg1⟩ : ∃ g1, fr.length - i = g1 + 1 := ⟨fr.length - i - 1, by omega⟩
    have k1 : decide ((i : Int) < (fr.length : Int)) = true := decide_eq_true (by omega)
    have k2 : decide (i < fr.length) = true := decide_eq_true hlt
    obtain ⟨ad', hA, hx0⟩ := Kd.at_string (Kd.R_reads' HS.out.2.2.2.2.1).2.2 (i : Int) (by omega) (by omega)
    rw [Int.toNat_natCast] at hx0
    cases hA
    have i1 : (0 : Int) ≤ (i : Int) := by omega
    have i2 : (i : Int) < (fr.length : Int) := by omega
    replace i1 := eq_true i1; replace i2 := eq_true i2
    obtain ⟨f, hf⟩ : ∃ x, rdOf ByteArray.empty fr (i : Int) = x := ⟨_, rfl⟩
    have hq := HQ.out
    rw [fr_step hlt hf] at hq
    rw [hf] at hx0
    clear hf HQ
    obtain ⟨d, a, fl, nx, ok, hfs, hed, hno, hok⟩ := readL_on hq
    have HED := Aside0.mk hed; have HFS := Aside0.mk hfs; have HNO := Aside0.mk hno; have HOK := Aside0.mk hok; clear hq hed hfs hno hok
    go_wp2_with fail
    refine (from_any (w0 := w) f HFS.out HS.out.1).mono ?_; rintro e w3 ⟨c, rfl, hc, hcw, hb2, hn2⟩
    have HS3 := Aside0.mk (HS.out.below hn2); have HC3 := Aside0.mk hc; clear hc hcw hb2 hn2 HS hx0 k1 k2 i1 i2
    go_wp2_with (first | ((with_reducible refine gate_dst (N := 31) rfl ?_); refine box_event ?hg (N := 31) ?hd (cs := #[.pointer (some ⟨c, 0, none⟩), .bool false]) (t := 65) ?hr ?_; (case hd => rfl); (case hg => rfl); (case hr => first | (go_simp; done) | (go_simp; rfl)); intro g hdg w4 hd0 hb3; have HDG := Aside0.mk hdg; clear hdg))
    have HS4 := Aside0.mk (HS3.out.below hb3)
    have HRD : Aside0 (RdS w w4 g c (bytesOf f) 0 false) := ⟨hd0, by have := HS3.out.1.size; have := HDG.out; omega, HC3.out.below hb3⟩
    clear hd0 hb3 HDG HC3 HS3
    go_wp2_with fail
    refine (edit_any HED.out HRD.out HS4.out.1).mono ?_; rintro e w5 ⟨vd, va, rfl, hE⟩
    obtain ⟨Ad, cd, rfl⟩ := Kd.R_slice hE.2.2.1
    obtain ⟨Aa, ca, rfl⟩ := Kd.R_slice hE.2.2.2
    have HS5 := Aside0.mk (HS4.out.kept hE.2.1 hE.1 HRD.out.1 HRD.out.2.2.1.1)
    have HE := Aside0.mk hE; clear hE HRD HS4 HED
    have HX := Aside0.mk (heap_alloc_new w5 (.cells #[.slice Ad d.length cd, .slice Aa a.length ca, .int .i64 fl, .int .i64 nx] 32))
    have ha := below_alloc (Below.refl w5.heap.size w5) (.cells #[.slice Ad d.length cd, .slice Aa a.length ca, .int .i64 fl, .int .i64 nx] 32)
    have HS6 := Aside0.mk (HS5.out.below ha); have HRd := Aside0.mk (Kd.R_below HE.out.2.2.1 ha); have HRa := Aside0.mk (Kd.R_below HE.out.2.2.2 ha)
    clear ha HE HS5
    go_upto_region 10 with (fail)
    generalize w5.heap.size = X at HX ⊢
    generalize World.alloc w5 _ = w6 at HX HS6 HRd HRa ⊢
    cases ok
    ·obtain ⟨rfl, rfl, rfl, rfl⟩ : r1 = [] ∧ r2 = 0 ∧ r3 = 0 ∧ r4 = 8 := by simpa using HNO.out rfl
     have t0 := HS6.out.r0; have t1 := HS6.out.r1; have t2 := HS6.out.r2; have s0 := blk_frozen HS6.out.2.1.1 0; have s1 := blk_frozen HS6.out.2.1.1 1; have s2 := blk_frozen HS6.out.2.1.1 2
     go_wp2
     refine bodyPost_ret (v := .tuple #[.agg #[.slice none 0 0, .int .i64 0, .int .i64 0], .int .i64 8]) ?_ rfl ⟨_, rfl, Kd.R_nil _ _ _ _ _, HS6.out.out _ _ _⟩
     simp [results, Try.results15, go_sem, *]
    ·obtain ⟨s', sf', sn', er, hap, her, hgo⟩ := HOK.out rfl
     have HAP := Aside0.mk hap; have HER := Aside0.mk her; have HGO := Aside0.mk hgo; clear hap her hgo HOK HNO
     have q0 := HS6.out.s0; have q1 := HS6.out.s1; have q2 := HS6.out.s2; have x0 : w6.cell? ⟨X, 0, none⟩ = some (.slice Ad d.length cd) := (blk_cell HX.out 0).trans rfl; have x1 : w6.cell? ⟨X, 1, none⟩ = some (.slice Aa a.length ca) := (blk_cell HX.out 1).trans rfl; have x2 : w6.cell? ⟨X, 2, none⟩ = some (.int .i64 fl) := (blk_cell HX.out 2).trans rfl; have x3 : w6.cell? ⟨X, 3, none⟩ = some (.int .i64 nx) := (blk_cell HX.out 3).trans rfl
     go_wp2_with fail
     refine (manifest_Apply.calls As cs s sf sn Ad cd d Aa ca a fl nx s' sf' sn' er _ (Kd.R_reads' HS6.out.2.2.2.2.2).2.2 (Kd.R_reads' HS6.out.2.2.2.2.2).2.1 (Kd.R_reads' HRd.out).2.2 (Kd.R_reads' HRd.out).2.1 (Kd.R_reads' HRa.out).2.2 (Kd.R_reads' HRa.out).2.1 HAP.out).mono ?_; rintro e w7 ⟨v7, rfl, hr7, hb7⟩
     obtain ⟨A7, c7, rfl⟩ := Kd.R_slice hr7
     have HS7 := Aside0.mk (HS6.out.below hb7); have HR7 := Aside0.mk (Kd.R_lower hr7 (show w.heap.size ≤ _ from HS6.out.1.size))
     clear hr7 hb7 HS6 HRd HRa HX HAP q0 q1 q2 x0 x1 x2 x3
     have q0 := HS7.out.s0; have q1 := HS7.out.s1; have q2 := HS7.out.s2; have f0 := blk_frozen HS7.out.2.2.1.1 0; have f1 := blk_frozen HS7.out.2.2.1.1 1; have f2 := blk_frozen HS7.out.2.2.1.1 2
     go_upto_region 13 with (fail)
     have HS8 := Aside0.mk (HS7.out.next HR7.out sf' sn')
     clear HS7 HR7 q0 q1 q2 f0 f1 f2
     generalize World.setCell _ _ _ = w8 at HS8 ⊢
     by_cases hz : er = 0
     ·have hgo := HGO.out hz
      subst hz
      have HQ := Aside0.mk hgo; clear hgo HGO HER
      have hz1 : ((0 : Int) != 0) = false := rfl
      go_wp2_with fail
      go_roundg g1
      case measure => omega
      case rel => exact ⟨i + 1, _, s', sf', sn', by omega, by omega, by go_num, HS8, HQ⟩
     ·obtain ⟨rfl, rfl, rfl, rfl⟩ : r1 = [] ∧ r2 = 0 ∧ r3 = 0 ∧ r4 = 8 := by simpa using HER.out hz
      have hz1 : (er != 0) = true := bne_iff_ne.mpr hz
      have HZ := Aside0.mk hz; clear hz
      have t0 := HS8.out.r0; have t1 := HS8.out.r1; have t2 := HS8.out.r2; have s0 := blk_frozen HS8.out.2.1.1 0; have s1 := blk_frozen HS8.out.2.1.1 1; have s2 := blk_frozen HS8.out.2.1.1 2
      go_wp2
      refine bodyPost_ret (v := .tuple #[.agg #[.slice none 0 0, .int .i64 0, .int .i64 0], .int .i64 8]) ?_ rfl ⟨_, rfl, Kd.R_nil _ _ _ _ _, HS8.out.out _ _ _⟩
      simp [results, Try.results15, go_sem, *]
   ·have k1 : decide ((i : Int) < (fr.length : Int)) = false := decide_eq_false (by omega)
    have k2 : decide (i < fr.length) = false := decide_eq_false hlt
    have hq := HQ.out
    rw [List.drop_eq_nil_of_le (by omega)] at hq
    unfold readL at hq
    obtain ⟨rfl, rfl, rfl, rfl⟩ : s = r1 ∧ sf = r2 ∧ sn = r3 ∧ 0 = r4 := by simpa using hq
    clear hq HQ hlt
    have q0 := HS.out.s0; have q1 := HS.out.s1; have q2 := HS.out.s2
    have t0 := HS.out.r0; have t1 := HS.out.r1; have t2 := HS.out.r2; have s0 := blk_frozen HS.out.2.1.1 0; have s1 := blk_frozen HS.out.2.1.1 1; have s2 := blk_frozen HS.out.2.1.1 2
    go_wp2
    refine bodyPost_ret (v := .tuple #[.agg #[.slice As s.length cs, .int .i64 sf, .int .i64 sn], .int .i64 0]) ?_ rfl ⟨_, rfl, HS.out.outr _ _ _, HS.out.out _ _ _⟩
    simp [results, Try.results15, go_sem, *]
 ·rw [if_neg hz] at HQ
  obtain ⟨rfl, rfl, rfl, rfl⟩ : [] = r1 ∧ 0 = r2 ∧ 0 = r3 ∧ 8 = r4 := by simpa using HQ.out
  have hz1 : (er != 0) = true := bne_iff_ne.mpr hz
  have HZ := Aside0.mk hz; clear hz
  have t0 : w1.cell? ⟨w.heap.size, 0, none⟩ = some (.slice none 0 0) := (blk_cell HR1.out 0).trans rfl
  have t1 : w1.cell? ⟨w.heap.size, 1, none⟩ = some (.int .i64 0) := (blk_cell HR1.out 1).trans rfl
  have t2 : w1.cell? ⟨w.heap.size, 2, none⟩ = some (.int .i64 0) := (blk_cell HR1.out 2).trans rfl
  have s0 := blk_frozen HR1.out 0; have s1 := blk_frozen HR1.out 1; have s2 := blk_frozen HR1.out 2
  go_wp2
  refine bodyPost_ret (v := .tuple #[.agg #[.slice none 0 0, .int .i64 0, .int .i64 0], .int .i64 8]) ?_ rfl ⟨_, rfl, Kd.R_nil _ _ _ _ _, below_set (below_set (below_set HB1.out (Nat.le_refl _)) (Nat.le_refl _)) (Nat.le_refl _)⟩
  simp [results, Try.results15, go_sem, *]
end Go.Proofs.Ytagokgijffpdnaa.G
namespace Go.Proofs.Ytagokgijffpdnaa.G
open Go.RowKit Go.Proofs.YtagokgijffpdnaaQ Go.Proofs.YtagokgijffpdnaaW.PrintWords Go.Proofs.YtagokgijffpdnaaW.PrintLast Go.Proofs.YtagokgijffpdnaaW.PrintMore
set_option linter.unusedVariables false
set_option linter.unusedSimpArgs false
theorem aUint_enc {n : Int} (h : u64 n) (r : List Int) : aUint (encU n ++ r) 0 = (n, r, 0) := by
 unfold aUint
 rw [if_pos rfl, decU_enc h]
 simp
theorem aInt_enc {n : Int} (h : i64 n) (r : List Int) : (aInt (encI n ++ r) 0).1 = n ∧ (aUint (encI n ++ r) 0).2.1 = r ∧ (aUint (encI n ++ r) 0).2.2 = 0 := by
 unfold aInt encI
 rw [aUint_enc (fold_u64 h)]
 exact ⟨unfold_fold n, rfl, rfl⟩
theorem aText_enc {l : List Int} (h : l.length ≤ 64) (r : List Int) : aText 64 (encT l ++ r) 0 = (l, r, 0) := by
 have hu : u64 (l.length : Int) := by unfold u64; omega
 unfold aText encT
 rw [if_pos rfl, List.append_assoc, decU_enc hu]
 simp only
 rw [if_pos trivial, if_neg (by omega), List.drop_left, if_neg (by rw [List.length_append]; omega), Int.toNat_natCast, List.take_left, List.drop_left]
theorem numL_enc {n : Int} (h : oddI n = false) (r : List Int) : numL (encU n ++ r) 0 false = (n, r, 0, false) := by
 have hu := not_odd h
 unfold oddI at h
 simp only [Bool.or_eq_false_iff, decide_eq_false_iff_not] at h
 unfold numL
 rw [aUint_enc hu]
 simp only
 rw [if_neg (by omega)]
theorem valL_enc {v : SV} (h : badV v = false) (hi : i64 v.f1) (r : List Int) : valL (valB v ++ r) 0 = (v, r, 0) := by
 unfold badV at h
 simp only [Bool.or_eq_false_iff, decide_eq_false_iff_not] at h
 obtain ⟨h0, h1⟩ := h
 unfold valL valB
 rw [List.append_assoc]
 obtain ⟨a, b, c⟩ := aInt_enc hi (encT (bytesOf v.f2) ++ r)
 rw [a, b, c, aText_enc (by rw [bytesOf_size]; omega)]
 simp only
 rw [strOfNums_bytesOf]
 obtain ⟨v0, v1, v2⟩ := v
 simp only at h0 ⊢
 rw [h0]
theorem partL_enc {p : SP} (h : oddP p = false) (hi : i64 p.f2.f1 ∧ i64 p.f3.f1) (r : List Int) : partL (partB p ++ r) 0 false = (p, r, 0, false) := by
 unfold oddP at h
 simp only [Bool.or_eq_false_iff, decide_eq_false_iff_not] at h
 obtain ⟨h0, h1, h2, h3, h4, -⟩ := h
 have hl : oddI p.f1 = false := by unfold oddI; rw [Bool.or_eq_false_iff]; exact ⟨decide_eq_false (by omega), decide_eq_false (by omega)⟩
 have e : partB p ++ r = encU p.f0 ++ (encU p.f1 ++ (valB p.f2 ++ (valB p.f3 ++ r))) := by simp [partB]
 unfold partL
 rw [e, numL_enc h0]
 simp only
 rw [numL_enc hl]
 simp only
 rw [valL_enc h3 hi.1]
 simp only
 rw [valL_enc h4 hi.2]
theorem dropsL_enc : ∀ (l : List Int) (r acc : List Int), (l.all fun x => !oddI x) = true → dropsL l.length (l.flatMap encU ++ r) 0 false acc = (acc ++ l, r, 0, false)
 | [], r, acc, _ => by simp [dropsL]
 | x :: l, r, acc, h => by
  simp only [List.all_cons, Bool.and_eq_true, Bool.not_eq_true'] at h
  rw [List.length_cons, List.flatMap_cons, List.append_assoc]
  unfold dropsL
  rw [if_pos (by rfl), numL_enc h.1]
  simp only
  rw [dropsL_enc l r _ h.2, List.append_assoc]
  rfl
theorem addsL_enc : ∀ (a : List SP) (r : List Int) (acc : List SP), (a.all fun p => !oddP p) = true → (∀ p ∈ a, OkP p) → addsL a.length (a.flatMap partB ++ r) 0 false acc = (acc ++ a, r, 0, false)
 | [], r, acc, _, _ => by simp [addsL]
 | p :: a, r, acc, h, hok => by
  simp only [List.all_cons, Bool.and_eq_true, Bool.not_eq_true'] at h
  rw [List.length_cons, List.flatMap_cons, List.append_assoc]
  unfold addsL
  rw [if_pos (by rfl), partL_enc h.1 (hok p (by simp)).ints]
  simp only
  rw [addsL_enc a r _ h.2 (fun q hq => hok q (by simp [hq])), List.append_assoc]
  rfl
theorem odd_len {n : Nat} (h : n ≤ 1000) : oddI (n : Int) = false := by unfold oddI; rw [Bool.or_eq_false_iff]; exact ⟨decide_eq_false (by omega), decide_eq_false (by omega)⟩
theorem editL_enc {d : List Int} {a : List SP} {fl nx : Int} (h : rightB d a fl nx = true) (hok : ∀ p ∈ a, OkP p) : editL (editB d a fl nx) = (d, a, fl, nx, true) := by
 have hr := h
 unfold rightB at h
 simp only [Bool.and_eq_true, decide_eq_true_eq, Bool.not_eq_true'] at h
 obtain ⟨h1, h2, h3, h4, h5, h6⟩ := h
 unfold editL editB
 rw [numL_enc (odd_len h1)]
 simp only
 rw [Int.toNat_natCast, dropsL_enc d _ [] h5]
 unfold afterDrops
 simp only
 rw [numL_enc (odd_len h2)]
 simp only
 rw [Int.toNat_natCast, addsL_enc a _ [] h6 hok]
 unfold afterAdds tailL
 simp only [List.nil_append]
 rw [numL_enc h3]
 simp only
 have e := numL_enc h4 []
 rw [List.append_nil] at e
 rw [e]
 simp only
 rw [hr]
 rfl
end Go.Proofs.Ytagokgijffpdnaa.G
namespace Go.Proofs.Ytagokgijffpdnaa.G
open Go.RowKit Go.Proofs.YtagokgijffpdnaaQ Go.Proofs.YtagokgijffpdnaaW.PrintWords Go.Proofs.YtagokgijffpdnaaW.PrintLast Go.Proofs.YtagokgijffpdnaaW.PrintMore
attribute [local go_sem] max2_int min2_int max_two min_two max_three min_three max_four min_four   -- for this text's walks alone
set_option linter.unusedVariables false
set_option linter.unusedSimpArgs false
attribute [local go_sem high] eqA36
mutual
def tithebarnref16_Same.j0 : Nat → Bool → List (S36) → Int → Int → List (S36) → Int → Int → Option (Bool)
 | 0, _, _, _, _, _, _, _ => none
 | k + 1, x26, x163000, x163001, x163002, x164000, x164001, x164002 => if x26 = true then (some false) else (tithebarnref16_Same.l0 k 0 x163000 x163001 x163002 x164000 x164001 x164002)
def tithebarnref16_Same.l0 : Nat → Int → List (S36) → Int → Int → List (S36) → Int → Int → Option (Bool)
 | 0, _, _, _, _, _, _, _ => none
 | k + 1, x5, x163000, x163001, x163002, x164000, x164001, x164002 => if x5 < (x163000.length : Int) then (if 0 ≤ x5 then (if x5 < (x164000.length : Int) then (if (!(((rd_T36 x163000 x5).f0) == ((rd_T36 x164000 x5).f0)) || (!(((rd_T36 x163000 x5).f1) == ((rd_T36 x164000 x5).f1)) || ((!(((rd_T36 x163000 x5).f2.f0) == ((rd_T36 x164000 x5).f2.f0)) || (!(((rd_T36 x163000 x5).f2.f1) == ((rd_T36 x164000 x5).f2.f1)) || (!((((rd_T36 x163000 x5).f2.f2).toList) == (((rd_T36 x164000 x5).f2.f2).toList))))) || ((!(((rd_T36 x163000 x5).f3.f0) == ((rd_T36 x164000 x5).f3.f0)) || (!(((rd_T36 x163000 x5).f3.f1) == ((rd_T36 x164000 x5).f3.f1)) || (!((((rd_T36 x163000 x5).f3.f2).toList) == (((rd_T36 x164000 x5).f3.f2).toList))))))))) = true then (some false) else (tithebarnref16_Same.l0 k (wrap64 (x5 + 1)) x163000 x163001 x163002 x164000 x164001 x164002)) else (none)) else (none)) else (some true)
end
def tithebarnref16_Same.f (k : Nat) (l0_0 : List (S36)) (a0_1 : Int) (a0_2 : Int) (l1_0 : List (S36)) (a1_1 : Int) (a1_2 : Int) : Option (Bool) := if a0_1 = a1_1 then (if a0_2 = a1_2 then (tithebarnref16_Same.j0 k ((l0_0.length : Int) != (l1_0.length : Int)) l0_0 a0_1 a0_2 l1_0 a1_1 a1_2) else (tithebarnref16_Same.j0 k true l0_0 a0_1 a0_2 l1_0 a1_1 a1_2)) else (tithebarnref16_Same.j0 k true l0_0 a0_1 a0_2 l1_0 a1_1 a1_2)
theorem tithebarnref16_Same.mono_l : ∀ k, (∀ y0 y1 y2 y3 y4 y5 y6, LeO (tithebarnref16_Same.j0 k y0 y1 y2 y3 y4 y5 y6) (tithebarnref16_Same.j0 (k + 1) y0 y1 y2 y3 y4 y5 y6)) ∧ (∀ y0 y1 y2 y3 y4 y5 y6, LeO (tithebarnref16_Same.l0 k y0 y1 y2 y3 y4 y5 y6) (tithebarnref16_Same.l0 (k + 1) y0 y1 y2 y3 y4 y5 y6))
 | 0 => ⟨fun _ _ _ _ _ _ _ r h => by simp [tithebarnref16_Same.j0] at h, fun _ _ _ _ _ _ _ r h => by simp [tithebarnref16_Same.l0] at h⟩
 | k + 1 => by
  obtain ⟨ih0, ih1⟩ := tithebarnref16_Same.mono_l k
  refine ⟨?_, ?_⟩
  ·intro y0 y1 y2 y3 y4 y5 y6
   unfold tithebarnref16_Same.j0
   repeat' first
   | (with_reducible exact ih0 _ _ _ _ _ _ _)
   | (with_reducible exact ih1 _ _ _ _ _ _ _)
   | (with_reducible exact LeO.refl _)
   | (with_reducible exact LeO.none _)
   | (with_reducible refine LeO.ite ?_ ?_)
   | (with_reducible refine LeO.bind ?_ (fun _ => ?_))
   | exact ih0 _ _ _ _ _ _ _
   | exact ih1 _ _ _ _ _ _ _
   | exact LeO.none _
   | refine LeO.ite ?_ ?_
   | refine LeO.bind ?_ (fun _ => ?_)
  ·intro y0 y1 y2 y3 y4 y5 y6
   unfold tithebarnref16_Same.l0
   repeat' first
   | (with_reducible exact ih0 _ _ _ _ _ _ _)
   | (with_reducible exact ih1 _ _ _ _ _ _ _)
   | (with_reducible exact LeO.refl _)
   | (with_reducible exact LeO.none _)
   | (with_reducible refine LeO.ite ?_ ?_)
   | (with_reducible refine LeO.bind ?_ (fun _ => ?_))
   | exact ih0 _ _ _ _ _ _ _
   | exact ih1 _ _ _ _ _ _ _
   | exact LeO.none _
   | refine LeO.ite ?_ ?_
   | refine LeO.bind ?_ (fun _ => ?_)
theorem tithebarnref16_Same.mono : ∀ a0 a1 a2 a3 a4 a5 k, LeO (tithebarnref16_Same.f k a0 a1 a2 a3 a4 a5) (tithebarnref16_Same.f (k + 1) a0 a1 a2 a3 a4 a5) := by
 intro a0 a1 a2 a3 a4 a5 k
 obtain ⟨ih0, ih1⟩ := tithebarnref16_Same.mono_l k
 unfold tithebarnref16_Same.f
 repeat' first
   | (with_reducible exact ih0 _ _ _ _ _ _ _)
   | (with_reducible exact ih1 _ _ _ _ _ _ _)
   | (with_reducible exact LeO.refl _)
   | (with_reducible exact LeO.none _)
   | (with_reducible refine LeO.ite ?_ ?_)
   | (with_reducible refine LeO.bind ?_ (fun _ => ?_))
   | exact ih0 _ _ _ _ _ _ _
   | exact ih1 _ _ _ _ _ _ _
   | exact LeO.none _
   | refine LeO.ite ?_ ?_
   | refine LeO.bind ?_ (fun _ => ?_)
set_option maxHeartbeats 8000000 in
set_option maxRecDepth 100000 in
theorem tithebarnref16_Same.calls (k : Nat) (A0_0 : Option Addr) (c0_0 : Nat) (l0_0 : List (S36)) (a0_1 : Int) (a0_2 : Int) (A1_0 : Option Addr) (c1_0 : Nat) (l1_0 : List (S36)) (a1_1 : Int) (a1_2 : Int) (r : Bool) (w : World) (hr0_0 : Kd.C k36 w A0_0 l0_0.length l0_0) (hc0_0 : l0_0.length ≤ c0_0) (hr1_0 : Kd.C k36 w A1_0 l1_0.length l1_0) (hc1_0 : l1_0.length ≤ c1_0) (h : tithebarnref16_Same.f k l0_0 a0_1 a0_2 l1_0 a1_1 a1_2 = some r) :
  Calls Try.prog 11 #[.agg #[.slice A0_0 l0_0.length c0_0, .int .i64 a0_1, .int .i64 a0_2], .agg #[.slice A1_0 l1_0.length c1_0, .int .i64 a1_1, .int .i64 a1_2]] w fun e w' => e = .returned (.bool r) ∧ Below w.heap.size w w' := by
 have hu26 := Try.underlying26
 have hu36 := Try.underlying36
 have HR0_0 := Aside0.mk hr0_0
 have HC0_0 := Aside0.mk hc0_0
 clear hr0_0 hc0_0
 have HR1_0 := Aside0.mk hr1_0
 have HC1_0 := Aside0.mk hc1_0
 clear hr1_0 hc1_0
 have HB := Aside0.mk (Below.refl w.heap.size w)
 have H : (if a0_1 = a1_1 then (if a0_2 = a1_2 then (tithebarnref16_Same.j0 k ((l0_0.length : Int) != (l1_0.length : Int)) l0_0 a0_1 a0_2 l1_0 a1_1 a1_2) else (tithebarnref16_Same.j0 k true l0_0 a0_1 a0_2 l1_0 a1_1 a1_2)) else (tithebarnref16_Same.j0 k true l0_0 a0_1 a0_2 l1_0 a1_1 a1_2)) = some r := h
 clear h
 have HC3 := Aside0.mk H
 clear H
 go_enter Try.func11, Try.ntmps11
 go_upto_region 1 with (first | ((with_reducible refine gate_dst (N := 2) rfl ?_); (try (refine gate_guard (by rfl) ?_; dsimp only)); refine box_event ?hg (N := 2) ?hd (cs := #[.slice A0_0 l0_0.length c0_0, .int .i64 a0_1, .int .i64 a0_2]) (t := 26) ?hr ?_; (case hd => rfl); (case hg => rfl); (case hr => first | (go_simp; done) | (go_simp; rfl)); intro gb162 hg w4 hbox hb; have n0_ := Aside0.mk (below_step z0_ hb); have n1_ := Aside0.mk (hbox); have n2_ := Aside0.mk ((by rw [hg]; exact (below_size z0_) : w.heap.size ≤ gb162)); have n3_ := Aside0.mk ((by rw [hg]; exact (below_size z0_) : w.heap.size ≤ gb162)); clear HB; have HB := n0_; have BK162 := n1_; have GW162 := n2_; have GE162 := n3_; clear n0_ n1_ n2_ n3_; clear hb hbox hg) | ((with_reducible refine gate_dst (N := 3) rfl ?_); (try (refine gate_guard (by rfl) ?_; dsimp only)); refine box_event ?hg (N := 3) ?hd (cs := #[.slice A1_0 l1_0.length c1_0, .int .i64 a1_1, .int .i64 a1_2]) (t := 26) ?hr ?_; (case hd => rfl); (case hg => rfl); (case hr => first | (go_simp; done) | (go_simp; rfl)); intro gb163 hg w5 hbox hb; have n0_ := Aside0.mk (blk_below (g := gb162) (o := .cells #[.slice A0_0 l0_0.length c0_0, .int .i64 a0_1, .int .i64 a0_2] 26 (0, 0)) (by (with_reducible repeat (first | refine blk_drewN ?_ _ | refine blk_drew ?_ | refine blk_alloc ?_ _)); exact BK162.out) hb); have n1_ := Aside0.mk (below_step z14_ hb); have n2_ := Aside0.mk (hbox); have n3_ := Aside0.mk ((by rw [hg]; exact (below_size z14_) : w.heap.size ≤ gb163)); have n4_ := Aside0.mk ((by rw [hg]; exact (below_size z14_) : w.heap.size ≤ gb163)); have n5_ := Aside0.mk ((by rw [hg]; exact Nat.ne_of_lt (blk_lt (g := gb162) (o := .cells #[.slice A0_0 l0_0.length c0_0, .int .i64 a0_1, .int .i64 a0_2] 26 (0, 0)) (by (with_reducible repeat (first | refine blk_drewN ?_ _ | refine blk_drew ?_ | refine blk_alloc ?_ _)); exact BK162.out)) : gb162 ≠ gb163)); have n6_ := Aside0.mk ((by rw [hg]; exact Nat.ne_of_gt (blk_lt (g := gb162) (o := .cells #[.slice A0_0 l0_0.length c0_0, .int .i64 a0_1, .int .i64 a0_2] 26 (0, 0)) (by (with_reducible repeat (first | refine blk_drewN ?_ _ | refine blk_drew ?_ | refine blk_alloc ?_ _)); exact BK162.out)) : gb163 ≠ gb162)); clear BK162; clear HB; have BK162 := n0_; have HB := n1_; have BK163 := n2_; have GW163 := n3_; have GE163 := n4_; have NB162_163 := n5_; have NB163_162 := n6_; clear n0_ n1_ n2_ n3_ n4_ n5_ n6_; clear hb hbox hg))
 repeat (go_quiet (first | ((with_reducible refine gate_dst (N := 2) rfl ?_); (try (refine gate_guard (by rfl) ?_; dsimp only)); refine box_event ?hg (N := 2) ?hd (cs := #[.slice A0_0 l0_0.length c0_0, .int .i64 a0_1, .int .i64 a0_2]) (t := 26) ?hr ?_; (case hd => rfl); (case hg => rfl); (case hr => first | (go_simp; done) | (go_simp; rfl)); intro gb162 hg w4 hbox hb; have n0_ := Aside0.mk (below_step z0_ hb); have n1_ := Aside0.mk (hbox); have n2_ := Aside0.mk ((by rw [hg]; exact (below_size z0_) : w.heap.size ≤ gb162)); have n3_ := Aside0.mk ((by rw [hg]; exact (below_size z0_) : w.heap.size ≤ gb162)); clear HB; have HB := n0_; have BK162 := n1_; have GW162 := n2_; have GE162 := n3_; clear n0_ n1_ n2_ n3_; clear hb hbox hg) | ((with_reducible refine gate_dst (N := 3) rfl ?_); (try (refine gate_guard (by rfl) ?_; dsimp only)); refine box_event ?hg (N := 3) ?hd (cs := #[.slice A1_0 l1_0.length c1_0, .int .i64 a1_1, .int .i64 a1_2]) (t := 26) ?hr ?_; (case hd => rfl); (case hg => rfl); (case hr => first | (go_simp; done) | (go_simp; rfl)); intro gb163 hg w5 hbox hb; have n0_ := Aside0.mk (blk_below (g := gb162) (o := .cells #[.slice A0_0 l0_0.length c0_0, .int .i64 a0_1, .int .i64 a0_2] 26 (0, 0)) (by (with_reducible repeat (first | refine blk_drewN ?_ _ | refine blk_drew ?_ | refine blk_alloc ?_ _)); exact BK162.out) hb); have n1_ := Aside0.mk (below_step z14_ hb); have n2_ := Aside0.mk (hbox); have n3_ := Aside0.mk ((by rw [hg]; exact (below_size z14_) : w.heap.size ≤ gb163)); have n4_ := Aside0.mk ((by rw [hg]; exact (below_size z14_) : w.heap.size ≤ gb163)); have n5_ := Aside0.mk ((by rw [hg]; exact Nat.ne_of_lt (blk_lt (g := gb162) (o := .cells #[.slice A0_0 l0_0.length c0_0, .int .i64 a0_1, .int .i64 a0_2] 26 (0, 0)) (by (with_reducible repeat (first | refine blk_drewN ?_ _ | refine blk_drew ?_ | refine blk_alloc ?_ _)); exact BK162.out)) : gb162 ≠ gb163)); have n6_ := Aside0.mk ((by rw [hg]; exact Nat.ne_of_gt (blk_lt (g := gb162) (o := .cells #[.slice A0_0 l0_0.length c0_0, .int .i64 a0_1, .int .i64 a0_2] 26 (0, 0)) (by (with_reducible repeat (first | refine blk_drewN ?_ _ | refine blk_drew ?_ | refine blk_alloc ?_ _)); exact BK162.out)) : gb163 ≠ gb162)); clear BK162; clear HB; have BK162 := n0_; have HB := n1_; have BK163 := n2_; have GW163 := n3_; have GE163 := n4_; have NB162_163 := n5_; have NB163_162 := n6_; clear n0_ n1_ n2_ n3_ n4_ n5_ n6_; clear hb hbox hg)); go_upto_region 1 with (first | ((with_reducible refine gate_dst (N := 2) rfl ?_); (try (refine gate_guard (by rfl) ?_; dsimp only)); refine box_event ?hg (N := 2) ?hd (cs := #[.slice A0_0 l0_0.length c0_0, .int .i64 a0_1, .int .i64 a0_2]) (t := 26) ?hr ?_; (case hd => rfl); (case hg => rfl); (case hr => first | (go_simp; done) | (go_simp; rfl)); intro gb162 hg w4 hbox hb; have n0_ := Aside0.mk (below_step z0_ hb); have n1_ := Aside0.mk (hbox); have n2_ := Aside0.mk ((by rw [hg]; exact (below_size z0_) : w.heap.size ≤ gb162)); have n3_ := Aside0.mk ((by rw [hg]; exact (below_size z0_) : w.heap.size ≤ gb162)); clear HB; have HB := n0_; have BK162 := n1_; have GW162 := n2_; have GE162 := n3_; clear n0_ n1_ n2_ n3_; clear hb hbox hg) | ((with_reducible refine gate_dst (N := 3) rfl ?_); (try (refine gate_guard (by rfl) ?_; dsimp only)); refine box_event ?hg (N := 3) ?hd (cs := #[.slice A1_0 l1_0.length c1_0, .int .i64 a1_1, .int .i64 a1_2]) (t := 26) ?hr ?_; (case hd => rfl); (case hg => rfl); (case hr => first | (go_simp; done) | (go_simp; rfl)); intro gb163 hg w5 hbox hb; have n0_ := Aside0.mk (blk_below (g := gb162) (o := .cells #[.slice A0_0 l0_0.length c0_0, .int .i64 a0_1, .int .i64 a0_2] 26 (0, 0)) (by (with_reducible repeat (first | refine blk_drewN ?_ _ | refine blk_drew ?_ | refine blk_alloc ?_ _)); exact BK162.out) hb); have n1_ := Aside0.mk (below_step z14_ hb); have n2_ := Aside0.mk (hbox); have n3_ := Aside0.mk ((by rw [hg]; exact (below_size z14_) : w.heap.size ≤ gb163)); have n4_ := Aside0.mk ((by rw [hg]; exact (below_size z14_) : w.heap.size ≤ gb163)); have n5_ := Aside0.mk ((by rw [hg]; exact Nat.ne_of_lt (blk_lt (g := gb162) (o := .cells #[.slice A0_0 l0_0.length c0_0, .int .i64 a0_1, .int .i64 a0_2] 26 (0, 0)) (by (with_reducible repeat (first | refine blk_drewN ?_ _ | refine blk_drew ?_ | refine blk_alloc ?_ _)); exact BK162.out)) : gb162 ≠ gb163)); have n6_ := Aside0.mk ((by rw [hg]; exact Nat.ne_of_gt (blk_lt (g := gb162) (o := .cells #[.slice A0_0 l0_0.length c0_0, .int .i64 a0_1, .int .i64 a0_2] 26 (0, 0)) (by (with_reducible repeat (first | refine blk_drewN ?_ _ | refine blk_drew ?_ | refine blk_alloc ?_ _)); exact BK162.out)) : gb163 ≠ gb162)); clear BK162; clear HB; have BK162 := n0_; have HB := n1_; have BK163 := n2_; have GW163 := n3_; have GE163 := n4_; have NB162_163 := n5_; have NB163_162 := n6_; clear n0_ n1_ n2_ n3_ n4_ n5_ n6_; clear hb hbox hg)))
 (try simp only [Act.put, List.setIfInBounds_toArray, List.set_cons_zero, List.set_cons_succ])
 go_cut [26] (fun v26 wc => ∃ (kq : Nat) (x26_2 : Bool), v26 = .bool x26_2 ∧ Aside0 (tithebarnref16_Same.j0 kq x26_2 l0_0 a0_1 a0_2 l1_0 a1_1 a1_2 = some r) ∧ Aside0 (kq ≤ k) ∧ Aside0 (wc.heap[gb162]? = some (.cells #[(.slice A0_0 l0_0.length c0_0), .int .i64 a0_1, .int .i64 a0_2] 26 (0, 0))) ∧ Aside0 (wc.heap[gb163]? = some (.cells #[(.slice A1_0 l1_0.length c1_0), .int .i64 a1_1, .int .i64 a1_2] 26 (0, 0))) ∧ Aside0 (Below w.heap.size w wc))
 case first =>
  have H := HC3.out
  clear HC3
  by_cases c6 : a0_1 = a1_1
  ·rw [if_pos c6] at H
   have c6b0 : (a0_1 == a1_1) = true := beq_iff_eq.mpr c6
   have c6b1 : (a0_1 != a1_1) = false := bne_eq_false_iff_eq.mpr c6
   clear c6
   (first | rw [c6b0] | (simp only [i64_w, i32_w]; rw [c6b0]) | skip)
   by_cases c7 : a0_2 = a1_2
   ·rw [if_pos c7] at H
    have c7b0 : (a0_2 == a1_2) = true := beq_iff_eq.mpr c7
    have c7b1 : (a0_2 != a1_2) = false := bne_eq_false_iff_eq.mpr c7
    clear c7
    have H' := Aside0.mk H
    clear H
    have hnb8 := NB162_163.out
    have hnc8 := NB163_162.out
    have hcz9_0 : w5.cell? ⟨gb162, 0, none⟩ = some (.slice A0_0 l0_0.length c0_0) := (blk_cell BK162.out 0).trans rfl
    have hcz9_1 : w5.cell? ⟨gb162, 1, none⟩ = some (.int .i64 a0_1) := (blk_cell BK162.out 1).trans rfl
    have hcz9_2 : w5.cell? ⟨gb162, 2, none⟩ = some (.int .i64 a0_2) := (blk_cell BK162.out 2).trans rfl
    have hfz9_0 := blk_frozen BK162.out 0
    have hfz9_1 := blk_frozen BK162.out 1
    have hfz9_2 := blk_frozen BK162.out 2
    have hcz10_0 : w5.cell? ⟨gb163, 0, none⟩ = some (.slice A1_0 l1_0.length c1_0) := (blk_cell BK163.out 0).trans rfl
    have hcz10_1 : w5.cell? ⟨gb163, 1, none⟩ = some (.int .i64 a1_1) := (blk_cell BK163.out 1).trans rfl
    have hcz10_2 : w5.cell? ⟨gb163, 2, none⟩ = some (.int .i64 a1_2) := (blk_cell BK163.out 2).trans rfl
    have hfz10_0 := blk_frozen BK163.out 0
    have hfz10_1 := blk_frozen BK163.out 1
    have hfz10_2 := blk_frozen BK163.out 2
    go_wp2
    repeat (go_quiet (fail); try go_wp2)
    go_meet
    case rel => exact ⟨_, (((l0_0.length : Int) != (l1_0.length : Int))), z8_, H', ⟨by first | omega | exact Nat.le_refl _⟩, ⟨by (with_reducible repeat (first | refine blk_drewN ?_ _ | refine blk_drew ?_ | refine blk_alloc ?_ _)); exact BK162.out⟩, ⟨by (with_reducible repeat (first | refine blk_drewN ?_ _ | refine blk_drew ?_ | refine blk_alloc ?_ _)); exact BK163.out⟩, ⟨z10_⟩⟩
   ·rw [if_neg c7] at H
    have c7b0 : (a0_2 == a1_2) = false := beq_eq_false_iff_ne.mpr c7
    have c7b1 : (a0_2 != a1_2) = true := bne_iff_ne.mpr c7
    have H' := Aside0.mk H
    clear H
    have hnb11 := NB162_163.out
    have hnc11 := NB163_162.out
    have hcz12_0 : w5.cell? ⟨gb162, 0, none⟩ = some (.slice A0_0 l0_0.length c0_0) := (blk_cell BK162.out 0).trans rfl
    have hcz12_1 : w5.cell? ⟨gb162, 1, none⟩ = some (.int .i64 a0_1) := (blk_cell BK162.out 1).trans rfl
    have hcz12_2 : w5.cell? ⟨gb162, 2, none⟩ = some (.int .i64 a0_2) := (blk_cell BK162.out 2).trans rfl
    have hfz12_0 := blk_frozen BK162.out 0
    have hfz12_1 := blk_frozen BK162.out 1
    have hfz12_2 := blk_frozen BK162.out 2
    have hcz13_0 : w5.cell? ⟨gb163, 0, none⟩ = some (.slice A1_0 l1_0.length c1_0) := (blk_cell BK163.out 0).trans rfl
    have hcz13_1 : w5.cell? ⟨gb163, 1, none⟩ = some (.int .i64 a1_1) := (blk_cell BK163.out 1).trans rfl
    have hcz13_2 : w5.cell? ⟨gb163, 2, none⟩ = some (.int .i64 a1_2) := (blk_cell BK163.out 2).trans rfl
    have hfz13_0 := blk_frozen BK163.out 0
    have hfz13_1 := blk_frozen BK163.out 1
    have hfz13_2 := blk_frozen BK163.out 2
    go_wp2
    repeat (go_quiet (fail); try go_wp2)
    go_meet
    case rel => exact ⟨_, (true), z8_, H', ⟨by first | omega | exact Nat.le_refl _⟩, ⟨by (with_reducible repeat (first | refine blk_drewN ?_ _ | refine blk_drew ?_ | refine blk_alloc ?_ _)); exact BK162.out⟩, ⟨by (with_reducible repeat (first | refine blk_drewN ?_ _ | refine blk_drew ?_ | refine blk_alloc ?_ _)); exact BK163.out⟩, ⟨z10_⟩⟩
  ·rw [if_neg c6] at H
   have c6b0 : (a0_1 == a1_1) = false := beq_eq_false_iff_ne.mpr c6
   have c6b1 : (a0_1 != a1_1) = true := bne_iff_ne.mpr c6
   (first | rw [c6b0] | (simp only [i64_w, i32_w]; rw [c6b0]) | skip)
   have H' := Aside0.mk H
   clear H
   have hnb14 := NB162_163.out
   have hnc14 := NB163_162.out
   have hcz15_0 : w5.cell? ⟨gb162, 0, none⟩ = some (.slice A0_0 l0_0.length c0_0) := (blk_cell BK162.out 0).trans rfl
   have hcz15_1 : w5.cell? ⟨gb162, 1, none⟩ = some (.int .i64 a0_1) := (blk_cell BK162.out 1).trans rfl
   have hcz15_2 : w5.cell? ⟨gb162, 2, none⟩ = some (.int .i64 a0_2) := (blk_cell BK162.out 2).trans rfl
   have hfz15_0 := blk_frozen BK162.out 0
   have hfz15_1 := blk_frozen BK162.out 1
   have hfz15_2 := blk_frozen BK162.out 2
   have hcz16_0 : w5.cell? ⟨gb163, 0, none⟩ = some (.slice A1_0 l1_0.length c1_0) := (blk_cell BK163.out 0).trans rfl
   have hcz16_1 : w5.cell? ⟨gb163, 1, none⟩ = some (.int .i64 a1_1) := (blk_cell BK163.out 1).trans rfl
   have hcz16_2 : w5.cell? ⟨gb163, 2, none⟩ = some (.int .i64 a1_2) := (blk_cell BK163.out 2).trans rfl
   have hfz16_0 := blk_frozen BK163.out 0
   have hfz16_1 := blk_frozen BK163.out 1
   have hfz16_2 := blk_frozen BK163.out 2
   go_wp2
   repeat (go_quiet (fail); try go_wp2)
   go_meet
   case rel => exact ⟨_, (true), z8_, H', ⟨by first | omega | exact Nat.le_refl _⟩, ⟨by (with_reducible repeat (first | refine blk_drewN ?_ _ | refine blk_drew ?_ | refine blk_alloc ?_ _)); exact BK162.out⟩, ⟨by (with_reducible repeat (first | refine blk_drewN ?_ _ | refine blk_drew ?_ | refine blk_alloc ?_ _)); exact BK163.out⟩, ⟨z10_⟩⟩
 case rest =>
  clear HC3
  try clear c1
  try clear p2
  try clear c6
  try clear c6b0
  try clear c6b1
  try clear c7
  try clear c7b0
  try clear c7b1
  try clear c8
  try clear c11
  try clear c14
  try clear hcz10_0
  try clear hcz10_1
  try clear hcz10_2
  try clear hcz12_0
  try clear hcz12_1
  try clear hcz12_2
  try clear hcz13_0
  try clear hcz13_1
  try clear hcz13_2
  try clear hcz15_0
  try clear hcz15_1
  try clear hcz15_2
  try clear hcz16_0
  try clear hcz16_1
  try clear hcz16_2
  try clear hcz9_0
  try clear hcz9_1
  try clear hcz9_2
  try clear hfz10_0
  try clear hfz10_1
  try clear hfz10_2
  try clear hfz12_0
  try clear hfz12_1
  try clear hfz12_2
  try clear hfz13_0
  try clear hfz13_1
  try clear hfz13_2
  try clear hfz15_0
  try clear hfz15_1
  try clear hfz15_2
  try clear hfz16_0
  try clear hfz16_1
  try clear hfz16_2
  try clear hfz9_0
  try clear hfz9_1
  try clear hfz9_2
  obtain ⟨kq, x26_2, rfl, HA, HJ2, BK162, BK163, HB⟩ := hcut
  cases kq with
  | zero => exact absurd HA.out (by simp [tithebarnref16_Same.j0])
  | succ kj2 =>
   have H := HA.out
   clear HA
   simp only [tithebarnref16_Same.j0] at H
   by_cases c17 : x26_2 = true
   ·subst c17
    have H1 : (some false) = some r := by rw [if_pos rfl] at H; exact H
    clear H
    have H := H1
    clear H1
    obtain rfl := Option.some.inj H
    go_wp2
    repeat (go_quiet (fail); try go_wp2)
    go_ret
    exact ⟨z3_, z10_⟩
   ·replace c17 := Bool.eq_false_iff.mpr c17
    subst c17
    have H1 : (tithebarnref16_Same.l0 kj2 0 l0_0 a0_1 a0_2 l1_0 a1_1 a1_2) = some r := by rw [if_neg (show ¬ (false = true) by decide)] at H; exact H
    clear H
    have H := H1
    clear H1
    have H' := Aside0.mk H
    clear H
    go_wp2
    repeat (go_quiet (fail); try go_wp2)
    go_loopg [5] kj2 (fun kq v5 w' => ∃ (x5_2 : Int), v5 = .int .i64 x5_2 ∧ Aside0 (tithebarnref16_Same.l0 kq x5_2 l0_0 a0_1 a0_2 l1_0 a1_1 a1_2 = some r) ∧ Aside0 (kq ≤ kj2) ∧ Aside0 (w'.heap[gb162]? = some (.cells #[(.slice A0_0 l0_0.length c0_0), .int .i64 a0_1, .int .i64 a0_2] 26 (0, 0))) ∧ Aside0 (w'.heap[gb163]? = some (.cells #[(.slice A1_0 l1_0.length c1_0), .int .i64 a1_1, .int .i64 a1_2] 26 (0, 0))) ∧ Aside0 (Below w.heap.size w w'))
    case atStart => exact ⟨(0), z8_, H', ⟨Nat.le_refl _⟩, ⟨by (with_reducible repeat (first | refine blk_drewN ?_ _ | refine blk_drew ?_ | refine blk_alloc ?_ _)); exact BK162.out⟩, ⟨by (with_reducible repeat (first | refine blk_drewN ?_ _ | refine blk_drew ?_ | refine blk_alloc ?_ _)); exact BK163.out⟩, ⟨z10_⟩⟩
    case round =>
     clear H'
     try clear c1
     try clear p2
     try clear c6
     try clear c6b0
     try clear c6b1
     try clear c7
     try clear c7b0
     try clear c7b1
     try clear c8
     try clear c11
     try clear c14
     try clear c17
     try clear hcz10_0
     try clear hcz10_1
     try clear hcz10_2
     try clear hcz12_0
     try clear hcz12_1
     try clear hcz12_2
     try clear hcz13_0
     try clear hcz13_1
     try clear hcz13_2
     try clear hcz15_0
     try clear hcz15_1
     try clear hcz15_2
     try clear hcz16_0
     try clear hcz16_1
     try clear hcz16_2
     try clear hcz9_0
     try clear hcz9_1
     try clear hcz9_2
     try clear hfz10_0
     try clear hfz10_1
     try clear hfz10_2
     try clear hfz12_0
     try clear hfz12_1
     try clear hfz12_2
     try clear hfz13_0
     try clear hfz13_1
     try clear hfz13_2
     try clear hfz15_0
     try clear hfz15_1
     try clear hfz15_2
     try clear hfz16_0
     try clear hfz16_1
     try clear hfz16_2
     try clear hfz9_0
     try clear hfz9_1
     try clear hfz9_2
     try clear p2
     obtain ⟨x5_2, rfl, HA, HK2, BK162, BK163, HB⟩ := hrel
     cases gk with
     | zero => exact absurd HA.out (by simp [tithebarnref16_Same.l0])
     | succ k2 =>
      have H := HA.out
      clear HA
      simp only [tithebarnref16_Same.l0] at H
      by_cases c18 : x5_2 < (l0_0.length : Int)
      ·rw [if_pos c18] at H
       have c18b0 : decide (x5_2 < (l0_0.length : Int)) = true := decide_eq_true c18
       clear c18
       by_cases c19 : 0 ≤ x5_2
       ·rw [if_pos c19] at H
        have c19b0 : decide (0 ≤ x5_2) = true := decide_eq_true c19
        clear c19
        by_cases c20 : x5_2 < (l1_0.length : Int)
        ·rw [if_pos c20] at H
         have c20b0 : decide (x5_2 < (l1_0.length : Int)) = true := decide_eq_true c20
         clear c20
         by_cases c21 : (!(((rd_T36 l0_0 x5_2).f0) == ((rd_T36 l1_0 x5_2).f0)) || (!(((rd_T36 l0_0 x5_2).f1) == ((rd_T36 l1_0 x5_2).f1)) || ((!(((rd_T36 l0_0 x5_2).f2.f0) == ((rd_T36 l1_0 x5_2).f2.f0)) || (!(((rd_T36 l0_0 x5_2).f2.f1) == ((rd_T36 l1_0 x5_2).f2.f1)) || (!((((rd_T36 l0_0 x5_2).f2.f2).toList) == (((rd_T36 l1_0 x5_2).f2.f2).toList))))) || ((!(((rd_T36 l0_0 x5_2).f3.f0) == ((rd_T36 l1_0 x5_2).f3.f0)) || (!(((rd_T36 l0_0 x5_2).f3.f1) == ((rd_T36 l1_0 x5_2).f3.f1)) || (!((((rd_T36 l0_0 x5_2).f3.f2).toList) == (((rd_T36 l1_0 x5_2).f3.f2).toList))))))))) = true
         ·rw [if_pos c21] at H
          have c21b0 : (!(((rd_T36 l0_0 x5_2).f0) == ((rd_T36 l1_0 x5_2).f0)) || (!(((rd_T36 l0_0 x5_2).f1) == ((rd_T36 l1_0 x5_2).f1)) || ((!(((rd_T36 l0_0 x5_2).f2.f0) == ((rd_T36 l1_0 x5_2).f2.f0)) || (!(((rd_T36 l0_0 x5_2).f2.f1) == ((rd_T36 l1_0 x5_2).f2.f1)) || (!((((rd_T36 l0_0 x5_2).f2.f2).toList) == (((rd_T36 l1_0 x5_2).f2.f2).toList))))) || ((!(((rd_T36 l0_0 x5_2).f3.f0) == ((rd_T36 l1_0 x5_2).f3.f0)) || (!(((rd_T36 l0_0 x5_2).f3.f1) == ((rd_T36 l1_0 x5_2).f3.f1)) || (!((((rd_T36 l0_0 x5_2).f3.f2).toList) == (((rd_T36 l1_0 x5_2).f3.f2).toList))))))))) = true := c21
          clear c21
          obtain rfl := Option.some.inj H
          have hnb22 := NB162_163.out
          have hnc22 := NB163_162.out
          have hcz23_0 : wr.cell? ⟨gb162, 0, none⟩ = some (.slice A0_0 l0_0.length c0_0) := (blk_cell BK162.out 0).trans rfl
          have hcz23_1 : wr.cell? ⟨gb162, 1, none⟩ = some (.int .i64 a0_1) := (blk_cell BK162.out 1).trans rfl
          have hcz23_2 : wr.cell? ⟨gb162, 2, none⟩ = some (.int .i64 a0_2) := (blk_cell BK162.out 2).trans rfl
          have hfz23_0 := blk_frozen BK162.out 0
          have hfz23_1 := blk_frozen BK162.out 1
          have hfz23_2 := blk_frozen BK162.out 2
          have p164 : 0 ≤ (x5_2 : Int) := of_decide_eq_true z11_
          have q164 : x5_2 < (l0_0.length : Int) := of_decide_eq_true z11_
          obtain ⟨ad164, e164, hx164_0, hx164_1, hx164_2, hx164_3, hx164_4, hx164_5, hx164_6, hx164_7⟩ := at_T36 HR0_0.out x5_2 p164 q164
          cases e164
          replace hx164_0 := (HB.out.cell (World.block_lt_of_cell? w _ hx164_0)).trans hx164_0
          replace hx164_1 := (HB.out.cell (World.block_lt_of_cell? w _ hx164_1)).trans hx164_1
          replace hx164_2 := (HB.out.cell (World.block_lt_of_cell? w _ hx164_2)).trans hx164_2
          replace hx164_3 := (HB.out.cell (World.block_lt_of_cell? w _ hx164_3)).trans hx164_3
          replace hx164_4 := (HB.out.cell (World.block_lt_of_cell? w _ hx164_4)).trans hx164_4
          replace hx164_5 := (HB.out.cell (World.block_lt_of_cell? w _ hx164_5)).trans hx164_5
          replace hx164_6 := (HB.out.cell (World.block_lt_of_cell? w _ hx164_6)).trans hx164_6
          replace hx164_7 := (HB.out.cell (World.block_lt_of_cell? w _ hx164_7)).trans hx164_7
          replace p164 := eq_true p164
          replace q164 := eq_true q164
          have hcz24_0 : wr.cell? ⟨gb163, 0, none⟩ = some (.slice A1_0 l1_0.length c1_0) := (blk_cell BK163.out 0).trans rfl
          have hcz24_1 : wr.cell? ⟨gb163, 1, none⟩ = some (.int .i64 a1_1) := (blk_cell BK163.out 1).trans rfl
          have hcz24_2 : wr.cell? ⟨gb163, 2, none⟩ = some (.int .i64 a1_2) := (blk_cell BK163.out 2).trans rfl
          have hfz24_0 := blk_frozen BK163.out 0
          have hfz24_1 := blk_frozen BK163.out 1
          have hfz24_2 := blk_frozen BK163.out 2
          have p165 : 0 ≤ (x5_2 : Int) := of_decide_eq_true z11_
          have q165 : x5_2 < (l1_0.length : Int) := of_decide_eq_true z11_
          obtain ⟨ad165, e165, hx165_0, hx165_1, hx165_2, hx165_3, hx165_4, hx165_5, hx165_6, hx165_7⟩ := at_T36 HR1_0.out x5_2 p165 q165
          cases e165
          replace hx165_0 := (HB.out.cell (World.block_lt_of_cell? w _ hx165_0)).trans hx165_0
          replace hx165_1 := (HB.out.cell (World.block_lt_of_cell? w _ hx165_1)).trans hx165_1
          replace hx165_2 := (HB.out.cell (World.block_lt_of_cell? w _ hx165_2)).trans hx165_2
          replace hx165_3 := (HB.out.cell (World.block_lt_of_cell? w _ hx165_3)).trans hx165_3
          replace hx165_4 := (HB.out.cell (World.block_lt_of_cell? w _ hx165_4)).trans hx165_4
          replace hx165_5 := (HB.out.cell (World.block_lt_of_cell? w _ hx165_5)).trans hx165_5
          replace hx165_6 := (HB.out.cell (World.block_lt_of_cell? w _ hx165_6)).trans hx165_6
          replace hx165_7 := (HB.out.cell (World.block_lt_of_cell? w _ hx165_7)).trans hx165_7
          replace p165 := eq_true p165
          replace q165 := eq_true q165
          go_wp2
          repeat (go_quiet (fail); try go_wp2)
          go_ret
          exact ⟨z3_, z10_⟩
         ·rw [if_neg c21] at H
          have c21b0 : (!(((rd_T36 l0_0 x5_2).f0) == ((rd_T36 l1_0 x5_2).f0)) || (!(((rd_T36 l0_0 x5_2).f1) == ((rd_T36 l1_0 x5_2).f1)) || ((!(((rd_T36 l0_0 x5_2).f2.f0) == ((rd_T36 l1_0 x5_2).f2.f0)) || (!(((rd_T36 l0_0 x5_2).f2.f1) == ((rd_T36 l1_0 x5_2).f2.f1)) || (!((((rd_T36 l0_0 x5_2).f2.f2).toList) == (((rd_T36 l1_0 x5_2).f2.f2).toList))))) || ((!(((rd_T36 l0_0 x5_2).f3.f0) == ((rd_T36 l1_0 x5_2).f3.f0)) || (!(((rd_T36 l0_0 x5_2).f3.f1) == ((rd_T36 l1_0 x5_2).f3.f1)) || (!((((rd_T36 l0_0 x5_2).f3.f2).toList) == (((rd_T36 l1_0 x5_2).f3.f2).toList))))))))) = false := by simpa using c21
          clear c21
          have H' := Aside0.mk H
          clear H
          have hnb25 := NB162_163.out
          have hnc25 := NB163_162.out
          have hcz26_0 : wr.cell? ⟨gb162, 0, none⟩ = some (.slice A0_0 l0_0.length c0_0) := (blk_cell BK162.out 0).trans rfl
          have hcz26_1 : wr.cell? ⟨gb162, 1, none⟩ = some (.int .i64 a0_1) := (blk_cell BK162.out 1).trans rfl
          have hcz26_2 : wr.cell? ⟨gb162, 2, none⟩ = some (.int .i64 a0_2) := (blk_cell BK162.out 2).trans rfl
          have hfz26_0 := blk_frozen BK162.out 0
          have hfz26_1 := blk_frozen BK162.out 1
          have hfz26_2 := blk_frozen BK162.out 2
          have p164 : 0 ≤ (x5_2 : Int) := of_decide_eq_true z11_
          have q164 : x5_2 < (l0_0.length : Int) := of_decide_eq_true z11_
          obtain ⟨ad164, e164, hx164_0, hx164_1, hx164_2, hx164_3, hx164_4, hx164_5, hx164_6, hx164_7⟩ := at_T36 HR0_0.out x5_2 p164 q164
          cases e164
          replace hx164_0 := (HB.out.cell (World.block_lt_of_cell? w _ hx164_0)).trans hx164_0
          replace hx164_1 := (HB.out.cell (World.block_lt_of_cell? w _ hx164_1)).trans hx164_1
          replace hx164_2 := (HB.out.cell (World.block_lt_of_cell? w _ hx164_2)).trans hx164_2
          replace hx164_3 := (HB.out.cell (World.block_lt_of_cell? w _ hx164_3)).trans hx164_3
          replace hx164_4 := (HB.out.cell (World.block_lt_of_cell? w _ hx164_4)).trans hx164_4
          replace hx164_5 := (HB.out.cell (World.block_lt_of_cell? w _ hx164_5)).trans hx164_5
          replace hx164_6 := (HB.out.cell (World.block_lt_of_cell? w _ hx164_6)).trans hx164_6
          replace hx164_7 := (HB.out.cell (World.block_lt_of_cell? w _ hx164_7)).trans hx164_7
          replace p164 := eq_true p164
          replace q164 := eq_true q164
          have hcz27_0 : wr.cell? ⟨gb163, 0, none⟩ = some (.slice A1_0 l1_0.length c1_0) := (blk_cell BK163.out 0).trans rfl
          have hcz27_1 : wr.cell? ⟨gb163, 1, none⟩ = some (.int .i64 a1_1) := (blk_cell BK163.out 1).trans rfl
          have hcz27_2 : wr.cell? ⟨gb163, 2, none⟩ = some (.int .i64 a1_2) := (blk_cell BK163.out 2).trans rfl
          have hfz27_0 := blk_frozen BK163.out 0
          have hfz27_1 := blk_frozen BK163.out 1
          have hfz27_2 := blk_frozen BK163.out 2
          have p165 : 0 ≤ (x5_2 : Int) := of_decide_eq_true z11_
          have q165 : x5_2 < (l1_0.length : Int) := of_decide_eq_true z11_
          obtain ⟨ad165, e165, hx165_0, hx165_1, hx165_2, hx165_3, hx165_4, hx165_5, hx165_6, hx165_7⟩ := at_T36 HR1_0.out x5_2 p165 q165
          cases e165
          replace hx165_0 := (HB.out.cell (World.block_lt_of_cell? w _ hx165_0)).trans hx165_0
          replace hx165_1 := (HB.out.cell (World.block_lt_of_cell? w _ hx165_1)).trans hx165_1
          replace hx165_2 := (HB.out.cell (World.block_lt_of_cell? w _ hx165_2)).trans hx165_2
          replace hx165_3 := (HB.out.cell (World.block_lt_of_cell? w _ hx165_3)).trans hx165_3
          replace hx165_4 := (HB.out.cell (World.block_lt_of_cell? w _ hx165_4)).trans hx165_4
          replace hx165_5 := (HB.out.cell (World.block_lt_of_cell? w _ hx165_5)).trans hx165_5
          replace hx165_6 := (HB.out.cell (World.block_lt_of_cell? w _ hx165_6)).trans hx165_6
          replace hx165_7 := (HB.out.cell (World.block_lt_of_cell? w _ hx165_7)).trans hx165_7
          replace p165 := eq_true p165
          replace q165 := eq_true q165
          go_wp2
          repeat (go_quiet (fail); try go_wp2)
          go_roundg k2
          case measure => have := HJ2.out; have := HK2.out; omega
          case rel => exact ⟨(wrap64 (x5_2 + 1)), z8_, H', ⟨by have := HJ2.out; have := HK2.out; omega⟩, ⟨by (with_reducible repeat (first | refine blk_drewN ?_ _ | refine blk_drew ?_ | refine blk_alloc ?_ _)); exact BK162.out⟩, ⟨by (with_reducible repeat (first | refine blk_drewN ?_ _ | refine blk_drew ?_ | refine blk_alloc ?_ _)); exact BK163.out⟩, ⟨z10_⟩⟩
        ·rw [if_neg c20] at H
         exact absurd H (by simp)
       ·rw [if_neg c19] at H
        exact absurd H (by simp)
      ·rw [if_neg c18] at H
       have c18b0 : decide (x5_2 < (l0_0.length : Int)) = false := decide_eq_false c18
       clear c18
       obtain rfl := Option.some.inj H
       have hnb28 := NB162_163.out
       have hnc28 := NB163_162.out
       have hcz29_0 : wr.cell? ⟨gb162, 0, none⟩ = some (.slice A0_0 l0_0.length c0_0) := (blk_cell BK162.out 0).trans rfl
       have hcz29_1 : wr.cell? ⟨gb162, 1, none⟩ = some (.int .i64 a0_1) := (blk_cell BK162.out 1).trans rfl
       have hcz29_2 : wr.cell? ⟨gb162, 2, none⟩ = some (.int .i64 a0_2) := (blk_cell BK162.out 2).trans rfl
       have hfz29_0 := blk_frozen BK162.out 0
       have hfz29_1 := blk_frozen BK162.out 1
       have hfz29_2 := blk_frozen BK162.out 2
       go_wp2
       repeat (go_quiet (fail); try go_wp2)
       go_ret
       exact ⟨z3_, z10_⟩
end Go.Proofs.Ytagokgijffpdnaa.G
namespace Go.Proofs.Ytagokgijffpdnaa.G
open Go.RowKit Go.Proofs.YtagokgijffpdnaaQ Go.Proofs.YtagokgijffpdnaaW.PrintWords Go.Proofs.YtagokgijffpdnaaW.PrintLast Go.Proofs.YtagokgijffpdnaaW.PrintMore
attribute [local go_sem] max2_int min2_int max_two min_two max_three min_three max_four min_four   -- for this text's walks alone
set_option linter.unusedVariables false
set_option linter.unusedSimpArgs false
mutual
def mbk.j2 : Nat → Int → ByteArray → List Int → List (S26) → List (S36) → Int → Int → Option (Bool)
 | 0, _, _, _, _, _, _, _ => none
 | k + 1, x1, x5, x6, x7, x537000, x537001, x537002 => if (IntKind.u64.wrap (wrap64 ((x5.size : Int) + 1))) = 0 then (none) else (if 0 ≤ (wrap64 (Int.tmod (IntKind.u64.wrap (x1)) (IntKind.u64.wrap (wrap64 ((x5.size : Int) + 1))))) then (if (wrap64 (Int.tmod (IntKind.u64.wrap (x1)) (IntKind.u64.wrap (wrap64 ((x5.size : Int) + 1))))) ≤ (x5.size : Int) then ((manifest_Read.f k (x5.extract 0 ((wrap64 (Int.tmod (IntKind.u64.wrap (x1)) (IntKind.u64.wrap (wrap64 ((x5.size : Int) + 1))))) : Int).toNat)).bind fun bt554 => (mbk.l1 k x5 x6 x7 (wrap64 (Int.tmod (IntKind.u64.wrap (x1)) (IntKind.u64.wrap (wrap64 ((x5.size : Int) + 1))))) bt554.2.2.2 0 x537000 x537001 x537002 bt554.1 bt554.2.1 bt554.2.2.1 ([] : List (S36)) 0 0)) else (none)) else (none))
def mbk.l1 : Nat → ByteArray → List Int → List (S26) → Int → Int → Int → List (S36) → Int → Int → List (S36) → Int → Int → List (S36) → Int → Int → Option (Bool)
 | 0, _, _, _, _, _, _, _, _, _, _, _, _, _, _, _ => none
 | k + 1, x5, x6, x7, x14, x16, x18, x537000, x537001, x537002, x561000, x561001, x561002, x562000, x562001, x562002 => if x18 < (x6.length : Int) then (if 0 ≤ x18 then (if (rd x6 x18) ≤ x14 then (if x18 < (x7.length : Int) then (mbk.l1 k x5 x6 x7 x14 x16 (wrap64 (x18 + 1)) x537000 x537001 x537002 x561000 x561001 x561002 ((rd_T26 x7 x18).f0) ((rd_T26 x7 x18).f1) ((rd_T26 x7 x18).f2)) else (none)) else (mbk.l1 k x5 x6 x7 x14 x16 (wrap64 (x18 + 1)) x537000 x537001 x537002 x561000 x561001 x561002 x562000 x562001 x562002)) else (none)) else ((manifest_Read.f k x5).bind fun bt564 => (if x16 = 0 then ((tithebarnref16_Same.f k x561000 x561001 x561002 x562000 x562001 x562002).bind fun t571 => (if t571 = true then (if bt564.2.2.2 = 0 then ((tithebarnref16_Same.f k bt564.1 bt564.2.1 bt564.2.2.1 x537000 x537001 x537002).bind fun t572 => (some t572)) else (some false)) else (some false))) else (some false)))
def mbk.l0 : Nat → List (S32) → Int → ByteArray → List Int → List (S26) → Int → List (S36) → Int → Int → Option (Bool)
 | 0, _, _, _, _, _, _, _, _, _ => none
 | k + 1, x0, x1, x5, x6, x7, x9, x537000, x537001, x537002 => if x9 < (x0.length : Int) then (mbk.j1 k x0 x1 x5 x6 x7 x9 (decide (x9 < 50)) x537000 x537001 x537002) else (mbk.j1 k x0 x1 x5 x6 x7 x9 false x537000 x537001 x537002)
def mbk.j1 : Nat → List (S32) → Int → ByteArray → List Int → List (S26) → Int → Bool → List (S36) → Int → Int → Option (Bool)
 | 0, _, _, _, _, _, _, _, _, _, _ => none
 | k + 1, x0, x1, x5, x6, x7, x9, x30, x537000, x537001, x537002 => if x30 = true then (if 0 ≤ x9 then (if x9 < (x0.length : Int) then ((manifest_Write.f k ((rd_T32 x0 x9).f0) ((rd_T32 x0 x9).f1) ((rd_T32 x0 x9).f2) ((rd_T32 x0 x9).f3)).bind fun bt538 => ((manifest_Apply.f x537000 x537001 x537002 ((rd_T32 x0 x9).f0) ((rd_T32 x0 x9).f1) ((rd_T32 x0 x9).f2) ((rd_T32 x0 x9).f3)).bind fun bt541 => (if bt538.2 = 0 then (if bt541.2.2.2 = 0 then (if x5.size + bt538.1.size ≤ 9223372036854775807 then (if x6.length < 17592186044416 then (if x7.length < 3518437208883 then (mbk.l0 k x0 x1 (x5 ++ bt538.1) (x6 ++ [((x5.size : Int) + (bt538.1.size : Int))]) (x7 ++ [(⟨bt541.1, bt541.2.1, bt541.2.2.1⟩ : S26)]) (wrap64 (x9 + 1)) bt541.1 bt541.2.1 bt541.2.2.1) else (none)) else (none)) else (none)) else (mbk.j2 k x1 x5 x6 x7 x537000 x537001 x537002)) else (mbk.j2 k x1 x5 x6 x7 x537000 x537001 x537002)))) else (none)) else (none)) else (mbk.j2 k x1 x5 x6 x7 x537000 x537001 x537002)
end
def mbk.f (k : Nat) (l0 : List (S32)) (a1 : Int) : Option (Bool) := (tithebarnlaw16_lives.f k).bind fun t535 => (if t535 = true then (mbk.l0 k l0 a1 (⟨#[]⟩ : ByteArray) ([] : List Int) ([] : List (S26)) 0 ([] : List (S36)) 0 0) else (some false))
theorem mbk.mono_l : ∀ k, (∀ y0 y1 y2 y3 y4 y5 y6, LeO (mbk.j2 k y0 y1 y2 y3 y4 y5 y6) (mbk.j2 (k + 1) y0 y1 y2 y3 y4 y5 y6)) ∧ (∀ y0 y1 y2 y3 y4 y5 y6 y7 y8 y9 y10 y11 y12 y13 y14, LeO (mbk.l1 k y0 y1 y2 y3 y4 y5 y6 y7 y8 y9 y10 y11 y12 y13 y14) (mbk.l1 (k + 1) y0 y1 y2 y3 y4 y5 y6 y7 y8 y9 y10 y11 y12 y13 y14)) ∧ (∀ y0 y1 y2 y3 y4 y5 y6 y7 y8, LeO (mbk.l0 k y0 y1 y2 y3 y4 y5 y6 y7 y8) (mbk.l0 (k + 1) y0 y1 y2 y3 y4 y5 y6 y7 y8)) ∧ (∀ y0 y1 y2 y3 y4 y5 y6 y7 y8 y9, LeO (mbk.j1 k y0 y1 y2 y3 y4 y5 y6 y7 y8 y9) (mbk.j1 (k + 1) y0 y1 y2 y3 y4 y5 y6 y7 y8 y9))
 | 0 => ⟨fun _ _ _ _ _ _ _ r h => by simp [mbk.j2] at h, fun _ _ _ _ _ _ _ _ _ _ _ _ _ _ _ r h => by simp [mbk.l1] at h, fun _ _ _ _ _ _ _ _ _ r h => by simp [mbk.l0] at h, fun _ _ _ _ _ _ _ _ _ _ r h => by simp [mbk.j1] at h⟩
 | k + 1 => by
  obtain ⟨ih0, ih1, ih2, ih3⟩ := mbk.mono_l k
  refine ⟨?_, ?_, ?_, ?_⟩
  ·intro y0 y1 y2 y3 y4 y5 y6
   unfold mbk.j2
   repeat' first
   | (with_reducible exact ih0 _ _ _ _ _ _ _)
   | (with_reducible exact ih1 _ _ _ _ _ _ _ _ _ _ _ _ _ _ _)
   | (with_reducible exact ih2 _ _ _ _ _ _ _ _ _)
   | (with_reducible exact ih3 _ _ _ _ _ _ _ _ _ _)
   | (with_reducible exact manifest_Read.mono _ _)
   | (with_reducible exact manifest_Write.mono _ _ _ _ _)
   | (with_reducible exact tithebarnlaw16_lives.mono _)
   | (with_reducible exact tithebarnref16_Same.mono _ _ _ _ _ _ _)
   | (with_reducible exact LeO.refl _)
   | (with_reducible exact LeO.none _)
   | (with_reducible refine LeO.ite ?_ ?_)
   | (with_reducible refine LeO.bind ?_ (fun _ => ?_))
   | exact ih0 _ _ _ _ _ _ _
   | exact ih1 _ _ _ _ _ _ _ _ _ _ _ _ _ _ _
   | exact ih2 _ _ _ _ _ _ _ _ _
   | exact ih3 _ _ _ _ _ _ _ _ _ _
   | exact manifest_Read.mono _ _
   | exact manifest_Write.mono _ _ _ _ _
   | exact tithebarnlaw16_lives.mono _
   | exact tithebarnref16_Same.mono _ _ _ _ _ _ _
   | exact LeO.none _
   | refine LeO.ite ?_ ?_
   | refine LeO.bind ?_ (fun _ => ?_)
  ·intro y0 y1 y2 y3 y4 y5 y6 y7 y8 y9 y10 y11 y12 y13 y14
   unfold mbk.l1
   repeat' first
   | (with_reducible exact ih0 _ _ _ _ _ _ _)
   | (with_reducible exact ih1 _ _ _ _ _ _ _ _ _ _ _ _ _ _ _)
   | (with_reducible exact ih2 _ _ _ _ _ _ _ _ _)
   | (with_reducible exact ih3 _ _ _ _ _ _ _ _ _ _)
   | (with_reducible exact manifest_Read.mono _ _)
   | (with_reducible exact manifest_Write.mono _ _ _ _ _)
   | (with_reducible exact tithebarnlaw16_lives.mono _)
   | (with_reducible exact tithebarnref16_Same.mono _ _ _ _ _ _ _)
   | (with_reducible exact LeO.refl _)
   | (with_reducible exact LeO.none _)
   | (with_reducible refine LeO.ite ?_ ?_)
   | (with_reducible refine LeO.bind ?_ (fun _ => ?_))
   | exact ih0 _ _ _ _ _ _ _
   | exact ih1 _ _ _ _ _ _ _ _ _ _ _ _ _ _ _
   | exact ih2 _ _ _ _ _ _ _ _ _
   | exact ih3 _ _ _ _ _ _ _ _ _ _
   | exact manifest_Read.mono _ _
   | exact manifest_Write.mono _ _ _ _ _
   | exact tithebarnlaw16_lives.mono _
   | exact tithebarnref16_Same.mono _ _ _ _ _ _ _
   | exact LeO.none _
   | refine LeO.ite ?_ ?_
   | refine LeO.bind ?_ (fun _ => ?_)
  ·intro y0 y1 y2 y3 y4 y5 y6 y7 y8
   unfold mbk.l0
   repeat' first
   | (with_reducible exact ih0 _ _ _ _ _ _ _)
   | (with_reducible exact ih1 _ _ _ _ _ _ _ _ _ _ _ _ _ _ _)
   | (with_reducible exact ih2 _ _ _ _ _ _ _ _ _)
   | (with_reducible exact ih3 _ _ _ _ _ _ _ _ _ _)
   | (with_reducible exact manifest_Read.mono _ _)
   | (with_reducible exact manifest_Write.mono _ _ _ _ _)
   | (with_reducible exact tithebarnlaw16_lives.mono _)
   | (with_reducible exact tithebarnref16_Same.mono _ _ _ _ _ _ _)
   | (with_reducible exact LeO.refl _)
   | (with_reducible exact LeO.none _)
   | (with_reducible refine LeO.ite ?_ ?_)
   | (with_reducible refine LeO.bind ?_ (fun _ => ?_))
   | exact ih0 _ _ _ _ _ _ _
   | exact ih1 _ _ _ _ _ _ _ _ _ _ _ _ _ _ _
   | exact ih2 _ _ _ _ _ _ _ _ _
   | exact ih3 _ _ _ _ _ _ _ _ _ _
   | exact manifest_Read.mono _ _
   | exact manifest_Write.mono _ _ _ _ _
   | exact tithebarnlaw16_lives.mono _
   | exact tithebarnref16_Same.mono _ _ _ _ _ _ _
   | exact LeO.none _
   | refine LeO.ite ?_ ?_
   | refine LeO.bind ?_ (fun _ => ?_)
  ·intro y0 y1 y2 y3 y4 y5 y6 y7 y8 y9
   unfold mbk.j1
   repeat' first
   | (with_reducible exact ih0 _ _ _ _ _ _ _)
   | (with_reducible exact ih1 _ _ _ _ _ _ _ _ _ _ _ _ _ _ _)
   | (with_reducible exact ih2 _ _ _ _ _ _ _ _ _)
   | (with_reducible exact ih3 _ _ _ _ _ _ _ _ _ _)
   | (with_reducible exact manifest_Read.mono _ _)
   | (with_reducible exact manifest_Write.mono _ _ _ _ _)
   | (with_reducible exact tithebarnlaw16_lives.mono _)
   | (with_reducible exact tithebarnref16_Same.mono _ _ _ _ _ _ _)
   | (with_reducible exact LeO.refl _)
   | (with_reducible exact LeO.none _)
   | (with_reducible refine LeO.ite ?_ ?_)
   | (with_reducible refine LeO.bind ?_ (fun _ => ?_))
   | exact ih0 _ _ _ _ _ _ _
   | exact ih1 _ _ _ _ _ _ _ _ _ _ _ _ _ _ _
   | exact ih2 _ _ _ _ _ _ _ _ _
   | exact ih3 _ _ _ _ _ _ _ _ _ _
   | exact manifest_Read.mono _ _
   | exact manifest_Write.mono _ _ _ _ _
   | exact tithebarnlaw16_lives.mono _
   | exact tithebarnref16_Same.mono _ _ _ _ _ _ _
   | exact LeO.none _
   | refine LeO.ite ?_ ?_
   | refine LeO.bind ?_ (fun _ => ?_)
theorem mbk.mono : ∀ a0 a1 k, LeO (mbk.f k a0 a1) (mbk.f (k + 1) a0 a1) := by
 intro a0 a1 k
 obtain ⟨ih0, ih1, ih2, ih3⟩ := mbk.mono_l k
 unfold mbk.f
 repeat' first
   | (with_reducible exact ih0 _ _ _ _ _ _ _)
   | (with_reducible exact ih1 _ _ _ _ _ _ _ _ _ _ _ _ _ _ _)
   | (with_reducible exact ih2 _ _ _ _ _ _ _ _ _)
   | (with_reducible exact ih3 _ _ _ _ _ _ _ _ _ _)
   | (with_reducible exact manifest_Read.mono _ _)
   | (with_reducible exact manifest_Write.mono _ _ _ _ _)
   | (with_reducible exact tithebarnlaw16_lives.mono _)
   | (with_reducible exact tithebarnref16_Same.mono _ _ _ _ _ _ _)
   | (with_reducible exact LeO.refl _)
   | (with_reducible exact LeO.none _)
   | (with_reducible refine LeO.ite ?_ ?_)
   | (with_reducible refine LeO.bind ?_ (fun _ => ?_))
   | exact ih0 _ _ _ _ _ _ _
   | exact ih1 _ _ _ _ _ _ _ _ _ _ _ _ _ _ _
   | exact ih2 _ _ _ _ _ _ _ _ _
   | exact ih3 _ _ _ _ _ _ _ _ _ _
   | exact manifest_Read.mono _ _
   | exact manifest_Write.mono _ _ _ _ _
   | exact tithebarnlaw16_lives.mono _
   | exact tithebarnref16_Same.mono _ _ _ _ _ _ _
   | exact LeO.none _
   | refine LeO.ite ?_ ?_
   | refine LeO.bind ?_ (fun _ => ?_)
def mbk.T11 : Bool × List (List Nat × List Nat) := (true, [([], []), ([], []), ([], []), ([1, 2], [1, 2]), ([3], [3]), ([0, 4], [0, 4]), ([5], [5]), ([6], [6]), ([6], [6]), ([], []), ([9, 7, 5, 0, 1, 2, 3, 4, 5, 6, 7, 9], [7, 9]), ([8, 10, 0, 1, 2, 3, 4, 5, 6, 7, 8, 9, 10], [8])])
def mbk.B11 : List Nat := [0, 0, 0, 6, 14, 31, 63, 127, 127, 0, 767, 2047]
theorem mbk.tab11 : rtab .any (opsOf Try.f7 11) = mbk.T11 := by kernel_rfl
theorem mbk.bits11 : waitsOk mbk.T11.2 mbk.B11 = true := by kernel_rfl
end Go.Proofs.Ytagokgijffpdnaa.G
namespace Go.Proofs.Ytagokgijffpdnaa.G
open Go.RowKit Go.Proofs.YtagokgijffpdnaaQ Go.Proofs.YtagokgijffpdnaaW.PrintWords Go.Proofs.YtagokgijffpdnaaW.PrintLast Go.Proofs.YtagokgijffpdnaaW.PrintMore
attribute [local go_sem] max2_int min2_int max_two min_two max_three min_three max_four min_four   -- for this text's walks alone
set_option linter.unusedVariables false
set_option linter.unusedSimpArgs false
def tithebarnref16_value.B1 : List Nat := [0, 1, 3, 0, 8, 31, 63, 127]
end Go.Proofs.Ytagokgijffpdnaa.G
namespace Go.Proofs.Ytagokgijffpdnaa.G
open Go.RowKit Go.Proofs.YtagokgijffpdnaaQ Go.Proofs.YtagokgijffpdnaaW.PrintWords Go.Proofs.YtagokgijffpdnaaW.PrintLast Go.Proofs.YtagokgijffpdnaaW.PrintMore
attribute [local go_sem] max2_int min2_int max_two min_two max_three min_three max_four min_four   -- for this text's walks alone
set_option linter.unusedVariables false
set_option linter.unusedSimpArgs false
def IsS94 (w0 W : World) (g : Nat) (f0 : ByteArray) (f1 : Int) (f2 : Int) : Prop := W.heap[g]? = some (.cells #[.string f0, .int .i64 f1, .int .i64 f2] 94 (0, 0)) ∧ w0.heap.size ≤ g
theorem IsS94.grown {w0 W : World} {g : Nat} {f0 : ByteArray} {f1 : Int} {f2 : Int} {W1 : World} {row : Option Nat} (h : IsS94 w0 W g f0 f1 f2) (hw : W.grownBy W1 row) (hne : some g ≠ row) : IsS94 w0 W1 g f0 f1 f2 := by
 obtain ⟨hb, hg⟩ := h
 exact ⟨blk_grown hb hw hne, hg⟩
theorem IsS94.kept {w0 W : World} {g : Nat} {f0 : ByteArray} {f1 : Int} {f2 : Int} {W1 : World} {S : Nat → Prop} (h : IsS94 w0 W g f0 f1 f2) (hk : Kept W W1 S) (hne : ¬ S g) : IsS94 w0 W1 g f0 f1 f2 := by
 obtain ⟨hb, hg⟩ := h
 exact ⟨blk_kept hb hk hne, hg⟩
theorem IsS94.below {w0 W : World} {g : Nat} {f0 : ByteArray} {f1 : Int} {f2 : Int} {W1 : World} (h : IsS94 w0 W g f0 f1 f2) (hw : Below W.heap.size W W1) : IsS94 w0 W1 g f0 f1 f2 := h.grown (grown_of_below hw none) (by simp)
theorem IsS94.alloc {w0 W : World} {g : Nat} {f0 : ByteArray} {f1 : Int} {f2 : Int} (h : IsS94 w0 W g f0 f1 f2) (o : Obj) : IsS94 w0 (W.alloc o) g f0 f1 f2 := h.below (below_alloc (Below.refl _ _) o)
theorem IsS94.drewN {w0 W : World} {g : Nat} {f0 : ByteArray} {f1 : Int} {f2 : Int} (h : IsS94 w0 W g f0 f1 f2) (m : Nat) : IsS94 w0 (W.drewN m) g f0 f1 f2 := h
theorem IsS94.drew {w0 W : World} {g : Nat} {f0 : ByteArray} {f1 : Int} {f2 : Int} (h : IsS94 w0 W g f0 f1 f2) : IsS94 w0 W.drew g f0 f1 f2 := h
theorem IsS94.at_ {w0 W : World} {g : Nat} {f0 : ByteArray} {f1 : Int} {f2 : Int} {w' : World} {m : Nat} (hq : W.drewN m = w') (h : IsS94 w0 W g f0 f1 f2) : IsS94 w0 w' g f0 f1 f2 := by subst hq; exact IsS94.drewN h m
theorem IsS94.apart {w0 W : World} {g : Nat} {f0 : ByteArray} {f1 : Int} {f2 : Int} {α : Type} {d : Kd α} {e : Nat} {base : Nat} {ok : Nat → Prop} {v : Value} {xs : List α} (h : IsS94 w0 W g f0 f1 f2) (ho : d.R e W base ok v xs) (ht : ∀ q, q ∈ e :: d.E → q ≠ 94) : d.R e W base (fun k => ok k ∧ k ≠ g) v xs := by
 obtain ⟨hb, hg⟩ := h
 exact Kd.R_types ho hb ht
theorem IsS94.own_ne {w0 W : World} {g : Nat} {f0 : ByteArray} {f1 : Int} {f2 : Int} {α : Type} {d : Kd α} {e : Nat} {base : Nat} {ok : Nat → Prop} {v : Value} {xs : List α} (h : IsS94 w0 W g f0 f1 f2) (ho : d.R e W base ok v xs) (ht : e ≠ 94) : some g ≠ v.ownBlock := by
 obtain ⟨hb, hg⟩ := h
 exact Kd.R_ne ho hb ht
theorem IsS94.lt {w0 W : World} {g : Nat} {f0 : ByteArray} {f1 : Int} {f2 : Int} (h : IsS94 w0 W g f0 f1 f2) : g < W.heap.size := by
 obtain ⟨hb, hg⟩ := h
 exact blk_lt hb
theorem IsS94.ge {w0 W : World} {g : Nat} {f0 : ByteArray} {f1 : Int} {f2 : Int} (h : IsS94 w0 W g f0 f1 f2) : w0.heap.size ≤ g := by
 obtain ⟨hb, hg⟩ := h
 exact hg
theorem IsS94.ne_blk {w0 W : World} {g : Nat} {f0 : ByteArray} {f1 : Int} {f2 : Int} {a : Nat} {cs : Array Value} {t : TypeId} {fr : Nat × Nat} (h : IsS94 w0 W g f0 f1 f2) (hb2 : W.heap[a]? = some (.cells cs t fr)) (ht : t ≠ 94) : g ≠ a := by
 obtain ⟨hb, hg⟩ := h
 rintro rfl
 rw [hb] at hb2
 injection hb2 with hb2
 injection hb2 with _ ht2
 exact ht ht2.symm
theorem IsS94.far {w0 W : World} {g : Nat} {f0 : ByteArray} {f1 : Int} {f2 : Int} {p : Addr} (h : IsS94 w0 W g f0 f1 f2) (hne : g ≠ p.block) (u : Value) : IsS94 w0 (W.setCell p u) g f0 f1 f2 := by
 obtain ⟨hb, hg⟩ := h
 exact ⟨blk_far hb hne u, hg⟩
theorem IsS94.set_0 {w0 W : World} {g : Nat} {f0 : ByteArray} {f1 : Int} {f2 : Int} (h : IsS94 w0 W g f0 f1 f2) (x : ByteArray) : IsS94 w0 (W.setCell ⟨g, 0, none⟩ (.string x)) g x f1 f2 := by
 obtain ⟨hb, hg⟩ := h
 exact ⟨by simpa using blk_set hb 0 (.string x), hg⟩
theorem IsS94.set_1 {w0 W : World} {g : Nat} {f0 : ByteArray} {f1 : Int} {f2 : Int} (h : IsS94 w0 W g f0 f1 f2) (x : Int) : IsS94 w0 (W.setCell ⟨g, 1, none⟩ (.int .i64 x)) g f0 x f2 := by
 obtain ⟨hb, hg⟩ := h
 exact ⟨by simpa using blk_set hb 1 (.int .i64 x), hg⟩
theorem IsS94.new (w0 W : World) (f0 : ByteArray) (f1 : Int) (f2 : Int) (hB : Below w0.heap.size w0 W) : IsS94 w0 (W.alloc (.cells #[.string f0, .int .i64 f1, .int .i64 f2] 94)) W.heap.size f0 f1 f2 := ⟨by simpa using heap_alloc_new W _, hB.size⟩
def tithebarnref01_Cursor_Left.f (s0_0 : ByteArray) (s0_1 : Int) (s0_2 : Int) : Option (Int × ByteArray × Int × Int) := some (wrap64 ((s0_0.size : Int) - s0_1), s0_0, s0_1, s0_2)
def tithebarnref01_size.f (a0 : Int) : Option (Int) := if a0 < 64 then (some 1) else (if a0 < 128 then (some 2) else (if a0 < 192 then (some 4) else (some 9)))
mutual
def tithebarnref01_Cursor_peek.j0 : Nat → Int → Bool → ByteArray → Int → Int → Option (Int × Int × Int × ByteArray × Int × Int)
 | 0, _, _, _, _, _ => none
 | k + 1, x5, x34, x1000, x1001, x1002 => if x34 = true then (some (0, 0, 5, x1000, x1001, x1002)) else ((tithebarnref01_Cursor_Left.f x1000 x1001 x1002).bind fun bt439 => (if bt439.1 < x5 then (some (0, 0, 2, bt439.2.1, bt439.2.2.1, bt439.2.2.2)) else (if 0 ≤ bt439.2.2.1 then (if bt439.2.2.1 < (bt439.2.1.size : Int) then (tithebarnref01_Cursor_peek.l0 k x5 (IntKind.u64.wrap (Int.tmod (bt bt439.2.1 bt439.2.2.1) 64)) 1 bt439.2.1 bt439.2.2.1 bt439.2.2.2) else (none)) else (none))))
def tithebarnref01_Cursor_peek.l0 : Nat → Int → Int → Int → ByteArray → Int → Int → Option (Int × Int × Int × ByteArray × Int × Int)
 | 0, _, _, _, _, _, _ => none
 | k + 1, x5, x6, x7, x1000, x1001, x1002 => if x7 < x5 then (if 0 ≤ (wrap64 (x1001 + x7)) then (if (wrap64 (x1001 + x7)) < (x1000.size : Int) then (tithebarnref01_Cursor_peek.l0 k x5 (IntKind.u64.wrap ((IntKind.u64.wrap (256 * x6)) + (IntKind.u64.wrap (bt x1000 (wrap64 (x1001 + x7)))))) (wrap64 (x7 + 1)) x1000 x1001 x1002) else (none)) else (none)) else ((tithebarnref01_Uint.f k x6).bind fun t443 => (if (t443.size : Int) = x5 then (some (x6, x5, 0, x1000, x1001, x1002)) else (some (0, 0, 5, x1000, x1001, x1002))))
end
def tithebarnref01_Cursor_peek.f (k : Nat) (s0_0 : ByteArray) (s0_1 : Int) (s0_2 : Int) : Option (Int × Int × Int × ByteArray × Int × Int) := (tithebarnref01_Cursor_Left.f s0_0 s0_1 s0_2).bind fun bt434 => (if bt434.1 < 1 then (some (0, 0, 2, bt434.2.1, bt434.2.2.1, bt434.2.2.2)) else (if 0 ≤ bt434.2.2.1 then (if bt434.2.2.1 < (bt434.2.1.size : Int) then ((tithebarnref01_size.f (bt bt434.2.1 bt434.2.2.1)).bind fun t438 => (if t438 = 9 then (tithebarnref01_Cursor_peek.j0 k t438 ((bt bt434.2.1 bt434.2.2.1) != 192) bt434.2.1 bt434.2.2.1 bt434.2.2.2) else (tithebarnref01_Cursor_peek.j0 k t438 false bt434.2.1 bt434.2.2.1 bt434.2.2.2))) else (none)) else (none)))
end Go.Proofs.Ytagokgijffpdnaa.G
namespace Go.Proofs.Ytagokgijffpdnaa.G
open Go.RowKit Go.Proofs.YtagokgijffpdnaaQ Go.Proofs.YtagokgijffpdnaaW.PrintWords Go.Proofs.YtagokgijffpdnaaW.PrintLast Go.Proofs.YtagokgijffpdnaaW.PrintMore
set_option linter.unusedVariables false
set_option linter.unusedSimpArgs false
theorem get_f {k : Nat} (hk : 5 ≤ k) {s : ByteArray} (hs : 4 ≤ s.size) : frame_get.f k s = some (num4 (bytesOf s)) := frame_next.get_f hk hs
def told (n : Nat) (acc : List ByteArray) : Option (List (List Int) × List Int) → List ByteArray × Int × Int
 | none => ([], 0, 8)
 | some (ts, q) => (acc ++ ts.map strOfNums, ((n - q.length : Nat) : Int), 0)
theorem told_cons (n : Nat) (acc : List ByteArray) (t : List Int) (o : Option (List (List Int) × List Int)) : told n acc (o.map fun p => (t :: p.1, p.2)) = told n (acc ++ [strOfNums t]) o := by
 cases o with
 | none => rfl
 | some p => simp [told]
theorem next_f {s : ByteArray} (hs : s.size ≤ 4611686018427387904) : frame_next.f s = some (match frI (bytesOf s) with | .part => (⟨#[]⟩, s, false, 0) | .bad => (⟨#[]⟩, s, false, 8) | .whole t r => (strOfNums t, strOfNums r, true, 0)) := by
 unfold frame_next.f; rw [if_pos hs]
 cases frI (bytesOf s) <;> rfl
theorem Scan_l0 (a0 : ByteArray) (ha : a0.size ≤ 67108864) : ∀ (n k : Nat) (acc : List ByteArray) (s : ByteArray), s.size ≤ n → n < k → s.size ≤ a0.size → acc.length + s.size < 8796093022208 →
  frame_Scan.l0 k a0 acc s = some (told a0.size acc (scan (bytesOf s))) := by
 intro n
 induction n with
 | zero =>
  intro k acc s hn hk hsa hl
  obtain ⟨k, rfl⟩ : ∃ m, k = m + 1 := ⟨k - 1, by omega⟩
  have h0 : bytesOf s = [] := (size_zero_iff s).1 (by omega)
  have hf : frI (bytesOf s) = .part := by rw [h0]; rfl
  simp only [frame_Scan.l0]
  rw [next_f (by omega), hf, scan_part hf]
  simp only [Option.bind_some]
  rw [if_pos trivial, if_neg (by simp), w64 (by omega) (by omega)]
  simp only [told, List.map_nil, List.append_nil, bytesOf_size]
  congr 3; omega
 | succ n ih =>
  intro k acc s hn hk hsa hl
  obtain ⟨k, rfl⟩ : ∃ m, k = m + 1 := ⟨k - 1, by omega⟩
  have hB := Bs.bytesOf s
  have hsz := bytesOf_size s
  simp only [frame_Scan.l0]
  rw [next_f (by omega)]
  simp only [Option.bind_some]
  cases hf : frI (bytesOf s) with
  | part =>
   simp only
   rw [if_pos trivial, if_neg (by simp), w64 (by omega) (by omega), scan_part hf]
   simp only [told, List.map_nil, List.append_nil, hsz]
   congr 3; omega
  | bad =>
   simp only
   rw [if_neg (by decide), scan_bad hf]; rfl
  | whole t r =>
   simp only
   have h1 := frI_whole hB hf
   obtain ⟨ht, hr⟩ := frI_rest_Bs hB hf
   rw [if_pos trivial, if_pos trivial, if_pos (by omega), ih k _ (strOfNums r) (by rw [size_strOfNums]; omega) (by omega) (by rw [size_strOfNums]; omega) (by rw [size_strOfNums]; simp; omega), bytesOf_strOfNums hr, scan_whole hB hf, told_cons]
theorem Scan_f {k : Nat} {s : ByteArray} (hs : s.size ≤ 67108864) (hk : s.size < k) : frame_Scan.f k s = some (told s.size [] (scan (bytesOf s))) := by
 unfold frame_Scan.f
 exact Scan_l0 s hs s.size k [] s (Nat.le_refl _) hk (Nat.le_refl _) (by simp; omega)
end Go.Proofs.Ytagokgijffpdnaa.G
namespace Go.Proofs.Ytagokgijffpdnaa.G
open Go.RowKit Go.Proofs.YtagokgijffpdnaaQ Go.Proofs.YtagokgijffpdnaaW.PrintWords Go.Proofs.YtagokgijffpdnaaW.PrintLast Go.Proofs.YtagokgijffpdnaaW.PrintMore
set_option linter.unusedVariables false
set_option linter.unusedSimpArgs false
theorem Same_l0 (s : List SP) (f n : Int) (hs : s.length ≤ 9223372036854775807) : ∀ (m i k : Nat), i + m = s.length → m < k → tithebarnref16_Same.l0 k (i : Int) s f n s f n = some true := by
 intro m
 induction m with
 | zero =>
  intro i k hi hk
  obtain ⟨k, rfl⟩ : ∃ m, k = m + 1 := ⟨k - 1, by omega⟩
  simp only [tithebarnref16_Same.l0]
  rw [if_neg (by omega)]
 | succ m ih =>
  intro i k hi hk
  obtain ⟨k, rfl⟩ : ∃ m, k = m + 1 := ⟨k - 1, by omega⟩
  simp only [tithebarnref16_Same.l0]
  have e : wrap64 ((i : Int) + 1) = ((i + 1 : Nat) : Int) := by rw [w64 (by omega) (by omega)]; omega
  rw [if_pos (by omega), if_pos (by omega), if_pos (by omega), if_neg (by simp), e]
  exact ih (i + 1) k (by omega) (by omega)
theorem Same_self {s : List SP} {f n : Int} {k : Nat} (hs : s.length ≤ 9223372036854775807) (hk : s.length + 1 < k) : tithebarnref16_Same.f k s f n s f n = some true := by
 obtain ⟨k, rfl⟩ : ∃ m, k = m + 1 := ⟨k - 1, by omega⟩
 unfold tithebarnref16_Same.f
 rw [if_pos rfl, if_pos rfl]
 simp only [tithebarnref16_Same.j0]
 rw [if_neg (by simp)]
 have := Same_l0 s f n hs s.length 0 k (by omega) (by omega)
 rw [show ((0 : Nat) : Int) = 0 from rfl] at this
 exact this
end Go.Proofs.Ytagokgijffpdnaa.G
namespace Go.Proofs.Ytagokgijffpdnaa.G
open Go.RowKit Go.Proofs.YtagokgijffpdnaaQ Go.Proofs.YtagokgijffpdnaaW.PrintWords Go.Proofs.YtagokgijffpdnaaW.PrintLast Go.Proofs.YtagokgijffpdnaaW.PrintMore
set_option linter.unusedVariables false
set_option linter.unusedSimpArgs false
theorem applyA : manifest_Apply.f [] 0 0 [] [(⟨1, 0, ⟨false, 0, ⟨#[]⟩⟩, ⟨false, 0, ⟨#[]⟩⟩⟩ : SP)] 0 2 = some ([(⟨1, 0, ⟨false, 0, ⟨#[]⟩⟩, ⟨false, 0, ⟨#[]⟩⟩⟩ : SP)], 0, 2, 0) := by kernel_rfl
theorem applyB : manifest_Apply.f [(⟨1, 0, ⟨false, 0, ⟨#[]⟩⟩, ⟨false, 0, ⟨#[]⟩⟩⟩ : SP)] 0 2 [1] [(⟨2, 0, ⟨false, 0, ⟨#[]⟩⟩, ⟨false, 0, ⟨#[]⟩⟩⟩ : SP)] 0 3 = some ([(⟨2, 0, ⟨false, 0, ⟨#[]⟩⟩, ⟨false, 0, ⟨#[]⟩⟩⟩ : SP)], 0, 3, 0) := by kernel_rfl
theorem lives_f {k : Nat} (hk : 10 ≤ k) : tithebarnlaw16_lives.f k = some true := by
 have h : tithebarnlaw16_lives.g 10 = some true := by
  unfold tithebarnlaw16_lives.g
  rw [applyA, Option.bind_some, applyB, Option.bind_some]
  kernel_rfl
 have h2 : tithebarnlaw16_lives.f 10 = some true := by unfold tithebarnlaw16_lives.f; rw [if_pos h]
 obtain ⟨d, rfl⟩ : ∃ d, k = 10 + d := ⟨k - 10, by omega⟩
 clear hk
 induction d with
 | zero => exact h2
 | succ d ih => exact tithebarnlaw16_lives.mono _ _ ih
end Go.Proofs.Ytagokgijffpdnaa.G
