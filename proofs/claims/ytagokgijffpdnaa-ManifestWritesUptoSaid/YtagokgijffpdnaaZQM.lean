import Derived.Test.YtagokgijffpdnaaProg
import Derived.Test.YtagokgijffpdnaaZWMore
import Derived.Test.YtagokgijffpdnaaZWLast
import Derived.WalkKit
import Derived.KernelRfl
import Derived.Maps.Own
import Derived.Maps.OwnOps
import Derived.Maps.RangeWalk
import Derived.Maps.Views
import Derived.Maps.Ext
import Derived.Laws.Cover1
namespace Go.Proofs.YtagokgijffpdnaaQ
open Go.RowKit Go.Maps Go.Proofs.YtagokgijffpdnaaW.PrintWords
set_option linter.unusedVariables false
theorem lawK : Keyed Try.prog 3 := int_keyed Try.underlying3
theorem zeroE (w : World) : (zeroValue 3).run Try.prog w = .ok (.int .i64 0) w := by kernel_rfl
theorem wf_of {x : Int} (h0 : -9223372036854775808 ≤ x) (h1 : x ≤ 9223372036854775807) : (Lit.int .i64 x).wf = true := WalkArith.wf_i64 (by omega)
def kI (x : Int) : Lit := .int .i64 x
def ME (w : World) (B n : Nat) (D : DataW Unit) : Prop := w.ownsMap Try.prog 3 (plainElem Try.prog 3) B n D
def MF (D : DataW Unit) (f : Int → Int) (g : Int → Bool) : Prop := ∀ x : Int, (Lit.int .i64 x).wf = true → D.atKey (kI x) (.lit (.int .i64 0)) = .lit (.int .i64 (f x)) ∧ Maps.has D (kI x) = g x
def MI (w : World) (B n : Nat) (f : Int → Int) (g : Int → Bool) : Prop := ∃ D, ME w B n D ∧ MF D f g
section
variable {w w' : World} {B n : Nat} {f : Int → Int} {g : Int → Bool}
theorem MI.made (w : World) : MI (w.alloc (.map #[] 0)) w.heap.size 0 (fun _ => 0) (fun _ => false) := ⟨_, World.ownsMap_made w _ _ _, fun _ _ => ⟨rfl, rfl⟩⟩
theorem MI.mono (h : MI w B n f g) {m : Nat} (hm : n ≤ m) : MI w B m f g := by obtain ⟨D, h1, h2⟩ := h; exact ⟨D, World.ownsMap.mono h1 hm, h2⟩
theorem MI.lt (h : MI w B n f g) : B < w.heap.size := by obtain ⟨D, h1, _⟩ := h; exact World.ownsMap.lt h1
theorem MI.kept {row : Option Nat} (h : MI w B n f g) (hg : w.grownBy w' row) (hne : some B ≠ row) : MI w' B n f g := by obtain ⟨D, h1, h2⟩ := h; exact ⟨D, World.ownsMap.kept h1 hg hne, h2⟩
theorem MI.alloc (h : MI w B n f g) (o : Obj) : MI (w.alloc o) B n f g := h.kept (World.grownBy_alloc w o none) (by simp)
theorem MI.below (h : MI w B n f g) (hb : Below w.heap.size w w') : MI w' B n f g := h.kept (grown_of_below hb none) (by simp)
theorem MI.congr {f' : Int → Int} {g' : Int → Bool} (h : MI w B n f g) (hf : ∀ x, (Lit.int .i64 x).wf = true → f x = f' x) (hg : ∀ x, (Lit.int .i64 x).wf = true → g x = g' x) : MI w B n f' g' := by
  obtain ⟨D, h1, h2⟩ := h
  exact ⟨D, h1, fun x hx => by rw [← hf x hx, ← hg x hx]; exact h2 x hx⟩
theorem MI.map (h : MI w B n f g) : ∃ es clock, w.heap[B]? = some (.map es clock) := by obtain ⟨D, ⟨es, c, h1, _⟩, _⟩ := h; exact ⟨es, c, h1⟩
theorem MI.ne_blk (h : MI w B n f g) {b : Nat} {cs : Array Value} {t : TypeId} {fr : Nat × Nat} (hb : w.heap[b]? = some (.cells cs t fr)) : B ≠ b := by
  obtain ⟨es, c, h1⟩ := h.map
  rintro rfl
  rw [h1] at hb; cases hb
theorem MI.ne_own (h : MI w B n f g) {α : Type} {d : Kd α} {e base : Nat} {ok : Nat → Prop} {v : Value} {xs : List α} (ho : d.R e w base ok v xs) : some B ≠ v.ownBlock := fun he => by
  obtain ⟨es, c, h1⟩ := h.map
  obtain ⟨inner, hw⟩ := Kd.R_own ho
  obtain ⟨cells, h2⟩ := own_typed hw B he.symm
  rw [h1] at h2; cases h2
theorem MI.look (h : MI w B n f g) {x : Int} (hx : (Lit.int .i64 x).wf = true) : (Instr.lookup 49 (.map (some B)) (.int .i64 x) false).run Try.prog w = .ok (.int .i64 (f x)) w := by
  obtain ⟨D, h1, h2⟩ := h
  obtain ⟨c, hrun, hat, _⟩ := World.ownsMap.lookup_int (t := 49) h1 lawK Try.underlying49 Try.underlying3 (zeroE _) (keyOf_int_mk Try.underlying3 hx)
  have := ((h2 x hx).1).symm.trans hat
  simp only [DataW.lit.injEq, Lit.int.injEq, true_and] at this
  rw [hrun, this]
theorem kI_ne {x y : Int} (h : x ≠ y) : kI x ≠ kI y := fun e => h (by unfold kI at e; injection e)
theorem kI_key (x : Int) : WideAt.IsKeyLit (kI x) := trivial
theorem MF.put {D : DataW Unit} (hm : IsMap D) (h : MF D f g) (key c : Int) : MF (D.put (kI key) (.lit (.int .i64 c))) (fun y => if y = key then c else f y) (fun y => decide (y = key) || g y) := by
  intro x hx
  by_cases e : x = key
  · subst e
    refine ⟨?_, ?_⟩
    · rw [atKey_put_same hm (kI_key x)]; simp
    · rw [has_put_same hm (kI_key x)]; simp
  · refine ⟨?_, ?_⟩
    · rw [atKey_put_other (kI_ne e)]; simp only [if_neg e]; exact (h x hx).1
    · rw [has_put_other (kI_ne e)]; simp only [e, decide_false, Bool.false_or]; exact (h x hx).2
end
section
variable {w : World} {ops : Array Oper} {rest : List Oper} {o : Oper} {a : Act} {Q : Exit → Act → World → Prop}
theorem mi_put (hg0 : o.guard = none) (m x v : Operand) (hop : o.op = Op.mapUpdate 49 m x v) {B n : Nat} {f : Int → Int} {g : Int → Bool} (hm : a.eval m = .map (some B)) (h : MI w B n f g) (hn : n < maxLen) {key c : Int} (hx : a.eval x = .int .i64 key) (hv : a.eval v = .int .i64 c)
    (hk : (Lit.int .i64 key).wf = true) (hc : (Lit.int .i64 c).wf = true) (hK : ∀ w', MI w' B (n + 1) (fun y => if y = key then c else f y) (fun y => decide (y = key) || g y) → w.grownBy w' (some B) → wpList Try.prog ops Q rest (a.put o.dst undef) w') :
    wpList Try.prog ops Q (o :: rest) a w := by
  obtain ⟨D, h1, h2⟩ := h
  have hm0 : IsMap D := World.ownsMap.isMap h1
  refine wpList_mapUpdate_own w hg0 m x v 49 hop 3 3 lawK Try.underlying49 _ B n D hm h1 hn _ _ (kI key) hx hv (keyOf_int_mk Try.underlying3 hk) (.lit (.int .i64 c)) [] (plainElem_int Try.underlying3 hc) ?_
  intro w' hown hgr
  exact hK w' ⟨_, hown, h2.put hm0 key c⟩ hgr
def MR (w : World) (B r n : Nat) (D : DataW Unit) (left : Lit → Bool) (cnt : Nat) : Prop := w.ranges Try.prog 3 (plainElem Try.prog 3) B r n D left cnt
theorem mi_range (hg0 : o.guard = none) (m : Operand) (hop : o.op = Op.range 49 m) {B n : Nat} {D : DataW Unit} (hm : a.eval m = .map (some B)) (h : ME w B n D)
    (hK : ∀ w', MR w' B w.heap.size n D (Maps.has D) (Maps.size D) → w.grownBy w' none → w'.heap.size = w.heap.size + 1 → wpList Try.prog ops Q rest (a.put o.dst (.pointer (some ⟨w.heap.size, 0, none⟩))) w') : wpList Try.prog ops Q (o :: rest) a w :=
  wpList_range_own w hg0 m 49 hop 3 3 lawK Try.underlying49 _ B n D hm h hK
theorem mi_next (hg0 : o.guard = none) (it : Operand) (hop : o.op = Op.next it false) {B r n : Nat} {D : DataW Unit} {f : Int → Int} {g : Int → Bool} (hD : MF D f g) {left : Lit → Bool} {cnt : Nat} (hit : a.eval it = .pointer (some ⟨r, 0, none⟩)) (h : MR w B r n D left cnt)
    (hDone : (∀ x : Int, left (kI x) = false) → wpList Try.prog ops Q rest (a.put o.dst (.tuple #[.bool false])) w)
    (hMore : ∀ (x : Int) (w' : World) (cnt' : Nat), (Lit.int .i64 x).wf = true → left (kI x) = true → MR w' B r n D (fun z => left z && !z.sameKey (kI x)) cnt' → cnt' < cnt →
      w.grownBy w' (some r) → w'.heap.size = w.heap.size → (Instr.entry (.pointer (some ⟨r, 0, none⟩))).run Try.prog w' = .ok (.tuple #[.int .i64 x, .int .i64 (f x)]) w' → wpList Try.prog ops Q rest (a.put o.dst (.tuple #[.bool true, .int .i64 x, .int .i64 (f x)])) w') : wpList Try.prog ops Q (o :: rest) a w := by
  refine wpList_next_ranges_ii w hg0 it hop 3 3 .i64 .i64 lawK Try.underlying3 Try.underlying3 B r n D left cnt hit h (fun _ hl => hDone (fun x => hl _)) ?_
  intro x c w' cnt' hx hc hl hat hr hlt hg hs he
  have := ((hD x hx).1).symm.trans (hat _)
  simp only [DataW.lit.injEq, Lit.int.injEq, true_and] at this
  subst this
  exact hMore x w' cnt' hx hl hr hlt hg hs he
theorem strike (left : Lit → Bool) (x y : Int) : (left (kI y) && !(kI y).sameKey (kI x)) = (left (kI y) && !decide (y = x)) := by
  by_cases e : y = x
  · subst e; rw [WideAt.sameKey_self (kI_key y)]; simp
  · rw [sameKey_ne (kI_ne e)]; simp [e]
end
end Go.Proofs.YtagokgijffpdnaaQ
