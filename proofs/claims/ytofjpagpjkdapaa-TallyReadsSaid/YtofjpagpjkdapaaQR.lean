import Derived.Test.YtofjpagpjkdapaaRows
import Derived.Test.YtofjpagpjkdapaaWWords
import Derived.WalkKit
import Derived.ProofKit
import Derived.OpenShut
import Derived.JoinedCond
import Derived.ShutString
import Derived.ChangeOld
import Derived.Below
import Derived.SizedLaws
import Derived.Lib.SmallJoins
/-! From the row's readings (as data) to the print's readings (as typed lists): any kind; with the bulk. -/
namespace Go.Proofs.YtofjpagpjkdapaaQ
open Go.RowKit Go.Proofs.YtofjpagpjkdapaaW.PrintWords Go.Proofs.Ytofjpagpjkdapaa
open Go.ChangeShapes Go.WideShapes Go.ChangeAt Go.RowKit
set_option linter.unusedVariables false
set_option linter.unusedSimpArgs false
theorem bulk_pos {H : Type} (d : DataW H) : 1 ≤ Rows.uptoBulk d := by
  cases d with
  | lit l => cases l <;> simp [Rows.uptoBulk]
  | nil => simp [Rows.uptoBulk]
  | ptr d => simp [Rows.uptoBulk]
  | slice elems spare => simp [Rows.uptoBulk]
  | agg parts => simp [Rows.uptoBulk]
  | iface t d => simp [Rows.uptoBulk]
  | map entries => simp [Rows.uptoBulk]
  | held h => simp [Rows.uptoBulk]
theorem bulk_append {H : Type} (l r : List (DataW H)) : Rows.uptoBulkAll (l ++ r) = Rows.uptoBulkAll l + Rows.uptoBulkAll r := by
  induction l with
  | nil => simp [Rows.uptoBulkAll]
  | cons x l ih => simp only [List.cons_append, Rows.uptoBulkAll, ih]; omega
theorem bulk_bound {H : Type} {l : List (DataW H)} (hk : Rows.uptoSmall H l = true) : Rows.uptoBulkAll l ≤ 1048576 := of_decide_eq_true hk

/-- What is read at type t is of kind d, fine (Ok), and of such a bulk (B) at the most. -/
def Rdg {α : Type} (P : Program) (t : TypeId) (d : Kd α) (Ok : α → Prop) (B : α → Nat) : Prop :=
  ∀ {H : Type} {enc : TypeId × Value → H} {w : World} {base : Nat} {spare : Nat → Bool} {held : Bool} {fuel : Nat} {cs : List Value} {dat : DataW H} {ps : List MemPlace},
    DataW.trod enc P w base spare held fuel t cs = some (dat, ps) → ∃ x, d.K w x cs ∧ Ok x ∧ B x ≤ Rows.uptoBulk dat
theorem Rdg.int {P : Program} {t : TypeId} {k : IntKind} (ht : P.underlying t = some (.int k)) : Rdg P t (Kd.int k) (fun x => (Lit.int k x).wf = true) (fun _ => 1) := by
  intro H enc w base spare held fuel cs dat ps h
  obtain ⟨n, rfl, _, hw⟩ := DataW.trod_int ht h
  exact ⟨n, rfl, hw, bulk_pos _⟩
theorem Rdg.bool {P : Program} {t : TypeId} (ht : P.underlying t = some .bool) : Rdg P t Kd.bool (fun _ => True) (fun _ => 1) := by
  intro H enc w base spare held fuel cs dat ps h
  obtain ⟨b, rfl, _⟩ := DataW.trod_bool ht h
  exact ⟨b, rfl, trivial, bulk_pos _⟩
theorem Rdg.string {P : Program} {t : TypeId} (ht : P.underlying t = some .string) : Rdg P t Kd.string (fun s => s.size ≤ maxLen) (fun s => s.size + 1) := by
  intro H enc w base spare held fuel cs dat ps h
  obtain ⟨s, rfl, e, hw⟩ := DataW.trod_string ht h
  simp only [Prod.mk.injEq] at e
  obtain ⟨rfl, _⟩ := e
  refine ⟨s, rfl, hw, ?_⟩
  unfold Rows.uptoBulk
  rw [Array.length_toList]
  exact Nat.le_refl _
/-- So many choices as one list. -/
theorem list_of {α : Type} (n : Nat) (Q : Nat → α → Prop) (h : ∀ i, i < n → ∃ x, Q i x) : ∃ xs : List α, xs.length = n ∧ ∀ i x, xs[i]? = some x → Q i x := by
  induction n with
  | zero => exact ⟨[], rfl, fun i x hx => by simp at hx⟩
  | succ n ih =>
    obtain ⟨xs, hl, hq⟩ := ih (fun i hi => h i (by omega))
    obtain ⟨x, hx⟩ := h n (by omega)
    refine ⟨xs ++ [x], by simp [hl], fun i y hy => ?_⟩
    rcases Nat.lt_or_ge i n with hi | hi
    · exact hq i y (by rwa [List.getElem?_append_left (by omega)] at hy)
    · have hi' : i = n := by
        have := (List.getElem?_eq_some_iff.1 hy).1
        simp at this; omega
      subst hi'
      rw [List.getElem?_append_right (by omega), hl, Nat.sub_self] at hy
      simp at hy
      subst hy
      exact hx
theorem sum_le {α H : Type} (xs : List α) (ys : List (DataW H)) (B : α → Nat) (hl : xs.length = ys.length) (h : ∀ (i : Nat) (x : α) (y : DataW H), xs[i]? = some x → ys[i]? = some y → B x ≤ Rows.uptoBulk y) : (xs.map B).sum ≤ Rows.uptoBulkAll ys := by
  induction xs generalizing ys with
  | nil => simp
  | cons x xs ih =>
    cases ys with
    | nil => simp at hl
    | cons y ys =>
      have h0 := h 0 x y rfl rfl
      have h1 := ih ys (by simpa using hl) (fun i a b ha hb => h (i + 1) a b ha hb)
      simp only [List.map_cons, List.sum_cons, Rows.uptoBulkAll]
      omega
theorem Rdg.slice {α : Type} {P : Program} {t e : TypeId} {d : Kd α} {Ok : α → Prop} {B : α → Nat} (ht : P.underlying t = some (.slice e)) (hsz : P.cellsOf e = d.sz) (hd : Rdg P e d Ok B) :
    Rdg P t (Kd.slice e d) (fun xs => xs.length ≤ maxLen ∧ ∀ x ∈ xs, Ok x) (fun xs => (xs.map B).sum + 1) := by
  intro H enc w base spare held fuel cs dat ps h
  rcases DataW.trod_slice ht h with ⟨rfl, he0⟩ | ⟨a, len, cap, elems, rest, n, rfl, rfl, he0, hb, hl, hm, hel, hat, _⟩
  · refine ⟨[], ⟨none, 0, rfl, by simp, rfl, by simp, fun h0 => absurd h0 (by simp)⟩, ⟨by simp, by simp⟩, ?_⟩
    simp only [List.map_nil, List.sum_nil]
    exact bulk_pos _
  · obtain ⟨xs, hxl, hx⟩ := list_of len (fun i x => ∃ c y, w.cells? base (a.add (i * P.cellsOf e)) (P.cellsOf e) = some c ∧ elems[i]? = some y ∧ d.K w x c ∧ Ok x ∧ B x ≤ Rows.uptoBulk y.1) (fun i hi => by
      have h1 := hat i hi
      obtain ⟨y, hy⟩ : ∃ y, elems[i]? = some y := ⟨elems[i], List.getElem?_eq_getElem (by omega)⟩
      rw [hy] at h1
      obtain ⟨c, hc, hc2⟩ := Option.bind_eq_some_iff.1 h1
      obtain ⟨x, k1, k2, k3⟩ := hd (dat := y.1) (ps := y.2) hc2
      exact ⟨x, c, y, hc, hy, k1, k2, k3⟩)
    have hm' : xs.length ≤ maxLen := by omega
    refine ⟨xs, ⟨some a, cap, by rw [hxl], by omega, rfl, by simp only [maxLen] at hm'; omega, fun _ => ⟨a, rfl, fun j p hj => ?_⟩⟩, ⟨hm', fun x hxm => ?_⟩, ?_⟩
    · obtain ⟨c, y, hc, _, hk, _⟩ := hx j p hj
      refine ⟨c, d.K_len hk, hk, fun i u hu => ?_⟩
      obtain ⟨_, hcl, hcc⟩ := World.cells?_some hc
      have hi : i < c.length := (List.getElem?_eq_some_iff.1 hu).1
      have := hcc i (by omega)
      rw [hu] at this
      rw [← hsz]
      rw [Addr.add_add] at this
      exact this
    · obtain ⟨i, hi, rfl⟩ := List.getElem_of_mem hxm
      obtain ⟨_, _, _, _, _, hok, _⟩ := hx i _ (List.getElem?_eq_getElem hi)
      exact hok
    · simp only [Prod.mk.injEq] at he0
      obtain ⟨rfl, _⟩ := he0
      have := sum_le xs (elems.map (·.1)) B (by simp; omega) (fun i x y hxi hyi => by
        obtain ⟨_, z, _, hz, _, _, hb⟩ := hx i x hxi
        rw [List.getElem?_map, hz] at hyi
        simp at hyi
        subst hyi
        exact hb)
      simp only [Rows.uptoBulk]
      omega
/-- The fields of a struct, from an offset on. -/
def RdgF {α : Type} (P : Program) (off : Nat) (fs : List Field) (d : Kd α) (Ok : α → Prop) (B : α → Nat) : Prop :=
  ∀ {H : Type} {enc : TypeId × Value → H} {w : World} {base : Nat} {spare : Nat → Bool} {held : Bool} {fuel : Nat} {cs : List Value} (xs : List (DataW H × List MemPlace)),
    cs.length = off + d.sz → xs.length = fs.length → (∀ (i : Nat) (f : Field), fs[i]? = some f → DataW.trod enc P w base spare held fuel f.type ((cs.drop f.offset).take (P.cellsOf f.type)) = xs[i]?) →
    ∃ x, d.K w x (cs.drop off) ∧ Ok x ∧ B x ≤ Rows.uptoBulkAll (xs.map (·.1))
theorem RdgF.one {α : Type} {P : Program} {off : Nat} {f : Field} {d : Kd α} {Ok : α → Prop} {B : α → Nat} (ho : f.offset = off) (hs : P.cellsOf f.type = d.sz) (hd : Rdg P f.type d Ok B) : RdgF P off [f] d Ok B := by
  intro H enc w base spare held fuel cs xs hl hx h
  match xs, hx with
  | [y], _ =>
    have h0 := h 0 f rfl
    rw [ho, hs] at h0
    have e : (cs.drop off).take d.sz = cs.drop off := List.take_of_length_le (by simp; omega)
    rw [e] at h0
    obtain ⟨x, k1, k2, k3⟩ := hd (dat := y.1) (ps := y.2) h0
    exact ⟨x, k1, k2, by simpa [Rows.uptoBulkAll] using k3⟩
theorem RdgF.cons {α β : Type} {P : Program} {off : Nat} {f : Field} {fs : List Field} {a : Kd α} {b : Kd β} {OkA : α → Prop} {OkB : β → Prop} {BA : α → Nat} {BB : β → Nat}
    (ho : f.offset = off) (hs : P.cellsOf f.type = a.sz) (ha : Rdg P f.type a OkA BA) (hb : RdgF P (off + a.sz) fs b OkB BB) : RdgF P off (f :: fs) (Kd.pair a b) (fun x => OkA x.1 ∧ OkB x.2) (fun x => BA x.1 + BB x.2) := by
  intro H enc w base spare held fuel cs xs hl hx h
  match xs, hx with
  | y :: ys, hx =>
    have hl' : cs.length = off + (a.sz + b.sz) := hl
    have h0 := h 0 f rfl
    rw [ho, hs] at h0
    obtain ⟨x, k1, k2, k3⟩ := ha (dat := y.1) (ps := y.2) h0
    obtain ⟨z, m1, m2, m3⟩ := hb (cs := cs) ys (by omega) (by simpa using hx) (fun i f' hf => by simpa using h (i + 1) f' (by simpa using hf))
    refine ⟨(x, z), ⟨(cs.drop off).take a.sz, cs.drop (off + a.sz), ?_, k1, m1⟩, ⟨k2, m2⟩, ?_⟩
    · rw [← List.drop_drop, List.take_append_drop]
    · simp only [List.map_cons, Rows.uptoBulkAll]; omega
theorem Rdg.struct {α : Type} {P : Program} {t : TypeId} {fs : Array Field} {d : Kd α} {Ok : α → Prop} {B : α → Nat} (ht : P.underlying t = some (.struct fs)) (hs : P.cellsOf t = d.sz) (hf : RdgF P 0 fs.toList d Ok B) : Rdg P t d Ok B := by
  intro H enc w base spare held fuel cs dat ps h
  obtain ⟨xs, n, rfl, e, hl, hlen, hx⟩ := DataW.trod_struct ht h
  obtain ⟨x, k1, k2, k3⟩ := hf (cs := cs) xs (by omega) (by simpa using hlen) (fun i f hf => hx i f (by simpa using hf))
  simp only [Prod.mk.injEq] at e
  obtain ⟨rfl, _⟩ := e
  refine ⟨x, by simpa using k1, k2, ?_⟩
  simp only [Rows.uptoBulk]
  omega
theorem Rdg.iso {α β : Type} {P : Program} {t : TypeId} {d : Kd α} {Ok : α → Prop} {B : α → Nat} {f : β → α} (g : α → β) (hg : ∀ x, f (g x) = x) (hd : Rdg P t d Ok B) : Rdg P t (Kd.iso d f) (fun y => Ok (f y)) (fun y => B (f y)) := by
  intro H enc w base spare held fuel cs dat ps h
  obtain ⟨x, k1, k2, k3⟩ := hd h
  refine ⟨g x, ?_, by show Ok (f (g x)); rw [hg]; exact k2, by show B (f (g x)) ≤ _; rw [hg]; exact k3⟩
  show d.K w (f (g x)) cs
  rw [hg]; exact k1
/-- A parameter that is a slice: its value's form, and what is read of it. -/
theorem open_rows {α : Type} {P : Program} {W : World} {r : Reach} {b : Nat} {t e : TypeId} {v : Value} {d : Kd α} {Ok : α → Prop} {B : α → Nat} {H : Type} {enc : TypeId × Value → H} {base : Nat} {spare : Nat → Bool} {held : Bool} {dat : DataW H} {ps : List MemPlace}
    (ht : P.underlying t = some (.slice e)) (hsz : P.cellsOf e = d.sz) (hd : Rdg P e d Ok B) (hv : Value.okWide P W r b t v) (h : DataW.Trod enc P W base spare held t v dat ps) :
    ∃ A c xs, v = .slice A xs.length c ∧ xs.length ≤ c ∧ d.C W A xs.length xs ∧ xs.length ≤ maxLen ∧ (∀ x ∈ xs, Ok x) ∧ (xs.map B).sum + 1 ≤ Rows.uptoBulk dat := by
  obtain ⟨A, len, cap, rfl⟩ := okWide_slice ht hv
  obtain ⟨fuel, hf⟩ := h
  obtain ⟨xs, ⟨A', c', he, hc, hC⟩, ⟨h1, h2⟩, h3⟩ := Rdg.slice ht hsz hd hf
  simp [Value.cells] at he
  obtain ⟨rfl, rfl, rfl⟩ := he
  exact ⟨A, cap, xs, rfl, hc, hC, h1, h2, h3⟩
end Go.Proofs.YtofjpagpjkdapaaQ
